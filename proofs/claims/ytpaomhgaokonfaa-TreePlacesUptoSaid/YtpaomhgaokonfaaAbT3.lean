/-
  PLAIN LAWS: signs.
-/
import Derived.Test.YtpaomhgaokonfaaAbT2
namespace Go.Ab
open Go Go.Proofs

def amongB (l : List ByteArray) (s : ByteArray) : Bool := l.any fun x => x.toList == s.toList
theorem findI_any {α ρ : Type} (p : α → Bool) (r : ρ) : ∀ (l : List α) (i : Nat), findI (fun _ x => if p x then some r else none) i l = if l.any p then some r else none
  | [], _ => rfl
  | x :: l, i => by
    simp only [findI, List.any_cons]
    by_cases hp : p x = true
    · simp [hp]
    · simpa [hp] using findI_any p r l (i + 1)
theorem ramong (l : List ByteArray) (s : ByteArray) (hl : l.length ≤ maxLen) : ref1_among l s = some (amongB l s) := by
  have hm := maxLen_big
  have : Loop (fun i => ref1_among_L1 l s i) 0 = some (brOf (if amongB l s then some true else none)) := by
    unfold amongB
    rw [← findI_any _ true l 0]
    refine Loop_find (l := l) (fun _ x => if x.toList == s.toList then some true else none) (fun i h => ?_) ?_
    · unfold ref1_among_L1
      simp only [lt_dec h, if_true, idx_lt h, Option.bind_some, w64_succ (i := i) (by omega)]
      cases l[i].toList == s.toList <;> rfl
    · unfold ref1_among_L1
      simp only [lt_dec']; rfl
  unfold ref1_among
  rw [this]
  cases amongB l s <;> rfl
theorem sindex (l : List ByteArray) (s : ByteArray) (hl : l.length ≤ maxLen) : ∃ n : Int, slices_Index_string_string l s = some n ∧ decide (0 ≤ n) = amongB l s := by
  have hm := maxLen_big
  have h : Loop (fun i => slices_Index_string_string_L1 l s i) 0 = some (brOf (findI (fun i (x : ByteArray) => if s.toList == x.toList then some (i : Int) else none) 0 l)) := by
    refine Loop_find (l := l) (fun i x => if s.toList == x.toList then some (i : Int) else none) (fun i h => ?_) ?_
    · unfold slices_Index_string_string_L1
      simp only [lt_dec h, if_true, idx_lt h, Option.bind_some, w64_succ (i := i) (by omega)]
      cases s.toList == l[i].toList <;> rfl
    · unfold slices_Index_string_string_L1
      simp only [lt_dec']; rfl
  have h2 : ∀ (l : List ByteArray) (i : Nat), match findI (fun i (x : ByteArray) => if s.toList == x.toList then some (i : Int) else none) i l with | some n => 0 ≤ n ∧ amongB l s = true | none => amongB l s = false := by
    intro l
    induction l with
    | nil => intro i; rfl
    | cons x l ih =>
      intro i
      simp only [findI]
      by_cases hx : (s.toList == x.toList) = true
      · have : s.toList = x.toList := by simpa using hx
        simp [this, amongB]
      · have hx' : (s.toList == x.toList) = false := by simpa using hx
        have hx2 : (x.toList == s.toList) = false := by rw [BEq.comm]; exact hx'
        simp only [hx', Bool.false_eq_true, if_false]
        have := ih (i + 1)
        simp only [amongB, List.any_cons, hx2, Bool.false_or]
        exact this
  unfold slices_Index_string_string
  rw [h]
  have := h2 l 0
  generalize findI (fun i (x : ByteArray) => if s.toList == x.toList then some (i : Int) else none) 0 l = o at this
  cases o with
  | some n => exact ⟨n, rfl, by rw [this.2]; simpa using this.1⟩
  | none => exact ⟨-1, rfl, by simp only at this; rw [this]; rfl⟩
theorem scontains (l : List ByteArray) (s : ByteArray) (hl : l.length ≤ maxLen) : slices_Contains_string_string l s = some (amongB l s) := by
  obtain ⟨n, h1, h2⟩ := sindex l s hl
  unfold slices_Contains_string_string
  rw [h1, Option.bind_some, h2]

abbrev twosL : List ByteArray := [(ByteArray.mk #[43]), (ByteArray.mk #[45]), (ByteArray.mk #[42]), (ByteArray.mk #[47]), (ByteArray.mk #[37]), (ByteArray.mk #[38]), (ByteArray.mk #[124]), (ByteArray.mk #[94]), (ByteArray.mk #[60, 60]), (ByteArray.mk #[62, 62])]
abbrev cmpsL : List ByteArray := [(ByteArray.mk #[61, 61]), (ByteArray.mk #[33, 61]), (ByteArray.mk #[60]), (ByteArray.mk #[60, 61]), (ByteArray.mk #[62]), (ByteArray.mk #[62, 61])]
abbrev onesL : List ByteArray := [(ByteArray.mk #[45]), (ByteArray.mk #[33]), (ByteArray.mk #[126]), (ByteArray.mk #[42]), (ByteArray.mk #[38])]
theorem twoOf_eq (s : ByteArray) : ∃ t, ast_TwoOf s = some (t, amongB twosL s || amongB cmpsL s) ∧ ((amongB twosL s || amongB cmpsL s) && decide (t.Op ≤ 11)) = amongB twosL s := by
  have hc : ∀ x : ByteArray, (x.toList == s.toList) = (s.toList == x.toList) := fun x => BEq.comm
  unfold ast_TwoOf amongB
  simp only [List.any_cons, List.any_nil, Bool.or_false, hc]
  generalize (s.toList == (ByteArray.mk #[43]).toList) = b1
  generalize (s.toList == (ByteArray.mk #[45]).toList) = b2
  generalize (s.toList == (ByteArray.mk #[42]).toList) = b3
  generalize (s.toList == (ByteArray.mk #[47]).toList) = b4
  generalize (s.toList == (ByteArray.mk #[37]).toList) = b5
  generalize (s.toList == (ByteArray.mk #[38]).toList) = b6
  generalize (s.toList == (ByteArray.mk #[124]).toList) = b7
  generalize (s.toList == (ByteArray.mk #[94]).toList) = b8
  generalize (s.toList == (ByteArray.mk #[60, 60]).toList) = b9
  generalize (s.toList == (ByteArray.mk #[62, 62]).toList) = b10
  generalize (s.toList == (ByteArray.mk #[61, 61]).toList) = b11
  generalize (s.toList == (ByteArray.mk #[33, 61]).toList) = b12
  generalize (s.toList == (ByteArray.mk #[60]).toList) = b13
  generalize (s.toList == (ByteArray.mk #[60, 61]).toList) = b14
  generalize (s.toList == (ByteArray.mk #[62]).toList) = b15
  generalize (s.toList == (ByteArray.mk #[62, 61]).toList) = b16
  cases b1; cases b2; cases b3; cases b4; cases b5; cases b6; cases b7; cases b8; cases b9; cases b10; cases b11; cases b12; cases b13; cases b14; cases b15; cases b16
  all_goals exact ⟨_, rfl, rfl⟩
theorem sslc_to {s : ByteArray} {n : Nat} (h : n ≤ s.size) : sslc s none (some (n : Int)) = some (s.extract 0 n) := by
  unfold sslc bounds
  simp [h]
theorem nil_among {s : ByteArray} (h : s.toList = []) : amongB twosL s = false ∧ amongB cmpsL s = false := by
  unfold amongB
  rw [h]
  exact ⟨by decide +kernel, by decide +kernel⟩
theorem extract0 (s : ByteArray) : (s.extract 0 0).toList = [] := by
  have : s.extract 0 0 = ByteArray.empty := by
    apply ByteArray.ext; simp
  rw [this]; decide +kernel

def signS (k : Int) (s : ByteArray) : Bool :=
  if k == 35 then amongB onesL s
  else if k == 36 then amongB twosL s || amongB cmpsL s
  else if k == 37 then (s.toList == (ByteArray.mk #[38, 38]).toList || s.toList == (ByteArray.mk #[124, 124]).toList)
  else if k == 39 then (s.toList == (ByteArray.mk #[61]).toList || (decide (1 < s.size) && (match s[s.size - 1]? with | some c => c.toNat == 61 | none => false) && amongB twosL (s.extract 0 (s.size - 1))))
  else if k == 40 then (s.toList == (ByteArray.mk #[43, 43]).toList || s.toList == (ByteArray.mk #[45, 45]).toList)
  else s.toList == (ByteArray.mk #[]).toList
theorem sidx_last {s : ByteArray} (h : 0 < s.size) (hl : s.size ≤ maxLen) : ∃ c, sidx s (w64 ((s.size : Int) - 1)) = some c ∧ s[s.size - 1]? = some c := by
  have hm := maxLen_big
  rw [w64_id (by omega) (by omega)]
  unfold sidx
  rw [if_pos (by omega), show ((s.size : Int) - 1).toNat = s.size - 1 by omega]
  rw [getElem?_pos s (s.size - 1) (by omega)]
  exact ⟨_, rfl, rfl⟩
theorem rtexts (k : Int) (s : ByteArray) (hl : s.size ≤ maxLen) : ref1_texts k s = some (signS k s) := by
  have hm := maxLen_big
  unfold ref1_texts signS
  rw [ramong onesL s (by decide), ramong twosL s (by decide), ramong cmpsL s (by decide)]
  simp only [Option.bind_some, bifs, ifT]
  split
  · rfl
  · split
    · rfl
    · split
      · rfl
      · split
        · by_cases h1 : (s.toList == (ByteArray.mk #[61]).toList) = true
          · simp only [h1, if_true, Bool.true_or, Option.bind_some]
          · have h1' : (s.toList == (ByteArray.mk #[61]).toList) = false := by simpa using h1
            simp only [h1', Bool.false_eq_true, if_false, Bool.false_or]
            by_cases h2 : 1 < s.size
            · obtain ⟨c, hc, hc2⟩ := sidx_last (s := s) (by omega) hl
              rw [if_pos (by simp only [decide_eq_true_eq]; omega), hc, hc2, Option.bind_some]
              by_cases h3 : c.toNat = 61
              · have h3' : ((c.toNat : Int) == 61) = true := by simpa using (by omega : (c.toNat : Int) = 61)
                have e : w64 ((s.size : Int) - 1) = ((s.size - 1 : Nat) : Int) := by rw [w64_id (by omega) (by omega)]; omega
                rw [if_pos h3', e, sslc_to (by omega), Option.bind_some, ramong twosL _ (by decide)]
                simp [h2, h3]
              · have h3' : ((c.toNat : Int) == 61) = false := by simpa using (by omega : ¬ (c.toNat : Int) = 61)
                simp [h3', h3]
            · have : ¬ (1 < (s.size : Int)) := by omega
              simp [h2, this]
        · split <;> rfl
theorem tsign (k : Int) (s : ByteArray) (hl : s.size ≤ maxLen) : tree_sign k s = some (signS k s) := by
  have hm := maxLen_big
  obtain ⟨t, ht, _⟩ := twoOf_eq s
  unfold tree_sign signS
  rw [ht, scontains onesL s (by decide)]
  simp only [Option.bind_some, ifT]
  split
  · rfl
  · split
    · rfl
    · split
      · rfl
      · split
        · by_cases h1 : (s.toList == (ByteArray.mk #[61]).toList) = true
          · simp only [h1, if_true, Bool.true_or, Option.bind_some]
          · have h1' : (s.toList == (ByteArray.mk #[61]).toList) = false := by simpa using h1
            simp only [h1', Bool.false_eq_true, if_false, Bool.false_or]
            have e : max 0 (w64 ((s.size : Int) - 1)) = ((s.size - 1 : Nat) : Int) := by rw [w64_id (by omega) (by omega)]; omega
            rw [e, sslc_to (by omega), Option.bind_some]
            obtain ⟨t2, ht2, ho2⟩ := twoOf_eq (s.extract 0 (s.size - 1))
            rw [ht2, Option.bind_some]
            by_cases h2 : 1 < s.size
            · obtain ⟨c, hc, hc2⟩ := sidx_last (s := s) (by omega) hl
              rw [hc, hc2, Option.bind_some]
              simp only
              have hT : ((c.toNat : Int) == 61) = (c.toNat == 61) := by rw [Bool.eq_iff_iff]; simp; omega
              rw [hT, decide_eq_true h2]
              generalize (c.toNat == 61) = T
              generalize amongB twosL (s.extract 0 (s.size - 1)) = A at *
              generalize amongB cmpsL (s.extract 0 (s.size - 1)) = B at *
              generalize decide (t2.Op ≤ 11) = D at *
              revert ho2
              cases A <;> cases B <;> cases D <;> cases T <;> decide
            · have h0 : s.size - 1 = 0 := by omega
              obtain ⟨n1, n2⟩ := nil_among (extract0 s)
              rw [h0]
              simp only [h2, n1, n2, decide_false, Bool.false_and, Bool.or_self, Bool.false_eq_true, if_false, Option.bind_some]
        · split <;> rfl
end Go.Ab
