/-
  PLAIN LAWS: how many nodes a part has; what is wrong with a node whose kids are fine.
-/
import Derived.Test.YtpaomhgaokonfaaAbT3
namespace Go.Ab
open Go Go.Proofs

theorem Loop_traj {S τ : Type} {step : S → Option (Lp S τ)} {s0 : S} (st : Nat → S) (n : Nat) (r : τ) (h0 : st 0 = s0) (hs : ∀ i, i < n → step (st i) = some (.next (st (i + 1)))) (he : step (st n) = some (.out r)) : Loop step s0 = some r := by
  subst h0
  have key : ∀ k i, n - i = k → i ≤ n → Loop step (st i) = some r := by
    intro k
    induction k with
    | zero => intro i hk hi; obtain rfl : i = n := by omega
              rw [Loop_eq, he]; rfl
    | succ k ih => intro i hk hi; rw [Loop_eq, hs i (by omega)]; exact ih (i + 1) (by omega) (by omega)
  exact key _ 0 rfl (by omega)

abbrev Ns := List XApi_Node
def nd (N : Ns) (k : Nat) : XApi_Node := N.getD k default
theorem nd_idx {N : Ns} {k : Nat} (h : k < N.length) : idx N (k : Int) = some (nd N k) := by
  rw [idx_lt h]; simp [nd, h]
def MF (N : Ns) : Nat → Nat → Nat
  | 0, _ => 0
  | f + 1, k => 1 + ((nd N k).Kids.map fun x => MF N f x.toNat).sum
def M (N : Ns) (k : Nat) : Nat := MF N (k + 1) k
def DF (N : Ns) : Nat → Nat → Nat
  | 0, _ => 0
  | f + 1, k => ((nd N k).Kids.map fun x => DF N f x.toNat).foldl max 0 + 1
def D (N : Ns) (k : Nat) : Nat := DF N (k + 1) k
/-- The kids of a node from the i-th down, told from where they end: where they begin. -/
def kidsC (N : Ns) (n : XApi_Node) : Nat → Nat → Option Nat
  | 0, a => some a
  | i + 1, a => if a = 0 ∨ n.Kids.getD i 0 ≠ (a : Int) - 1 ∨ goesS n.Kind i n.Kids.length (nd N (a - 1)).Kind = false then none else kidsC N n i (a - M N (a - 1))
/-- What is wrong with a node by itself. -/
def selfC (n : XApi_Node) : Int :=
  if namedB n.Kind && !nameOk n.Text then 12 else if !namedB n.Kind && !signS n.Kind n.Text then 1 else if !numS n || decide (n.At < 0) then 3 else 0
def nodeC (N : Ns) (k : Nat) : Int :=
  if !knownB (nd N k).Kind then 4
  else if !cntB (nd N k).Kind (nd N k).Kids.length then 9
  else match kidsC N (nd N k) (nd N k).Kids.length k with
    | none => 5
    | some _ => selfC (nd N k)
def GoodTo (N : Ns) (k : Nat) : Prop := ∀ j, j < k → nodeC N j = 0
theorem GoodTo.le {N : Ns} {j k : Nat} (h : GoodTo N k) (hj : j ≤ k) : GoodTo N j := fun i hi => h i (by omega)

theorem take_sum {g : Int → Nat} {l : List Int} {i : Nat} (h : i < l.length) : ((l.take (i + 1)).map g).sum = ((l.take i).map g).sum + g (l.getD i 0) := by
  rw [List.take_add_one, List.getElem?_eq_getElem h, List.map_append, List.sum_append]
  simp [h]
theorem len_le_sum {g : Int → Nat} : ∀ {l : List Int}, (∀ t, t < l.length → 1 ≤ g (l.getD t 0)) → l.length ≤ (l.map g).sum
  | [], _ => by simp
  | x :: l, h => by
    have h0 := h 0 (by simp)
    have := len_le_sum (l := l) fun t ht => by simpa using h (t + 1) (by simpa using ht)
    simp at h0 ⊢; omega
theorem take_sum_le {g : Int → Nat} {l : List Int} (i : Nat) : ((l.take i).map g).sum ≤ (l.map g).sum := by
  conv => rhs; rw [← List.take_append_drop i l]
  rw [List.map_append, List.sum_append]; omega
/-- Of kids that are well: where they stand. -/
theorem kidsC_facts {N : Ns} {n : XApi_Node} : ∀ {i a b : Nat}, kidsC N n i a = some b → (∀ j, j < a → 1 ≤ M N j ∧ M N j ≤ j + 1) → i ≤ n.Kids.length →
    b ≤ a ∧ (∀ t, t < i → ∃ c : Nat, n.Kids.getD t 0 = (c : Int) ∧ b ≤ c ∧ c < a) ∧ ((n.Kids.take i).map fun x => M N x.toNat).sum + b = a
  | 0, a, b, h, _, _ => by
    simp only [kidsC, Option.some.injEq] at h; subst h
    exact ⟨Nat.le_refl _, fun t ht => by omega, by simp⟩
  | i + 1, a, b, h, hM, hi => by
    unfold kidsC at h
    split at h
    · cases h
    · rename_i hc
      have ha : a ≠ 0 := fun e => hc (.inl e)
      have hk : n.Kids.getD i 0 = (a : Int) - 1 := by
        by_cases hk : n.Kids.getD i 0 = (a : Int) - 1
        · exact hk
        · exact absurd (.inr (.inl hk)) hc
      obtain ⟨h1, h2⟩ := hM (a - 1) (by omega)
      obtain ⟨e1, e2, e3⟩ := kidsC_facts h (fun j hj => hM j (by omega)) (by omega)
      refine ⟨by omega, fun t ht => ?_, ?_⟩
      · by_cases htt : t = i
        · subst htt
          exact ⟨a - 1, by rw [hk]; omega, by omega, by omega⟩
        · obtain ⟨c, q1, q2, q3⟩ := e2 t (by omega)
          exact ⟨c, q1, q2, by omega⟩
      · rw [take_sum (by omega), hk, show ((a : Int) - 1).toNat = a - 1 by omega]
        omega
theorem nodeC_kids {N : Ns} {k : Nat} (h : nodeC N k = 0) : ∃ b, kidsC N (nd N k) (nd N k).Kids.length k = some b ∧ selfC (nd N k) = 0 ∧ knownB (nd N k).Kind = true ∧ cntB (nd N k).Kind (nd N k).Kids.length = true := by
  unfold nodeC at h
  split at h
  · cases h
  · split at h
    · cases h
    · rename_i h1 h2
      split at h
      · cases h
      · rename_i b hb
        exact ⟨b, hb, h, by simpa using h1, by simpa using h2⟩
theorem getD_map_sum (l : List Int) (g g' : Int → Nat) (h : ∀ t, t < l.length → g (l.getD t 0) = g' (l.getD t 0)) : l.map g = l.map g' := by
  refine List.map_congr_left fun x hx => ?_
  obtain ⟨t, ht, rfl⟩ := List.mem_iff_getElem.1 hx
  have := h t ht
  simpa [ht] using this
/-- Of nodes that are fine: sizes and depths do not depend on fuel; where the part begins. -/
theorem good_facts {N : Ns} {k : Nat} (h : GoodTo N k) : ∀ j, j < k → (∀ f, j < f → MF N f j = M N j ∧ DF N f j = D N j) ∧ 1 ≤ M N j ∧ M N j ≤ j + 1 ∧ kidsC N (nd N j) (nd N j).Kids.length j = some (j + 1 - M N j) ∧
    M N j = 1 + ((nd N j).Kids.map fun x => M N x.toNat).sum ∧ D N j = ((nd N j).Kids.map fun x => D N x.toNat).foldl max 0 + 1 ∧
    ∀ t, t < (nd N j).Kids.length → ∃ c : Nat, (nd N j).Kids.getD t 0 = (c : Int) ∧ j + 1 - M N j ≤ c ∧ c < j := by
  intro j
  induction j using Nat.strongRecOn with
  | ind j ih =>
    intro hj
    obtain ⟨b, hb, _⟩ := nodeC_kids (h j hj)
    obtain ⟨e1, e2, e3⟩ := kidsC_facts hb (fun i hi => ⟨(ih i hi (by omega)).2.1, (ih i hi (by omega)).2.2.1⟩) (Nat.le_refl _)
    rw [List.take_length] at e3
    have hf : ∀ f, j < f → MF N f j = 1 + ((nd N j).Kids.map fun x => M N x.toNat).sum ∧ DF N f j = ((nd N j).Kids.map fun x => D N x.toNat).foldl max 0 + 1 := by
      intro f hf
      obtain ⟨f, rfl⟩ : ∃ g, f = g + 1 := ⟨f - 1, by omega⟩
      constructor
      · rw [MF, getD_map_sum _ _ (fun x => M N x.toNat)]
        intro t ht
        obtain ⟨c, q1, q2, q3⟩ := e2 t ht
        rw [q1, Int.toNat_natCast]
        exact ((ih c q3 (by omega)).1 f (by omega)).1
      · rw [DF, getD_map_sum _ _ (fun x => D N x.toNat)]
        intro t ht
        obtain ⟨c, q1, q2, q3⟩ := e2 t ht
        rw [q1, Int.toNat_natCast]
        exact ((ih c q3 (by omega)).1 f (by omega)).2
    have hM := (hf (j + 1) (by omega)).1
    have hD := (hf (j + 1) (by omega)).2
    have hMb : M N j + b = j + 1 := by unfold M; omega
    have e : j + 1 - M N j = b := by omega
    refine ⟨fun f h1 => ⟨(hf f h1).1.trans hM.symm, (hf f h1).2.trans hD.symm⟩, by omega, by omega, by rw [e]; exact hb, hM, hD, fun t ht => ?_⟩
    rw [e]; exact e2 t ht

theorem kids_len {N : Ns} {k : Nat} (h : GoodTo N k) {j : Nat} (hj : j < k) : (nd N j).Kids.length ≤ j := by
  obtain ⟨_, h1, h2, _, hM, _, hk⟩ := good_facts h j hj
  have := len_le_sum (g := fun x => M N x.toNat) (l := (nd N j).Kids) fun t ht => by
    obtain ⟨c, q1, q2, q3⟩ := hk t ht
    rw [q1, Int.toNat_natCast]
    exact (good_facts h c (by omega)).2.1
  omega
theorem many_eq {N : Ns} {k : Nat} (h : GoodTo N k) (hN : k ≤ N.length) (hb : N.length ≤ big) : ∀ j f, j < k → j < f → ref1_Many f ⟨N⟩ (j : Int) = some (M N j : Int) := by
  have hbg : N.length ≤ 9223372036854775807 := hb
  intro j
  induction j using Nat.strongRecOn with
  | ind j ih =>
    intro f hj hf
    obtain ⟨f, rfl⟩ : ∃ g, f = g + 1 := ⟨f - 1, by omega⟩
    obtain ⟨_, h1, h2, _, hM, _, hk⟩ := good_facts h j hj
    show ref1_Many_B (ref1_Many f) ⟨N⟩ (j : Int) = _
    unfold ref1_Many_B
    have hlen := kids_len h hj
    have hl := Loop_traj (step := fun s => ref1_Many_L1 (ref1_Many f) ⟨N⟩ (j : Int) s.1 s.2) (s0 := (1, 0)) (fun i => ((1 : Int) + ((((nd N j).Kids.take i).map fun x => M N x.toNat).sum : Nat), (i : Int))) (nd N j).Kids.length (M N j : Int) (by simp) (fun i hi => by
      obtain ⟨c, q1, q2, q3⟩ := hk i hi
      have hs := take_sum_le (g := fun x => M N x.toNat) (l := (nd N j).Kids) (i + 1)
      rw [take_sum hi, q1, Int.toNat_natCast] at hs
      have hg : (nd N j).Kids[i] = (c : Int) := by rw [← q1]; simp [hi]
      unfold ref1_Many_L1
      simp only [nd_idx (show j < N.length by omega), Option.bind_some, lt_dec hi, if_true, idx_lt hi, hg, ih c q3 f (by omega) (by omega)]
      rw [take_sum hi, q1, Int.toNat_natCast, w64_id (by omega) (by omega), w64_succ (by omega)]
      congr 3
      omega) (by
      unfold ref1_Many_L1
      simp only [nd_idx (show j < N.length by omega), Option.bind_some, lt_dec', List.take_length, Bool.false_eq_true, if_false]
      congr 2
      omega)
    rw [hl]; rfl
theorem foldl_take {g : Int → Nat} {l : List Int} {i : Nat} (h : i < l.length) : ((l.take (i + 1)).map g).foldl max 0 = max (((l.take i).map g).foldl max 0) (g (l.getD i 0)) := by
  rw [List.take_add_one, List.getElem?_eq_getElem h, List.map_append, List.foldl_append]
  simp [h]
theorem D_le {N : Ns} {k : Nat} (h : GoodTo N k) : ∀ j, j < k → 1 ≤ D N j ∧ D N j ≤ j + 1 := by
  intro j
  induction j using Nat.strongRecOn with
  | ind j ih =>
    intro hj
    obtain ⟨_, h1, h2, _, _, hD, hk⟩ := good_facts h j hj
    have : ∀ i, i ≤ (nd N j).Kids.length → (((nd N j).Kids.take i).map fun x => D N x.toNat).foldl max 0 ≤ j := by
      intro i
      induction i with
      | zero => intro _; simp
      | succ i ih2 =>
        intro hi
        obtain ⟨c, q1, q2, q3⟩ := hk i (by omega)
        rw [foldl_take (by omega), q1, Int.toNat_natCast]
        have := ih2 (by omega)
        have := (ih c q3 (by omega)).2
        omega
    have := this _ (Nat.le_refl _)
    rw [List.take_length] at this
    omega
theorem deep_eq {N : Ns} {k : Nat} (h : GoodTo N k) (hN : k ≤ N.length) (hb : N.length ≤ big) : ∀ j f, j < k → j < f → ref1_Deep f ⟨N⟩ (j : Int) = some (D N j : Int) := by
  have hbg : N.length ≤ 9223372036854775807 := hb
  intro j
  induction j using Nat.strongRecOn with
  | ind j ih =>
    intro f hj hf
    obtain ⟨f, rfl⟩ : ∃ g, f = g + 1 := ⟨f - 1, by omega⟩
    obtain ⟨_, h1, h2, _, _, hD, hk⟩ := good_facts h j hj
    show ref1_Deep_B (ref1_Deep f) ⟨N⟩ (j : Int) = _
    unfold ref1_Deep_B
    have hlen := kids_len h hj
    have hl := Loop_traj (step := fun s => ref1_Deep_L1 (ref1_Deep f) ⟨N⟩ (j : Int) s.1 s.2) (s0 := (0, 0)) (fun i => (((((nd N j).Kids.take i).map fun x => D N x.toNat).foldl max 0 : Nat), (i : Int))) (nd N j).Kids.length (((nd N j).Kids.map fun x => D N x.toNat).foldl max 0 : Nat) (by simp) (fun i hi => by
      obtain ⟨c, q1, q2, q3⟩ := hk i hi
      have hg : (nd N j).Kids[i] = (c : Int) := by rw [← q1]; simp [hi]
      unfold ref1_Deep_L1 ref1_Deep_J1
      simp only [nd_idx (show j < N.length by omega), Option.bind_some, lt_dec hi, if_true, idx_lt hi, hg, ih c q3 f (by omega) (by omega)]
      rw [foldl_take hi, q1, Int.toNat_natCast, w64_succ (by omega)]
      generalize (((nd N j).Kids.take i).map fun x => D N x.toNat).foldl max 0 = a
      generalize D N c = b
      by_cases hab : a < b
      · rw [if_pos (by simpa using hab), show max a b = b by omega]
      · rw [if_neg (by simpa using hab), show max a b = a by omega]) (by
      unfold ref1_Deep_L1
      simp only [nd_idx (show j < N.length by omega), Option.bind_some, lt_dec', List.take_length, Bool.false_eq_true, if_false])
    rw [hl, Option.bind_some, hD]
    have := (D_le h j hj).2
    rw [w64_succ (by omega)]

/-! ### What is wrong with a node -/
theorem selfC_known (n : XApi_Node) (hl : n.Text.size ≤ maxLen) : ((if namedB n.Kind = true then some (!nameOk n.Text) else some false : Option Bool)) = some (namedB n.Kind && !nameOk n.Text) := by
  cases namedB n.Kind <;> rfl
def brC : Option Nat → Br Unit Int
  | none => .ret 5
  | some _ => .brk ()
theorem wrong_loop {N : Ns} {k f : Nat} (h : GoodTo N k) (hk : k < N.length) (hf : k ≤ f) (hb : N.length ≤ big) (n : XApi_Node) (hl : n.Kids.length ≤ big) :
    ∀ i a, i ≤ n.Kids.length → a ≤ k → Loop (fun s => ref1_wrong_L1 f ⟨N⟩ n s.1 s.2) ((a : Int), (i : Int) - 1) = some (brC (kidsC N n i a)) := by
  have hbg : N.length ≤ 9223372036854775807 := hb
  have hlg : n.Kids.length ≤ 9223372036854775807 := hl
  refine Loop_down (pack := fun (a : Nat) (i : Int) => ((a : Int), i)) (fun i a => brC (kidsC N n i a)) n.Kids.length (fun _ a => a ≤ k) (fun i a hi ha => ?_) (fun a ha => ?_)
  · unfold ref1_wrong_L1
    rw [if_pos (by simp)]
    simp only [kidsC]
    by_cases ha0 : a = 0
    · subst ha0
      exact .inl (by simp [brC])
    · have hx : ((a : Int) == 0) = false := by simpa using ha0
      have hw : w64 ((a : Int) - 1) = ((a - 1 : Nat) : Int) := by rw [w64_id (by omega) (by omega)]; omega
      have hw2 : w64 ((i : Int) - 1) = (i : Int) - 1 := w64_id (by omega) (by omega)
      have hgd : n.Kids.getD i 0 = n.Kids[i] := by simp [hi]
      simp only [hx, Bool.false_eq_true, if_false, idx_lt hi, Option.bind_some, hw, nd_idx (show a - 1 < N.length by omega), rgoes, hgd]
      by_cases hq : n.Kids[i] = (a : Int) - 1
      · have hq' : (n.Kids[i] != ((a - 1 : Nat) : Int)) = false := by simp; omega
        rw [hq', hq]
        simp only [Bool.false_eq_true, if_false, Option.bind_some, ha0, false_or, ne_eq, not_true_eq_false]
        cases hg : goesS n.Kind i n.Kids.length (nd N (a - 1)).Kind
        · exact .inl (by simp [brC])
        · obtain ⟨_, h1, h2, _⟩ := good_facts h (a - 1) (by omega)
          refine .inr ⟨a - M N (a - 1), ?_, by simp, by omega⟩
          simp only [Bool.not_true, Bool.false_eq_true, if_false, many_eq h (by omega) hb (a - 1) f (by omega) (by omega), Option.bind_some, hw2]
          rw [w64_id (by omega) (by omega)]
          congr 3
          omega
      · have hq' : (n.Kids[i] != ((a - 1 : Nat) : Int)) = true := by simp; omega
        rw [hq']
        exact .inl (by simp [brC, hq, ha0])
  · unfold ref1_wrong_L1
    rw [if_neg (by simp)]; rfl
end Go.Ab
