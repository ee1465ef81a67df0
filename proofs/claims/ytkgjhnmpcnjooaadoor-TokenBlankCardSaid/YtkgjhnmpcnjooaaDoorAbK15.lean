/-
  PLAIN LAWS (words): words stand one behind the other; TokenWhole.
-/
import Derived.Test.YtkgjhnmpcnjooaaDoorAbK14
import Derived.Test.YtkgjhnmpcnjooaaDoorAbGen5
namespace Go.Ab.Tk
open Go

/-- Words of a text from a place on: each stands where it is told. -/
def Chain (L : L8) : Nat → List Tok → Prop
  | _, [] => True
  | e, t :: ts => ∃ (p j : Nat), t.At = (p : Int) ∧ e ≤ p ∧ L.drop p ≠ [] ∧ nextP (L.drop p) = .inl (t.Kind, j, t.N) ∧ t.Text = mkS ((L.drop p).take j) ∧ Chain L (p + j) ts
theorem Chain.mono {L : L8} {e e' : Nat} (h : e ≤ e') : ∀ {ts : List Tok}, Chain L e' ts → Chain L e ts
  | [], _ => trivial
  | _ :: _, ⟨p, j, h1, h2, h3⟩ => ⟨p, j, h1, Nat.le_trans h h2, h3⟩
theorem scanF_chain {L : L8} : ∀ n p out, (L.drop p).length < n → (scanF n p out (L.drop p)).2.Code = 0 → ∃ ts, (scanF n p out (L.drop p)).1 = out ++ ts ∧ Chain L p ts := by
  intro n
  induction n with
  | zero => intro p out h; omega
  | succ n ih =>
    intro p out hn
    unfold scanF
    split
    · intro h; exact absurd h (by simp)
    · split
      · intro _; exact ⟨[], by simp, trivial⟩
      · rename_i hne
        split
        · intro h; exact absurd h (by simp)
        · split
          · rename_i e hN
            intro h
            have := nextP_err hN
            simp only at h
            omega
          · rename_i kd j m hN
            rw [drop_add] at hne hN ⊢
            rw [drop_add]
            have hnn : L.drop (p + (skipP (L.drop p)).1) ≠ [] := fun h => hne (by rw [h]; rfl)
            have hj := nextP_len hnn hN
            intro h
            obtain ⟨ts, h1, h2⟩ := ih (p + (skipP (L.drop p)).1 + j) _ (by
              rw [List.length_drop] at hj hn ⊢; omega) h
            exact ⟨⟨kd, mkS ((L.drop (p + (skipP (L.drop p)).1)).take j), m, ((p + (skipP (L.drop p)).1 : Nat) : Int)⟩ :: ts, by rw [h1]; simp, p + (skipP (L.drop p)).1, j, rfl, by omega, hnn, hN, rfl, h2⟩
/-- One word by itself. -/
theorem scan_one {w : L8} {kd m : Int} (hw : w ≠ []) (hN : nextP w = .inl (kd, w.length, m)) (hl : w.length ≤ 2000) : (scanP w).2.Code = 0 ∧ (scanP w).1.length = 1 := by
  have hr : rightP ⟨kd, mkS w, m, 0⟩ = 0 := right_mk hN rfl (by cases w with
    | nil => exact absurd rfl hw
    | cons _ _ => simp) (kind_rng hN) (by omega)
  obtain ⟨out', h1, h2⟩ := scan_join [⟨kd, mkS w, m, 0⟩] (w.length + 1) 0 [] false (fun t ht => by simp at ht; rw [ht]; exact hr) (fun h => by cases h) (by simp) (by simp [preB, joinT_cons])
  have e : preB false ++ joinT (([⟨kd, mkS w, m, 0⟩] : List Tok).map (·.Text)) = w := by simp [preB, joinT_cons]
  rw [e, List.nil_append] at h1
  unfold scanP
  have : ¬ (2000 < w.length) := by omega
  simp only [this, decide_false, Bool.false_eq_true, if_false]
  rw [h1]
  refine ⟨rfl, ?_⟩
  have := congrArg List.length h2
  simpa using this
theorem kind_let {a : UInt8} {t : L8} {kd m : Int} {j : Nat} (h : nextP (a :: t) = .inl (kd, j, m)) (hk : kd = 1 ∨ kd = 3) : isLet a = true ∧ j = ((a :: t).takeWhile isBoth).length := by
  rw [nextP_cons] at h
  split at h
  · rename_i hl
    refine ⟨hl, ?_⟩
    split at h
    · simp only [Sum.inl.injEq, Prod.mk.injEq] at h; exact h.2.1.symm
    · split at h
      · simp only [Sum.inl.injEq, Prod.mk.injEq] at h; exact h.2.1.symm
      · cases h
  · split at h
    · split at h
      · simp only [Sum.inl.injEq, Prod.mk.injEq] at h; omega
      · split at h <;> cases h
    · split at h
      · split at h
        · simp only [Sum.inl.injEq, Prod.mk.injEq] at h; omega
        · cases h
      · split at h
        · simp only [Sum.inl.injEq, Prod.mk.injEq] at h; omega
        · cases h
theorem tw_max : ∀ (r : L8) {c : UInt8}, r[(r.takeWhile isBoth).length]? = some c → isBoth c = false
  | [], _, h => by simp at h
  | x :: r, c, h => by
    rw [List.takeWhile_cons] at h
    cases hx : isBoth x with
    | true =>
      rw [hx, if_pos rfl, List.length_cons, List.getElem?_cons_succ] at h
      exact tw_max r h
    | false =>
      rw [hx, if_neg (by simp), List.length_nil, List.getElem?_cons_zero] at h
      rw [← Option.some.inj h]; exact hx
theorem let_47 : ∀ x, (!isLet x || (!(ch x == 47) && !isBl x)) = true := all256 (by decide +kernel)
/-- A name with one byte more has no longer name at its begin. -/
theorem scan_more {a : UInt8} {w : L8} {c : UInt8} {kd m : Int} (ha : isLet a = true) (hw : (a :: w).takeWhile isBoth = a :: w) (hc : isBoth c = false) (hN : nextP (a :: w) = .inl (kd, (a :: w).length, m)) (hl : (a :: w).length + 1 ≤ 2000) {x : Tok}
    (h0 : (scanP (a :: w ++ [c])).2.Code = 0) (h1 : (scanP (a :: w ++ [c])).1 = [x]) : x.Text = mkS (a :: w) := by
  have hx := let_47 a
  rw [ha] at hx
  simp only [Bool.not_true, Bool.false_or, Bool.and_eq_true, Bool.not_eq_true'] at hx
  have htw : (a :: w ++ [c]).takeWhile isBoth = a :: w := by rw [tw_stop hc]; exact hw
  have hNc : nextP (a :: w ++ [c]) = .inl (kd, (a :: w).length, m) := by
    rw [List.cons_append] at htw ⊢
    rw [nextP_cons] at hN ⊢
    rw [htw]
    rw [hw] at hN
    rw [if_pos ha] at hN ⊢
    exact hN
  have hsk : skipP (a :: w ++ [c]) = (0, true) := by
    refine skip_stay ?_ ?_ ?_
    · rw [List.cons_append, spanL_cons, hx.2]; rfl
    · rw [List.drop_zero, List.cons_append, pre2_cons, hx.1]; rfl
    · rw [List.drop_zero, List.cons_append, pre2_cons, hx.1]; rfl
  have hlen : (a :: w ++ [c]).length = (a :: w).length + 1 := by simp
  unfold scanP at h0 h1
  have h2 : ¬ (2000 < (a :: w ++ [c]).length) := by omega
  simp only [h2, decide_false, Bool.false_eq_true, if_false] at h0 h1
  unfold scanF at h0 h1
  rw [hsk] at h0 h1
  simp only [Bool.not_true, Bool.false_eq_true, if_false, List.drop_zero] at h0 h1
  have h3 : ¬ ((a :: w ++ [c]).length = 0) := by omega
  have h4 : ¬ (([] : List Tok).length = 800) := by simp
  rw [if_neg h3, if_neg h4, hNc] at h0 h1
  simp only at h0 h1
  obtain ⟨ts, h5, _⟩ := scanF_chain (L := a :: w ++ [c]) (a :: w ++ [c]).length (0 + 0 + (a :: w).length) ([] ++ [⟨kd, mkS ((a :: w ++ [c]).take (a :: w).length), m, ((0 + 0 : Nat) : Int)⟩]) (by
    rw [List.length_drop]; simp at hlen ⊢) (by
    have e : (a :: w ++ [c]).drop (0 + 0 + (a :: w).length) = (a :: w ++ [c]).drop (a :: w).length := by simp
    rw [e]; exact h0)
  have e : (a :: w ++ [c]).drop (0 + 0 + (a :: w).length) = (a :: w ++ [c]).drop (a :: w).length := by simp
  rw [e] at h5
  rw [h5] at h1
  simp only [List.nil_append, List.cons_append, List.cons.injEq] at h1
  rw [← h1.1]
  show mkS ((a :: (w ++ [c])).take (a :: w).length) = _
  have : (a :: (w ++ [c])).take (a :: w).length = a :: w := by simp
  rw [this]
theorem sslc_mid {l : L8} {p q : Nat} (h1 : p ≤ q) (h2 : q ≤ l.length) : sslc (mkS l) (some (p : Int)) (some (q : Int)) = some (mkS ((l.drop p).take (q - p))) := by
  unfold sslc bounds
  simp [extract_mkS]
  refine ⟨⟨by omega, by omega⟩, ?_⟩
  rw [List.drop_take]
theorem whole_step {L : L8} (hL : L.length ≤ 2000) {T : List Tok} {z : Flt} {e i : Nat} (hi : i < T.length) (hT : T.length ≤ 800) (hc : Chain L e (T.drop i)) : ∃ e' : Nat, law1_TokenWhole_L1 (mkS L) (T, z) (e : Int) (i : Int) = some (.next ((e' : Int), ((i + 1 : Nat) : Int))) ∧ Chain L e' (T.drop (i + 1)) := by
  rw [List.drop_eq_getElem_cons hi] at hc
  obtain ⟨p, j, hat, hep, hne, hN, htx, hch⟩ := hc
  generalize hx : T[i] = t at *
  have hj := nextP_len hne hN
  rw [List.length_drop] at hj
  refine ⟨p + j, ?_, hch⟩
  have hw : ((L.drop p).take j).length = j := by rw [List.length_take, List.length_drop]; omega
  have hsz : t.Text.size = j := by rw [htx, size_mkS, hw]
  cases hd : L.drop p with
  | nil => exact absurd hd hne
  | cons a r =>
    rw [hd] at hN htx hw
    have hN' := nextP_take hN
    have e1 : w64 (((mkS L).size : Int) - (j : Int)) = ((L.length - j : Nat) : Int) := by rw [size_mkS, w64_id (by omega) (by omega)]; omega
    have e2 : w64 ((p : Int) + (j : Int)) = ((p + j : Nat) : Int) := by rw [w64_id (by omega) (by omega)]; omega
    have e3 : sslc (mkS L) (some (p : Int)) (some ((p + j : Nat) : Int)) = some (mkS ((a :: r).take j)) := by
      rw [sslc_mid (by omega) (by omega), hd]
      congr 3; omega
    have e4 : ((j : Int) == 0) = false := by rw [beq_eq_false_iff_ne]; omega
    have e5 : (!((if decide ((e : Int) ≤ (p : Int)) = true then decide ((p : Int) ≤ ((L.length - j : Nat) : Int)) else false))) = false := by
      rw [ite_and, Bool.not_eq_false', Bool.and_eq_true]
      exact ⟨by simp only [decide_eq_true_eq]; omega, by simp only [decide_eq_true_eq]; omega⟩
    have e6 : ((mkS ((a :: r).take j)).toList != t.Text.toList) = false := by rw [htx]; simp
    have hwne : (a :: r).take j ≠ [] := fun h => by rw [h] at hw; simp at hw; omega
    have hone := scan_one hwne (by rw [hw]; exact hN') (by omega)
    have hsc : token_Scan t.Text = some (scanP ((a :: r).take j)) := by rw [htx]; exact tok_scan (by unfold Sm; omega)
    have e7 : ((scanP ((a :: r).take j)).2.Code != 0) = false := by rw [hone.1]; rfl
    have e8 : (((scanP ((a :: r).take j)).1.length : Int) != 1) = false := by rw [hone.2]; rfl
    have ew : w64 ((i : Int) + 1) = ((i + 1 : Nat) : Int) := w64_succ (by omega)
    unfold law1_TokenWhole_L1
    have hidx : idx T (i : Int) = some t := by rw [idx_lt hi, hx]
    simp only
    rw [if_pos (by simp only [decide_eq_true_eq]; omega), hidx, Option.bind_some]
    unfold law1_in
    simp only [hat, hsz, e1, e2, e3, e5, e4, Option.bind_some, Bool.false_eq_true, if_false, e6, hsc, e7, e8]
    cases hk : (if decide (((p + j : Nat) : Int) < ((mkS L).size : Int)) = true then (if (t.Kind == 1) = true then true else (t.Kind == 3)) else false) with
    | false =>
      simp only [Bool.false_eq_true, if_false, law1_TokenWhole_J1, ew]
    | true =>
      rw [ite_and, ite_or, Bool.and_eq_true, Bool.or_eq_true, decide_eq_true_eq, size_mkS, beq_iff_eq, beq_iff_eq] at hk
      obtain ⟨hlt, hkd⟩ := hk
      obtain ⟨hla, hjw⟩ := kind_let hN hkd
      have e9 : w64 (((p + j : Nat) : Int) + 1) = ((p + j + 1 : Nat) : Int) := w64_succ (by omega)
      have hget : (a :: r)[j]? = L[p + j]? := by rw [← hd, List.getElem?_drop]
      have hltN : p + j < L.length := by omega
      have hcs : (a :: r)[j]? = some L[p + j] := by rw [hget, List.getElem?_eq_getElem hltN]
      have hcb : isBoth L[p + j] = false := tw_max (a :: r) (by rw [← hjw]; exact hcs)
      have hmore : (a :: r).take (j + 1) = (a :: r).take j ++ [L[p + j]] := by
        rw [List.take_add_one, hcs]; rfl
      have e10 : sslc (mkS L) (some (p : Int)) (some ((p + j + 1 : Nat) : Int)) = some (mkS ((a :: r).take j ++ [L[p + j]])) := by
        rw [sslc_mid (by omega) (by omega), hd, ← hmore]
        congr 3; omega
      obtain ⟨k, rfl⟩ : ∃ k, j = k + 1 := ⟨j - 1, by omega⟩
      have htk : (a :: r).take (k + 1) = a :: r.take k := rfl
      have hwt : (a :: r.take k).takeWhile isBoth = a :: r.take k := by
        have := take_spanL isBoth (a :: r)
        unfold spanL at this
        rw [← hjw, htk] at this
        rw [this, tw_idem]
      rw [htk] at e10 hN' hw
      simp only [if_true, e9, e10, Option.bind_some]
      have hsc2 : token_Scan (mkS (a :: r.take k ++ [L[p + (k + 1)]])) = some (scanP (a :: r.take k ++ [L[p + (k + 1)]])) := tok_scan (by unfold Sm; simp at hw ⊢; omega)
      rw [hsc2, Option.bind_some]
      have hp2 : ∀ (z : List Tok × Flt), z = scanP (a :: r.take k ++ [L[p + (k + 1)]]) → (if (if (z.2.Code == 0) = true then ((z.1.length : Int) == 1) else false) = true then ((idx z.1 0).bind fun x9 => some (((p + (k + 1) : Nat) : Int), (decide (((k + 1 : Nat) : Int) < (x9.Text.size : Int))))) else (some (((p + (k + 1) : Nat) : Int), false))) = some (((p + (k + 1) : Nat) : Int), false) := by
        intro z hz
        rw [ite_and]
        split
        · rename_i hcond
          rw [Bool.and_eq_true, beq_iff_eq, beq_iff_eq] at hcond
          obtain ⟨hc0, hc1⟩ := hcond
          obtain ⟨x, hxs⟩ : ∃ x, z.1 = [x] := by
            cases h : z.1 with
            | nil => rw [h] at hc1; simp at hc1
            | cons x xs =>
              rw [h] at hc1
              cases xs with
              | nil => exact ⟨x, rfl⟩
              | cons _ _ => simp at hc1; omega
          rw [hz] at hc0 hxs
          have hxt := scan_more hla hwt hcb (by rw [hw]; exact hN') (by simp at hw ⊢; omega) hc0 hxs
          rw [hz, hxs, idx_0, Option.bind_some, hxt, size_mkS, hw]
          simp
        · rfl
      rw [hp2 _ rfl, Option.bind_some]
      simp only [Bool.false_eq_true, if_false, law1_TokenWhole_J1, ew]
theorem whole_loop {L : L8} (hL : L.length ≤ 2000) {T : List Tok} {z : Flt} (hT : T.length ≤ 800) : ∀ n i e, T.length - i = n → i ≤ T.length → Chain L e (T.drop i) → Loop (fun (s : (Int × Int)) => law1_TokenWhole_L1 (mkS L) (T, z) s.1 s.2) ((e : Int), (i : Int)) = some (.brk ()) := by
  intro n
  induction n with
  | zero =>
    intro i e hn hi _
    obtain rfl : i = T.length := by omega
    rw [Loop_eq]
    unfold law1_TokenWhole_L1
    simp
  | succ n ih =>
    intro i e hn hi hc
    obtain ⟨e', h1, h2⟩ := whole_step hL (z := z) (by omega : i < T.length) hT hc
    rw [Loop_eq]
    simp only
    rw [h1]
    exact ih (i + 1) e' (by omega) (by omega) h2
/-- A text of any size. -/
theorem tok_scan_all (s : ByteArray) : token_Scan s = some (scanP (bl s)) := by
  by_cases h : 2000 < (bl s).length
  · unfold token_Scan scanP
    rw [size_bl, if_pos (by simp only [decide_eq_true_eq]; omega), if_pos (by simpa using h)]; rfl
  · have := tok_scan (l := bl s) (by unfold Sm; omega)
    rwa [mkS_bl] at this
theorem tokenWhole_true (s : ByteArray) : law1_TokenWhole s = some true := by
  unfold law1_TokenWhole
  have h1 := tok_scan_all s
  rw [fact_true, Option.bind_some, h1]
  simp only [Bool.not_true, Bool.false_eq_true, if_false, Option.bind_some]
  by_cases hc : (scanP (bl s)).2.Code = 0
  · have e : ((scanP (bl s)).2.Code != 0) = false := by rw [hc]; rfl
    rw [e, if_neg (by simp)]
    have hlen : (bl s).length ≤ 2000 := by
      rcases Nat.lt_or_ge 2000 (bl s).length with h | h
      · unfold scanP at hc; simp [h] at hc
      · exact h
    have hch : Chain (bl s) 0 (scanP (bl s)).1 := by
      unfold scanP at hc ⊢
      have h2 : ¬ (2000 < (bl s).length) := by omega
      simp only [h2, decide_false, Bool.false_eq_true, if_false] at hc ⊢
      obtain ⟨ts, h3, h4⟩ := scanF_chain (L := bl s) ((bl s).length + 1) 0 [] (by simp) (by rw [List.drop_zero]; exact hc)
      rw [List.drop_zero] at h3
      rw [h3]; exact h4
    have := whole_loop hlen (T := (scanP (bl s)).1) (z := (scanP (bl s)).2) (scanP_len _) _ 0 0 rfl (by omega) (by rw [List.drop_zero]; exact hch)
    rw [mkS_bl] at this
    rw [show ((0 : Nat) : Int) = 0 from rfl] at this
    show (Loop (fun (s_1 : (Int × Int)) => law1_TokenWhole_L1 s ((scanP (bl s)).1, (scanP (bl s)).2) s_1.1 s_1.2) (0, 0)).bind _ = _
    rw [this]; rfl
  · have e : ((scanP (bl s)).2.Code != 0) = true := by simpa using hc
    rw [e, if_pos rfl, scanP_fault hc]; rfl
end Go.Ab.Tk
