/-
  PLAIN LAWS (words): a remark set before a word; TokenBlank.
-/
import Derived.Test.YtkgjhnmpcnjooaaDoorAbK18
namespace Go.Ab.Tk
open Go

/-- Words but for where they stand: the place is no matter. -/
theorem scanF_bare : ∀ n p p' out out' l, out.map bare1 = out'.map bare1 → (scanF n p out l).2.Code = (scanF n p' out' l).2.Code ∧ (scanF n p out l).1.map bare1 = (scanF n p' out' l).1.map bare1 := by
  intro n
  induction n with
  | zero => intro p p' out out' l _; exact ⟨rfl, rfl⟩
  | succ n ih =>
    intro p p' out out' l h
    have hlen : out.length = out'.length := by
      have := congrArg List.length h
      simpa using this
    unfold scanF
    rw [hlen]
    split
    · exact ⟨rfl, rfl⟩
    · split
      · exact ⟨rfl, h⟩
      · split
        · exact ⟨rfl, rfl⟩
        · split
          · exact ⟨rfl, rfl⟩
          · exact ih _ _ _ _ _ (by rw [List.map_append, List.map_append, h]; rfl)
theorem scanF_pre : ∀ n p out l, l.length < n → (scanF n p out l).2.Code = 0 → ∃ ts, (scanF n p out l).1 = out ++ ts := by
  intro n p out l hn hc
  obtain ⟨ts, h, _⟩ := scanF_chain (L := List.replicate p 32 ++ l) n p out (by simp; omega) (by simpa using hc)
  exact ⟨ts, by simpa using h⟩
theorem gk_take {G : List L8} {k d : Nat} {r : L8} (h : k ≤ d) : gk G k (r.take d) = gk G k r := by
  unfold gk
  have h1 : (r.take d).take k = r.take k := by rw [List.take_take, Nat.min_eq_left h]
  have h2 : decide (k ≤ (r.take d).length) = decide (k ≤ r.length) := by
    apply decide_eq_decide.2; rw [List.length_take]; omega
  rw [h1, h2]
theorem gk_take_none {G : List L8} {k d : Nat} {r : L8} (h : gk G k r = none) : gk G k (r.take d) = none := by
  rcases Nat.lt_or_ge d k with hd | hd
  · exact gk_short (by rw [List.length_take]; omega)
  · rw [gk_take hd]; exact h
theorem signP_take {r s : L8} (h : signP r = some s) {d : Nat} (hd : s.length ≤ d) : signP (r.take d) = some s := by
  unfold signP at h ⊢
  cases h3 : gk S3 3 r with
  | some t =>
    rw [h3, Option.some_or] at h
    obtain rfl := Option.some.inj h
    obtain ⟨_, _, hl, _⟩ := gk_eq h3
    rw [gk_take (by omega), h3]; rfl
  | none =>
    rw [h3, Option.none_or] at h
    rw [gk_take_none h3, Option.none_or]
    cases h2 : gk S2 2 r with
    | some t =>
      rw [h2, Option.some_or] at h
      obtain rfl := Option.some.inj h
      obtain ⟨_, _, hl, _⟩ := gk_eq h2
      rw [gk_take (by omega), h2]; rfl
    | none =>
      rw [h2, Option.none_or] at h
      obtain ⟨_, _, hl, _⟩ := gk_eq h
      rw [gk_take_none h2, Option.none_or, gk_take (by omega)]; exact h
theorem quoP_take_ge {r : L8} {n : Int} {k d : Nat} (h : quoP r = some (n, k)) (hd : k ≤ d) : quoP (r.take d) = some (n, k) := by
  have h1 := quoP_take h
  have h2 : r.take d = r.take k ++ (r.take d).drop k := by
    have := (List.take_append_drop k (r.take d)).symm
    rw [List.take_take, Nat.min_eq_left hd] at this
    exact this
  rw [h2]
  exact quoP_app h1 _
theorem tw_take {r : L8} {d : Nat} (h : (r.takeWhile isBoth).length ≤ d) : (r.take d).takeWhile isBoth = r.takeWhile isBoth := by
  induction r generalizing d with
  | nil => simp
  | cons c r ih =>
    rw [List.takeWhile_cons] at h ⊢
    cases hc : isBoth c with
    | true =>
      rw [hc, if_pos rfl, List.length_cons] at h
      obtain ⟨e, rfl⟩ : ∃ e, d = e + 1 := ⟨d - 1, by omega⟩
      rw [List.take_succ_cons, List.takeWhile_cons, hc, if_pos rfl, if_pos rfl, ih (by omega)]
    | false =>
      cases d with
      | zero => simp
      | succ e => rw [List.take_succ_cons, List.takeWhile_cons, hc]; rfl
theorem nextP_take_ge {a : UInt8} {t : L8} {kd n : Int} {j d : Nat} (h : nextP (a :: t) = .inl (kd, j, n)) (hd : j ≤ d) : nextP ((a :: t).take d) = .inl (kd, j, n) := by
  have hj := nextP_len (List.cons_ne_nil a t) h
  have hw : ((a :: t).takeWhile isBoth).length ≤ d → ((a :: t).take d).takeWhile isBoth = (a :: t).takeWhile isBoth := tw_take
  have hs : ∀ s, signP (a :: t) = some s → s.length ≤ d → signP ((a :: t).take d) = some s := fun s h1 h2 => signP_take h1 h2
  have hq : ∀ n k, quoP (a :: t) = some (n, k) → k ≤ d → quoP ((a :: t).take d) = some (n, k) := fun n k h1 h2 => quoP_take_ge h1 h2
  obtain ⟨i, rfl⟩ : ∃ i, d = i + 1 := ⟨d - 1, by omega⟩
  rw [List.take_succ_cons] at hw hs hq ⊢
  rw [nextP_cons] at h ⊢
  split at h
  · rename_i hl; rw [if_pos hl]
    have hlen : ((a :: t).takeWhile isBoth).length = j := by
      split at h
      · simp only [Sum.inl.injEq, Prod.mk.injEq] at h; exact h.2.1
      · split at h
        · simp only [Sum.inl.injEq, Prod.mk.injEq] at h; exact h.2.1
        · cases h
    rw [hw (by omega)]; exact h
  · rename_i hl; rw [if_neg hl]
    split at h
    · rename_i hdg; rw [if_pos hdg]
      have hlen : ((a :: t).takeWhile isBoth).length = j := by
        split at h
        · simp only [Sum.inl.injEq, Prod.mk.injEq] at h; exact h.2.1
        · split at h <;> cases h
      rw [hw (by omega)]; exact h
    · rename_i hdg; rw [if_neg hdg]
      split at h
      · rename_i hqq; rw [if_pos hqq]
        split at h
        · rename_i n' k hqp
          simp only [Sum.inl.injEq, Prod.mk.injEq] at h
          obtain ⟨rfl, rfl, rfl⟩ := h
          rw [hq _ _ hqp hd]
        · cases h
      · rename_i hqq; rw [if_neg hqq]
        split at h
        · rename_i s hsp
          simp only [Sum.inl.injEq, Prod.mk.injEq] at h
          obtain ⟨rfl, hl2, rfl⟩ := h
          rw [hs s hsp (by omega)]
          simp only [hl2]
        · cases h
/-- What is set in. -/
def insB (rem : L8) : L8 := 32 :: 47 :: 42 :: rem ++ [42, 47, 32]
def noStar (rem : L8) : Bool := rem.all fun c => !(ch c == 42) && !(ch c == 47)
theorem endR_ins : ∀ {rem : L8} (s : L8), noStar rem = true → endR (rem ++ 42 :: 47 :: s) = some rem.length
  | [], s, _ => rfl
  | [c], s, h => by
    simp only [noStar, List.all_cons, List.all_nil, Bool.and_true, Bool.and_eq_true, Bool.not_eq_true'] at h
    show endR (c :: 42 :: 47 :: s) = _
    unfold endR
    rw [h.1]
    rfl
  | c :: d :: rem, s, h => by
    have h' := h
    simp only [noStar, List.all_cons, Bool.and_eq_true, Bool.not_eq_true'] at h
    have ih := endR_ins (rem := d :: rem) s (by
      simp only [noStar, List.all_cons, Bool.and_eq_true, Bool.not_eq_true'] at h' ⊢; exact h'.2)
    show endR (c :: d :: (rem ++ 42 :: 47 :: s)) = _
    unfold endR
    rw [h.1.1]
    simp only [Bool.false_and, Bool.false_eq_true, if_false]
    have e : d :: (rem ++ 42 :: 47 :: s) = (d :: rem) ++ 42 :: 47 :: s := rfl
    rw [e, ih]; rfl
theorem skip_ins {rem : L8} (hr : noStar rem = true) {c : UInt8} {t : L8} (hc : isBl c = false ∧ pre2 47 47 (c :: t) = false ∧ pre2 47 42 (c :: t) = false) : skipP (insB rem ++ c :: t) = ((insB rem).length, true) := by
  have e : insB rem ++ c :: t = [32] ++ (47 :: 42 :: (rem ++ 42 :: 47 :: 32 :: c :: t)) := by simp [insB]
  rw [e, skip_blanks (q := [32]) _ (by simp [is32]), skipP_unf]
  have h1 : spanL isBl (47 :: 42 :: (rem ++ 42 :: 47 :: 32 :: c :: t)) = 0 := by rw [spanL_cons]; rfl
  have h2 : pre2 47 47 (47 :: 42 :: (rem ++ 42 :: 47 :: 32 :: c :: t)) = false := by rw [pre2_cons]; rfl
  have h3 : pre2 47 42 (47 :: 42 :: (rem ++ 42 :: 47 :: 32 :: c :: t)) = true := by rw [pre2_cons]; rfl
  simp only [h1, List.drop_zero, h2, h3, Bool.false_eq_true, if_false, if_true]
  have h4 : (47 :: 42 :: (rem ++ 42 :: 47 :: 32 :: c :: t)).drop 2 = rem ++ 42 :: 47 :: 32 :: c :: t := rfl
  rw [h4, endR_ins _ hr]
  have h5 : (47 :: 42 :: (rem ++ 42 :: 47 :: 32 :: c :: t)).drop (rem.length + 4) = 32 :: c :: t := by
    rw [show rem.length + 4 = 2 + (rem.length + 2) by omega, ← List.drop_drop, h4, ← List.drop_drop, List.drop_left']
    · rfl
    · rfl
  have h6 : skipP (32 :: c :: t) = (1, true) := by
    have := skip_blanks (q := [32]) (c :: t) (by simp [is32])
    rw [skip_here hc] at this
    exact this
  simp only [h5, h6]
  simp [insB]; omega
/-- THE RULE: from a place p0 on, the remark set in at the place of the word with number k. -/
theorem scan_ins {rem : L8} (hr : noStar rem = true) : ∀ n p0 out r i, r.length < n → (scanF n p0 out r).2.Code = 0 → ∀ t, ((scanF n p0 out r).1)[out.length + i]? = some t → ∀ m, (r ++ insB rem).length < m → ∃ d, t.At = ((p0 + d : Nat) : Int) ∧ d ≤ r.length ∧
    (scanF m p0 out (r.take d ++ (insB rem ++ r.drop d))).2.Code = 0 ∧ (scanF m p0 out (r.take d ++ (insB rem ++ r.drop d))).1.map bare1 = (scanF n p0 out r).1.map bare1 := by
  intro n
  induction n with
  | zero => intro p0 out r i h; omega
  | succ n ih =>
    intro p0 out r i hn hc t ht m hm
    cases m with
    | zero => omega
    | succ m =>
      generalize hsk : skipP r = sk
      obtain ⟨k, ok⟩ := sk
      have hk := skip_le (r.length + 1) r
      change (skipP r).1 ≤ _ at hk
      rw [hsk] at hk
      simp only at hk
      cases ok with
      | false =>
        have e : scanF (n + 1) p0 out r = ([], ⟨1, ((p0 + k : Nat) : Int)⟩) := by unfold scanF; rw [hsk]; rfl
        rw [e] at hc; exact absurd hc (by simp)
      | true =>
        cases hd : r.drop k with
        | nil =>
          have e : scanF (n + 1) p0 out r = (out, ⟨0, 0⟩) := by unfold scanF; rw [hsk]; simp [hd]
          rw [e] at ht
          simp only at ht
          rw [List.getElem?_eq_none (by omega)] at ht; cases ht
        | cons c u =>
          have hrest := skip_rest' hsk hd
          have hkl : k < r.length := by
            have := congrArg List.length hd
            rw [List.length_drop, List.length_cons] at this; omega
          have hcu : (c :: u).length = r.length - k := by rw [← hd, List.length_drop]
          have hne : ¬ ((c :: u).length = 0) := by simp
          have h8 : out.length ≠ 800 := fun h8 => by
            have e : scanF (n + 1) p0 out r = ([], ⟨10, ((p0 + k : Nat) : Int)⟩) := by
              unfold scanF; rw [hsk]; simp only [hd, Bool.not_true, Bool.false_eq_true, if_false, if_neg hne, if_pos h8]
            rw [e] at hc; exact absurd hc (by simp)
          cases hN : nextP (c :: u) with
          | inr e =>
            have he := nextP_err hN
            have e1 : scanF (n + 1) p0 out r = ([], ⟨e, ((p0 + k : Nat) : Int)⟩) := by
              unfold scanF; rw [hsk]; simp only [hd, Bool.not_true, Bool.false_eq_true, if_false, if_neg hne, if_neg h8, hN]
            rw [e1] at hc; simp only at hc; omega
          | inl y =>
            obtain ⟨kd, j, w⟩ := y
            have hj := nextP_len (List.cons_ne_nil c u) hN
            have e1 : scanF (n + 1) p0 out r = scanF n (p0 + k + j) (out ++ [⟨kd, mkS ((c :: u).take j), w, ((p0 + k : Nat) : Int)⟩]) ((c :: u).drop j) := by
              conv => lhs; unfold scanF
              rw [hsk]; simp only [hd, Bool.not_true, Bool.false_eq_true, if_false, if_neg hne, if_neg h8, hN]
            rw [e1] at hc ht ⊢
            have hqk : (r.take k).length = k := by rw [List.length_take]; omega
            have hr0 : skipP (r.take k ++ c :: u) = ((r.take k).length, true) := by
              rw [hqk, ← hd, List.take_append_drop]; exact hsk
            cases i with
            | zero =>
              -- here it is set in
              refine ⟨k, ?_, hk, ?_⟩
              · obtain ⟨ts', h2⟩ := scanF_pre n (p0 + k + j) (out ++ [⟨kd, mkS ((c :: u).take j), w, ((p0 + k : Nat) : Int)⟩]) ((c :: u).drop j) (by rw [List.length_drop]; omega) hc
                rw [h2, Nat.add_zero, List.append_assoc, List.getElem?_append_right (Nat.le_refl _), Nat.sub_self] at ht
                simp only [List.singleton_append, List.getElem?_cons_zero, Option.some.injEq] at ht
                rw [← ht]
              · rw [hd]
                have h1 := skip_app _ (r.take k) (c :: u) (insB rem ++ c :: u) (Nat.lt_succ_self _) hr0 (.inl (List.cons_ne_nil _ _))
                rw [skip_ins hr hrest, hqk] at h1
                have hdd : (r.take k ++ (insB rem ++ c :: u)).drop (k + (insB rem).length) = c :: u := by
                  rw [← List.drop_drop, List.drop_left' hqk, List.drop_left' rfl]
                have e2 : scanF (m + 1) p0 out (r.take k ++ (insB rem ++ c :: u)) = scanF m (p0 + (k + (insB rem).length) + j) (out ++ [⟨kd, mkS ((c :: u).take j), w, ((p0 + (k + (insB rem).length) : Nat) : Int)⟩]) ((c :: u).drop j) := by
                  conv => lhs; unfold scanF
                  rw [h1]; simp only [hdd, Bool.not_true, Bool.false_eq_true, if_false, if_neg hne, if_neg h8, hN]
                rw [e2]
                have hb := scanF_bare n (p0 + k + j) (p0 + (k + (insB rem).length) + j) (out ++ [⟨kd, mkS ((c :: u).take j), w, ((p0 + k : Nat) : Int)⟩]) (out ++ [⟨kd, mkS ((c :: u).take j), w, ((p0 + (k + (insB rem).length) : Nat) : Int)⟩]) ((c :: u).drop j) (by rw [List.map_append, List.map_append]; rfl)
                rw [scanF_fuel m n _ _ _ (by rw [List.length_drop]; rw [List.length_append] at hm; omega) (by rw [List.length_drop]; omega)]
                exact ⟨hb.1 ▸ hc, hb.2.symm⟩
            | succ i =>
              -- it is set in farther on
              have hidx : (out ++ [(⟨kd, mkS ((c :: u).take j), w, ((p0 + k : Nat) : Int)⟩ : Tok)]).length + i = out.length + (i + 1) := by rw [List.length_append, List.length_singleton]; omega
              obtain ⟨d, d1, d2, d3, d4⟩ := ih (p0 + k + j) (out ++ [⟨kd, mkS ((c :: u).take j), w, ((p0 + k : Nat) : Int)⟩]) ((c :: u).drop j) i (by rw [List.length_drop]; omega) hc t (by rw [hidx]; exact ht) m (by
                rw [List.length_append, List.length_drop] at *; omega)
              rw [List.length_drop] at d2
              refine ⟨k + j + d, by rw [d1]; congr 1; omega, by omega, ?_⟩
              -- the text behind what says nothing
              have et : r.take (k + j + d) = r.take k ++ (c :: u).take (j + d) := by
                rw [show k + j + d = k + (j + d) by omega, List.take_add, hd]
              have ed : r.drop (k + j + d) = (c :: u).drop (j + d) := by
                rw [show k + j + d = k + (j + d) by omega, ← List.drop_drop, hd]
              rw [et, ed, List.append_assoc]
              generalize hv : (c :: u).drop (j + d) = v
              have htd : (c :: u).take (j + d) = c :: u.take (j + d - 1) := by
                obtain ⟨e, he⟩ : ∃ e, j + d = e + 1 := ⟨j + d - 1, by omega⟩
                rw [he]; rfl
              have hins : insB rem ++ v = 32 :: (47 :: 42 :: rem ++ [42, 47, 32] ++ v) := rfl
              have hN2 : nextP ((c :: u).take (j + d) ++ (insB rem ++ v)) = .inl (kd, j, w) := by
                have h1 := nextP_take_ge hN (d := j + d) (by omega)
                rw [hins]
                rw [htd] at h1 ⊢
                exact nextP_stop st32 _ h1
              have hs2 : skipP ((c :: u).take (j + d) ++ (insB rem ++ v)) = (0, true) := by
                rw [hins, htd]
                have hp : ∀ b, pre2 47 b (c :: u) = false → pre2 47 b (c :: u.take (j + d - 1)) = false := fun b hb => by
                  rw [pre2_cons] at hb ⊢
                  cases u with
                  | nil => simp
                  | cons x u =>
                    cases j + d - 1 with
                    | zero => simp
                    | succ e => exact hb
                have pA := pre2_stop st32 (.inl rfl) (hp 47 hrest.2.1) (47 :: 42 :: rem ++ [42, 47, 32] ++ v)
                have pB := pre2_stop st32 (.inr rfl) (hp 42 hrest.2.2) (47 :: 42 :: rem ++ [42, 47, 32] ++ v)
                rw [List.cons_append] at pA pB ⊢
                exact skip_here ⟨hrest.1, pA, pB⟩
              have h1 := skip_app _ (r.take k) (c :: u) ((c :: u).take (j + d) ++ (insB rem ++ v)) (Nat.lt_succ_self _) hr0 (.inl (List.cons_ne_nil _ _))
              rw [hs2, hqk, Nat.add_zero] at h1
              have hdd : (r.take k ++ ((c :: u).take (j + d) ++ (insB rem ++ v))).drop k = (c :: u).take (j + d) ++ (insB rem ++ v) := List.drop_left' hqk
              have hne2 : ¬ (((c :: u).take (j + d) ++ (insB rem ++ v)).length = 0) := by rw [htd]; simp
              have hjd : j ≤ ((c :: u).take (j + d)).length := by rw [List.length_take]; omega
              have ht2 : ((c :: u).take (j + d) ++ (insB rem ++ v)).take j = (c :: u).take j := by
                rw [List.take_append_of_le_length hjd, List.take_take, Nat.min_eq_left (by omega)]
              have hd2 : ((c :: u).take (j + d) ++ (insB rem ++ v)).drop j = ((c :: u).drop j).take d ++ (insB rem ++ ((c :: u).drop j).drop d) := by
                rw [drop_app_le hjd, List.drop_take, List.drop_drop, hv]
                congr 2; omega
              have e2 : scanF (m + 1) p0 out (r.take k ++ ((c :: u).take (j + d) ++ (insB rem ++ v))) = scanF m (p0 + k + j) (out ++ [⟨kd, mkS ((c :: u).take j), w, ((p0 + k : Nat) : Int)⟩]) (((c :: u).drop j).take d ++ (insB rem ++ ((c :: u).drop j).drop d)) := by
                conv => lhs; unfold scanF
                rw [h1]; simp only [hdd, Bool.not_true, Bool.false_eq_true, if_false, if_neg hne2, if_neg h8, hN2, ht2, hd2]
              rw [e2]
              exact ⟨d3, d4⟩
end Go.Ab.Tk
