/-
  PLAIN LAWS (words): a text behind a text; TokenJoin.
-/
import Derived.Test.YtkgjhnmpcnjooaaDoorAbK16
namespace Go.Ab.Tk
open Go

theorem skip_rest : ∀ n (l : L8), l.length < n → ∀ k, skipP l = (k, true) → (match l.drop k with | [] => True | c :: t => isBl c = false ∧ pre2 47 47 (c :: t) = false ∧ pre2 47 42 (c :: t) = false) := by
  intro n
  induction n with
  | zero => intro l h; omega
  | succ n ih =>
    intro l hn k h
    rw [skipP_unf] at h
    simp only at h
    have k1 := spanL_le isBl l
    cases hp : pre2 47 47 (l.drop (spanL isBl l)) with
    | true =>
      rw [hp] at h
      simp only [if_true, Prod.mk.injEq] at h
      have hj := notLF_pos hp
      have := ih ((l.drop (spanL isBl l)).drop (spanL notLF (l.drop (spanL isBl l)))) (by
        have := pre2_len hp
        simp only [List.length_drop] at this ⊢; omega) _ (Prod.ext rfl h.2)
      rw [drop_add, drop_add, ← Nat.add_assoc, h.1] at this
      exact this
    | false =>
      rw [hp] at h
      simp only [Bool.false_eq_true, if_false] at h
      cases hp2 : pre2 47 42 (l.drop (spanL isBl l)) with
      | true =>
        rw [hp2] at h
        simp only [if_true] at h
        cases he : endR ((l.drop (spanL isBl l)).drop 2) with
        | none => rw [he] at h; simp at h
        | some i =>
          rw [he] at h
          simp only [Prod.mk.injEq] at h
          have := ih ((l.drop (spanL isBl l)).drop (i + 4)) (by
            have := pre2_len hp2
            simp only [List.length_drop] at this ⊢; omega) _ (Prod.ext rfl h.2)
          rw [drop_add, drop_add, ← Nat.add_assoc, h.1] at this
          exact this
      | false =>
        rw [hp2] at h
        simp only [Bool.false_eq_true, if_false, Prod.mk.injEq, and_true] at h
        subst h
        cases hd : l.drop (spanL isBl l) with
        | nil => trivial
        | cons c t =>
          rw [hd] at hp hp2
          exact ⟨span_stop hd, hp, hp2⟩
theorem skip_rest' {l : L8} {k : Nat} {c : UInt8} {t : L8} (h : skipP l = (k, true)) (hd : l.drop k = c :: t) : isBl c = false ∧ pre2 47 47 (c :: t) = false ∧ pre2 47 42 (c :: t) = false := by
  have := skip_rest _ l (Nat.lt_succ_self _) k h
  rw [hd] at this
  exact this
theorem pre2_stop {a b : Int} {c : UInt8} {t : L8} {x : UInt8} (hx : stopB x = true) (hb : b = 47 ∨ b = 42) (h : pre2 a b (c :: t) = false) (s : L8) : pre2 a b (c :: t ++ x :: s) = false := by
  cases t with
  | nil =>
    have hxx : (ch x == b) = false := by
      unfold stopB at hx
      simp only [Bool.or_eq_true, beq_iff_eq] at hx
      rw [beq_eq_false_iff_ne]; omega
    simp [pre2, hxx]
  | cons d t => exact h
theorem skip_here {c : UInt8} {t : L8} (h : isBl c = false ∧ pre2 47 47 (c :: t) = false ∧ pre2 47 42 (c :: t) = false) : skipP (c :: t) = (0, true) :=
  skip_stay (by rw [spanL_cons, h.1]; rfl) h.2.1 h.2.2
theorem skip_stop {r : L8} {k : Nat} {c : UInt8} {t : L8} (h : skipP r = (k, true)) (hd : r.drop k = c :: t) {x : UInt8} (hx : stopB x = true) (s : L8) : skipP (r ++ x :: s) = (k, true) := by
  have hr := skip_rest' h hd
  have hk : k ≤ r.length := by
    have := skip_le (r.length + 1) r
    change (skipP r).1 ≤ _ at this
    rw [h] at this; exact this
  have hq : (r.take k).length = k := by rw [List.length_take]; omega
  have e : r = r.take k ++ (c :: t) := by rw [← hd, List.take_append_drop]
  have h1 := skip_app _ (r.take k) (c :: t) (c :: t ++ x :: s) (Nat.lt_succ_self _) (by rw [← e, hq]; exact h) (.inl (List.cons_ne_nil _ _))
  have h2 : skipP (c :: t ++ x :: s) = (0, true) := skip_here (t := t ++ x :: s) ⟨hr.1, pre2_stop hx (.inl rfl) hr.2.1 s, pre2_stop hx (.inr rfl) hr.2.2 s⟩
  have e2 : r.take k ++ (c :: t ++ x :: s) = r ++ x :: s := by
    conv => rhs; rw [e]
    simp
  rw [e2, h2, hq] at h1
  exact h1
theorem is10 : isBl 10 = true := by decide
theorem skip_end {r : L8} (h : skipP r = (r.length, true)) (s : L8) : skipP (r ++ 10 :: s) = (r.length + 1 + (skipP s).1, (skipP s).2) := by
  have h1 := skip_app _ r [] (10 :: s) (Nat.lt_succ_self _) (by rw [List.append_nil]; exact h) (.inr ⟨s, rfl⟩)
  have h2 : skipP (10 :: s) = (1 + (skipP s).1, (skipP s).2) := skip_blanks (q := [10]) s (by simp [is10])
  rw [h1, h2]
  simp only [Prod.mk.injEq, and_true]; omega
theorem scanF_fuel : ∀ n m p out l, l.length < n → l.length < m → scanF n p out l = scanF m p out l := by
  intro n
  induction n with
  | zero => intro m p out l h; omega
  | succ n ih =>
    intro m p out l h1 h2
    cases m with
    | zero => omega
    | succ m =>
      unfold scanF
      split
      · rfl
      · split
        · rfl
        · rename_i hne
          split
          · rfl
          · split
            · rfl
            · rename_i kd j q hN
              have hnn : l.drop (skipP l).1 ≠ [] := fun h => hne (by rw [h]; rfl)
              have hj := nextP_len hnn hN
              rw [List.length_drop] at hj
              exact ih m _ _ _ (by simp only [List.length_drop]; omega) (by simp only [List.length_drop]; omega)
/-- Scanning goes on behind the line feed. -/
theorem scan_lf {b : L8} {N : Nat} (hb : b.length < N) : ∀ n p out r, r.length < n → ∀ m, (r ++ 10 :: b).length < m →
    ((scanF n p out r).2.Code = 0 → scanF m p out (r ++ 10 :: b) = scanF N (p + r.length + 1) (scanF n p out r).1 b) ∧
    ((scanF n p out r).2.Code ≠ 0 → (scanF n p out r).2.Code ≠ 1 → (scanF m p out (r ++ 10 :: b)).2 = (scanF n p out r).2) := by
  intro n
  induction n with
  | zero => intro p out r h; omega
  | succ n ih =>
    intro p out r hn m hm
    cases m with
    | zero => omega
    | succ m =>
      have hk := skip_le (r.length + 1) r
      change (skipP r).1 ≤ _ at hk
      generalize hsk : skipP r = sk at hk
      obtain ⟨k, ok⟩ := sk
      simp only at hk
      cases ok with
      | false =>
        have e : scanF (n + 1) p out r = ([], ⟨1, ((p + k : Nat) : Int)⟩) := by unfold scanF; rw [hsk]; rfl
        rw [e]
        exact ⟨fun h => absurd h (by simp), fun _ h => absurd rfl h⟩
      | true =>
        cases hd : r.drop k with
        | nil =>
          have hkl : k = r.length := by
            have := congrArg List.length hd
            rw [List.length_drop, List.length_nil] at this; omega
          subst hkl
          have e : scanF (n + 1) p out r = (out, ⟨0, 0⟩) := by
            unfold scanF
            rw [hsk]
            simp [hd]
          rw [e]
          refine ⟨fun _ => ?_, fun h => absurd rfl h⟩
          cases N with
          | zero => omega
          | succ N =>
            rw [scanF_fuel (N + 1) (m + 1) _ _ b hb (by simp at hm; omega)]
            have hse := skip_end hsk b
            have hdd : (r ++ 10 :: b).drop (r.length + 1 + (skipP b).1) = b.drop (skipP b).1 := by
              rw [show r.length + 1 + (skipP b).1 = r.length + (1 + (skipP b).1) by omega, ← List.drop_drop]
              simp [Nat.add_comm 1]
            have hpp : p + (r.length + 1 + (skipP b).1) = p + r.length + 1 + (skipP b).1 := by omega
            simp only
            conv => lhs; unfold scanF
            conv => rhs; unfold scanF
            rw [hse]
            simp only [hdd, hpp]
        | cons c t =>
          have hst := skip_stop hsk hd st10 b
          have hkl : k < r.length := by
            have := congrArg List.length hd
            rw [List.length_drop, List.length_cons] at this; omega
          have hdj : (r ++ 10 :: b).drop k = c :: t ++ 10 :: b := by rw [drop_app_le hk, hd]
          have hne1 : ¬ ((c :: t).length = 0) := by simp
          have hne2 : ¬ ((c :: t ++ 10 :: b).length = 0) := by simp
          by_cases h8 : out.length = 800
          · have e1 : scanF (n + 1) p out r = ([], ⟨10, ((p + k : Nat) : Int)⟩) := by
              unfold scanF; rw [hsk]; simp only [hd, Bool.not_true, Bool.false_eq_true, if_false, if_neg hne1, if_pos h8]
            have e2 : scanF (m + 1) p out (r ++ 10 :: b) = ([], ⟨10, ((p + k : Nat) : Int)⟩) := by
              unfold scanF; rw [hst]; simp only [hdj, Bool.not_true, Bool.false_eq_true, if_false, if_neg hne2, if_pos h8]
            rw [e1, e2]
            exact ⟨fun h => absurd h (by simp), fun _ _ => rfl⟩
          · cases hN : nextP (c :: t) with
            | inr e =>
              have e1 : scanF (n + 1) p out r = ([], ⟨e, ((p + k : Nat) : Int)⟩) := by
                unfold scanF; rw [hsk]; simp only [hd, Bool.not_true, Bool.false_eq_true, if_false, if_neg hne1, if_neg h8, hN]
              rw [e1]
              have he := nextP_err hN
              refine ⟨fun h => by simp only at h; omega, fun _ h1 => ?_⟩
              have hN2 := nextP_stop_err st10 b h1 hN
              unfold scanF; rw [hst]; simp only [hdj, Bool.not_true, Bool.false_eq_true, if_false, if_neg hne2, if_neg h8, hN2]
            | inl y =>
              obtain ⟨kd, j, w⟩ := y
              have hj := nextP_len (List.cons_ne_nil c t) hN
              have hN2 := nextP_stop st10 b hN
              have htl : (c :: t).length = r.length - k := by rw [← hd, List.length_drop]
              have ht : (c :: t ++ 10 :: b).take j = (c :: t).take j := List.take_append_of_le_length hj.2
              have hdr : (c :: t ++ 10 :: b).drop j = (c :: t).drop j ++ 10 :: b := drop_app_le hj.2
              have e1 : scanF (n + 1) p out r = scanF n (p + k + j) (out ++ [⟨kd, mkS ((c :: t).take j), w, ((p + k : Nat) : Int)⟩]) ((c :: t).drop j) := by
                conv => lhs; unfold scanF
                rw [hsk]; simp only [hd, Bool.not_true, Bool.false_eq_true, if_false, if_neg hne1, if_neg h8, hN]
              have e2 : scanF (m + 1) p out (r ++ 10 :: b) = scanF m (p + k + j) (out ++ [⟨kd, mkS ((c :: t).take j), w, ((p + k : Nat) : Int)⟩]) ((c :: t).drop j ++ 10 :: b) := by
                conv => lhs; unfold scanF
                rw [hst]; simp only [hdj, Bool.not_true, Bool.false_eq_true, if_false, if_neg hne2, if_neg h8, hN2, ht, hdr]
              rw [e1, e2]
              have := ih (p + k + j) (out ++ [⟨kd, mkS ((c :: t).take j), w, ((p + k : Nat) : Int)⟩]) ((c :: t).drop j) (by rw [List.length_drop]; omega) m (by
                simp only [List.length_append, List.length_drop, List.length_cons] at hm htl ⊢; omega)
              have el : p + k + j + ((c :: t).drop j).length = p + r.length := by rw [List.length_drop]; omega
              rw [el] at this
              exact this
theorem scan_nonempty : ∀ n p out l, l.length < n → out ≠ [] → (scanF n p out l).2.Code = 0 → (scanF n p out l).1 ≠ [] := by
  intro n
  induction n with
  | zero => intro p out l h; omega
  | succ n ih =>
    intro p out l hn ho
    unfold scanF
    split
    · intro h; exact absurd h (by simp)
    · split
      · intro _; exact ho
      · rename_i hne
        split
        · intro h; exact absurd h (by simp)
        · split
          · rename_i e hN
            have := nextP_err hN
            intro h; simp only at h; omega
          · rename_i kd j q hN
            have hnn : l.drop (skipP l).1 ≠ [] := fun h => hne (by rw [h]; rfl)
            have hj := nextP_len hnn hN
            rw [List.length_drop] at hj
            exact ih _ _ _ (by simp only [List.length_drop]; omega) (by simp)
/-- Words farther on. -/
def shT (D : Nat) (t : Tok) : Tok := ⟨t.Kind, t.Text, t.N, t.At + (D : Int)⟩
theorem scan_shift (D : Nat) (T : List Tok) : ∀ n p out l, l.length < n →
    ((scanF n p out l).2.Code = 0 → T.length + (scanF n p out l).1.length ≤ 800 → scanF n (p + D) (T ++ out.map (shT D)) l = (T ++ (scanF n p out l).1.map (shT D), ⟨0, 0⟩)) ∧
    ((scanF n p out l).2.Code ≠ 0 ∨ 800 < T.length + (scanF n p out l).1.length → T.length + out.length ≤ 800 → (scanF n (p + D) (T ++ out.map (shT D)) l).2.Code ≠ 0) := by
  intro n
  induction n with
  | zero => intro p out l h; omega
  | succ n ih =>
    intro p out l hn
    generalize hsk : skipP l = sk
    obtain ⟨k, ok⟩ := sk
    cases ok with
    | false =>
      have e : ∀ p out, scanF (n + 1) p out l = ([], ⟨1, ((p + k : Nat) : Int)⟩) := fun p out => by unfold scanF; rw [hsk]; rfl
      rw [e, e]
      exact ⟨fun h => absurd h (by simp), fun _ _ => by simp⟩
    | true =>
      by_cases hz : (l.drop k).length = 0
      · have e : ∀ p out, scanF (n + 1) p out l = (out, ⟨0, 0⟩) := fun p out => by unfold scanF; rw [hsk]; simp only [Bool.not_true, Bool.false_eq_true, if_false, if_pos hz]
        rw [e, e]
        refine ⟨fun _ _ => rfl, fun h h2 => ?_⟩
        rcases h with h | h
        · exact absurd rfl h
        · simp only at h; omega
      · have hnn : l.drop k ≠ [] := fun h => hz (by rw [h]; rfl)
        have e10 : ∀ p out, out.length = 800 → scanF (n + 1) p out l = ([], ⟨10, ((p + k : Nat) : Int)⟩) := fun p out h8 => by unfold scanF; rw [hsk]; simp only [Bool.not_true, Bool.false_eq_true, if_false, if_neg hz, if_pos h8]
        cases hN : nextP (l.drop k) with
        | inr e =>
          have he := nextP_err hN
          have ee : ∀ p out, (scanF (n + 1) p out l).2.Code ≠ 0 := fun p out => by
            by_cases h8 : out.length = 800
            · rw [e10 p out h8]; simp
            · unfold scanF; rw [hsk]; simp only [Bool.not_true, Bool.false_eq_true, if_false, if_neg hz, if_neg h8, hN]; omega
          exact ⟨fun h => absurd h (ee _ _), fun _ _ => ee _ _⟩
        | inl y =>
          obtain ⟨kd, j, w⟩ := y
          have hj := nextP_len hnn hN
          rw [List.length_drop] at hj
          have e1 : ∀ p out, out.length ≠ 800 → scanF (n + 1) p out l = scanF n (p + k + j) (out ++ [⟨kd, mkS ((l.drop k).take j), w, ((p + k : Nat) : Int)⟩]) ((l.drop k).drop j) := fun p out h8 => by
            conv => lhs; unfold scanF
            rw [hsk]; simp only [Bool.not_true, Bool.false_eq_true, if_false, if_neg hz, if_neg h8, hN]
          have hge : ∀ n p out l, out.length ≤ (scanF n p out l).1.length ∨ (scanF n p out l).1 = [] := by
            intro n
            induction n with
            | zero => intro p out l; exact .inr rfl
            | succ n ih2 =>
              intro p out l
              unfold scanF
              split
              · exact .inr rfl
              · split
                · exact .inl (Nat.le_refl _)
                · split
                  · exact .inr rfl
                  · split
                    · exact .inr rfl
                    · rename_i kd' j' w' _
                      rcases ih2 (p + (skipP l).1 + j') (out ++ [⟨kd', mkS ((l.drop (skipP l).1).take j'), w', ((p + (skipP l).1 : Nat) : Int)⟩]) ((l.drop (skipP l).1).drop j') with h | h
                      · exact .inl (by rw [List.length_append, List.length_singleton] at h; omega)
                      · exact .inr h
          by_cases h8 : out.length = 800
          · rw [e10 p out h8]
            refine ⟨fun h => absurd h (by simp), fun _ h2 => ?_⟩
            have hT : T = [] := List.length_eq_zero_iff.1 (by omega)
            subst hT
            rw [List.nil_append, e10 _ _ (by rw [List.length_map]; exact h8)]; simp
          · rw [e1 p out h8]
            have hi := ih (p + k + j) (out ++ [⟨kd, mkS ((l.drop k).take j), w, ((p + k : Nat) : Int)⟩]) ((l.drop k).drop j) (by simp only [List.length_drop]; omega)
            by_cases h9 : (T ++ out.map (shT D)).length = 800
            · rw [e10 _ _ h9]
              refine ⟨fun hc hl => ?_, fun _ _ => by simp⟩
              exfalso
              simp at h9
              rcases hge n (p + k + j) (out ++ [⟨kd, mkS ((l.drop k).take j), w, ((p + k : Nat) : Int)⟩]) ((l.drop k).drop j) with h | h
              · rw [List.length_append, List.length_singleton] at h
                omega
              · exact scan_nonempty n _ _ _ (by simp only [List.length_drop]; omega) (by simp) hc h
            · rw [e1 _ _ h9]
              have em : T ++ out.map (shT D) ++ [(⟨kd, mkS ((l.drop k).take j), w, ((p + D + k : Nat) : Int)⟩ : Tok)] = T ++ (out ++ [(⟨kd, mkS ((l.drop k).take j), w, ((p + k : Nat) : Int)⟩ : Tok)]).map (shT D) := by
                rw [List.map_append, List.append_assoc]
                congr 2
                show _ = [shT D _]
                unfold shT
                simp only [List.cons.injEq, and_true, XApi_Token.mk.injEq, true_and]
                omega
              have ep : p + D + k + j = p + k + j + D := by omega
              rw [em, ep]
              refine ⟨hi.1, fun h h2 => hi.2 h ?_⟩
              simp at h9 ⊢; omega
end Go.Ab.Tk
