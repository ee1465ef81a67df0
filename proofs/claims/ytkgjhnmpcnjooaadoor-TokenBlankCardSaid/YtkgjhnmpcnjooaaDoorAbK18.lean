/-
  PLAIN LAWS (words): what says nothing, set before something else.
-/
/-
  PLAIN LAWS (words): a text behind a text; TokenJoin.
-/
/-
  PLAIN LAWS (words): TokenJoin.
-/
import Derived.Test.YtkgjhnmpcnjooaaDoorAbK15
namespace Go.Ab.Tk
open Go

theorem span_app_all {p : UInt8 → Bool} : ∀ {q : L8} (s : L8), q.all p = true → spanL p (q ++ s) = q.length + spanL p s
  | [], s, _ => by simp
  | c :: q, s, h => by
    simp only [List.all_cons, Bool.and_eq_true] at h
    rw [List.cons_append, spanL_cons, h.1, if_pos rfl, span_app_all s h.2, List.length_cons]; omega
/-- A span that ends within q. -/
theorem span_app_lt {p : UInt8 → Bool} : ∀ {q : L8} (s s' : L8), spanL p (q ++ s) < q.length → spanL p (q ++ s') = spanL p (q ++ s)
  | [], _, _, h => by simp at h
  | c :: q, s, s', h => by
    rw [List.cons_append, spanL_cons] at h ⊢
    rw [List.cons_append, spanL_cons]
    cases hc : p c with
    | false => rfl
    | true =>
      rw [hc, if_pos rfl, List.length_cons] at h
      rw [if_pos rfl, if_pos rfl, span_app_lt s s' (by omega)]
theorem span_take_all {p : UInt8 → Bool} : ∀ (l : L8), (l.take (spanL p l)).all p = true
  | [] => by simp [spanL]
  | c :: l => by
    rw [spanL_cons]
    cases hc : p c with
    | false => simp
    | true => simp [hc, span_take_all l]
theorem span_stop {p : UInt8 → Bool} : ∀ {l : L8} {c : UInt8} {t : L8}, l.drop (spanL p l) = c :: t → p c = false
  | [], c, t, h => by simp [spanL] at h
  | x :: l, c, t, h => by
    rw [spanL_cons] at h
    cases hx : p x with
    | true => rw [hx, if_pos rfl, List.drop_succ_cons] at h; exact span_stop h
    | false =>
      rw [hx, if_neg (by simp), List.drop_zero] at h
      simp only [List.cons.injEq] at h
      rw [← h.1]; exact hx
theorem endR_app : ∀ {x : L8} {y y' : L8} {i : Nat}, endR (x ++ y) = some i → i + 2 ≤ x.length → endR (x ++ y') = some i
  | [], _, _, _, _, h => by simp at h
  | [_], _, _, _, _, h => by simp at h
  | c :: d :: x, y, y', i, h, hl => by
    simp only [List.cons_append] at h ⊢
    unfold endR at h ⊢
    split at h
    · rename_i hc; rw [if_pos hc]; exact h
    · rename_i hc; rw [if_neg hc]
      simp only [Option.map_eq_some_iff] at h ⊢
      obtain ⟨j, hj, rfl⟩ := h
      exact ⟨j, by
        have := endR_app (x := d :: x) (y := y) (y' := y') (i := j) (by simpa using hj) (by simp at hl ⊢; omega)
        simpa using this, rfl⟩
theorem pre2_app {a b : Int} {q : L8} (s s' : L8) (h : 2 ≤ q.length) : pre2 a b (q ++ s) = pre2 a b (q ++ s') := by
  match q, h with
  | c :: d :: q, _ => rfl
theorem drop_app_le {q s : L8} {k : Nat} (h : k ≤ q.length) : (q ++ s).drop k = q.drop k ++ s := List.drop_append_of_le_length h
theorem skipP_eq (l : L8) (n : Nat) (h : l.length < n) : skipF n l = skipP l := skip_fuel _ _ _ h (Nat.lt_succ_self _)
theorem skipP_unf (l : L8) : skipP l = (let k := spanL isBl l; let r := l.drop k;
    if pre2 47 47 r then (k + spanL notLF r + (skipP (r.drop (spanL notLF r))).1, (skipP (r.drop (spanL notLF r))).2)
    else if pre2 47 42 r then (match endR (r.drop 2) with
      | none => (k, false)
      | some i => (k + (i + 4) + (skipP (r.drop (i + 4))).1, (skipP (r.drop (i + 4))).2))
    else (k, true)) := by
  have k1 := spanL_le isBl l
  conv => lhs; unfold skipP skipF
  simp only
  cases hp : pre2 47 47 (l.drop (spanL isBl l)) with
  | true =>
    have := notLF_pos hp
    have k2 := spanL_le notLF (l.drop (spanL isBl l))
    rw [List.length_drop] at k2
    simp only [if_true]
    rw [skipP_eq _ _ (by simp only [List.length_drop]; omega)]
  | false =>
    simp only [Bool.false_eq_true, if_false]
    cases hp2 : pre2 47 42 (l.drop (spanL isBl l)) with
    | false => rfl
    | true =>
      simp only [if_true]
      cases he : endR ((l.drop (spanL isBl l)).drop 2) with
      | none => rfl
      | some i =>
        have h3 := endR_le he
        simp only [List.length_drop] at h3
        simp only
        rw [skipP_eq _ _ (by simp only [List.length_drop]; omega)]
/-- Blanks before something. -/
theorem skip_blanks {q : L8} (s : L8) (hq : q.all isBl = true) : skipP (q ++ s) = (q.length + (skipP s).1, (skipP s).2) := by
  rw [skipP_unf (q ++ s), skipP_unf s, span_app_all s hq]
  have hd : (q ++ s).drop (q.length + spanL isBl s) = s.drop (spanL isBl s) := by
    rw [← List.drop_drop]; simp
  simp only [hd]
  split
  · simp only [Prod.mk.injEq, and_true]; omega
  · split
    · cases endR ((s.drop (spanL isBl s)).drop 2) with
      | none => rfl
      | some i => simp only [Prod.mk.injEq, and_true]; omega
    · rfl
/-- THE RULE: what says nothing in one place says nothing in another; a remark to the line's end must end. -/
theorem skip_app : ∀ n (q r' s : L8), q.length < n → skipP (q ++ r') = (q.length, true) → (r' ≠ [] ∨ ∃ s', s = 10 :: s') → skipP (q ++ s) = (q.length + (skipP s).1, (skipP s).2) := by
  intro n
  induction n with
  | zero => intro q r' s h; omega
  | succ n ih =>
    intro q r' s hn hsk hcond
    rw [skipP_unf] at hsk
    simp only at hsk
    generalize hk : spanL isBl (q ++ r') = k at hsk
    cases hp : pre2 47 47 ((q ++ r').drop k) with
    | true =>
      rw [hp] at hsk
      simp only [if_true, Prod.mk.injEq] at hsk
      obtain ⟨hq, ho⟩ := hsk
      generalize hj : spanL notLF ((q ++ r').drop k) = j at hq ho
      have hj0 := notLF_pos hp
      rw [hj] at hj0
      have hj2 : 2 ≤ j := by
        cases hd : (q ++ r').drop k with
        | nil => rw [hd] at hp; cases hp
        | cons c t =>
          cases t with
          | nil => rw [hd] at hp; cases hp
          | cons d t =>
            rw [hd] at hp hj
            simp only [pre2, Bool.and_eq_true, beq_iff_eq] at hp
            have h1 : notLF c = true := by unfold notLF; rw [hp.1]; rfl
            have h2 : notLF d = true := by unfold notLF; rw [hp.2]; rfl
            rw [spanL_cons, h1, if_pos rfl, spanL_cons, h2, if_pos rfl] at hj
            omega
      have hkq : k + j ≤ q.length := by omega
      have hkb : spanL isBl (q ++ s) = k := by rw [span_app_lt r' s (by omega), hk]
      have hdq : ∀ y, (q ++ y).drop k = q.drop k ++ y := fun y => drop_app_le (by omega)
      rw [hdq] at hp hj ho hq
      have hd2 : ∀ y, (q.drop k ++ y).drop j = q.drop (k + j) ++ y := fun y => by
        rw [drop_app_le (by rw [List.length_drop]; omega), drop_add]
      rw [hd2] at ho hq
      have hql : (q.drop (k + j)).length = q.length - (k + j) := List.length_drop
      have hrec : skipP (q.drop (k + j) ++ r') = ((q.drop (k + j)).length, true) := by
        refine Prod.ext ?_ ho
        show (skipP (q.drop (k + j) ++ r')).1 = _
        omega
      have hjs : spanL notLF (q.drop k ++ s) = j := by
        rcases Nat.lt_or_ge j (q.drop k).length with hlt | hge
        · rw [span_app_lt r' s (by rw [hj]; exact hlt), hj]
        · have he : j = (q.drop k).length := by rw [List.length_drop] at hge ⊢; omega
          have hall : (q.drop k).all notLF = true := by
            have := span_take_all (p := notLF) (q.drop k ++ r')
            rw [hj, he, List.take_left'] at this
            · exact this
            · rfl
          have hq0 : q.drop (k + j) = [] := List.drop_eq_nil_of_le (by rw [List.length_drop] at he; omega)
          rw [span_app_all s hall]
          rcases hcond with hr | ⟨s', rfl⟩
          · exfalso
            cases hr' : r' with
            | nil => exact hr hr'
            | cons c t =>
              have h1 : notLF c = false := span_stop (l := q.drop k ++ r') (t := t) (by rw [hj, hd2, hq0, hr']; rfl)
              rw [hq0, hr', List.nil_append] at hrec
              have hc : isBl c = true := by
                unfold notLF at h1
                have : ch c = 10 := by simpa using h1
                unfold isBl; rw [this]; rfl
              have h2 := congrArg Prod.fst hrec
              rw [skipP_unf] at h2
              simp only [List.length_nil] at h2
              rw [spanL_cons, hc, if_pos rfl] at h2
              split at h2
              · simp only at h2; omega
              · split at h2
                · split at h2 <;> (simp only at h2; omega)
                · simp only at h2; omega
          · have : spanL notLF (10 :: s') = 0 := by rw [spanL_cons]; rfl
            rw [this]; omega
      rw [skipP_unf (q ++ s), hkb]
      simp only [hdq]
      rw [← pre2_app r' s (by rw [List.length_drop]; omega), hp, hjs, hd2]
      simp only [if_true]
      rw [ih (q.drop (k + j)) r' s (by omega) hrec hcond]
      simp only [Prod.mk.injEq, and_true]
      omega
    | false =>
      rw [hp] at hsk
      simp only [Bool.false_eq_true, if_false] at hsk
      cases hp2 : pre2 47 42 ((q ++ r').drop k) with
      | false =>
        rw [hp2] at hsk
        simp only [Bool.false_eq_true, if_false, Prod.mk.injEq, and_true] at hsk
        refine skip_blanks s ?_
        have := span_take_all (p := isBl) (q ++ r')
        rw [hk, hsk, List.take_left' rfl] at this
        exact this
      | true =>
        rw [hp2] at hsk
        simp only [if_true] at hsk
        cases he : endR (((q ++ r').drop k).drop 2) with
        | none => rw [he] at hsk; simp at hsk
        | some i =>
          rw [he] at hsk
          simp only [Prod.mk.injEq] at hsk
          obtain ⟨hq, ho⟩ := hsk
          have hkq : k + (i + 4) ≤ q.length := by omega
          have hkb : spanL isBl (q ++ s) = k := by rw [span_app_lt r' s (by omega), hk]
          have hdq : ∀ y, (q ++ y).drop k = q.drop k ++ y := fun y => drop_app_le (by omega)
          have hql : (q.drop k).length = q.length - k := List.length_drop
          have hd2 : ∀ y, (q.drop k ++ y).drop (i + 4) = q.drop (k + (i + 4)) ++ y := fun y => by
            rw [drop_app_le (by omega), drop_add]
          have hd3 : ∀ y, (q.drop k ++ y).drop 2 = q.drop (k + 2) ++ y := fun y => by
            rw [drop_app_le (by omega), drop_add]
          rw [hdq] at hp hp2 he ho hq
          rw [hd2] at ho hq
          rw [hd3] at he
          have hq4 : (q.drop (k + (i + 4))).length = q.length - (k + (i + 4)) := List.length_drop
          have hrec : skipP (q.drop (k + (i + 4)) ++ r') = ((q.drop (k + (i + 4))).length, true) := by
            refine Prod.ext ?_ ho
            show (skipP (q.drop (k + (i + 4)) ++ r')).1 = _
            omega
          have hes : endR (q.drop (k + 2) ++ s) = some i := endR_app he (by rw [List.length_drop]; omega)
          rw [skipP_unf (q ++ s), hkb]
          simp only [hdq]
          rw [← pre2_app r' s (by omega), hp, ← pre2_app r' s (by omega), hp2, hd3, hes]
          simp only [Bool.false_eq_true, if_false, if_true]
          rw [hd2, ih (q.drop (k + (i + 4))) r' s (by omega) hrec hcond]
          simp only [Prod.mk.injEq, and_true]
          omega
end Go.Ab.Tk

namespace Go.Ab.Tk
open Go

theorem skip_rest : ∀ n (l : L8), l.length < n → ∀ k, skipP l = (k, true) → (match l.drop k with | [] => True | c :: t => isBl c = false ∧ pre2 47 47 (c :: t) = false ∧ pre2 47 42 (c :: t) = false) := by
  intro n
  induction n with
  | zero => intro l h; omega
  | succ n ih =>
    intro l hn k h
    rw [skipP_unf] at h
    simp only at h
    have k1 := spanL_le isBl l
    cases hp : pre2 47 47 (l.drop (spanL isBl l)) with
    | true =>
      rw [hp] at h
      simp only [if_true, Prod.mk.injEq] at h
      have hj := notLF_pos hp
      have := ih ((l.drop (spanL isBl l)).drop (spanL notLF (l.drop (spanL isBl l)))) (by
        have := pre2_len hp
        simp only [List.length_drop] at this ⊢; omega) _ (Prod.ext rfl h.2)
      rw [drop_add, drop_add, ← Nat.add_assoc, h.1] at this
      exact this
    | false =>
      rw [hp] at h
      simp only [Bool.false_eq_true, if_false] at h
      cases hp2 : pre2 47 42 (l.drop (spanL isBl l)) with
      | true =>
        rw [hp2] at h
        simp only [if_true] at h
        cases he : endR ((l.drop (spanL isBl l)).drop 2) with
        | none => rw [he] at h; simp at h
        | some i =>
          rw [he] at h
          simp only [Prod.mk.injEq] at h
          have := ih ((l.drop (spanL isBl l)).drop (i + 4)) (by
            have := pre2_len hp2
            simp only [List.length_drop] at this ⊢; omega) _ (Prod.ext rfl h.2)
          rw [drop_add, drop_add, ← Nat.add_assoc, h.1] at this
          exact this
      | false =>
        rw [hp2] at h
        simp only [Bool.false_eq_true, if_false, Prod.mk.injEq, and_true] at h
        subst h
        cases hd : l.drop (spanL isBl l) with
        | nil => trivial
        | cons c t =>
          rw [hd] at hp hp2
          exact ⟨span_stop hd, hp, hp2⟩
theorem skip_rest' {l : L8} {k : Nat} {c : UInt8} {t : L8} (h : skipP l = (k, true)) (hd : l.drop k = c :: t) : isBl c = false ∧ pre2 47 47 (c :: t) = false ∧ pre2 47 42 (c :: t) = false := by
  have := skip_rest _ l (Nat.lt_succ_self _) k h
  rw [hd] at this
  exact this
theorem pre2_stop {a b : Int} {c : UInt8} {t : L8} {x : UInt8} (hx : stopB x = true) (hb : b = 47 ∨ b = 42) (h : pre2 a b (c :: t) = false) (s : L8) : pre2 a b (c :: t ++ x :: s) = false := by
  cases t with
  | nil =>
    have hxx : (ch x == b) = false := by
      unfold stopB at hx
      simp only [Bool.or_eq_true, beq_iff_eq] at hx
      rw [beq_eq_false_iff_ne]; omega
    simp [pre2, hxx]
  | cons d t => exact h
theorem skip_here {c : UInt8} {t : L8} (h : isBl c = false ∧ pre2 47 47 (c :: t) = false ∧ pre2 47 42 (c :: t) = false) : skipP (c :: t) = (0, true) :=
  skip_stay (by rw [spanL_cons, h.1]; rfl) h.2.1 h.2.2
theorem skip_stop {r : L8} {k : Nat} {c : UInt8} {t : L8} (h : skipP r = (k, true)) (hd : r.drop k = c :: t) {x : UInt8} (hx : stopB x = true) (s : L8) : skipP (r ++ x :: s) = (k, true) := by
  have hr := skip_rest' h hd
  have hk : k ≤ r.length := by
    have := skip_le (r.length + 1) r
    change (skipP r).1 ≤ _ at this
    rw [h] at this; exact this
  have hq : (r.take k).length = k := by rw [List.length_take]; omega
  have e : r = r.take k ++ (c :: t) := by rw [← hd, List.take_append_drop]
  have h1 := skip_app _ (r.take k) (c :: t) (c :: t ++ x :: s) (Nat.lt_succ_self _) (by rw [← e, hq]; exact h) (.inl (List.cons_ne_nil _ _))
  have h2 : skipP (c :: t ++ x :: s) = (0, true) := skip_here (t := t ++ x :: s) ⟨hr.1, pre2_stop hx (.inl rfl) hr.2.1 s, pre2_stop hx (.inr rfl) hr.2.2 s⟩
  have e2 : r.take k ++ (c :: t ++ x :: s) = r ++ x :: s := by
    conv => rhs; rw [e]
    simp
  rw [e2, h2, hq] at h1
  exact h1
theorem is10 : isBl 10 = true := by decide
theorem skip_end {r : L8} (h : skipP r = (r.length, true)) (s : L8) : skipP (r ++ 10 :: s) = (r.length + 1 + (skipP s).1, (skipP s).2) := by
  have h1 := skip_app _ r [] (10 :: s) (Nat.lt_succ_self _) (by rw [List.append_nil]; exact h) (.inr ⟨s, rfl⟩)
  have h2 : skipP (10 :: s) = (1 + (skipP s).1, (skipP s).2) := skip_blanks (q := [10]) s (by simp [is10])
  rw [h1, h2]
  simp only [Prod.mk.injEq, and_true]; omega
theorem scanF_fuel : ∀ n m p out l, l.length < n → l.length < m → scanF n p out l = scanF m p out l := by
  intro n
  induction n with
  | zero => intro m p out l h; omega
  | succ n ih =>
    intro m p out l h1 h2
    cases m with
    | zero => omega
    | succ m =>
      unfold scanF
      split
      · rfl
      · split
        · rfl
        · rename_i hne
          split
          · rfl
          · split
            · rfl
            · rename_i kd j q hN
              have hnn : l.drop (skipP l).1 ≠ [] := fun h => hne (by rw [h]; rfl)
              have hj := nextP_len hnn hN
              rw [List.length_drop] at hj
              exact ih m _ _ _ (by simp only [List.length_drop]; omega) (by simp only [List.length_drop]; omega)
/-- Scanning goes on behind the line feed. -/
theorem scan_lf {b : L8} {N : Nat} (hb : b.length < N) : ∀ n p out r, r.length < n → ∀ m, (r ++ 10 :: b).length < m →
    ((scanF n p out r).2.Code = 0 → scanF m p out (r ++ 10 :: b) = scanF N (p + r.length + 1) (scanF n p out r).1 b) ∧
    ((scanF n p out r).2.Code ≠ 0 → (scanF n p out r).2.Code ≠ 1 → (scanF m p out (r ++ 10 :: b)).2 = (scanF n p out r).2) := by
  intro n
  induction n with
  | zero => intro p out r h; omega
  | succ n ih =>
    intro p out r hn m hm
    cases m with
    | zero => omega
    | succ m =>
      have hk := skip_le (r.length + 1) r
      change (skipP r).1 ≤ _ at hk
      generalize hsk : skipP r = sk at hk
      obtain ⟨k, ok⟩ := sk
      simp only at hk
      cases ok with
      | false =>
        have e : scanF (n + 1) p out r = ([], ⟨1, ((p + k : Nat) : Int)⟩) := by unfold scanF; rw [hsk]; rfl
        rw [e]
        exact ⟨fun h => absurd h (by simp), fun _ h => absurd rfl h⟩
      | true =>
        cases hd : r.drop k with
        | nil =>
          have hkl : k = r.length := by
            have := congrArg List.length hd
            rw [List.length_drop, List.length_nil] at this; omega
          subst hkl
          have e : scanF (n + 1) p out r = (out, ⟨0, 0⟩) := by
            unfold scanF
            rw [hsk]
            simp [hd]
          rw [e]
          refine ⟨fun _ => ?_, fun h => absurd rfl h⟩
          cases N with
          | zero => omega
          | succ N =>
            rw [scanF_fuel (N + 1) (m + 1) _ _ b hb (by simp at hm; omega)]
            have hse := skip_end hsk b
            have hdd : (r ++ 10 :: b).drop (r.length + 1 + (skipP b).1) = b.drop (skipP b).1 := by
              rw [show r.length + 1 + (skipP b).1 = r.length + (1 + (skipP b).1) by omega, ← List.drop_drop]
              simp [Nat.add_comm 1]
            have hpp : p + (r.length + 1 + (skipP b).1) = p + r.length + 1 + (skipP b).1 := by omega
            simp only
            conv => lhs; unfold scanF
            conv => rhs; unfold scanF
            rw [hse]
            simp only [hdd, hpp]
        | cons c t =>
          have hst := skip_stop hsk hd st10 b
          have hkl : k < r.length := by
            have := congrArg List.length hd
            rw [List.length_drop, List.length_cons] at this; omega
          have hdj : (r ++ 10 :: b).drop k = c :: t ++ 10 :: b := by rw [drop_app_le hk, hd]
          have hne1 : ¬ ((c :: t).length = 0) := by simp
          have hne2 : ¬ ((c :: t ++ 10 :: b).length = 0) := by simp
          by_cases h8 : out.length = 800
          · have e1 : scanF (n + 1) p out r = ([], ⟨10, ((p + k : Nat) : Int)⟩) := by
              unfold scanF; rw [hsk]; simp only [hd, Bool.not_true, Bool.false_eq_true, if_false, if_neg hne1, if_pos h8]
            have e2 : scanF (m + 1) p out (r ++ 10 :: b) = ([], ⟨10, ((p + k : Nat) : Int)⟩) := by
              unfold scanF; rw [hst]; simp only [hdj, Bool.not_true, Bool.false_eq_true, if_false, if_neg hne2, if_pos h8]
            rw [e1, e2]
            exact ⟨fun h => absurd h (by simp), fun _ _ => rfl⟩
          · cases hN : nextP (c :: t) with
            | inr e =>
              have e1 : scanF (n + 1) p out r = ([], ⟨e, ((p + k : Nat) : Int)⟩) := by
                unfold scanF; rw [hsk]; simp only [hd, Bool.not_true, Bool.false_eq_true, if_false, if_neg hne1, if_neg h8, hN]
              rw [e1]
              have he := nextP_err hN
              refine ⟨fun h => by simp only at h; omega, fun _ h1 => ?_⟩
              have hN2 := nextP_stop_err st10 b h1 hN
              unfold scanF; rw [hst]; simp only [hdj, Bool.not_true, Bool.false_eq_true, if_false, if_neg hne2, if_neg h8, hN2]
            | inl y =>
              obtain ⟨kd, j, w⟩ := y
              have hj := nextP_len (List.cons_ne_nil c t) hN
              have hN2 := nextP_stop st10 b hN
              have htl : (c :: t).length = r.length - k := by rw [← hd, List.length_drop]
              have ht : (c :: t ++ 10 :: b).take j = (c :: t).take j := List.take_append_of_le_length hj.2
              have hdr : (c :: t ++ 10 :: b).drop j = (c :: t).drop j ++ 10 :: b := drop_app_le hj.2
              have e1 : scanF (n + 1) p out r = scanF n (p + k + j) (out ++ [⟨kd, mkS ((c :: t).take j), w, ((p + k : Nat) : Int)⟩]) ((c :: t).drop j) := by
                conv => lhs; unfold scanF
                rw [hsk]; simp only [hd, Bool.not_true, Bool.false_eq_true, if_false, if_neg hne1, if_neg h8, hN]
              have e2 : scanF (m + 1) p out (r ++ 10 :: b) = scanF m (p + k + j) (out ++ [⟨kd, mkS ((c :: t).take j), w, ((p + k : Nat) : Int)⟩]) ((c :: t).drop j ++ 10 :: b) := by
                conv => lhs; unfold scanF
                rw [hst]; simp only [hdj, Bool.not_true, Bool.false_eq_true, if_false, if_neg hne2, if_neg h8, hN2, ht, hdr]
              rw [e1, e2]
              have := ih (p + k + j) (out ++ [⟨kd, mkS ((c :: t).take j), w, ((p + k : Nat) : Int)⟩]) ((c :: t).drop j) (by rw [List.length_drop]; omega) m (by
                simp only [List.length_append, List.length_drop, List.length_cons] at hm htl ⊢; omega)
              have el : p + k + j + ((c :: t).drop j).length = p + r.length := by rw [List.length_drop]; omega
              rw [el] at this
              exact this
theorem scan_nonempty : ∀ n p out l, l.length < n → out ≠ [] → (scanF n p out l).2.Code = 0 → (scanF n p out l).1 ≠ [] := by
  intro n
  induction n with
  | zero => intro p out l h; omega
  | succ n ih =>
    intro p out l hn ho
    unfold scanF
    split
    · intro h; exact absurd h (by simp)
    · split
      · intro _; exact ho
      · rename_i hne
        split
        · intro h; exact absurd h (by simp)
        · split
          · rename_i e hN
            have := nextP_err hN
            intro h; simp only at h; omega
          · rename_i kd j q hN
            have hnn : l.drop (skipP l).1 ≠ [] := fun h => hne (by rw [h]; rfl)
            have hj := nextP_len hnn hN
            rw [List.length_drop] at hj
            exact ih _ _ _ (by simp only [List.length_drop]; omega) (by simp)
/-- Words farther on. -/
def shT (D : Nat) (t : Tok) : Tok := ⟨t.Kind, t.Text, t.N, t.At + (D : Int)⟩
theorem scan_shift (D : Nat) (T : List Tok) : ∀ n p out l, l.length < n →
    ((scanF n p out l).2.Code = 0 → T.length + (scanF n p out l).1.length ≤ 800 → scanF n (p + D) (T ++ out.map (shT D)) l = (T ++ (scanF n p out l).1.map (shT D), ⟨0, 0⟩)) ∧
    ((scanF n p out l).2.Code ≠ 0 ∨ 800 < T.length + (scanF n p out l).1.length → T.length + out.length ≤ 800 → (scanF n (p + D) (T ++ out.map (shT D)) l).2.Code ≠ 0) := by
  intro n
  induction n with
  | zero => intro p out l h; omega
  | succ n ih =>
    intro p out l hn
    generalize hsk : skipP l = sk
    obtain ⟨k, ok⟩ := sk
    cases ok with
    | false =>
      have e : ∀ p out, scanF (n + 1) p out l = ([], ⟨1, ((p + k : Nat) : Int)⟩) := fun p out => by unfold scanF; rw [hsk]; rfl
      rw [e, e]
      exact ⟨fun h => absurd h (by simp), fun _ _ => by simp⟩
    | true =>
      by_cases hz : (l.drop k).length = 0
      · have e : ∀ p out, scanF (n + 1) p out l = (out, ⟨0, 0⟩) := fun p out => by unfold scanF; rw [hsk]; simp only [Bool.not_true, Bool.false_eq_true, if_false, if_pos hz]
        rw [e, e]
        refine ⟨fun _ _ => rfl, fun h h2 => ?_⟩
        rcases h with h | h
        · exact absurd rfl h
        · simp only at h; omega
      · have hnn : l.drop k ≠ [] := fun h => hz (by rw [h]; rfl)
        have e10 : ∀ p out, out.length = 800 → scanF (n + 1) p out l = ([], ⟨10, ((p + k : Nat) : Int)⟩) := fun p out h8 => by unfold scanF; rw [hsk]; simp only [Bool.not_true, Bool.false_eq_true, if_false, if_neg hz, if_pos h8]
        cases hN : nextP (l.drop k) with
        | inr e =>
          have he := nextP_err hN
          have ee : ∀ p out, (scanF (n + 1) p out l).2.Code ≠ 0 := fun p out => by
            by_cases h8 : out.length = 800
            · rw [e10 p out h8]; simp
            · unfold scanF; rw [hsk]; simp only [Bool.not_true, Bool.false_eq_true, if_false, if_neg hz, if_neg h8, hN]; omega
          exact ⟨fun h => absurd h (ee _ _), fun _ _ => ee _ _⟩
        | inl y =>
          obtain ⟨kd, j, w⟩ := y
          have hj := nextP_len hnn hN
          rw [List.length_drop] at hj
          have e1 : ∀ p out, out.length ≠ 800 → scanF (n + 1) p out l = scanF n (p + k + j) (out ++ [⟨kd, mkS ((l.drop k).take j), w, ((p + k : Nat) : Int)⟩]) ((l.drop k).drop j) := fun p out h8 => by
            conv => lhs; unfold scanF
            rw [hsk]; simp only [Bool.not_true, Bool.false_eq_true, if_false, if_neg hz, if_neg h8, hN]
          have hge : ∀ n p out l, out.length ≤ (scanF n p out l).1.length ∨ (scanF n p out l).1 = [] := by
            intro n
            induction n with
            | zero => intro p out l; exact .inr rfl
            | succ n ih2 =>
              intro p out l
              unfold scanF
              split
              · exact .inr rfl
              · split
                · exact .inl (Nat.le_refl _)
                · split
                  · exact .inr rfl
                  · split
                    · exact .inr rfl
                    · rename_i kd' j' w' _
                      rcases ih2 (p + (skipP l).1 + j') (out ++ [⟨kd', mkS ((l.drop (skipP l).1).take j'), w', ((p + (skipP l).1 : Nat) : Int)⟩]) ((l.drop (skipP l).1).drop j') with h | h
                      · exact .inl (by rw [List.length_append, List.length_singleton] at h; omega)
                      · exact .inr h
          by_cases h8 : out.length = 800
          · rw [e10 p out h8]
            refine ⟨fun h => absurd h (by simp), fun _ h2 => ?_⟩
            have hT : T = [] := List.length_eq_zero_iff.1 (by omega)
            subst hT
            rw [List.nil_append, e10 _ _ (by rw [List.length_map]; exact h8)]; simp
          · rw [e1 p out h8]
            have hi := ih (p + k + j) (out ++ [⟨kd, mkS ((l.drop k).take j), w, ((p + k : Nat) : Int)⟩]) ((l.drop k).drop j) (by simp only [List.length_drop]; omega)
            by_cases h9 : (T ++ out.map (shT D)).length = 800
            · rw [e10 _ _ h9]
              refine ⟨fun hc hl => ?_, fun _ _ => by simp⟩
              exfalso
              simp at h9
              rcases hge n (p + k + j) (out ++ [⟨kd, mkS ((l.drop k).take j), w, ((p + k : Nat) : Int)⟩]) ((l.drop k).drop j) with h | h
              · rw [List.length_append, List.length_singleton] at h
                omega
              · exact scan_nonempty n _ _ _ (by simp only [List.length_drop]; omega) (by simp) hc h
            · rw [e1 _ _ h9]
              have em : T ++ out.map (shT D) ++ [(⟨kd, mkS ((l.drop k).take j), w, ((p + D + k : Nat) : Int)⟩ : Tok)] = T ++ (out ++ [(⟨kd, mkS ((l.drop k).take j), w, ((p + k : Nat) : Int)⟩ : Tok)]).map (shT D) := by
                rw [List.map_append, List.append_assoc]
                congr 2
                show _ = [shT D _]
                unfold shT
                simp only [List.cons.injEq, and_true, XApi_Token.mk.injEq, true_and]
                omega
              have ep : p + D + k + j = p + k + j + D := by omega
              rw [em, ep]
              refine ⟨hi.1, fun h h2 => hi.2 h ?_⟩
              simp at h9 ⊢; omega
end Go.Ab.Tk

namespace Go.Ab.Tk
open Go

theorem chain_at {L : L8} : ∀ {e : Nat} {ts : List Tok}, Chain L e ts → ∀ t ∈ ts, 0 ≤ t.At ∧ t.At ≤ (L.length : Int)
  | _, [], _, t, h => by cases h
  | _, u :: ts, ⟨p, j, h1, _, h3, _, _, h6⟩, t, ht => by
    rcases List.mem_cons.1 ht with rfl | ht
    · rw [h1]
      have : p < L.length := by
        rcases Nat.lt_or_ge p L.length with h | h
        · exact h
        · exact absurd (List.drop_eq_nil_of_le h) h3
      omega
    · exact chain_at h6 t ht
theorem scanP_chain {L : L8} (h : (scanP L).2.Code = 0) : Chain L 0 (scanP L).1 := by
  unfold scanP at h ⊢
  by_cases h2 : 2000 < L.length
  · simp [h2] at h
  · simp only [h2, decide_false, Bool.false_eq_true, if_false] at h ⊢
    obtain ⟨ts, h3, h4⟩ := scanF_chain (L := L) (L.length + 1) 0 [] (by simp) (by rw [List.drop_zero]; exact h)
    rw [List.drop_zero] at h3
    rw [h3]; exact h4
theorem scanP_small {L : L8} (h : L.length ≤ 2000) : scanP L = scanF (L.length + 1) 0 [] L := by
  unfold scanP
  rw [if_neg (by simp only [decide_eq_true_eq]; omega)]
theorem join_loop {a : ByteArray} {x3 : List Tok × Flt} (ha : a.size ≤ 4000) (h3 : x3.1.length ≤ 800) (hat : ∀ t ∈ x3.1, 0 ≤ t.At ∧ t.At ≤ 4000) {s0 : List Tok} (hs : s0.length ≤ 800) :
    Loop (fun (s : ((List XApi_Token) × Int)) => law1_TokenJoin_L1 a x3 s.1 s.2) (s0, 0) = some (s0 ++ x3.1.map (shT (a.size + 1))) := by
  have := Loop_run (l := x3.1) (fun (s : List Tok) i => (s, i)) (fun _ s x => (.inr (s ++ [shT (a.size + 1) x]) : List Tok ⊕ List Tok)) (fun s => s) (fun i s => s.length = s0.length + i) (step := fun (s : ((List XApi_Token) × Int)) => law1_TokenJoin_L1 a x3 s.1 s.2) (fun i s hi hI => by
    simp only
    refine ⟨?_, by simp [hI]; omega⟩
    unfold law1_TokenJoin_L1
    have ht := hat _ (List.getElem_mem hi)
    have e1 : w64 (w64 ((x3.1[i]).At + (a.size : Int)) + 1) = (x3.1[i]).At + ((a.size + 1 : Nat) : Int) := by
      rw [w64_id (n := (x3.1[i]).At + (a.size : Int)) (by omega) (by omega), w64_id (by omega) (by omega)]; omega
    rw [if_pos (by simp only [decide_eq_true_eq]; omega), idx_lt hi, Option.bind_some, w64_succ (by omega), e1]
    have ea : ∀ y : Tok, app s [y] = some (s ++ [y]) := fun y => by unfold app; rw [if_pos (by simp; omega)]
    rw [ea]; rfl) (fun s hI => by
    simp only
    unfold law1_TokenJoin_L1
    rw [if_neg (by simp)]) (s0 := s0) rfl
  rw [this]
  congr 1
  have key : ∀ (l : List Tok) (i : Nat) (s : List Tok), run (fun _ s x => (.inr (s ++ [shT (a.size + 1) x]) : List Tok ⊕ List Tok)) (fun s => s) i s l = s ++ l.map (shT (a.size + 1)) := by
    intro l
    induction l with
    | nil => intro i s; simp [run]
    | cons x l ih => intro i s; simp only [run]; rw [ih]; simp
  rw [key]
theorem tokenJoin_true (a b : ByteArray) (ha : a.size ≤ 1000000000000000) (hb : b.size ≤ 1000000000000000) : law1_TokenJoin a b = some true := by
  unfold law1_TokenJoin
  rw [fact_true, Option.bind_some]
  simp only [Bool.not_true, Bool.false_eq_true, if_false]
  have ew : w64 ((a.size : Int) + (b.size : Int)) = ((a.size + b.size : Nat) : Int) := by rw [w64_id (by omega) (by omega)]; omega
  rw [ew]
  by_cases h19 : 1900 < a.size + b.size
  · rw [if_pos (by simp only [decide_eq_true_eq]; omega)]
  · rw [if_neg (by simp only [decide_eq_true_eq]; omega)]
    have hal : (bl a).length = a.size := (size_bl a).symm
    have hbl : (bl b).length = b.size := (size_bl b).symm
    have c1 : catS a (ByteArray.mk #[10]) = some (mkS (bl a ++ [10])) := catS_ok (by show _ + 1 ≤ _; omega)
    have c2 : catS (mkS (bl a ++ [10])) b = some (mkS (bl a ++ 10 :: bl b)) := by
      rw [catS_ok (by rw [size_mkS]; simp; omega), bl_mkS]
      simp
    rw [tok_scan_all a, tok_scan_all b, Option.bind_some, Option.bind_some, c1, Option.bind_some, c2, Option.bind_some, tok_scan_all, Option.bind_some, bl_mkS]
    have hj : (bl a ++ 10 :: bl b).length = a.size + b.size + 1 := by simp [hal, hbl]; omega
    have sa := scanP_small (L := bl a) (by omega)
    have sb := scanP_small (L := bl b) (by omega)
    have sj := scanP_small (L := bl a ++ 10 :: bl b) (by omega)
    obtain ⟨l1, l2⟩ := scan_lf (b := bl b) (N := (bl b).length + 1) (Nat.lt_succ_self _) ((bl a).length + 1) 0 [] (bl a) (Nat.lt_succ_self _) ((bl a ++ 10 :: bl b).length + 1) (Nat.lt_succ_self _)
    rw [← sa, ← sj] at l1 l2
    by_cases hc : (scanP (bl a)).2.Code = 0
    · have e0 : ((scanP (bl a)).2.Code != 0) = false := by rw [hc]; rfl
      rw [e0, if_neg (by simp)]
      have h1 := l1 hc
      have hla := scanP_len (bl a)
      have hlb := scanP_len (bl b)
      obtain ⟨m1, m2⟩ := scan_shift ((bl a).length + 1) (scanP (bl a)).1 ((bl b).length + 1) 0 [] (bl b) (Nat.lt_succ_self _)
      rw [← sb] at m1 m2
      have e1 : (0 + ((bl a).length + 1)) = 0 + (bl a).length + 1 := by omega
      rw [e1] at m1 m2
      simp only [List.map_nil, List.append_nil] at m1 m2
      rw [← h1] at m1 m2
      have ew2 : w64 (((scanP (bl a)).1.length : Int) + ((scanP (bl b)).1.length : Int)) = (((scanP (bl a)).1.length + (scanP (bl b)).1.length : Nat) : Int) := by rw [w64_id (by omega) (by omega)]; omega
      rw [ew2]
      by_cases hbad : (scanP (bl b)).2.Code ≠ 0 ∨ 800 < (scanP (bl a)).1.length + (scanP (bl b)).1.length
      · have e2 : (if ((scanP (bl b)).2.Code != 0) = true then true else decide ((800 : Int) < (((scanP (bl a)).1.length + (scanP (bl b)).1.length : Nat) : Int))) = true := by
          rw [ite_or, Bool.or_eq_true]
          rcases hbad with h | h
          · left; simpa using h
          · right; simp only [decide_eq_true_eq]; omega
        rw [e2, if_pos rfl]
        have := m2 hbad (by simp; omega)
        simpa using this
      · have hb0 : (scanP (bl b)).2.Code = 0 := by
          by_cases h : (scanP (bl b)).2.Code = 0
          · exact h
          · exact absurd (.inl h) hbad
        have hb8 : ¬ (800 < (scanP (bl a)).1.length + (scanP (bl b)).1.length) := fun h => hbad (.inr h)
        have e2 : (if ((scanP (bl b)).2.Code != 0) = true then true else decide ((800 : Int) < (((scanP (bl a)).1.length + (scanP (bl b)).1.length : Nat) : Int))) = false := by
          rw [ite_or, Bool.or_eq_false_iff]
          exact ⟨by rw [hb0]; rfl, by simp only [decide_eq_false_iff_not]; omega⟩
        rw [e2, if_neg (by simp)]
        have hm1 := m1 hb0 (by omega)
        have ea : app [] (scanP (bl a)).1 = some (scanP (bl a)).1 := by unfold app; rw [if_pos (by simp; omega)]; simp
        have hch := scanP_chain hb0
        rw [ea, Option.bind_some, join_loop (by omega) hlb (fun t ht => by
          have := chain_at hch t ht
          omega) hla, Option.bind_some, hm1]
        rw [hal, same_tokens (by simp; omega)]
        simp
    · have e0 : ((scanP (bl a)).2.Code != 0) = true := by simpa using hc
      rw [e0, if_pos rfl]
      by_cases h1 : (scanP (bl a)).2.Code = 1
      · rw [h1]; rfl
      · rw [l2 hc h1]
        simp
end Go.Ab.Tk
