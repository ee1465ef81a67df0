/-
  PLAIN LAWS (words): what says nothing, set before something else.
-/
import Derived.Test.YtkgjhnmpcnjooaaDoorAbK15
namespace Go.Ab.Tk
open Go

theorem span_app_all {p : UInt8 → Bool} : ∀ {q : L8} (s : L8), q.all p = true → spanL p (q ++ s) = q.length + spanL p s
  | [], s, _ => by simp
  | c :: q, s, h => by
    simp only [List.all_cons, Bool.and_eq_true] at h
    rw [List.cons_append, spanL_cons, h.1, if_pos rfl, span_app_all s h.2, List.length_cons]; omega
/-- A span that ends within q. -/
theorem span_app_lt {p : UInt8 → Bool} : ∀ {q : L8} (s s' : L8), spanL p (q ++ s) < q.length → spanL p (q ++ s') = spanL p (q ++ s)
  | [], _, _, h => by simp at h
  | c :: q, s, s', h => by
    rw [List.cons_append, spanL_cons] at h ⊢
    rw [List.cons_append, spanL_cons]
    cases hc : p c with
    | false => rfl
    | true =>
      rw [hc, if_pos rfl, List.length_cons] at h
      rw [if_pos rfl, if_pos rfl, span_app_lt s s' (by omega)]
theorem span_take_all {p : UInt8 → Bool} : ∀ (l : L8), (l.take (spanL p l)).all p = true
  | [] => by simp [spanL]
  | c :: l => by
    rw [spanL_cons]
    cases hc : p c with
    | false => simp
    | true => simp [hc, span_take_all l]
theorem span_stop {p : UInt8 → Bool} : ∀ {l : L8} {c : UInt8} {t : L8}, l.drop (spanL p l) = c :: t → p c = false
  | [], c, t, h => by simp [spanL] at h
  | x :: l, c, t, h => by
    rw [spanL_cons] at h
    cases hx : p x with
    | true => rw [hx, if_pos rfl, List.drop_succ_cons] at h; exact span_stop h
    | false =>
      rw [hx, if_neg (by simp), List.drop_zero] at h
      simp only [List.cons.injEq] at h
      rw [← h.1]; exact hx
theorem endR_app : ∀ {x : L8} {y y' : L8} {i : Nat}, endR (x ++ y) = some i → i + 2 ≤ x.length → endR (x ++ y') = some i
  | [], _, _, _, _, h => by simp at h
  | [_], _, _, _, _, h => by simp at h
  | c :: d :: x, y, y', i, h, hl => by
    simp only [List.cons_append] at h ⊢
    unfold endR at h ⊢
    split at h
    · rename_i hc; rw [if_pos hc]; exact h
    · rename_i hc; rw [if_neg hc]
      simp only [Option.map_eq_some_iff] at h ⊢
      obtain ⟨j, hj, rfl⟩ := h
      exact ⟨j, by
        have := endR_app (x := d :: x) (y := y) (y' := y') (i := j) (by simpa using hj) (by simp at hl ⊢; omega)
        simpa using this, rfl⟩
theorem pre2_app {a b : Int} {q : L8} (s s' : L8) (h : 2 ≤ q.length) : pre2 a b (q ++ s) = pre2 a b (q ++ s') := by
  match q, h with
  | c :: d :: q, _ => rfl
theorem drop_app_le {q s : L8} {k : Nat} (h : k ≤ q.length) : (q ++ s).drop k = q.drop k ++ s := List.drop_append_of_le_length h
theorem skipP_eq (l : L8) (n : Nat) (h : l.length < n) : skipF n l = skipP l := skip_fuel _ _ _ h (Nat.lt_succ_self _)
theorem skipP_unf (l : L8) : skipP l = (let k := spanL isBl l; let r := l.drop k;
    if pre2 47 47 r then (k + spanL notLF r + (skipP (r.drop (spanL notLF r))).1, (skipP (r.drop (spanL notLF r))).2)
    else if pre2 47 42 r then (match endR (r.drop 2) with
      | none => (k, false)
      | some i => (k + (i + 4) + (skipP (r.drop (i + 4))).1, (skipP (r.drop (i + 4))).2))
    else (k, true)) := by
  have k1 := spanL_le isBl l
  conv => lhs; unfold skipP skipF
  simp only
  cases hp : pre2 47 47 (l.drop (spanL isBl l)) with
  | true =>
    have := notLF_pos hp
    have k2 := spanL_le notLF (l.drop (spanL isBl l))
    rw [List.length_drop] at k2
    simp only [if_true]
    rw [skipP_eq _ _ (by simp only [List.length_drop]; omega)]
  | false =>
    simp only [Bool.false_eq_true, if_false]
    cases hp2 : pre2 47 42 (l.drop (spanL isBl l)) with
    | false => rfl
    | true =>
      simp only [if_true]
      cases he : endR ((l.drop (spanL isBl l)).drop 2) with
      | none => rfl
      | some i =>
        have h3 := endR_le he
        simp only [List.length_drop] at h3
        simp only
        rw [skipP_eq _ _ (by simp only [List.length_drop]; omega)]
/-- Blanks before something. -/
theorem skip_blanks {q : L8} (s : L8) (hq : q.all isBl = true) : skipP (q ++ s) = (q.length + (skipP s).1, (skipP s).2) := by
  rw [skipP_unf (q ++ s), skipP_unf s, span_app_all s hq]
  have hd : (q ++ s).drop (q.length + spanL isBl s) = s.drop (spanL isBl s) := by
    rw [← List.drop_drop]; simp
  simp only [hd]
  split
  · simp only [Prod.mk.injEq, and_true]; omega
  · split
    · cases endR ((s.drop (spanL isBl s)).drop 2) with
      | none => rfl
      | some i => simp only [Prod.mk.injEq, and_true]; omega
    · rfl
/-- THE RULE: what says nothing in one place says nothing in another; a remark to the line's end must end. -/
theorem skip_app : ∀ n (q r' s : L8), q.length < n → skipP (q ++ r') = (q.length, true) → (r' ≠ [] ∨ ∃ s', s = 10 :: s') → skipP (q ++ s) = (q.length + (skipP s).1, (skipP s).2) := by
  intro n
  induction n with
  | zero => intro q r' s h; omega
  | succ n ih =>
    intro q r' s hn hsk hcond
    rw [skipP_unf] at hsk
    simp only at hsk
    generalize hk : spanL isBl (q ++ r') = k at hsk
    cases hp : pre2 47 47 ((q ++ r').drop k) with
    | true =>
      rw [hp] at hsk
      simp only [if_true, Prod.mk.injEq] at hsk
      obtain ⟨hq, ho⟩ := hsk
      generalize hj : spanL notLF ((q ++ r').drop k) = j at hq ho
      have hj0 := notLF_pos hp
      rw [hj] at hj0
      have hj2 : 2 ≤ j := by
        cases hd : (q ++ r').drop k with
        | nil => rw [hd] at hp; cases hp
        | cons c t =>
          cases t with
          | nil => rw [hd] at hp; cases hp
          | cons d t =>
            rw [hd] at hp hj
            simp only [pre2, Bool.and_eq_true, beq_iff_eq] at hp
            have h1 : notLF c = true := by unfold notLF; rw [hp.1]; rfl
            have h2 : notLF d = true := by unfold notLF; rw [hp.2]; rfl
            rw [spanL_cons, h1, if_pos rfl, spanL_cons, h2, if_pos rfl] at hj
            omega
      have hkq : k + j ≤ q.length := by omega
      have hkb : spanL isBl (q ++ s) = k := by rw [span_app_lt r' s (by omega), hk]
      have hdq : ∀ y, (q ++ y).drop k = q.drop k ++ y := fun y => drop_app_le (by omega)
      rw [hdq] at hp hj ho hq
      have hd2 : ∀ y, (q.drop k ++ y).drop j = q.drop (k + j) ++ y := fun y => by
        rw [drop_app_le (by rw [List.length_drop]; omega), drop_add]
      rw [hd2] at ho hq
      have hql : (q.drop (k + j)).length = q.length - (k + j) := List.length_drop
      have hrec : skipP (q.drop (k + j) ++ r') = ((q.drop (k + j)).length, true) := by
        refine Prod.ext ?_ ho
        show (skipP (q.drop (k + j) ++ r')).1 = _
        omega
      have hjs : spanL notLF (q.drop k ++ s) = j := by
        rcases Nat.lt_or_ge j (q.drop k).length with hlt | hge
        · rw [span_app_lt r' s (by rw [hj]; exact hlt), hj]
        · have he : j = (q.drop k).length := by rw [List.length_drop] at hge ⊢; omega
          have hall : (q.drop k).all notLF = true := by
            have := span_take_all (p := notLF) (q.drop k ++ r')
            rw [hj, he, List.take_left'] at this
            · exact this
            · rfl
          have hq0 : q.drop (k + j) = [] := List.drop_eq_nil_of_le (by rw [List.length_drop] at he; omega)
          rw [span_app_all s hall]
          rcases hcond with hr | ⟨s', rfl⟩
          · exfalso
            cases hr' : r' with
            | nil => exact hr hr'
            | cons c t =>
              have h1 : notLF c = false := span_stop (l := q.drop k ++ r') (t := t) (by rw [hj, hd2, hq0, hr']; rfl)
              rw [hq0, hr', List.nil_append] at hrec
              have hc : isBl c = true := by
                unfold notLF at h1
                have : ch c = 10 := by simpa using h1
                unfold isBl; rw [this]; rfl
              have h2 := congrArg Prod.fst hrec
              rw [skipP_unf] at h2
              simp only [List.length_nil] at h2
              rw [spanL_cons, hc, if_pos rfl] at h2
              split at h2
              · simp only at h2; omega
              · split at h2
                · split at h2 <;> (simp only at h2; omega)
                · simp only at h2; omega
          · have : spanL notLF (10 :: s') = 0 := by rw [spanL_cons]; rfl
            rw [this]; omega
      rw [skipP_unf (q ++ s), hkb]
      simp only [hdq]
      rw [← pre2_app r' s (by rw [List.length_drop]; omega), hp, hjs, hd2]
      simp only [if_true]
      rw [ih (q.drop (k + j)) r' s (by omega) hrec hcond]
      simp only [Prod.mk.injEq, and_true]
      omega
    | false =>
      rw [hp] at hsk
      simp only [Bool.false_eq_true, if_false] at hsk
      cases hp2 : pre2 47 42 ((q ++ r').drop k) with
      | false =>
        rw [hp2] at hsk
        simp only [Bool.false_eq_true, if_false, Prod.mk.injEq, and_true] at hsk
        refine skip_blanks s ?_
        have := span_take_all (p := isBl) (q ++ r')
        rw [hk, hsk, List.take_left' rfl] at this
        exact this
      | true =>
        rw [hp2] at hsk
        simp only [if_true] at hsk
        cases he : endR (((q ++ r').drop k).drop 2) with
        | none => rw [he] at hsk; simp at hsk
        | some i =>
          rw [he] at hsk
          simp only [Prod.mk.injEq] at hsk
          obtain ⟨hq, ho⟩ := hsk
          have hkq : k + (i + 4) ≤ q.length := by omega
          have hkb : spanL isBl (q ++ s) = k := by rw [span_app_lt r' s (by omega), hk]
          have hdq : ∀ y, (q ++ y).drop k = q.drop k ++ y := fun y => drop_app_le (by omega)
          have hql : (q.drop k).length = q.length - k := List.length_drop
          have hd2 : ∀ y, (q.drop k ++ y).drop (i + 4) = q.drop (k + (i + 4)) ++ y := fun y => by
            rw [drop_app_le (by omega), drop_add]
          have hd3 : ∀ y, (q.drop k ++ y).drop 2 = q.drop (k + 2) ++ y := fun y => by
            rw [drop_app_le (by omega), drop_add]
          rw [hdq] at hp hp2 he ho hq
          rw [hd2] at ho hq
          rw [hd3] at he
          have hq4 : (q.drop (k + (i + 4))).length = q.length - (k + (i + 4)) := List.length_drop
          have hrec : skipP (q.drop (k + (i + 4)) ++ r') = ((q.drop (k + (i + 4))).length, true) := by
            refine Prod.ext ?_ ho
            show (skipP (q.drop (k + (i + 4)) ++ r')).1 = _
            omega
          have hes : endR (q.drop (k + 2) ++ s) = some i := endR_app he (by rw [List.length_drop]; omega)
          rw [skipP_unf (q ++ s), hkb]
          simp only [hdq]
          rw [← pre2_app r' s (by omega), hp, ← pre2_app r' s (by omega), hp2, hd3, hes]
          simp only [Bool.false_eq_true, if_false, if_true]
          rw [hd2, ih (q.drop (k + (i + 4))) r' s (by omega) hrec hcond]
          simp only [Prod.mk.injEq, and_true]
          omega
end Go.Ab.Tk
