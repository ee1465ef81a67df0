/-
  PLAIN LAWS (words): a word stays what it is, whatever stands behind a blank.
-/
import Derived.Test.YtkgjhnmpcnjooaaDoorAbK12
namespace Go.Ab.Tk
open Go

/-- A byte that ends every word: a blank or a line feed. -/
def stopB (x : UInt8) : Bool := ch x == 32 || ch x == 10
theorem stop_not : ∀ x, (!stopB x || (!isBoth x && isBl x && !(S3 ++ (S2 ++ S1)).any fun g => g.contains x)) = true := all256 (by decide +kernel)
theorem stop_facts {x : UInt8} (h : stopB x = true) : isBoth x = false ∧ isBl x = true ∧ ∀ g ∈ S3 ++ (S2 ++ S1), g.contains x = false := by
  have := stop_not x
  rw [h] at this
  simp only [Bool.not_true, Bool.false_or, Bool.and_eq_true, Bool.not_eq_true'] at this
  obtain ⟨⟨h1, h2⟩, h3⟩ := this
  exact ⟨h1, h2, fun g hg => by
    have := List.any_eq_false.1 h3 g hg
    simpa using this⟩
theorem tw_stop {x : UInt8} (hx : isBoth x = false) (s : L8) : ∀ r : L8, (r ++ x :: s).takeWhile isBoth = r.takeWhile isBoth
  | [] => by rw [List.nil_append, List.takeWhile_cons, hx]; rfl
  | c :: r => by
    rw [List.cons_append, List.takeWhile_cons, List.takeWhile_cons, tw_stop hx s r]
theorem gk_stop {G : List L8} {k : Nat} {x : UInt8} (hG : ∀ g ∈ G, g.contains x = false) (r s : L8) : gk G k (r ++ x :: s) = gk G k r := by
  unfold gk
  by_cases hk : k ≤ r.length
  · have h1 : k ≤ (r ++ x :: s).length := by simp; omega
    rw [List.take_append_of_le_length hk, decide_eq_true hk, decide_eq_true h1]
  · have h2 : G.contains ((r ++ x :: s).take k) = false := by
      rw [Bool.eq_false_iff]
      intro hc
      have := hG _ (List.contains_iff_mem.1 hc)
      rw [List.take_append] at this
      obtain ⟨m, hm⟩ : ∃ m, k - r.length = m + 1 := ⟨k - r.length - 1, by omega⟩
      rw [hm, List.take_succ_cons] at this
      simp at this
    rw [h2, decide_eq_false hk, Bool.and_false]; rfl
theorem signP_stop {x : UInt8} (hx : stopB x = true) (r s : L8) : signP (r ++ x :: s) = signP r := by
  have h := (stop_facts hx).2.2
  unfold signP
  rw [gk_stop (fun g hg => h g (by simp [hg])), gk_stop (fun g hg => h g (by simp [hg])), gk_stop (fun g hg => h g (by simp [hg]))]
theorem quoP_app {r : L8} {n : Int} {k : Nat} (h : quoP r = some (n, k)) (s : L8) : quoP (r ++ s) = some (n, k) := by
  match r with
  | [] => cases h
  | [_] => cases h
  | [_, _] => cases h
  | [a, b, c] =>
    simp only [quoP] at h
    split at h
    · rename_i hc
      show quoP (a :: b :: c :: s) = _
      simp only [quoP, hc, if_true]; exact h
    · cases h
  | a :: b :: c :: d :: r =>
    show quoP (a :: b :: c :: d :: (r ++ s)) = _
    simp only [quoP] at h ⊢
    exact h
theorem nextP_stop {a : UInt8} {t : L8} {x : UInt8} (hx : stopB x = true) (s : L8) {y : Int × Nat × Int} (h : nextP (a :: t) = .inl y) : nextP (a :: t ++ x :: s) = .inl y := by
  have hb := (stop_facts hx).1
  rw [List.cons_append]
  rw [nextP_cons] at h ⊢
  have e : (a :: (t ++ x :: s)).takeWhile isBoth = (a :: t).takeWhile isBoth := tw_stop hb s (a :: t)
  rw [e]
  split at h
  · rename_i hl; rw [if_pos hl]; exact h
  · rename_i hl; rw [if_neg hl]
    split at h
    · rename_i hd; rw [if_pos hd]; exact h
    · rename_i hd; rw [if_neg hd]
      split at h
      · rename_i hq; rw [if_pos hq]
        split at h
        · rename_i n k hqp
          have := quoP_app hqp (x :: s)
          rw [List.cons_append] at this
          rw [this]; exact h
        · cases h
      · rename_i hq; rw [if_neg hq]
        have := signP_stop hx (a :: t) s
        rw [List.cons_append] at this
        rw [this]; exact h
/-- Errors but 'no word' stay, too. -/
theorem nextP_stop_err {a : UInt8} {t : L8} {x : UInt8} (hx : stopB x = true) (s : L8) {e : Int} (he : e ≠ 1) (h : nextP (a :: t) = .inr e) : nextP (a :: t ++ x :: s) = .inr e := by
  have hb := (stop_facts hx).1
  rw [List.cons_append]
  rw [nextP_cons] at h ⊢
  have e1 : (a :: (t ++ x :: s)).takeWhile isBoth = (a :: t).takeWhile isBoth := tw_stop hb s (a :: t)
  rw [e1]
  split at h
  · rename_i hl; rw [if_pos hl]; exact h
  · rename_i hl; rw [if_neg hl]
    split at h
    · rename_i hd; rw [if_pos hd]; exact h
    · rename_i hd; rw [if_neg hd]
      split at h
      · split at h
        · cases h
        · simp only [Sum.inr.injEq] at h; exact absurd h.symm he
      · split at h
        · cases h
        · simp only [Sum.inr.injEq] at h; exact absurd h.symm he
theorem tw_idem (r : L8) : (r.takeWhile isBoth).takeWhile isBoth = r.takeWhile isBoth := by
  have h := tw_all r
  generalize r.takeWhile isBoth = w at h
  induction w with
  | nil => rfl
  | cons c w ih =>
    simp only [List.all_cons, Bool.and_eq_true] at h
    rw [List.takeWhile_cons, if_pos h.1, ih h.2]
theorem gk_self {G : List L8} {k : Nat} {s : L8} (hk : s.length = k) (hc : G.contains s = true) : gk G k s = some s := by
  unfold gk
  have : s.take k = s := List.take_of_length_le (by omega)
  rw [this, hc]
  simp; omega
theorem gk_short {G : List L8} {k : Nat} {s : L8} (hk : s.length < k) : gk G k s = none := by
  unfold gk
  have : decide (k ≤ s.length) = false := by simp only [decide_eq_false_iff_not]; omega
  rw [this]; rfl
theorem signP_self {r s : L8} (h : signP r = some s) : signP s = some s ∧ (S3 ++ (S2 ++ S1)).contains s = true := by
  unfold signP at h ⊢
  cases h3 : gk S3 3 r with
  | some t =>
    rw [h3, Option.some_or] at h
    obtain rfl := Option.some.inj h
    obtain ⟨_, _, hl, hc⟩ := gk_eq h3
    rw [gk_self hl hc]
    refine ⟨rfl, ?_⟩
    rw [List.contains_iff_mem] at hc ⊢; simp [hc]
  | none =>
    rw [h3, Option.none_or] at h
    cases h2 : gk S2 2 r with
    | some t =>
      rw [h2, Option.some_or] at h
      obtain rfl := Option.some.inj h
      obtain ⟨_, _, hl, hc⟩ := gk_eq h2
      rw [gk_short (by omega), gk_self hl hc]
      refine ⟨rfl, ?_⟩
      rw [List.contains_iff_mem] at hc ⊢; simp [hc]
    | none =>
      rw [h2, Option.none_or] at h
      obtain ⟨_, _, hl, hc⟩ := gk_eq h
      rw [gk_short (by omega), gk_short (by omega), gk_self hl hc]
      refine ⟨rfl, ?_⟩
      rw [List.contains_iff_mem] at hc ⊢; simp [hc]
theorem quoP_take {r : L8} {n : Int} {k : Nat} (h : quoP r = some (n, k)) : quoP (r.take k) = some (n, k) := by
  match r with
  | [] => cases h
  | [_] => cases h
  | [_, _] => cases h
  | a :: b :: c :: r =>
    simp only [quoP] at h
    split at h
    · rename_i hc
      simp only [Option.some.injEq, Prod.mk.injEq] at h
      obtain ⟨rfl, rfl⟩ := h
      show quoP [a, b, c] = _
      simp only [quoP, hc, if_true]
    · rename_i hc
      match r with
      | [] => cases h
      | d :: r =>
        simp only at h
        split at h
        · rename_i hd
          simp only [Option.map_eq_some_iff, Prod.mk.injEq] at h
          obtain ⟨m, hm, rfl, rfl⟩ := h
          show quoP [a, b, c, d] = _
          simp only [quoP, if_neg hc, if_pos hd, hm, Option.map_some]
        · cases h
/-- A word by itself. -/
theorem nextP_take {a : UInt8} {t : L8} {kd n : Int} {j : Nat} (h : nextP (a :: t) = .inl (kd, j, n)) : nextP ((a :: t).take j) = .inl (kd, j, n) := by
  have hj := nextP_len (List.cons_ne_nil a t) h
  obtain ⟨i, rfl⟩ : ∃ i, j = i + 1 := ⟨j - 1, by omega⟩
  rw [List.take_succ_cons]
  rw [nextP_cons] at h ⊢
  have hw : ((a :: t).takeWhile isBoth).length = i + 1 → a :: t.take i = (a :: t).takeWhile isBoth := fun hl => by
    have := take_spanL isBoth (a :: t)
    unfold spanL at this
    rw [hl, List.take_succ_cons] at this
    exact this
  split at h
  · rename_i hl; rw [if_pos hl]
    have hlen : ((a :: t).takeWhile isBoth).length = i + 1 := by
      split at h
      · simp only [Sum.inl.injEq, Prod.mk.injEq] at h; exact h.2.1
      · split at h
        · simp only [Sum.inl.injEq, Prod.mk.injEq] at h; exact h.2.1
        · cases h
    rw [hw hlen, tw_idem]; exact h
  · rename_i hl; rw [if_neg hl]
    split at h
    · rename_i hd; rw [if_pos hd]
      have hlen : ((a :: t).takeWhile isBoth).length = i + 1 := by
        split at h
        · simp only [Sum.inl.injEq, Prod.mk.injEq] at h; exact h.2.1
        · split at h <;> cases h
      rw [hw hlen, tw_idem]; exact h
    · rename_i hd; rw [if_neg hd]
      split at h
      · rename_i hq; rw [if_pos hq]
        split at h
        · rename_i n' k hqp
          simp only [Sum.inl.injEq, Prod.mk.injEq] at h
          obtain ⟨rfl, rfl, rfl⟩ := h
          have := quoP_take hqp
          rw [List.take_succ_cons] at this
          rw [this]
        · cases h
      · rename_i hq; rw [if_neg hq]
        split at h
        · rename_i s hs
          simp only [Sum.inl.injEq, Prod.mk.injEq] at h
          obtain ⟨rfl, hl2, rfl⟩ := h
          obtain ⟨h1, _, _⟩ := signP_eq hs
          rw [hl2, List.take_succ_cons] at h1
          rw [← h1, (signP_self hs).1]
          simp only [hl2]
        · cases h
/-- With what a word begins: no blank, no remark. -/
theorem sign_47 : ∀ g ∈ S3 ++ (S2 ++ S1), (match g with | a :: b :: _ => !(ch a == 47 && (ch b == 47 || ch b == 42)) | _ => true) = true := by decide +kernel
theorem bl_not : ∀ x, (!isBl x || (!isLet x && !isDig x && !(ch x == 39) && !(S3 ++ (S2 ++ S1)).any fun g => g.contains x)) = true := all256 (by decide +kernel)
theorem c47_not : ∀ x, (!(ch x == 47) || (!isLet x && !isDig x && !(ch x == 39))) = true := all256 (by decide +kernel)
theorem word_begin {a : UInt8} {t : L8} {y : Int × Nat × Int} (h : nextP (a :: t) = .inl y) : isBl a = false := by
  cases hb : isBl a with
  | false => rfl
  | true =>
    have hn := bl_not a
    rw [hb] at hn
    simp only [Bool.not_true, Bool.false_or, Bool.and_eq_true, Bool.not_eq_true'] at hn
    obtain ⟨⟨⟨h1, h2⟩, h3⟩, h4⟩ := hn
    rw [nextP_cons, h1, h2, h3] at h
    simp only [Bool.false_eq_true, if_false] at h
    cases hs : signP (a :: t) with
    | none => rw [hs] at h; cases h
    | some s =>
      exfalso
      obtain ⟨e1, _, e3⟩ := signP_eq hs
      have hm := (signP_self hs).2
      obtain ⟨i, hi⟩ : ∃ i, s.length = i + 1 := ⟨s.length - 1, by omega⟩
      rw [hi, List.take_succ_cons] at e1
      have := List.any_eq_false.1 h4 s (List.contains_iff_mem.1 hm)
      rw [e1] at this
      simp at this
theorem word_remark {a : UInt8} {t : L8} {kd n : Int} (h : nextP (a :: t) = .inl (kd, (a :: t).length, n)) (x : UInt8) (s : L8) (hx : stopB x = true) (b : Int) (hb : b = 47 ∨ b = 42) : pre2 47 b (a :: t ++ x :: s) = false ∧ pre2 47 b (a :: t) = false := by
  rw [List.cons_append, pre2_cons, pre2_cons]
  cases h47 : ch a == 47 with
  | false => exact ⟨rfl, rfl⟩
  | true =>
    have hn := c47_not a
    rw [h47] at hn
    simp only [Bool.not_true, Bool.false_or, Bool.and_eq_true, Bool.not_eq_true'] at hn
    obtain ⟨⟨h1, h2⟩, h3⟩ := hn
    rw [nextP_cons, h1, h2, h3] at h
    simp only [Bool.false_eq_true, if_false] at h
    cases hs : signP (a :: t) with
    | none => rw [hs] at h; cases h
    | some g =>
      rw [hs] at h
      simp only [Sum.inl.injEq, Prod.mk.injEq] at h
      obtain ⟨e1, _, _⟩ := signP_eq hs
      rw [h.2.1, List.take_length] at e1
      have hm := List.contains_iff_mem.1 (signP_self hs).2
      have := sign_47 g hm
      rw [e1] at this
      cases t with
      | nil =>
        have hxx : (ch x == b) = false := by
          unfold stopB at hx
          simp only [Bool.or_eq_true, beq_iff_eq] at hx
          rw [beq_eq_false_iff_ne]; omega
        simp [hxx]
      | cons c t =>
        simp only [h47, Bool.true_and, Bool.not_eq_true', Bool.or_eq_false_iff] at this
        rcases hb with rfl | rfl
        · simp [this.1]
        · simp [this.2]
end Go.Ab.Tk
