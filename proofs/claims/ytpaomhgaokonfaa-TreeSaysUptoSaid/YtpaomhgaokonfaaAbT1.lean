/-
  PLAIN LAWS: names; loops, each of which comes to an end.
-/
import Derived.Test.YtpaomhgaokonfaaAbL0
import Derived.Test.YtpaomhgaokonfaaAbGen4
namespace Go.Ab
open Go Go.Proofs

@[simp] theorem go_brk {τ ρ β : Type} (f : τ → Option β) (g : ρ → Option β) (x : τ) : Br.go f g (.brk x) = f x := rfl
@[simp] theorem go_ret {τ ρ β : Type} (f : τ → Option β) (g : ρ → Option β) (x : ρ) : Br.go f g (.ret x) = g x := rfl
abbrev big : Nat := 9223372036854775807
def inb (a lo hi : Int) : Bool := decide (lo ≤ a) && decide (a ≤ hi)
theorem ifF (a b : Bool) : (if a then b else false) = (a && b) := by cases a <;> rfl
theorem ifT (a b : Bool) : (if a then true else b) = (a || b) := by cases a <;> rfl
@[simp] theorem rin1 (a b c : Int) : ref1_in a b c = some (inb a b c) := by simp only [ref1_in, inb, ifF]
@[simp] theorem cin (a b c : Int) : core_Within a b c = some (inb a b c) := by simp only [core_Within, inb, ifF]
@[simp] theorem cfault (a b : Int) : core_Fault a b = some ⟨a, b⟩ := rfl

@[simp] theorem lin1 (a b c : Int) : law1_in a b c = some (inb a b c) := by simp only [law1_in, inb, ifF]
@[simp] theorem rfault (a b : Int) : ref1_fault a b = some ⟨a, b⟩ := rfl
@[simp] theorem sfault (a b : Int) : same_Fault a b = some ⟨a, b⟩ := rfl
theorem maxLen_big : maxLen = 9223372036854775807 := rfl
theorem lt_dec {i : Nat} {n : Nat} (h : i < n) : decide ((i : Int) < (n : Int)) = true := by simp [h]
theorem lt_dec' {n : Nat} : decide ((n : Int) < (n : Int)) = false := by simp
theorem app_ok {α : Type} {a b : List α} (h : a.length + b.length ≤ 4294967296) : app a b = some (a ++ b) := if_pos h
theorem bifs (a b : Bool) : (if a = true then some true else some b) = some (a || b) := by cases a <;> rfl
theorem biff (a b : Bool) : (if a = true then some b else some false) = some (a && b) := by cases a <;> rfl

/-- A loop that comes to an end: what holds at its heads, and how much is left. -/
theorem Loop_ind {σ τ : Type} {step : σ → Option (Lp σ τ)} (Inv : Nat → σ → Prop) (post : τ → Prop)
    (hs : ∀ n s, Inv n s → ∃ y, step s = some y ∧ (match y with | .next s' => ∃ m, m < n ∧ Inv m s' | .out x => post x)) : ∀ {n s}, Inv n s → ∃ x, Loop step s = some x ∧ post x := by
  intro n
  induction n using Nat.strongRecOn with
  | ind n ih =>
    intro s h
    obtain ⟨y, h1, h2⟩ := hs n s h
    rw [Loop_eq, h1]
    cases y with
    | next s' => obtain ⟨m, hm, h3⟩ := h2; exact ih m hm h3
    | out x => exact ⟨x, rfl, h2⟩
/-- A loop that counts down: f k s is its answer with k left. -/
theorem Loop_down {σ τ S : Type} (pack : σ → Int → S) (f : Nat → σ → τ) {step : S → Option (Lp S τ)} (N : Nat) (Inv : Nat → σ → Prop)
    (hs : ∀ k s, k < N → Inv (k + 1) s → step (pack s (k : Int)) = some (.out (f (k + 1) s)) ∨ ∃ s', step (pack s (k : Int)) = some (.next (pack s' ((k : Int) - 1))) ∧ f (k + 1) s = f k s' ∧ Inv k s')
    (he : ∀ s, Inv 0 s → step (pack s (-1)) = some (.out (f 0 s))) : ∀ k s, k ≤ N → Inv k s → Loop step (pack s ((k : Int) - 1)) = some (f k s) := by
  intro k
  induction k with
  | zero => intro s _ hI; rw [Loop_eq]; simp only [Int.natCast_zero, Int.zero_sub]; rw [he s hI]; rfl
  | succ k ih =>
    intro s hk hI
    rw [Loop_eq, show ((k + 1 : Nat) : Int) - 1 = (k : Int) by omega]
    rcases hs k s (by omega) hI with h | ⟨s', h1, h2, h3⟩
    · rw [h]; rfl
    · rw [h1, h2]; exact ih s' (by omega) h3

/-! ### Names -/
def letB (c : Int) : Bool := inb c 97 122 || inb c 65 90 || c == 95
def digB (c : Int) : Bool := inb c 48 57
def chB (c : UInt8) : Bool := letB c.toNat || digB c.toNat
def nameOk (s : ByteArray) : Bool := inb s.size 1 12 && (match s.data.toList with | [] => false | c :: _ => !digB c.toNat) && s.data.toList.all chB
@[simp] theorem rletter (c : Int) : ref1_letter c = some (letB c) := by
  simp only [ref1_letter, letB, inb, ifF, ifT]
@[simp] theorem rdigit (c : Int) : ref1_digit c = some (digB c) := by
  simp only [ref1_digit, digB, inb, ifF]
theorem sidx_lt {s : ByteArray} {i : Nat} (h : i < s.data.toList.length) : sidx s (i : Int) = some s.data.toList[i] := by
  unfold sidx
  rw [if_pos (by omega)]
  simp only [Int.toNat_natCast]
  have h' : i < s.size := by simpa using h
  rw [getElem?_pos s i h']
  rfl
theorem size_len (s : ByteArray) : s.size = s.data.toList.length := by simp
theorem rname_loop (s : ByteArray) (h12 : s.size ≤ 12) : Loop (fun i => ref1_Name_L1 s i) 0 = some (brOf (if s.data.toList.all chB then none else some false)) := by
  rw [← findI_all chB false s.data.toList 0]
  refine Loop_find (l := s.data.toList) (fun _ x => if chB x then none else some false) (fun i h => ?_) ?_
  · have hlt : i < s.size := by rw [size_len]; exact h
    unfold ref1_Name_L1
    simp only [sidx_lt h, Option.bind_some, rletter, rdigit, w64_succ (i := i) (by omega)]
    rw [if_pos (by simp; omega)]
    unfold chB
    cases letB (s.data.toList[i].toNat) <;> cases digB (s.data.toList[i].toNat) <;> rfl
  · unfold ref1_Name_L1
    rw [if_neg (by simp)]
theorem rname_eq (s : ByteArray) : ref1_Name s = some (nameOk s) := by
  unfold ref1_Name nameOk
  simp only [rin1, Option.bind_some]
  by_cases hs : inb s.size 1 12 = true
  · have hb : 1 ≤ s.size ∧ s.size ≤ 12 := by
      simp only [inb, Bool.and_eq_true, decide_eq_true_eq] at hs; omega
    simp only [hs, rname_loop s hb.2]
    cases hc : s.data.toList with
    | nil => rw [size_len, hc] at hb; simp at hb
    | cons c l =>
      have h0 : sidx s 0 = some c := by
        have := sidx_lt (s := s) (i := 0) (by rw [hc]; simp)
        simpa [hc] using this
      simp only [h0, Option.bind_some, rdigit, Bool.not_true, Bool.false_eq_true, if_false]
      cases digB c.toNat <;> cases hall : (c :: l).all chB <;> simp_all [brOf]
  · simp [hs]
theorem cname_loop (s : ByteArray) (h12 : s.size ≤ 12) : Loop (fun i => core_Name_L1 s i) 0 = some (brOf (findI (fun i c => if letB c.toNat || (decide (0 < i) && digB c.toNat) then none else some false) 0 s.data.toList)) := by
  refine Loop_find (l := s.data.toList) _ (fun i h => ?_) ?_
  · have hlt : i < s.size := by rw [size_len]; exact h
    unfold core_Name_L1
    simp only [sidx_lt h, Option.bind_some, w64_succ (i := i) (by omega), ifF, ifT]
    rw [if_pos (by simp; omega)]
    have e : (decide (97 ≤ (s.data.toList[i].toNat : Int)) && decide ((s.data.toList[i].toNat : Int) ≤ 122) || decide (65 ≤ (s.data.toList[i].toNat : Int)) && decide ((s.data.toList[i].toNat : Int) ≤ 90) || (s.data.toList[i].toNat : Int) == 95 || decide (0 < (i : Int)) && decide (48 ≤ (s.data.toList[i].toNat : Int)) && decide ((s.data.toList[i].toNat : Int) ≤ 57)) = (letB s.data.toList[i].toNat || (decide (0 < i) && digB s.data.toList[i].toNat)) := by
      simp only [letB, digB, inb, Bool.and_assoc]
      congr 2
      simp
    rw [e]
    cases letB s.data.toList[i].toNat || (decide (0 < i) && digB s.data.toList[i].toNat) <;> rfl
  · unfold core_Name_L1
    rw [if_neg (by simp)]
theorem cname_eq (s : ByteArray) : core_Name s = some (nameOk s) := by
  unfold core_Name nameOk
  simp only [ifT]
  by_cases hs : inb s.size 1 12 = true
  · have hb : 1 ≤ s.size ∧ s.size ≤ 12 := by
      simp only [inb, Bool.and_eq_true, decide_eq_true_eq] at hs; omega
    have hc0 : (decide ((s.size : Int) < 1) || decide (12 < (s.size : Int))) = false := by simp; omega
    simp only [hs, hc0, cname_loop s hb.2]
    cases hc : s.data.toList with
    | nil => rw [size_len, hc] at hb; simp at hb
    | cons c l =>
      have key : ∀ (l : List UInt8) (i : Nat), 0 < i → findI (fun i (c : UInt8) => if letB c.toNat || (decide (0 < i) && digB c.toNat) then none else some false) i l = if l.all chB then none else some false := by
        intro l
        induction l with
        | nil => intro i _; rfl
        | cons x l ih =>
          intro i hi
          have e : (letB x.toNat || (decide (0 < i) && digB x.toNat)) = chB x := by simp [chB, hi]
          rw [findI, ih (i + 1) (by omega), List.all_cons, e]
          by_cases hx : chB x = true <;> simp [hx]
      have hld : letB c.toNat = true → digB c.toNat = false := by
        simp only [letB, digB, inb]; simp; omega
      have e0 : (letB c.toNat || (decide (0 < 0) && digB c.toNat)) = letB c.toNat := by simp
      rw [findI, key l 1 (by omega), e0, List.all_cons]
      by_cases h1 : letB c.toNat = true
      · by_cases hl : l.all chB = true <;> simp [h1, hld h1, hl, brOf, chB] <;> simpa using hl
      · have h1' : letB c.toNat = false := by simpa using h1
        cases h2 : digB c.toNat <;> simp [h1', h2, brOf, chB]
  · have : (decide ((s.size : Int) < 1) || decide (12 < (s.size : Int))) = true := by
      simp only [inb, Bool.and_eq_true, decide_eq_true_eq] at hs
      simp; omega
    simp [hs, this]
end Go.Ab
