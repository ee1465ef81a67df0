/-
  PLAIN LAWS: loops over lists.
-/
import Derived.Test.YtbhpblokoecoaaaAbV4
namespace Go.Ab
open Go
theorem w64_id {n : Int} (h1 : -9223372036854775808 ≤ n) (h2 : n < 9223372036854775808) : w64 n = n := by
  simp only [w64, IntKind.wrap, IntKind.bits, IntKind.signed]
  simp
  split <;> omega
theorem w64_succ {i : Nat} (h : i < 9223372036854775807) : w64 ((i : Int) + 1) = ((i + 1 : Nat) : Int) := by
  rw [w64_id (by omega) (by omega)]; rfl
theorem idx_lt {α : Type} {l : List α} {i : Nat} (h : i < l.length) : idx l (i : Int) = some l[i] := by
  unfold idx
  rw [if_pos (by omega)]
  simp [h]
theorem idx_0 {α : Type} {x : α} {l : List α} : idx (x :: l) 0 = some x := rfl
theorem idx_1 {α : Type} {x y : α} {l : List α} : idx (x :: y :: l) 1 = some y := rfl
def run {σ τ α : Type} (f : Nat → σ → α → τ ⊕ σ) (e : σ → τ) : Nat → σ → List α → τ
  | _, s, [] => e s
  | i, s, x :: l => match f i s x with | .inl o => o | .inr s' => run f e (i + 1) s' l
theorem Loop_run {σ τ α S : Type} {l : List α} (pack : σ → Int → S) (f : Nat → σ → α → τ ⊕ σ) (e : σ → τ) (Inv : Nat → σ → Prop) {step : S → Option (Lp S τ)}
    (hs : ∀ i s (h : i < l.length), Inv i s → match f i s l[i] with | .inl o => step (pack s (i : Int)) = some (.out o) | .inr s' => step (pack s (i : Int)) = some (.next (pack s' ((i + 1 : Nat) : Int))) ∧ Inv (i + 1) s')
    (he : ∀ s, Inv l.length s → step (pack s (l.length : Int)) = some (.out (e s))) {s0 : σ} (h0 : Inv 0 s0) : Loop step (pack s0 0) = some (run f e 0 s0 l) := by
  have key : ∀ k i s, l.length - i = k → i ≤ l.length → Inv i s → Loop step (pack s (i : Int)) = some (run f e i s (l.drop i)) := by
    intro k
    induction k with
    | zero =>
      intro i s hk hi hI
      obtain rfl : i = l.length := by omega
      rw [Loop_eq, he s hI, List.drop_length]; rfl
    | succ k ih =>
      intro i s hk hi hI
      have hlt : i < l.length := by omega
      have h1 := hs i s hlt hI
      rw [Loop_eq, List.drop_eq_getElem_cons hlt]
      unfold run
      split at h1
      · rw [h1]; rfl
      · rename_i s' ho
        rw [h1.1]
        exact ih (i + 1) s' (by omega) (by omega) h1.2
  exact key _ 0 s0 rfl (by omega) h0
def findI {α ρ : Type} (g : Nat → α → Option ρ) : Nat → List α → Option ρ
  | _, [] => none
  | i, x :: l => match g i x with | some r => some r | none => findI g (i + 1) l
def brOf {ρ : Type} : Option ρ → Br Unit ρ
  | some r => .ret r
  | none => .brk ()
theorem Loop_find {α ρ : Type} {l : List α} (g : Nat → α → Option ρ) {step : Int → Option (Lp Int (Br Unit ρ))}
    (hs : ∀ i (h : i < l.length), step (i : Int) = some (match g i l[i] with | some r => .out (.ret r) | none => .next ((i + 1 : Nat) : Int)))
    (he : step (l.length : Int) = some (.out (.brk ()))) : Loop (fun s => step s) 0 = some (brOf (findI g 0 l)) := by
  have := Loop_run (l := l) (σ := Unit) (τ := Br Unit ρ) (fun _ i => i) (fun i _ x => match g i x with | some r => .inl (.ret r) | none => .inr ()) (fun _ => .brk ()) (fun _ _ => True) (step := step)
    (fun i s h _ => by
      have := hs i h
      cases hg : g i l[i] with
      | some r => simp only [hg] at this ⊢; exact this
      | none => simp only [hg] at this ⊢; exact ⟨this, trivial⟩) (fun s _ => he) (s0 := ()) trivial
  rw [this]
  congr 1
  generalize 0 = i
  clear this hs he
  induction l generalizing i with
  | nil => rfl
  | cons x l ih =>
    simp only [run, findI]
    cases g i x with
    | some r => rfl
    | none => exact ih (i + 1)
def firstEI {α : Type} (g : Nat → α → Int) : Nat → List α → Int
  | _, [] => 0
  | i, x :: l => if g i x != 0 then g i x else firstEI g (i + 1) l
theorem findI_firstEI {α : Type} (g : Nat → α → Int) : ∀ (l : List α) (i : Nat), findI (fun i x => if g i x != 0 then some (g i x) else none) i l = if firstEI g i l != 0 then some (firstEI g i l) else none
  | [], _ => rfl
  | x :: l, i => by
    simp only [findI, firstEI]
    by_cases hg : g i x = 0
    · simpa [hg] using findI_firstEI g l (i + 1)
    · simp [hg]
theorem findI_all {α ρ : Type} (p : α → Bool) (r : ρ) : ∀ (l : List α) (i : Nat), findI (fun _ x => if p x then none else some r) i l = if l.all p then none else some r
  | [], _ => rfl
  | x :: l, i => by
    simp only [findI, List.all_cons]
    by_cases hp : p x = true
    · simpa [hp] using findI_all p r l (i + 1)
    · simp [hp]
end Go.Ab
