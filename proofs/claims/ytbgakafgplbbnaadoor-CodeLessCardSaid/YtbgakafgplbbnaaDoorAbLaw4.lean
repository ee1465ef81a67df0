/-
  PLAIN LAWS: which blocks are ahead of each.
-/
import Derived.Test.YtbgakafgplbbnaaDoorAbLaw3
namespace Go.Ab
open Go Go.Proofs

def ah1 (k i : Int) (l : List Int) : List Int := (l.filter (· == k)).map fun _ => i
def ahS (k : Int) : Nat → List XApi_Block → List Int
  | _, [] => []
  | i, b :: l => ah1 k (i : Int) b.End.To ++ ahS k (i + 1) l
theorem ah1_cons (k i x : Int) (l : List Int) : ah1 k i (x :: l) = (if x == k then [i] else []) ++ ah1 k i l := by
  unfold ah1
  rw [List.filter_cons]
  split <;> simp
theorem ah1_len (k i : Int) (l : List Int) : (ah1 k i l).length ≤ l.length := by unfold ah1; simpa using List.length_filter_le _ _
theorem app_ok {α : Type} {a b : List α} (h : a.length + b.length ≤ 4294967296) : app a b = some (a ++ b) := if_pos h

/-- Ends that are well, so far as targets go. -/
def ToOk (f : XApi_Func) : Prop := f.Blocks.length ≤ 40 ∧ ∀ b ∈ f.Blocks, b.End.To.length ≤ 2 ∧ ∀ x ∈ b.End.To, 1 ≤ x ∧ x < f.Blocks.length

theorem rahead_eq (f : XApi_Func) (k : Int) (h : ToOk f) : turneryref2_Ahead f k = some (ahS k 0 f.Blocks) := by
  obtain ⟨h40, hto⟩ := h
  have inner : ∀ (i : Nat) (hi : i < f.Blocks.length) (acc : List Int), acc.length ≤ 2 * i → Loop (fun (s : List Int × Int) => turneryref2_Ahead_L2 f k i s.1 s.2) (acc, 0) = some (acc ++ ah1 k i f.Blocks[i].End.To) := by
    intro i hi acc hacc
    have hb := hto f.Blocks[i] (List.getElem_mem _)
    have := Loop_run (l := f.Blocks[i].End.To) (τ := List Int) (S := List Int × Int) (fun s i => (s, i)) (fun _ (s : List Int) x => .inr (s ++ if x == k then [(i : Int)] else [])) (fun s => s) (fun j s => s.length ≤ 2 * i + j) (step := fun s => turneryref2_Ahead_L2 f k i s.1 s.2)
      (fun j s hj hI => by
        refine ⟨?_, ?_⟩
        · unfold turneryref2_Ahead_L2
          simp only [idx_lt hi, Option.bind_some, lt_dec hj, if_true, idx_lt hj, w64_succ (i := j) (by omega)]
          by_cases hx : f.Blocks[i].End.To[j] = k
          · simp only [hx, beq_self_eq_true, if_true]
            rw [app_ok (by simp; omega)]; rfl
          · have : (f.Blocks[i].End.To[j] == k) = false := by simpa using hx
            simp only [this, Bool.false_eq_true, if_false, List.append_nil]
        · rw [List.length_append]; split <;> simp <;> omega) (fun s _ => by
        unfold turneryref2_Ahead_L2
        simp only [idx_lt hi, Option.bind_some, lt_dec']; rfl) (s0 := acc) (by omega)
    rw [this]
    congr 1
    generalize f.Blocks[i].End.To = l
    clear this hb hacc
    generalize 0 = j
    induction l generalizing acc j with
    | nil => simp [run, ah1]
    | cons x l ih => rw [run, ah1_cons, ← List.append_assoc]; exact ih _ _
  have := Loop_run (l := f.Blocks) (τ := List Int) (S := List Int × Int) (fun s i => (s, i)) (fun i (s : List Int) b => .inr (s ++ ah1 k (i : Int) b.End.To)) (fun s => s) (fun i s => s.length ≤ 2 * i) (step := fun s => turneryref2_Ahead_L1 f k s.1 s.2)
    (fun i s hi hI => by
      refine ⟨?_, ?_⟩
      · unfold turneryref2_Ahead_L1
        simp only [lt_dec hi, if_true, inner i hi s hI, Option.bind_some, w64_succ (i := i) (by omega)]
      · have := ah1_len k (i : Int) f.Blocks[i].End.To
        have := (hto f.Blocks[i] (List.getElem_mem _)).1
        rw [List.length_append]; omega) (fun s _ => by
      unfold turneryref2_Ahead_L1
      simp only [lt_dec']; rfl) (s0 := []) (by simp)
  unfold turneryref2_Ahead
  rw [this, Option.bind_some]
  congr 1
  have key : ∀ (l : List XApi_Block) (i : Nat) (s : List Int), run (fun i (s : List Int) (b : XApi_Block) => (.inr (s ++ ah1 k (i : Int) b.End.To) : List Int ⊕ List Int)) (fun s => s) i s l = s ++ ahS k i l := by
    intro l
    induction l with
    | nil => intro i s; simp [run, ahS]
    | cons b l ih => intro i s; rw [run, ahS, ← List.append_assoc]; exact ih _ _
  simpa using key f.Blocks 0 []

theorem map_range_get {α : Type} {g : Nat → α} {n k : Nat} (h : k < n) : ((List.range n).map g)[k]? = some (g k) := by simp [h]
theorem cahead_eq (f : XApi_Func) (h : ToOk f) : code_ahead f = some ((List.range f.Blocks.length).map fun k : Nat => ahS (k : Int) 0 f.Blocks) := by
  obtain ⟨h40, hto⟩ := h
  have inner : ∀ (i : Nat) (hi : i < f.Blocks.length) (g : Nat → List Int), (∀ k, (g k).length ≤ 2 * i) → Loop (fun (s : List (List Int) × Int) => code_ahead_L2 i f.Blocks[i] s.1 s.2) ((List.range f.Blocks.length).map g, 0) = some ((List.range f.Blocks.length).map fun k => g k ++ ah1 (k : Int) i f.Blocks[i].End.To) := by
    intro i hi g hg
    have hb := hto f.Blocks[i] (List.getElem_mem _)
    have := Loop_run (l := f.Blocks[i].End.To) (τ := List (List Int)) (S := List (List Int) × Int) (fun (g : Nat → List Int) i => ((List.range f.Blocks.length).map g, i)) (fun _ (g : Nat → List Int) x => .inr (fun k => g k ++ if x == (k : Int) then [(i : Int)] else [])) (fun g => (List.range f.Blocks.length).map g) (fun j g => ∀ k, (g k).length ≤ 2 * i + j) (step := fun s => code_ahead_L2 i f.Blocks[i] s.1 s.2)
      (fun j g hj hI => by
        refine ⟨?_, ?_⟩
        · unfold code_ahead_L2
          simp only [lt_dec hj, if_true, idx_lt hj, Option.bind_some, w64_succ (i := j) (by omega)]
          have hx := hb.2 f.Blocks[i].End.To[j] (List.getElem_mem _)
          generalize f.Blocks[i].End.To[j] = x at hx
          obtain ⟨m, rfl⟩ : ∃ m : Nat, x = m := ⟨x.toNat, by omega⟩
          have hm : m < f.Blocks.length := by omega
          have e1 : idx ((List.range f.Blocks.length).map g) (m : Int) = some (g m) := by
            rw [idx_lt (by simpa using hm)]; simp
          have := hI m
          rw [e1, Option.bind_some, app_ok (by simp; omega), Option.bind_some]
          congr 3
          apply List.ext_getElem (by simp)
          intro q h1 h2
          rw [List.getElem_set]
          simp only [Int.toNat_natCast, List.getElem_map, List.getElem_range]
          by_cases hq : m = q
          · subst hq; simp
          · have : ¬ ((m : Int) = (q : Int)) := by omega
            simp [hq, this]
        · intro k
          have := hI k
          rw [List.length_append]; split <;> simp <;> omega) (fun g _ => by
        unfold code_ahead_L2
        simp only [lt_dec']; rfl) (s0 := g) (fun k => by have := hg k; omega)
    rw [this]
    congr 1
    have key : ∀ (l : List Int) (j : Nat) (g : Nat → List Int), run (fun _ (g : Nat → List Int) x => (.inr (fun k => g k ++ if x == (k : Int) then [(i : Int)] else []) : List (List Int) ⊕ (Nat → List Int))) (fun g => (List.range f.Blocks.length).map g) j g l = (List.range f.Blocks.length).map fun k => g k ++ ah1 (k : Int) i l := by
      intro l
      induction l with
      | nil => intro j g; simp [run, ah1]
      | cons x l ih =>
        intro j g
        rw [run]
        refine (ih _ _).trans ?_
        congr 1
        funext k
        rw [ah1_cons, List.append_assoc]
    exact key _ _ _
  have := Loop_run (l := f.Blocks) (τ := List (List Int)) (S := List (List Int) × Int) (fun (g : Nat → List Int) i => ((List.range f.Blocks.length).map g, i)) (fun i (g : Nat → List Int) b => .inr (fun k => g k ++ ah1 (k : Int) (i : Int) b.End.To)) (fun g => (List.range f.Blocks.length).map g) (fun i g => ∀ k, (g k).length ≤ 2 * i) (step := fun s => code_ahead_L1 f s.1 s.2)
    (fun i g hi hI => by
      refine ⟨?_, ?_⟩
      · unfold code_ahead_L1
        simp only [lt_dec hi, if_true, idx_lt hi, Option.bind_some, inner i hi g hI, w64_succ (i := i) (by omega)]
      · intro k
        have := ah1_len (k : Int) (i : Int) f.Blocks[i].End.To
        have := (hto f.Blocks[i] (List.getElem_mem _)).1
        have := hI k
        rw [List.length_append]; omega) (fun g _ => by
      unfold code_ahead_L1
      simp only [lt_dec']; rfl) (s0 := fun _ => []) (fun _ => by simp)
  unfold code_ahead
  have e0 : mks (f.Blocks.length : Int) ([] : List Int) = some ((List.range f.Blocks.length).map fun _ => []) := by
    unfold mks
    rw [if_pos (by omega)]
    congr 1
    apply List.ext_getElem <;> simp
  rw [e0, Option.bind_some, this, Option.bind_some]
  congr 1
  have key : ∀ (l : List XApi_Block) (i : Nat) (g : Nat → List Int), run (fun i (g : Nat → List Int) (b : XApi_Block) => (.inr (fun k => g k ++ ah1 (k : Int) (i : Int) b.End.To) : List (List Int) ⊕ (Nat → List Int))) (fun g => (List.range f.Blocks.length).map g) i g l = (List.range f.Blocks.length).map fun k => g k ++ ahS (k : Int) i l := by
    intro l
    induction l with
    | nil => intro i g; simp [run, ahS]
    | cons b l ih =>
      intro i g
      rw [run]
      refine (ih _ _).trans ?_
      congr 1
      funext k
      rw [ahS, List.append_assoc]
  simpa using key f.Blocks 0 (fun _ => [])
end Go.Ab
