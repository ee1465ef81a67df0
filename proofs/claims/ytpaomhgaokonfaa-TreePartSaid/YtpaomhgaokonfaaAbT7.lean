/-
  PLAIN LAWS: the program and the reference find the same wrong with a tree.
-/
import Derived.Test.YtpaomhgaokonfaaAbT6
namespace Go.Ab
open Go Go.Proofs

def fl (N : Ns) (i : Nat) : List Int := (List.range N.length).map fun j => if j < i then ((j + 1 - M N j : Nat) : Int) else 0
theorem fl_first (N : Ns) (i : Nat) : i ≤ N.length → FirstTo N (fl N i) i := fun hi => by
  refine ⟨by simp [fl], fun j hj => ?_⟩
  have : j < N.length := by omega
  simp [fl, this, hj]
theorem fl_set {N : Ns} {i : Nat} : (fl N i).set i ((i + 1 - M N i : Nat) : Int) = fl N (i + 1) := by
  apply List.ext_getElem?
  intro j
  rw [List.getElem?_set]
  by_cases hj : j < N.length
  · simp only [fl, List.getElem?_map, List.getElem?_range hj, Option.map_some, List.length_map, List.length_range]
    by_cases e : i = j
    · subst e; simp [hj]
    · have h2 : (j < i + 1) = (j < i) := by rw [eq_iff_iff]; omega
      simp [e, h2]
  · have hl : ∀ i, (fl N i).length = N.length := fun i => by simp [fl]
    have h1 : ∀ i, (fl N i)[j]? = none := fun i => List.getElem?_eq_none (by rw [hl]; omega)
    rw [h1, h1, hl]
    split
    · rw [if_neg (by omega)]
    · rfl
theorem fl_0 {N : Ns} : List.replicate N.length (0 : Int) = fl N 0 := by
  apply List.ext_getElem?
  intro j
  by_cases hj : j < N.length
  · simp [fl, hj]
  · simp [fl, hj]
theorem check_step {N : Ns} {i : Nat} (h : GoodTo N i) (hi : i < N.length) (hN : TrOk N) :
    tree_Check_L1 ⟨N⟩ ⟨⟨N⟩, fl N i⟩ (i : Int) = if nodeC N i = 0 then some (.next (⟨⟨N⟩, fl N (i + 1)⟩, ((i + 1 : Nat) : Int))) else some (.out (.ret ⟨nodeC N i, (i : Int)⟩)) := by
  have hbg : N.length ≤ 9223372036854775807 := hN.1
  obtain ⟨F', h1, h2, h3⟩ := node_eq h (fl_first N i (by omega)) hi hN
  unfold tree_Check_L1
  have he : eqLen F' (fl N i) = some () := by
    unfold eqLen; rw [if_pos (by rw [h2]; simp [fl])]
  simp only [lt_dec hi, if_true, h1, Option.bind_some, he, cfault]
  by_cases e : nodeC N i = 0
  · rw [if_pos e, h3 e, fl_set, w64_succ (by omega)]
    simp [e]
  · rw [if_neg e, if_pos (by simpa using e)]
theorem tree_step {N : Ns} {i f : Nat} (h : GoodTo N i) (hi : i < N.length) (hf : i ≤ f) (hN : TrOk N) (hK : TrKids N) :
    ref1_Tree_L1 f ⟨N⟩ (i : Int) = if nodeC N i = 0 then some (.next ((i + 1 : Nat) : Int)) else some (.out (.ret ⟨nodeC N i, (i : Int)⟩)) := by
  have hbg : N.length ≤ 9223372036854775807 := hN.1
  unfold ref1_Tree_L1
  simp only [lt_dec hi, if_true, wrong_eq h hi hf hN hK, Option.bind_some, rfault]
  by_cases e : nodeC N i = 0
  · rw [if_pos e, w64_succ (by omega)]
    simp [e]
  · rw [if_neg e, if_pos (by simpa using e)]
theorem tree_check {N : Ns} (hN : TrOk N) : ∃ r, tree_Check ⟨N⟩ = some r ∧ (r.Code = 0 ↔ Whole N) ∧ (r.Code = 0 → r = ⟨0, 0⟩) ∧ (TrKids N → ∀ f, N.length ≤ f → ref1_Tree f ⟨N⟩ = some r) := by
  have hbg : N.length ≤ 9223372036854775807 := hN.1
  unfold tree_Check ref1_Tree
  simp only [cin, rin1, Option.bind_some, cfault, rfault]
  by_cases h6 : inb (N.length : Int) 1 600 = true
  · have h6' : 1 ≤ N.length ∧ N.length ≤ 600 := by
      simp only [inb, Bool.and_eq_true, decide_eq_true_eq] at h6; omega
    have hm : mks (N.length : Int) (0 : Int) = some (fl N 0) := by
      unfold mks
      rw [if_pos (by omega), Int.toNat_natCast, fl_0]
    simp only [h6, Bool.not_true, Bool.false_eq_true, if_false, hm, Option.bind_some]
    have hw : w64 ((N.length : Int) - 1) = ((N.length - 1 : Nat) : Int) := by rw [w64_id (by omega) (by omega)]; omega
    rcases first_bad N N.length with hG | ⟨k, hk, hG, hbad⟩
    · have c1 := Loop_traj (step := fun s => tree_Check_L1 ⟨N⟩ s.1 s.2) (s0 := (⟨⟨N⟩, fl N 0⟩, 0)) (fun i => (⟨⟨N⟩, fl N i⟩, (i : Int))) N.length (.brk ⟨⟨N⟩, fl N N.length⟩) rfl (fun i hi => by
        show tree_Check_L1 ⟨N⟩ ⟨⟨N⟩, fl N i⟩ (i : Int) = _
        rw [check_step (hG.le (by omega)) hi hN, if_pos (hG i hi)]) (by
        unfold tree_Check_L1
        simp only [lt_dec', Bool.false_eq_true, if_false])
      have c2 : TrKids N → ∀ f, N.length ≤ f → Loop (fun s => ref1_Tree_L1 f ⟨N⟩ s) 0 = some (.brk ()) := fun hK f hf =>
        Loop_traj (step := fun s => ref1_Tree_L1 f ⟨N⟩ s) (s0 := 0) (fun i => (i : Int)) N.length (.brk ()) rfl (fun i hi => by
          show ref1_Tree_L1 f ⟨N⟩ (i : Int) = _
          rw [tree_step (hG.le (by omega)) hi (by omega) hN hK, if_pos (hG i hi)]) (by
          unfold ref1_Tree_L1
          simp only [lt_dec', Bool.false_eq_true, if_false])
      have hlast : idx (fl N N.length) ((N.length - 1 : Nat) : Int) = some ((N.length - M N (N.length - 1) : Nat) : Int) := by
        unfold idx
        rw [if_pos (by omega), Int.toNat_natCast, (fl_first N N.length (Nat.le_refl _)).2 _ (by omega)]
        congr 3
        omega
      obtain ⟨_, m1, m2, _⟩ := good_facts hG (N.length - 1) (by omega)
      simp only [c1, Option.bind_some, go_brk, hw, hlast]
      by_cases hM : M N (N.length - 1) = N.length
      · have e1 : (((N.length - M N (N.length - 1) : Nat) : Int) != 0) = false := by simp; omega
        simp only [e1, Bool.false_eq_true, if_false, deepL_eq hG h6'.2, Option.bind_some, mostD_eq hG h6'.1 hM]
        by_cases hD : D N (N.length - 1) ≤ 40
        · refine ⟨⟨0, 0⟩, by rw [if_neg (by simp; omega)], ⟨fun _ => ⟨h6'.1, h6'.2, hG, hM, hD⟩, fun _ => rfl⟩, fun _ => rfl, fun hK f hf => ?_⟩
          rw [c2 hK f hf, Option.bind_some, go_brk, many_eq hG (Nat.le_refl _) hN.1 _ f (by omega) (by omega), Option.bind_some, if_neg (by simp; omega), deep_eq hG (Nat.le_refl _) hN.1 _ f (by omega) (by omega), Option.bind_some, if_neg (by simp; omega)]
        · refine ⟨⟨10, 0⟩, by rw [if_pos (by simp; omega)], ⟨fun h => by simp at h, fun h => absurd h.2.2.2.2 hD⟩, fun h => by simp at h, fun hK f hf => ?_⟩
          rw [c2 hK f hf, Option.bind_some, go_brk, many_eq hG (Nat.le_refl _) hN.1 _ f (by omega) (by omega), Option.bind_some, if_neg (by simp; omega), deep_eq hG (Nat.le_refl _) hN.1 _ f (by omega) (by omega), Option.bind_some, if_pos (by simp; omega)]
      · have e1 : (((N.length - M N (N.length - 1) : Nat) : Int) != 0) = true := by simp; omega
        simp only [e1, if_true]
        refine ⟨⟨5, ((N.length - 1 : Nat) : Int)⟩, rfl, ⟨fun h => by simp at h, fun h => absurd h.2.2.2.1 hM⟩, fun h => by simp at h, fun hK f hf => ?_⟩
        rw [c2 hK f hf, Option.bind_some, go_brk, many_eq hG (Nat.le_refl _) hN.1 _ f (by omega) (by omega), Option.bind_some, if_pos (by simp; omega)]
    · have c1 := Loop_traj (step := fun s => tree_Check_L1 ⟨N⟩ s.1 s.2) (s0 := (⟨⟨N⟩, fl N 0⟩, 0)) (fun i => (⟨⟨N⟩, fl N i⟩, (i : Int))) k (.ret ⟨nodeC N k, (k : Int)⟩) rfl (fun i hi => by
        show tree_Check_L1 ⟨N⟩ ⟨⟨N⟩, fl N i⟩ (i : Int) = _
        rw [check_step (hG.le (by omega)) (by omega) hN, if_pos (hG i hi)]) (by
        show tree_Check_L1 ⟨N⟩ ⟨⟨N⟩, fl N k⟩ (k : Int) = _
        rw [check_step hG hk hN, if_neg hbad])
      have c2 : TrKids N → ∀ f, N.length ≤ f → Loop (fun s => ref1_Tree_L1 f ⟨N⟩ s) 0 = some (.ret ⟨nodeC N k, (k : Int)⟩) := fun hK f hf =>
        Loop_traj (step := fun s => ref1_Tree_L1 f ⟨N⟩ s) (s0 := 0) (fun i => (i : Int)) k (.ret ⟨nodeC N k, (k : Int)⟩) rfl (fun i hi => by
          show ref1_Tree_L1 f ⟨N⟩ (i : Int) = _
          rw [tree_step (hG.le (by omega)) (by omega) (by omega) hN hK, if_pos (hG i hi)]) (by
          show ref1_Tree_L1 f ⟨N⟩ (k : Int) = _
          rw [tree_step hG hk (by omega) hN hK, if_neg hbad])
      refine ⟨⟨nodeC N k, (k : Int)⟩, by rw [c1]; rfl, ⟨fun h => absurd h hbad, fun h => absurd (h.2.2.1 k hk) hbad⟩, fun h => absurd h hbad, fun hK f hf => by rw [c2 hK f hf]; rfl⟩
  · have h6' : inb (N.length : Int) 1 600 = false := by simpa using h6
    refine ⟨⟨2, 0⟩, by simp [h6'], ⟨fun h => by simp at h, fun h => ?_⟩, fun h => by simp at h, fun _ f _ => by simp [h6']⟩
    exact absurd (by simp only [inb, Bool.and_eq_true, decide_eq_true_eq]; exact ⟨by have := h.1; omega, by have := h.2.1; omega⟩) h6
end Go.Ab
