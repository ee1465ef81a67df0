/-
  PLAIN LAWS: a part of a tree is a tree; two trees that are alike.
-/
import Derived.Test.YtpaomhgaokonfaaAbT8
namespace Go.Ab
open Go Go.Proofs

theorem sh_sh (d e : Int) (n : XApi_Node) : sh d (sh e n) = sh (e + d) n := by
  have : ((n.Kids.map (· + e)).map (· + d)) = n.Kids.map (· + (e + d)) := by
    rw [List.map_map]
    refine List.map_congr_left fun x _ => ?_
    show x + e + d = x + (e + d)
    omega
  show XApi_Node.mk n.Kind n.Text n.N n.Size ((n.Kids.map (· + e)).map (· + d)) n.At = _
  rw [this]; rfl
def Fst (N : Ns) (k : Nat) : Nat := k + 1 - M N k
abbrev part (N : Ns) (k : Nat) : Ns := partL N (Fst N k) (k + 1) (-(Fst N k : Int))
theorem part_len {N : Ns} {k : Nat} (h : GoodTo N N.length) (hk : k < N.length) : (part N k).length = M N k := by
  obtain ⟨_, h1, h2, _⟩ := good_facts h k hk
  rw [partL_len (by omega)]; unfold Fst; omega
/-- What stands in a part stands in it whole. -/
theorem Fst_part {N : Ns} {k : Nat} (h : GoodTo N k) : ∀ j, j < k → ∀ i, Fst N j ≤ i → i ≤ j → Fst N j ≤ Fst N i := by
  intro j
  induction j using Nat.strongRecOn with
  | ind j ih =>
    intro hj i h1 h2
    by_cases e : i = j
    · rw [e]; exact Nat.le_refl _
    · obtain ⟨_, m1, m2, hkc, _, hD, hk⟩ := good_facts h j hj
      have hM : ∀ j', j' < j → 1 ≤ M N j' ∧ M N j' ≤ j' + 1 := fun i hi => ⟨(good_facts h i (by omega)).2.1, (good_facts h i (by omega)).2.2.1⟩
      have key : ∀ {i a b : Nat}, kidsC N (nd N j) i a = some b → a ≤ j → i ≤ (nd N j).Kids.length → ∀ x, b ≤ x → x < a → ∃ c : Nat, c < j ∧ b ≤ Fst N c ∧ Fst N c ≤ x ∧ x ≤ c := by
        intro i
        induction i with
        | zero => intro a b h _ _ x h1 h2; simp only [kidsC, Option.some.injEq] at h; omega
        | succ i ih2 =>
          intro a b h haj hi x h1 h2
          unfold kidsC at h
          split at h
          · cases h
          · by_cases hj : a - M N (a - 1) ≤ x
            · have := (kidsC_facts h (fun j' hj' => hM j' (by omega)) (by omega)).1
              exact ⟨a - 1, by omega, by unfold Fst; omega, by unfold Fst; omega, by omega⟩
            · exact ih2 h (by omega) (by omega) x h1 (by omega)
      obtain ⟨c, c1, c2, c3, c4⟩ := key hkc (Nat.le_refl _) (Nat.le_refl _) i h1 (by omega)
      have := ih c c1 (by omega) i c3 c4
      have e2 : j + 1 - M N j = Fst N j := rfl
      omega
section
variable {N : Ns} {k : Nat} (h : GoodTo N N.length) (hk : k < N.length)
include h hk
theorem part_nd {j : Nat} (hj : j < M N k) : nd (part N k) j = sh (-(Fst N k : Int)) (nd N (Fst N k + j)) := by
  obtain ⟨_, h1, h2, _⟩ := good_facts h k hk
  exact partL_nd (by omega) (by unfold Fst; omega)
theorem part_kid {j t : Nat} (hj : j < M N k) (ht : t < (nd N (Fst N k + j)).Kids.length) : ∃ c : Nat, c < j ∧ (nd N (Fst N k + j)).Kids.getD t 0 = ((Fst N k + c : Nat) : Int) ∧ (nd (part N k) j).Kids.getD t 0 = (c : Int) := by
  obtain ⟨_, h1, h2, _⟩ := good_facts h k hk
  have hF : Fst N k + M N k = k + 1 := by unfold Fst; omega
  obtain ⟨_, _, _, _, _, _, hkk⟩ := good_facts h (Fst N k + j) (by omega)
  obtain ⟨c, q1, q2, q3⟩ := hkk t ht
  have h3 := Fst_part h k hk (Fst N k + j) (by omega) (by omega)
  have h4 : Fst N (Fst N k + j) ≤ c := q2
  refine ⟨c - Fst N k, by omega, by rw [q1]; omega, ?_⟩
  have hg : (nd N (Fst N k + j)).Kids[t] = (c : Int) := by rw [← q1]; simp [ht]
  rw [part_nd h hk hj]
  simp [sh, ht, hg]; omega
theorem part_MD : ∀ j, j < M N k → ∀ f, j < f → MF (part N k) f j = M N (Fst N k + j) ∧ DF (part N k) f j = D N (Fst N k + j) := by
  obtain ⟨_, h1, h2, _⟩ := good_facts h k hk
  have hF : Fst N k + M N k = k + 1 := by unfold Fst; omega
  intro j
  induction j using Nat.strongRecOn with
  | ind j ih =>
    intro hj f hf
    obtain ⟨f, rfl⟩ : ∃ g, f = g + 1 := ⟨f - 1, by omega⟩
    obtain ⟨_, _, _, _, hM, hD, _⟩ := good_facts h (Fst N k + j) (by omega)
    have hkd : (nd (part N k) j).Kids = (nd N (Fst N k + j)).Kids.map (· + -(Fst N k : Int)) := by rw [part_nd h hk hj]; rfl
    have conv : ∀ (g g' : Int → Nat), (∀ c : Nat, c < j → g (c : Int) = g' ((Fst N k + c : Nat) : Int)) → (nd (part N k) j).Kids.map g = (nd N (Fst N k + j)).Kids.map g' := by
      intro g g' hg
      rw [hkd, List.map_map]
      refine List.map_congr_left fun x hx => ?_
      obtain ⟨t, ht, rfl⟩ := List.mem_iff_getElem.1 hx
      obtain ⟨c, c1, c2, _⟩ := part_kid h hk hj ht
      have : (nd N (Fst N k + j)).Kids[t] = ((Fst N k + c : Nat) : Int) := by rw [← c2]; simp [ht]
      rw [Function.comp, this, show ((Fst N k + c : Nat) : Int) + -(Fst N k : Int) = (c : Int) by omega]
      exact hg c c1
    constructor
    · rw [MF, conv _ (fun x => M N x.toNat) (fun c hc => by rw [Int.toNat_natCast, Int.toNat_natCast]; exact (ih c hc (by omega) f (by omega)).1), hM]
    · rw [DF, conv _ (fun x => D N x.toNat) (fun c hc => by rw [Int.toNat_natCast, Int.toNat_natCast]; exact (ih c hc (by omega) f (by omega)).2), hD]
theorem part_M {j : Nat} (hj : j < M N k) : M (part N k) j = M N (Fst N k + j) := (part_MD h hk j hj (j + 1) (by omega)).1
theorem part_D {j : Nat} (hj : j < M N k) : D (part N k) j = D N (Fst N k + j) := (part_MD h hk j hj (j + 1) (by omega)).2
theorem part_kidsC {n : XApi_Node} : ∀ {i a b : Nat}, kidsC N n i a = some b → Fst N k ≤ b → a ≤ k + 1 → i ≤ n.Kids.length → kidsC (part N k) (sh (-(Fst N k : Int)) n) i (a - Fst N k) = some (b - Fst N k) := by
  obtain ⟨_, h1, h2, _⟩ := good_facts h k hk
  have hF : Fst N k + M N k = k + 1 := by unfold Fst; omega
  intro i
  induction i with
  | zero => intro a b hh _ _ _; simp only [kidsC, Option.some.injEq] at hh ⊢; omega
  | succ i ih =>
    intro a b hh hb ha hi
    unfold kidsC at hh
    split at hh
    · cases hh
    · rename_i hc
      have ha0 : a ≠ 0 := fun e => hc (.inl e)
      have hkk : n.Kids.getD i 0 = (a : Int) - 1 := by
        by_cases hk : n.Kids.getD i 0 = (a : Int) - 1
        · exact hk
        · exact absurd (.inr (.inl hk)) hc
      have hg : ¬ goesS n.Kind i n.Kids.length (nd N (a - 1)).Kind = false := fun e => hc (.inr (.inr e))
      obtain ⟨m1, m2⟩ : 1 ≤ M N (a - 1) ∧ M N (a - 1) ≤ a := ⟨(good_facts h (a - 1) (by omega)).2.1, by have := (good_facts h (a - 1) (by omega)).2.2.1; omega⟩
      have hle := (kidsC_facts hh (fun j hj => ⟨(good_facts h j (by omega)).2.1, (good_facts h j (by omega)).2.2.1⟩) (by omega)).1
      have hj : a - 1 - Fst N k < M N k := by omega
      have e1 : nd (part N k) (a - Fst N k - 1) = sh (-(Fst N k : Int)) (nd N (a - 1)) := by
        rw [show a - Fst N k - 1 = a - 1 - Fst N k by omega, part_nd h hk hj]; congr 2; omega
      have e2 : M (part N k) (a - Fst N k - 1) = M N (a - 1) := by
        rw [show a - Fst N k - 1 = a - 1 - Fst N k by omega, part_M h hk hj]; congr 1; omega
      unfold kidsC
      rw [e1, e2]
      have hgd : (sh (-(Fst N k : Int)) n).Kids.getD i 0 = n.Kids.getD i 0 + -(Fst N k : Int) := by
        have hi' : i < n.Kids.length := by omega
        simp [sh, hi']
      have hlen : (sh (-(Fst N k : Int)) n).Kids.length = n.Kids.length := by simp [sh]
      rw [if_neg]
      · rw [show a - Fst N k - M N (a - 1) = a - M N (a - 1) - Fst N k by omega]
        exact ih hh hb (by omega) (by omega)
      · rw [hgd, hkk, hlen]
        rintro (e | e | e)
        · omega
        · omega
        · exact hg e
theorem part_good : GoodTo (part N k) (M N k) := by
  obtain ⟨_, h1, h2, _⟩ := good_facts h k hk
  have hF : Fst N k + M N k = k + 1 := by unfold Fst; omega
  intro j hj
  obtain ⟨b, hb, hs, hkn, hcn⟩ := nodeC_kids (h (Fst N k + j) (by omega))
  obtain ⟨_, _, _, hkc, _⟩ := good_facts h (Fst N k + j) (by omega)
  have hFp := Fst_part h k hk (Fst N k + j) (by omega) (by omega)
  have := part_kidsC h hk hkc hFp (by omega) (Nat.le_refl _)
  rw [Nat.add_sub_cancel_left] at this
  unfold nodeC
  rw [part_nd h hk hj]
  have hlen : (sh (-(Fst N k : Int)) (nd N (Fst N k + j))).Kids.length = (nd N (Fst N k + j)).Kids.length := by simp [sh]
  rw [hlen, this]
  have e1 : (sh (-(Fst N k : Int)) (nd N (Fst N k + j))).Kind = (nd N (Fst N k + j)).Kind := rfl
  have e2 : selfC (sh (-(Fst N k : Int)) (nd N (Fst N k + j))) = selfC (nd N (Fst N k + j)) := by
    unfold selfC numS; rw [hlen]; rfl
  rw [e1, hkn, hcn, e2]
  simpa using hs
theorem part_part {j : Nat} (hj : j < M N k) : part (part N k) j = part N (Fst N k + j) := by
  obtain ⟨_, h1, h2, _⟩ := good_facts h k hk
  have hF : Fst N k + M N k = k + 1 := by unfold Fst; omega
  have hFp := Fst_part h k hk (Fst N k + j) (by omega) (by omega)
  obtain ⟨_, m1, m2, _⟩ := good_facts h (Fst N k + j) (by omega)
  have hf : Fst (part N k) j + Fst N k = Fst N (Fst N k + j) := by
    have : Fst (part N k) j = j + 1 - M N (Fst N k + j) := by unfold Fst; rw [part_M h hk hj]; rfl
    rw [this]
    have : Fst N (Fst N k + j) = Fst N k + j + 1 - M N (Fst N k + j) := rfl
    omega
  apply List.ext_getElem?
  intro i
  by_cases hi : i < j + 1 - Fst (part N k) j
  · have l1 : (part (part N k) j).length = j + 1 - Fst (part N k) j := partL_len (by rw [part_len h hk]; omega)
    have l2 : (part N (Fst N k + j)).length = Fst N k + j + 1 - Fst N (Fst N k + j) := partL_len (by omega)
    have n1 := partL_nd (N := part N k) (a := Fst (part N k) j) (b := j + 1) (j := i) (d := -(Fst (part N k) j : Int)) (by rw [part_len h hk]; omega) hi
    have n2 := partL_nd (N := N) (a := Fst N (Fst N k + j)) (b := Fst N k + j + 1) (j := i) (d := -(Fst N (Fst N k + j) : Int)) (by omega) (by omega)
    have g1 : (part (part N k) j)[i]? = some (nd (part (part N k) j) i) := by
      unfold nd; rw [List.getD_eq_getElem?_getD, List.getElem?_eq_getElem (by omega)]; rfl
    have g2 : (part N (Fst N k + j))[i]? = some (nd (part N (Fst N k + j)) i) := by
      unfold nd; rw [List.getD_eq_getElem?_getD, List.getElem?_eq_getElem (by omega)]; rfl
    rw [g1, g2, n1, n2, part_nd h hk (by omega), show Fst N k + (Fst (part N k) j + i) = Fst N (Fst N k + j) + i by omega]
    rw [sh_sh, show -(Fst N k : Int) + -(Fst (part N k) j : Int) = -(Fst N (Fst N k + j) : Int) by omega]
  · rw [List.getElem?_eq_none, List.getElem?_eq_none]
    · rw [partL_len (by omega)]; omega
    · rw [partL_len (by rw [part_len h hk]; omega)]; omega
end
theorem part_whole {N : Ns} {k : Nat} (h : Whole N) (hk : k < N.length) : Whole (part N k) := by
  obtain ⟨w1, w2, w3, w4, w5⟩ := h
  obtain ⟨_, h1, h2, _⟩ := good_facts w3 k hk
  have hF : Fst N k + M N k = k + 1 := by unfold Fst; omega
  have hl := part_len w3 hk
  have hlast : Fst N k + (M N k - 1) = k := by omega
  refine ⟨by omega, by omega, by rw [hl]; exact part_good w3 hk, ?_, ?_⟩
  · rw [hl, part_M w3 hk (by omega), hlast]
  · rw [hl, part_D w3 hk (by omega), hlast]
    exact Nat.le_trans (D_part w3 (N.length - 1) (by omega) k (by omega) (by omega)) w5
end Go.Ab
