/-
  PLAIN LAWS: how deep a tree is; what is wrong with one.
-/
import Derived.Test.YtpaomhgaokonfaaAbT5
namespace Go.Ab
open Go Go.Proofs

def dlx (N : Ns) (i : Nat) (v : Int) : List Int := (List.range N.length).map fun j => if j < i then (D N j : Int) else if j = i then v else 0
theorem dlx_len (N : Ns) (i : Nat) (v : Int) : (dlx N i v).length = N.length := by simp [dlx]
theorem dlx_get {N : Ns} {i j : Nat} {v : Int} (h : j < N.length) : idx (dlx N i v) (j : Int) = some (if j < i then (D N j : Int) else if j = i then v else 0) := by
  rw [idx_lt (by rw [dlx_len]; exact h)]
  simp [dlx]
theorem dlx_set {N : Ns} {i : Nat} {v w : Int} : (dlx N i v).set i w = dlx N i w := by
  apply List.ext_getElem?
  intro j
  rw [List.getElem?_set]
  by_cases hj : j < N.length
  · simp only [dlx, List.getElem?_map, List.getElem?_range hj, Option.map_some, List.length_map, List.length_range]
    by_cases e : i = j
    · subst e; simp [hj]
    · have : j ≠ i := fun h => e h.symm
      simp [e, this]
  · have h1 : (dlx N i w)[j]? = none := List.getElem?_eq_none (by rw [dlx_len]; omega)
    have h2 : (dlx N i v)[j]? = none := List.getElem?_eq_none (by rw [dlx_len]; omega)
    rw [h1, h2, dlx_len]
    split
    · rw [if_neg (by omega)]
    · rfl
theorem dlx_next {N : Ns} {i : Nat} : dlx N i (D N i : Int) = dlx N (i + 1) 0 := by
  refine List.map_congr_left fun j _ => ?_
  by_cases h1 : j < i
  · rw [if_pos h1, if_pos (by omega)]
  · by_cases h2 : j = i
    · subst h2; simp
    · rw [if_neg h1, if_neg h2, if_neg (by omega)]; simp
theorem dlx_0 {N : Ns} : List.replicate N.length (0 : Int) = dlx N 0 0 := by
  apply List.ext_getElem?
  intro j
  by_cases hj : j < N.length
  · simp [dlx, hj]
  · simp [dlx, hj]
def mostD (N : Ns) : Nat → Nat
  | 0 => 0
  | i + 1 => max (mostD N i) (D N i)
theorem deepL_eq {N : Ns} (h : GoodTo N N.length) (h6 : N.length ≤ 600) : ast_Deep ⟨N⟩ = some (mostD N N.length : Int) := by
  unfold ast_Deep
  have hm : mks (N.length : Int) (0 : Int) = some (dlx N 0 0) := by
    unfold mks
    rw [if_pos (by omega), Int.toNat_natCast, dlx_0]
  rw [hm, Option.bind_some]
  have inner : ∀ i, i < N.length → Loop (fun s => ast_Deep_L2 (i : Int) (nd N i) s.1 s.2) (dlx N i 0, 0) = some (dlx N i (((nd N i).Kids.map fun x => D N x.toNat).foldl max 0 : Nat)) := by
    intro i hi
    obtain ⟨_, h1, h2, _, _, hD, hk⟩ := good_facts h i hi
    have hlen := kids_len h hi
    refine Loop_traj (step := fun s => ast_Deep_L2 (i : Int) (nd N i) s.1 s.2) (fun t => (dlx N i (((nd N i).Kids.take t |>.map fun x => D N x.toNat).foldl max 0 : Nat), (t : Int))) (nd N i).Kids.length _ (by simp) (fun t ht => ?_) ?_
    · obtain ⟨c, q1, q2, q3⟩ := hk t ht
      have hg : (nd N i).Kids[t] = (c : Int) := by rw [← q1]; simp [ht]
      unfold ast_Deep_L2
      simp only [lt_dec ht, if_true, idx_lt ht, Option.bind_some, hg, dlx_get hi, dlx_get (show c < N.length by omega), q3, Nat.lt_irrefl, if_false, Int.toNat_natCast, dlx_set]
      rw [foldl_take ht, q1, Int.toNat_natCast, w64_succ (by omega)]
      congr 4
      omega
    · unfold ast_Deep_L2
      simp only [lt_dec', Bool.false_eq_true, if_false, List.take_length]
  rw [Loop_traj (step := fun s => ast_Deep_L1 ⟨N⟩ s.1 s.2.1 s.2.2) (s0 := (dlx N 0 0, 0, 0)) (fun i => (dlx N i 0, (mostD N i : Int), (i : Int))) N.length (mostD N N.length : Int) (by simp [mostD]) (fun i hi => ?_) ?_]
  · rfl
  · unfold ast_Deep_L1
    simp only [lt_dec', Bool.false_eq_true, if_false]
  · obtain ⟨_, h1, h2, _, _, hD, hk⟩ := good_facts h i hi
    have hd := (D_le h i hi).2
    unfold ast_Deep_L1
    have e : w64 ((((nd N i).Kids.map fun x => D N x.toNat).foldl max 0 : Nat) + 1) = (D N i : Int) := by rw [w64_succ (by omega), hD]
    simp only [lt_dec hi, if_true, nd_idx hi, Option.bind_some, inner i hi, dlx_get hi, Nat.lt_irrefl, if_false, Int.toNat_natCast, dlx_set, e]
    rw [w64_succ (by omega), dlx_next, mostD]
    congr 4
    omega

theorem kidsC_cover {N : Ns} {n : XApi_Node} : ∀ {i a b : Nat}, kidsC N n i a = some b → ∀ j, b ≤ j → j < a → ∃ t c : Nat, t < i ∧ n.Kids.getD t 0 = (c : Int) ∧ c + 1 - M N c ≤ j ∧ j ≤ c
  | 0, a, b, h, j, h1, h2 => by simp only [kidsC, Option.some.injEq] at h; omega
  | i + 1, a, b, h, j, h1, h2 => by
    unfold kidsC at h
    split at h
    · cases h
    · rename_i hc
      have hk : n.Kids.getD i 0 = (a : Int) - 1 := by
        by_cases hk : n.Kids.getD i 0 = (a : Int) - 1
        · exact hk
        · exact absurd (.inr (.inl hk)) hc
      by_cases hj : a - M N (a - 1) ≤ j
      · exact ⟨i, a - 1, by omega, by rw [hk]; omega, by omega, by omega⟩
      · obtain ⟨t, c, e1, e2, e3, e4⟩ := kidsC_cover h j h1 (by omega)
        exact ⟨t, c, by omega, e2, e3, e4⟩
theorem foldl_max_mem {g : Int → Nat} : ∀ {l : List Int} {s t : Nat}, t < l.length → g (l.getD t 0) ≤ (l.map g).foldl max s := by
  have mono : ∀ (l : List Nat) (s : Nat), s ≤ l.foldl max s := by
    intro l
    induction l with
    | nil => intro s; simp
    | cons x l ih => intro s; simp only [List.foldl_cons]; exact Nat.le_trans (Nat.le_max_left ..) (ih _)
  intro l
  induction l with
  | nil => intro s t h; simp at h
  | cons x l ih =>
    intro s t h
    cases t with
    | zero => simp only [List.getD_cons_zero, List.map_cons, List.foldl_cons]; exact Nat.le_trans (Nat.le_max_right ..) (mono _ _)
    | succ t => simp only [List.getD_cons_succ, List.map_cons, List.foldl_cons]; exact ih (by simpa using h)
/-- No part is deeper than what it stands in. -/
theorem D_part {N : Ns} {k : Nat} (h : GoodTo N k) : ∀ j, j < k → ∀ i, j + 1 - M N j ≤ i → i ≤ j → D N i ≤ D N j := by
  intro j
  induction j using Nat.strongRecOn with
  | ind j ih =>
    intro hj i h1 h2
    by_cases e : i = j
    · rw [e]; exact Nat.le_refl _
    · obtain ⟨_, _, _, hkc, _, hD, hk⟩ := good_facts h j hj
      obtain ⟨t, c, e1, e2, e3, e4⟩ := kidsC_cover hkc i h1 (by omega)
      obtain ⟨c', q1, q2, q3⟩ := hk t e1
      obtain rfl : c = c' := by rw [e2] at q1; exact_mod_cast q1
      have := ih c q3 (by omega) i e3 e4
      have hm := foldl_max_mem (g := fun x => D N x.toNat) (s := 0) e1
      rw [e2, Int.toNat_natCast] at hm
      omega
theorem mostD_eq {N : Ns} (h : GoodTo N N.length) (h1 : 1 ≤ N.length) (hM : M N (N.length - 1) = N.length) : mostD N N.length = D N (N.length - 1) := by
  have : ∀ i, i ≤ N.length → mostD N i ≤ D N (N.length - 1) := by
    intro i
    induction i with
    | zero => intro _; simp [mostD]
    | succ i ih =>
      intro hi
      have h1 := ih (by omega)
      have h2 := D_part h (N.length - 1) (by omega) i (by omega) (by omega)
      rw [mostD]; omega
  have h2 := this N.length (Nat.le_refl _)
  have h3 : D N (N.length - 1) ≤ mostD N N.length := by
    rw [show N.length = N.length - 1 + 1 by omega, mostD]
    simp only [Nat.add_sub_cancel]; omega
  omega
/-- A tree that is fine. -/
def Whole (N : Ns) : Prop := 1 ≤ N.length ∧ N.length ≤ 600 ∧ GoodTo N N.length ∧ M N (N.length - 1) = N.length ∧ D N (N.length - 1) ≤ 40
theorem first_bad (N : Ns) : ∀ n, GoodTo N n ∨ ∃ k, k < n ∧ GoodTo N k ∧ nodeC N k ≠ 0
  | 0 => .inl fun j hj => by omega
  | n + 1 => by
    rcases first_bad N n with h | ⟨k, h1, h2, h3⟩
    · by_cases e : nodeC N n = 0
      · exact .inl fun j hj => by
          by_cases ej : j = n
          · rw [ej]; exact e
          · exact h j (by omega)
      · exact .inr ⟨n, by omega, h, e⟩
    · exact .inr ⟨k, by omega, h2, h3⟩
end Go.Ab
