/-
  PLAIN LAWS: parts of trees.
-/
import Derived.Test.YtpaomhgaokonfaaAbT7
namespace Go.Ab
open Go Go.Proofs

def sh (d : Int) (n : XApi_Node) : XApi_Node := ⟨n.Kind, n.Text, n.N, n.Size, n.Kids.map (· + d), n.At⟩
/-- The nodes from a on, up to b, turned by d. -/
def partL (N : Ns) (a b : Nat) (d : Int) : Ns := ((N.drop a).take (b - a)).map (sh d)
theorem partL_len {N : Ns} {a b : Nat} {d : Int} (h : b ≤ N.length) : (partL N a b d).length = b - a := by simp [partL]; omega
theorem partL_self (N : Ns) (a : Nat) (d : Int) : partL N a a d = [] := by simp [partL]
theorem partL_app {N : Ns} {a b c : Nat} {d : Int} (h1 : a ≤ b) (h2 : b ≤ c) : partL N a b d ++ partL N b c d = partL N a c d := by
  unfold partL
  rw [← List.map_append]
  congr 1
  have : N.drop b = (N.drop a).drop (b - a) := by rw [List.drop_drop]; congr 1; omega
  rw [this, show c - a = (b - a) + (c - b) by omega, List.take_add]
theorem partL_one {N : Ns} {k : Nat} {d : Int} (h : k < N.length) : partL N k (k + 1) d = [sh d (nd N k)] := by
  unfold partL
  rw [List.drop_eq_getElem_cons h, show k + 1 - k = 0 + 1 by omega, List.take_succ_cons, List.take_zero]
  have : nd N k = N[k] := by unfold nd; rw [List.getD_eq_getElem?_getD, List.getElem?_eq_getElem h]; rfl
  rw [this]; rfl
theorem partL_nd {N : Ns} {a b j : Nat} {d : Int} (h : b ≤ N.length) (hj : j < b - a) : nd (partL N a b d) j = sh d (nd N (a + j)) := by
  have hl := partL_len (N := N) (a := a) (b := b) (d := d) h
  have h1 : nd (partL N a b d) j = (partL N a b d)[j]'(by omega) := by unfold nd; rw [List.getD_eq_getElem?_getD, List.getElem?_eq_getElem (by omega)]; rfl
  have h2 : nd N (a + j) = N[a + j]'(by omega) := by unfold nd; rw [List.getD_eq_getElem?_getD, List.getElem?_eq_getElem (by omega)]; rfl
  rw [h1, h2]
  simp [partL]

theorem clone_ok {α : Type} {l : List α} (h : l.length ≤ 4294967296) : clone l = some l := if_pos h
/-- Where each kid stands. -/
theorem kidsC_pos {N : Ns} {n : XApi_Node} : ∀ {i a b : Nat}, kidsC N n i a = some b → (∀ j, j < a → 1 ≤ M N j ∧ M N j ≤ j + 1) → i ≤ n.Kids.length → ∀ t, t < i → n.Kids.getD t 0 + 1 = ((b + ((n.Kids.take (t + 1)).map fun x => M N x.toNat).sum : Nat) : Int)
  | 0, a, b, h, _, _, t, ht => by omega
  | i + 1, a, b, h, hM, hi, t, ht => by
    obtain ⟨_, _, e3⟩ := kidsC_facts h hM hi
    unfold kidsC at h
    split at h
    · cases h
    · rename_i hc
      have hk : n.Kids.getD i 0 = (a : Int) - 1 := by
        by_cases hk : n.Kids.getD i 0 = (a : Int) - 1
        · exact hk
        · exact absurd (.inr (.inl hk)) hc
      by_cases e : t = i
      · subst e
        rw [hk]; omega
      · exact kidsC_pos h (fun j hj => hM j (by omega)) (by omega) t (by omega)
theorem copy_eq {N : Ns} {k : Nat} (h : GoodTo N k) (hN : k ≤ N.length) (h6 : N.length ≤ 600) : ∀ j f (A : Ns), j < k → j < f → A.length + M N j ≤ 600 →
    ast_Maker_Copy f ⟨A⟩ ⟨N⟩ (j : Int) = some ((j : Int) + ((A.length : Int) - ((j + 1 - M N j : Nat) : Int)), ⟨A ++ partL N (j + 1 - M N j) (j + 1) ((A.length : Int) - ((j + 1 - M N j : Nat) : Int))⟩) := by
  intro j
  induction j using Nat.strongRecOn with
  | ind j ih =>
    intro f A hj hf hA
    obtain ⟨f, rfl⟩ : ∃ g, f = g + 1 := ⟨f - 1, by omega⟩
    obtain ⟨_, h1, h2, hkc, hM, _, hk⟩ := good_facts h j hj
    have hpos := kidsC_pos hkc (fun i hi => ⟨(good_facts h i (by omega)).2.1, (good_facts h i (by omega)).2.2.1⟩) (Nat.le_refl _)
    have hlen := kids_len h hj
    generalize hb : j + 1 - M N j = b at *
    generalize hd : (A.length : Int) - (b : Int) = d at *
    show ast_Maker_Copy_B (ast_Maker_Copy f) ⟨A⟩ ⟨N⟩ (j : Int) = _
    unfold ast_Maker_Copy_B
    generalize hsd : (fun i => (((nd N j).Kids.take i).map fun x => M N x.toNat).sum) = s at *
    have hs : ∀ i, (((nd N j).Kids.take i).map fun x => M N x.toNat).sum = s i := fun i => by rw [← hsd]
    have hsn : s (nd N j).Kids.length = ((nd N j).Kids.map fun x => M N x.toNat).sum := by rw [← hs, List.take_length]
    have hstep : ∀ i, i < (nd N j).Kids.length → ∃ c : Nat, (nd N j).Kids.getD i 0 = (c : Int) ∧ b ≤ c ∧ c < j ∧ s (i + 1) = s i + M N c ∧ c + 1 = b + s (i + 1) := fun i hi => by
      obtain ⟨c, q1, q2, q3⟩ := hk i hi
      refine ⟨c, q1, q2, q3, ?_, ?_⟩
      · rw [← hs, ← hs, take_sum hi, q1, Int.toNat_natCast]
      · have := hpos i hi
        rw [q1, hs] at this
        omega
    have hsm : ∀ i, s i ≤ ((nd N j).Kids.map fun x => M N x.toNat).sum := fun i => by rw [← hs]; exact take_sum_le i
    have hl := Loop_traj (step := fun s => ast_Maker_Copy_L1 (ast_Maker_Copy f) ⟨N⟩ (nd N j) s.1 s.2.1 s.2.2) (s0 := (⟨A⟩, [], 0)) (fun i => (⟨A ++ partL N b (b + s i) d⟩, ((nd N j).Kids.take i).map (· + d), (i : Int))) (nd N j).Kids.length (⟨A ++ partL N b j d⟩, (nd N j).Kids.map (· + d)) (by
        have : s 0 = 0 := by rw [← hs]; simp
        simp [this, partL_self]) (fun i hi => by
        obtain ⟨c, q1, q2, q3, q4, q5⟩ := hstep i hi
        have hg : (nd N j).Kids[i] = (c : Int) := by rw [← q1]; simp [hi]
        have hsi := hsm (i + 1)
        obtain ⟨_, m1, m2, _⟩ := good_facts h c (by omega)
        have hAl : (A ++ partL N b (b + s i) d).length = A.length + s i := by rw [List.length_append, partL_len (by omega)]; omega
        have hc := ih c q3 f (A ++ partL N b (b + s i) d) (by omega) (by omega) (by rw [hAl]; omega)
        rw [hAl, show c + 1 - M N c = b + s i by omega] at hc
        have hd2 : ((A.length + s i : Nat) : Int) - ((b + s i : Nat) : Int) = d := by omega
        rw [hd2, List.append_assoc, partL_app (by omega) (by omega)] at hc
        unfold ast_Maker_Copy_L1
        simp only [lt_dec hi, if_true, idx_lt hi, Option.bind_some, hg, hc]
        rw [app_ok (by simp; omega), Option.bind_some, w64_succ (by omega)]
        rw [show c + 1 = b + s (i + 1) by omega]
        congr 4
        rw [List.take_add_one, List.getElem?_eq_getElem hi, List.map_append, hg]
        rfl) (by
        unfold ast_Maker_Copy_L1
        simp only [lt_dec', Bool.false_eq_true, if_false, List.take_length]
        rw [show b + s (nd N j).Kids.length = j by omega])
    simp only [nd_idx (show j < N.length by omega), Option.bind_some, hl]
    unfold ast_Maker_Add
    rw [clone_ok (by simp; omega), Option.bind_some]
    have hAj : (A ++ partL N b j d).length = A.length + (j - b) := by rw [List.length_append, partL_len (by omega)]
    simp only
    rw [app_ok (by rw [hAj]; simp; omega), Option.bind_some, Option.bind_some]
    have e1 : A ++ partL N b j d ++ [(⟨(nd N j).Kind, (nd N j).Text, (nd N j).N, (nd N j).Size, (nd N j).Kids.map (· + d), (nd N j).At⟩ : XApi_Node)] = A ++ partL N b (j + 1) d := by
      rw [List.append_assoc, ← partL_app (show b ≤ j by omega) (show j ≤ j + 1 by omega), partL_one (by omega)]; rfl
    rw [e1]
    congr 2
    rw [List.length_append, partL_len (by omega), w64_id (by omega) (by omega)]
    omega
/-- The reference's part. -/
theorem rpart_eq {N : Ns} {k f : Nat} (h : GoodTo N N.length) (h6 : N.length ≤ 600) (hk : k < N.length) (hf : k < f) : ref1_Part f ⟨N⟩ (k : Int) = some ⟨partL N (k + 1 - M N k) (k + 1) (-((k + 1 - M N k : Nat) : Int))⟩ := by
  obtain ⟨_, h1, h2, _⟩ := good_facts h k hk
  unfold ref1_Part
  rw [many_eq h (Nat.le_refl _) (show N.length ≤ 9223372036854775807 by omega) k f hk hf, Option.bind_some]
  have hw : w64 (w64 ((k : Int) - (M N k : Int)) + 1) = ((k + 1 - M N k : Nat) : Int) := by
    rw [w64_id (n := (k : Int) - (M N k : Int)) (by omega) (by omega), w64_id (by omega) (by omega)]; omega
  rw [hw]
  generalize hb : k + 1 - M N k = b
  have inner : ∀ i, b ≤ i → i < N.length → Loop (fun s => ref1_Part_L2 (b : Int) (nd N i) s.1 s.2) ([], 0) = some ((nd N i).Kids.map (fun x => w64 (x - (b : Int)))) := by
    intro i _ hi
    have hlen := kids_len h hi
    refine Loop_traj (step := fun s => ref1_Part_L2 (b : Int) (nd N i) s.1 s.2) (fun t => (((nd N i).Kids.take t).map (fun x => w64 (x - (b : Int))), (t : Int))) (nd N i).Kids.length _ (by simp) (fun t ht => ?_) ?_
    · unfold ref1_Part_L2
      simp only [lt_dec ht, if_true, idx_lt ht, Option.bind_some]
      rw [app_ok (by simp; omega), Option.bind_some, w64_succ (by omega)]
      congr 3
      rw [List.take_add_one, List.getElem?_eq_getElem ht, List.map_append]
      rfl
    · unfold ref1_Part_L2
      simp only [lt_dec', Bool.false_eq_true, if_false, List.take_length]
  have hl := Loop_traj (step := fun s => ref1_Part_L1 ⟨N⟩ (k : Int) s.1 s.2.1 s.2.2) (s0 := ((b : Int), ⟨[]⟩, (b : Int))) (fun i => ((b : Int), ⟨partL N b (b + i) (-(b : Int))⟩, ((b + i : Nat) : Int))) (k + 1 - b) ⟨partL N b (k + 1) (-(b : Int))⟩ (by simp [partL_self]) (fun i hi => by
    have hi' : b + i < N.length := by omega
    obtain ⟨_, m1, m2, _, _, _, hkk⟩ := good_facts h (b + i) hi'
    unfold ref1_Part_L1
    rw [if_pos (by simp; omega)]
    simp only [nd_idx hi', Option.bind_some, inner (b + i) (by omega) hi']
    rw [app_ok (by rw [partL_len (by omega)]; simp; omega), Option.bind_some, w64_succ (by omega)]
    congr 4
    rw [← partL_app (show b ≤ b + i by omega) (show b + i ≤ b + (i + 1) by omega), show b + (i + 1) = b + i + 1 by omega, partL_one hi']
    have hm : (nd N (b + i)).Kids.map (fun x => w64 (x - (b : Int))) = (nd N (b + i)).Kids.map (· + -(b : Int)) := by
      refine List.map_congr_left fun x hx => ?_
      obtain ⟨t, ht, rfl⟩ := List.mem_iff_getElem.1 hx
      obtain ⟨c, q1, q2, q3⟩ := hkk t ht
      have : (nd N (b + i)).Kids[t] = (c : Int) := by rw [← q1]; simp [ht]
      rw [this, w64_id (by omega) (by omega)]; omega
    rw [hm]; rfl) (by
    unfold ref1_Part_L1
    rw [if_neg (by simp; omega), show b + (k + 1 - b) = k + 1 by omega])
  rw [hl]; rfl
end Go.Ab
