/-
  PLAIN LAWS: what is wrong with a node, and with a tree.
-/
import Derived.Test.YtpaomhgaokonfaaAbT4
namespace Go.Ab
open Go Go.Proofs

/-- What came in is of no more than so much. -/
def TrOk (N : Ns) : Prop := N.length ≤ big ∧ ∀ n ∈ N, n.Kids.length ≤ big ∧ n.Text.size ≤ maxLen
/-- No node has more kids than the reference counts to. -/
def TrKids (N : Ns) : Prop := ∀ n ∈ N, (n.Kids.length : Int) ≤ 1099511627776
theorem nd_mem {N : Ns} {k : Nat} (h : k < N.length) : nd N k ∈ N := by
  have : nd N k = N[k] := by simp [nd, h]
  rw [this]; exact List.getElem_mem _
theorem inb_known (n : XApi_Node) : (if (!inb n.Kind 1 4) = true then (if (!inb n.Kind 11 24) = true then some (!exprB n.Kind) else some false) else some false : Option Bool) = some (!knownB n.Kind) := by
  unfold knownB
  cases inb n.Kind 1 4 <;> cases inb n.Kind 11 24 <;> cases exprB n.Kind <;> rfl
theorem bchain {a b : Bool} : (if a = true then some (!b) else some false : Option Bool) = some (a && !b) := by cases a <;> rfl
theorem ifsome {α : Type} {a : Bool} {x y : α} : (if a = true then some x else some y) = some (if a = true then x else y) := by cases a <;> rfl

theorem wrong_eq {N : Ns} {k f : Nat} (h : GoodTo N k) (hk : k < N.length) (hf : k ≤ f) (hN : TrOk N) (hK : TrKids N) : ref1_wrong f ⟨N⟩ (k : Int) = some (nodeC N k) := by
  obtain ⟨hl, ht⟩ := hN.2 _ (nd_mem hk)
  have hlg : (nd N k).Kids.length ≤ 9223372036854775807 := hl
  have hml := maxLen_big
  unfold ref1_wrong nodeC
  simp only [nd_idx hk, Option.bind_some, rin1, rexpr, rkids_eq, cntB_in (hK _ (nd_mem hk))]
  simp only [rnamed, rname_eq, rtexts _ _ ht, rnum, inb_known, Option.bind_some]
  by_cases hkn : knownB (nd N k).Kind = true
  · simp only [hkn, Bool.not_true, Bool.false_eq_true, if_false]
    by_cases hin : cntB (nd N k).Kind (nd N k).Kids.length = true
    · simp only [hin, Bool.not_true, Bool.false_eq_true, if_false]
      rw [w64_id (by omega) (by omega), wrong_loop h hk hf hN.1 (nd N k) hl _ _ (Nat.le_refl _) (Nat.le_refl _), Option.bind_some]
      cases kidsC N (nd N k) (nd N k).Kids.length k with
      | none => rfl
      | some b =>
        simp only [brC, go_brk, selfC, ifT, ifF, ifsome, Option.bind_some]
    · simp [hin]
  · simp [hkn]

/-- Where the parts begin, as far as they are known. -/
def FirstTo (N : Ns) (F : List Int) (k : Nat) : Prop := F.length = N.length ∧ ∀ j, j < k → F[j]? = some ((j + 1 - M N j : Nat) : Int)
def brN (N : Ns) (F : List Int) : Option Nat → Br Int (Int × XTree_checker)
  | none => .ret (5, ⟨⟨N⟩, F⟩)
  | some b => .brk (b : Int)
theorem node_loop {N : Ns} {k : Nat} {F : List Int} (h : GoodTo N k) (hF : FirstTo N F k) (hk : k < N.length) (hb : N.length ≤ big) (n : XApi_Node) (hl : n.Kids.length ≤ big) (hs : cntB n.Kind n.Kids.length = true) :
    ∀ i a, i ≤ n.Kids.length → a ≤ k → Loop (fun s => tree_checker_node_L1 ⟨⟨N⟩, F⟩ n s.1 s.2) ((a : Int), (i : Int) - 1) = some (brN N F (kidsC N n i a)) := by
  have hbg : N.length ≤ 9223372036854775807 := hb
  have hlg : n.Kids.length ≤ 9223372036854775807 := hl
  refine Loop_down (pack := fun (a : Nat) (i : Int) => ((a : Int), i)) (fun i a => brN N F (kidsC N n i a)) n.Kids.length (fun _ a => a ≤ k) (fun i a hi ha => ?_) (fun a ha => ?_)
  · unfold tree_checker_node_L1
    rw [if_pos (by simp)]
    simp only [kidsC]
    by_cases ha0 : a = 0
    · subst ha0
      exact .inl (by simp [brN])
    · have hx : ((a : Int) == 0) = false := by simpa using ha0
      have hw : w64 ((a : Int) - 1) = ((a - 1 : Nat) : Int) := by rw [w64_id (by omega) (by omega)]; omega
      have hw2 : w64 ((i : Int) - 1) = (i : Int) - 1 := w64_id (by omega) (by omega)
      have hgd : n.Kids.getD i 0 = n.Kids[i] := by simp [hi]
      simp only [hx, Bool.false_eq_true, if_false, idx_lt hi, Option.bind_some, hw, hgd]
      by_cases hq : n.Kids[i] = (a : Int) - 1
      · have hq2 : n.Kids[i] = ((a - 1 : Nat) : Int) := by omega
        have hq' : (n.Kids[i] != ((a - 1 : Nat) : Int)) = false := by simp; omega
        have hfst : idx F ((a - 1 : Nat) : Int) = some ((a - 1 + 1 - M N (a - 1) : Nat) : Int) := by
          unfold idx
          rw [if_pos (by omega), Int.toNat_natCast]; exact hF.2 (a - 1) (by omega)
        rw [hq']
        simp only [Bool.false_eq_true, if_false, hfst, Option.bind_some, hq2, nd_idx (show a - 1 < N.length by omega), tkid_eq n (i : Int) _ (by omega) (by omega) hs, ha0, false_or]
        have hq3 : ¬ (((a - 1 : Nat) : Int) ≠ (a : Int) - 1) := by omega
        simp only [hq3, false_or]
        cases hg : goesS n.Kind i n.Kids.length (nd N (a - 1)).Kind
        · exact .inl (by simp [brN])
        · obtain ⟨_, h1, h2, _⟩ := good_facts h (a - 1) (by omega)
          refine .inr ⟨a - M N (a - 1), ?_, by simp, by omega⟩
          simp only [Bool.not_true, Bool.false_eq_true, if_false, hw2]
          congr 3
          omega
      · have hq' : (n.Kids[i] != ((a - 1 : Nat) : Int)) = true := by simp; omega
        rw [hq']
        exact .inl (by simp [brN, hq, ha0])
  · unfold tree_checker_node_L1
    rw [if_neg (by simp)]; rfl
theorem node_eq {N : Ns} {k : Nat} {F : List Int} (h : GoodTo N k) (hF : FirstTo N F k) (hk : k < N.length) (hN : TrOk N) :
    ∃ F', tree_checker_node ⟨⟨N⟩, F⟩ (k : Int) = some (nodeC N k, ⟨⟨N⟩, F'⟩) ∧ F'.length = N.length ∧ (nodeC N k = 0 → F' = F.set k ((k + 1 - M N k : Nat) : Int)) := by
  obtain ⟨hl, ht⟩ := hN.2 _ (nd_mem hk)
  have hlg : (nd N k).Kids.length ≤ 9223372036854775807 := hl
  have hml := maxLen_big
  have hb := hN.1
  have hbg : N.length ≤ 9223372036854775807 := hb
  unfold tree_checker_node nodeC
  simp only [nd_idx hk, Option.bind_some, tknown, tshape_eq, kids_same]
  by_cases hkn : knownB (nd N k).Kind = true
  · simp only [hkn, Bool.not_true, Bool.false_eq_true, if_false]
    by_cases hin : cntB (nd N k).Kind (nd N k).Kids.length = true
    · simp only [hin, Bool.not_true, Bool.false_eq_true, if_false]
      rw [w64_id (by omega) (by omega), node_loop h hF hk hN.1 (nd N k) hl hin _ _ (Nat.le_refl _) (Nat.le_refl _), Option.bind_some]
      cases hkc : kidsC N (nd N k) (nd N k).Kids.length k with
      | none => exact ⟨F, by simp [brN], hF.1, fun h0 => by simp at h0⟩
      | some b =>
        have hfi : idx F (k : Int) = some (F[k]'(by rw [hF.1]; exact hk)) := idx_lt _
        simp only [brN, go_brk, hfi, Option.bind_some, tnamed, cname_eq, tsign _ _ ht, tnum, ifT, ifF, ifsome, Int.toNat_natCast]
        refine ⟨F.set k (b : Int), ?_, by rw [List.length_set]; exact hF.1, fun h0 => ?_⟩
        · unfold selfC
          cases (namedB (nd N k).Kind && !nameOk (nd N k).Text) <;> cases (!namedB (nd N k).Kind && !signS (nd N k).Kind (nd N k).Text) <;> cases (!numS (nd N k) || decide ((nd N k).At < 0)) <;> rfl
        · have hg : nodeC N k = 0 := by
            unfold nodeC
            simp only [hkn, hin, hkc, Bool.not_true, Bool.false_eq_true, if_false]; exact h0
          have hG : GoodTo N (k + 1) := fun j hj => by
            by_cases e : j = k
            · rw [e]; exact hg
            · exact h j (by omega)
          obtain ⟨_, _, _, e, _⟩ := good_facts hG k (by omega)
          rw [hkc] at e
          rw [Option.some.inj e]
    · exact ⟨F, by simp [hin], hF.1, fun h0 => by simp [hin] at h0⟩
  · exact ⟨F, by simp [hkn], hF.1, fun h0 => by simp [hkn] at h0⟩
end Go.Ab
