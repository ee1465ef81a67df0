/-
  PLAIN LAWS: the four laws on trees answer true.
-/
import Derived.Test.YtpaomhgaokonfaaAbT10
namespace Go.Ab
open Go Go.Proofs

theorem chkB (r w : XApi_Fault) (h : r = w) : (!((r.Code == w.Code) && ((r.At == w.At) && true))) = false := by subst h; simp
theorem treeSays_true (t : XApi_Tree) (k : Int) (hN : TrOk t.Nodes) (hK : TrKids t.Nodes) : law1_TreeSays (t.Nodes.length + 1) t k = some true := by
  obtain ⟨N⟩ := t
  have hN : TrOk N := hN
  have hK : TrKids N := hK
  unfold law1_TreeSays
  by_cases h7 : 700 < N.length
  · rw [if_pos (by simp; omega)]
  rw [if_neg (by simp; omega)]
  obtain ⟨r, t1, t2, t3, t4⟩ := tree_check hN
  have t4 := t4 hK (N.length + 1) (by omega)
  simp only [t4, Option.bind_some, t1, chkB r r rfl, Bool.false_eq_true, if_false, lin1, sfault]
  rcases part_ok hN k (N.length + 1) (by omega) with ⟨r', p1, p2, p3, p4⟩ | ⟨p1, p2, p3⟩
  · obtain rfl : r = r' := by rw [t1] at p1; exact Option.some.inj p1
    have e0 : (r.Code == 0) = false := by simpa using p2
    have e1 : (r.Code != 0) = true := by simpa using p2
    simp only [p4, Option.bind_some, e0, Bool.false_eq_true, if_false]
    unfold law1_TreeSays_J1
    simp only [chkB r r rfl, Bool.false_eq_true, if_false, e1, if_true]
    rfl
  · obtain rfl : r = ⟨0, 0⟩ := by rw [t1] at p1; exact Option.some.inj p1
    obtain ⟨w1, w2, w3, w4, w5⟩ := p2
    rw [w64_id (by omega) (by omega)]
    rcases p3 with ⟨p3, p4⟩ | ⟨j, rfl, hj, p4⟩
    · have hi : inb k 0 ((N.length : Int) - 1) = false := by
        rw [Bool.eq_false_iff]; intro e
        simp only [inb, Bool.and_eq_true, decide_eq_true_eq] at e; omega
      simp only [p4, hi, Option.bind_some]
      rfl
    · have hi : inb (j : Int) 0 ((N.length : Int) - 1) = true := by simp only [inb, Bool.and_eq_true, decide_eq_true_eq]; omega
      simp only [p4, hi, Option.bind_some]
      unfold law1_TreeSays_J1
      have e1 : ((⟨0, 0⟩ : XApi_Fault).Code != 0) = false := rfl
      have e2 : ((⟨0, 0⟩ : XApi_Fault).Code == 0) = true := rfl
      simp only [e1, e2, chkB _ _ rfl, Bool.false_eq_true, if_false, if_true, Option.bind_some, Bool.not_true]
      rw [rpart_eq w3 w2 hj (show j < N.length + 1 by omega), Option.bind_some]
      have := stree_refl (TrOk_part hN (Fst N j) (j + 1) (-(Fst N j : Int)))
      simp only [show j + 1 - M N j = Fst N j from rfl, this, Option.bind_some]
      rfl
theorem treeAlike_true (a b : XApi_Tree) (hA : TrOk a.Nodes) (hKA : TrKids a.Nodes) (hB : TrOk b.Nodes) (hKB : TrKids b.Nodes) : law1_TreeAlike (a.Nodes.length + b.Nodes.length) a b = some true := by
  obtain ⟨A⟩ := a
  obtain ⟨B⟩ := b
  have hA : TrOk A := hA
  have hKA : TrKids A := hKA
  have hB : TrOk B := hB
  have hKB : TrKids B := hKB
  unfold law1_TreeAlike
  by_cases h7 : 700 < A.length ∨ 700 < B.length
  · rw [if_pos (by rw [ifT, Bool.or_eq_true, decide_eq_true_eq, decide_eq_true_eq]; exact h7.elim (fun h => .inl (by show (700 : Int) < (A.length : Int); omega)) (fun h => .inr (by show (700 : Int) < (B.length : Int); omega)))]
  rw [if_neg (by rw [ifT, Bool.or_eq_true, decide_eq_true_eq, decide_eq_true_eq]; intro h; exact h7 (h.elim (fun h => .inl (by have h : (700 : Int) < (A.length : Int) := h; omega)) (fun h => .inr (by have h : (700 : Int) < (B.length : Int) := h; omega))))]
  obtain ⟨ra, rb, a1, b1, a3, b3, hs⟩ := same_ok hA hB
  obtain ⟨ra', a1', _, _, a4⟩ := tree_check hA
  obtain ⟨rb', b1', _, _, b4⟩ := tree_check hB
  obtain rfl : ra = ra' := by rw [a1] at a1'; exact Option.some.inj a1'
  obtain rfl : rb = rb' := by rw [b1] at b1'; exact Option.some.inj b1'
  have a4 := a4 hKA (A.length + B.length) (by omega)
  have b4 := b4 hKB (A.length + B.length) (by omega)
  simp only [a4, Option.bind_some, b4]
  unfold law1_TreeAlike_J1
  rw [hs]
  by_cases ha : ra.Code = 0
  · obtain rfl := a3 ha
    by_cases hb : rb.Code = 0
    · obtain rfl := b3 hb
      simp [ralike_eq hA]
    · simp [hb]
  · simp [ha]
abbrev factN : Ns := [(XApi_Node.mk 31 (ByteArray.mk #[]) 1 0 [] 0), (XApi_Node.mk 32 (ByteArray.mk #[120]) 0 0 [] 0), (XApi_Node.mk 36 (ByteArray.mk #[43]) 0 0 ([0, 1] : List Int) 0)]
theorem factOk : TrOk factN := by
  refine ⟨by decide, fun n hn => ?_⟩
  simp only [factN, List.mem_cons, List.not_mem_nil, or_false] at hn
  rcases hn with rfl | rfl | rfl <;> exact ⟨by decide, by decide +kernel⟩
theorem factW : Whole factN := by
  refine ⟨by decide, by decide, ?_, by decide +kernel, by decide +kernel⟩
  intro j hj
  have : j = 0 ∨ j = 1 ∨ j = 2 := by
    have : factN.length = 3 := rfl
    omega
  rcases this with rfl | rfl | rfl <;> decide +kernel
theorem fact_true (f : Nat) (hf : 3 ≤ f) : law1_treeFact f = some true := by
  unfold law1_treeFact
  obtain ⟨r, c1, c2, c3, _⟩ := tree_check factOk
  obtain rfl := c3 (c2.2 factW)
  obtain ⟨ra, rb, a1, b1, _, _, hs⟩ := same_ok factOk factOk
  obtain rfl : ra = ⟨0, 0⟩ := by rw [c1] at a1; exact (Option.some.inj a1).symm
  obtain rfl : rb = ⟨0, 0⟩ := by rw [c1] at b1; exact (Option.some.inj b1).symm
  rcases part_ok factOk 1 f hf with ⟨r', _, _, p3, _⟩ | ⟨_, _, p3⟩
  · exact absurd factW p3
  · rcases p3 with ⟨p3, _⟩ | ⟨j, hj, _, p4⟩
    · exact absurd (by decide) p3
    · obtain rfl : j = 1 := by omega
      have hl : likeN factN factN = true := by decide +kernel
      have hp : part factN 1 = [XApi_Node.mk 32 (ByteArray.mk #[120]) 0 0 [] 0] := by decide +kernel
      simp only [c1, Option.bind_some, p4, hs, hl, hp]
      decide +kernel
theorem treePart_true (t : XApi_Tree) (k j : Int) (hN : TrOk t.Nodes) : law1_TreePart (t.Nodes.length + 3) t k j = some true := by
  obtain ⟨N⟩ := t
  have hN : TrOk N := hN
  unfold law1_TreePart
  rw [fact_true _ (by omega)]
  simp only [Option.bind_some, Bool.not_true, Bool.false_eq_true, if_false]
  rcases part_ok hN k (N.length + 3) (by omega) with ⟨r', p1, p2, p3, p4⟩ | ⟨p1, p2, p3⟩
  · have e1 : (r'.Code != 0) = true := by simpa using p2
    simp only [p4, Option.bind_some, e1, if_true]
    rfl
  · rcases p3 with ⟨p3, p4⟩ | ⟨i, rfl, hi, p4⟩
    · simp only [p4, Option.bind_some]; rfl
    · obtain ⟨w1, w2, w3, w4, w5⟩ := p2
      obtain ⟨_, m1, m2, _⟩ := good_facts w3 i hi
      have hl := part_len w3 hi
      have hl' : (partL N (Fst N i) (i + 1) (-(Fst N i : Int))).length = M N i := hl
      have hPo := TrOk_part hN (Fst N i) (i + 1) (-(Fst N i : Int))
      have hw := part_whole ⟨w1, w2, w3, w4, w5⟩ hi
      obtain ⟨r, c1, c2, c3, _⟩ := tree_check hPo
      obtain rfl := c3 (c2.2 hw)
      have e1 : ((⟨0, 0⟩ : XApi_Fault).Code != 0) = false := rfl
      have e2 : ((⟨0, 0⟩ : XApi_Fault).Code == 0) = true := rfl
      simp only [p4, Option.bind_some, e1, Bool.false_eq_true, if_false, c1, lin1]
      have hin : inb ((part N i).length : Int) 1 (w64 ((i : Int) + 1)) = true := by
        rw [w64_succ (by omega), hl]
        simp only [inb, Bool.and_eq_true, decide_eq_true_eq]; omega
      simp only [hin, Bool.not_true, Bool.false_eq_true, if_false]
      rcases part_ok hPo j (N.length + 3) (by rw [hl]; omega) with ⟨r', q1, q2, q3, q4⟩ | ⟨q1, q2, q3⟩
      · exact absurd hw q3
      · rcases q3 with ⟨q3, q4⟩ | ⟨x, rfl, hx, q4⟩
        · have hi2 : inb j 0 (((part N i).length : Int) - 1) = false := by
            rw [Bool.eq_false_iff]; intro e
            simp only [inb, Bool.and_eq_true, decide_eq_true_eq] at e; omega
          simp only [q4, Option.bind_some]
          rw [w64_id (by omega) (by omega), hi2]
          rfl
        · have hF : Fst N i + M N i = i + 1 := by unfold Fst; omega
          have hidx : w64 (w64 (w64 ((i : Int) - ((part N i).length : Int)) + 1) + (x : Int)) = ((Fst N i + x : Nat) : Int) := by
            rw [hl] at hx ⊢
            rw [w64_id (n := (i : Int) - (M N i : Int)) (by omega) (by omega), w64_id (n := (i : Int) - (M N i : Int) + 1) (by omega) (by omega), w64_id (by omega) (by omega)]
            omega
          rcases part_ok hN ((Fst N i + x : Nat) : Int) (N.length + 3) (by omega) with ⟨_, _, _, s3, _⟩ | ⟨s1, s2, s3⟩
          · exact absurd ⟨w1, w2, w3, w4, w5⟩ s3
          · rcases s3 with ⟨s3, _⟩ | ⟨y, hy, hyl, s4⟩
            · exact absurd (by rw [hl] at hx; omega) s3
            · obtain rfl : y = Fst N i + x := by omega
              rw [q4]
              simp only [Option.bind_some, e1, Bool.false_eq_true, if_false]
              rw [hidx, s4]
              simp only [Option.bind_some, e2, if_true]
              rw [part_part w3 hi (by rw [hl] at hx; exact hx)]
              have := stree_refl (TrOk_part hN (Fst N (Fst N i + x)) (Fst N i + x + 1) (-(Fst N (Fst N i + x) : Int)))
              rw [this]; rfl
end Go.Ab
