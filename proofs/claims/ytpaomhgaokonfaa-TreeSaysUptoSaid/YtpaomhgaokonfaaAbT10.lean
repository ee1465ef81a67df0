/-
  PLAIN LAWS: the four laws on trees.
-/
import Derived.Test.YtpaomhgaokonfaaAbT9
namespace Go.Ab
open Go Go.Proofs

theorem part_ok {N : Ns} (hN : TrOk N) (k : Int) (f : Nat) (hf : N.length ≤ f) : (∃ r, tree_Check ⟨N⟩ = some r ∧ r.Code ≠ 0 ∧ ¬ Whole N ∧ tree_Part f ⟨N⟩ k = some (⟨[]⟩, r)) ∨
    (tree_Check ⟨N⟩ = some ⟨0, 0⟩ ∧ Whole N ∧ (¬ (0 ≤ k ∧ k < N.length) ∧ tree_Part f ⟨N⟩ k = some (⟨[]⟩, ⟨3, -1⟩) ∨ ∃ j : Nat, k = (j : Int) ∧ j < N.length ∧ tree_Part f ⟨N⟩ k = some (⟨part N j⟩, ⟨0, 0⟩))) := by
  obtain ⟨r, h1, h2, h3, _⟩ := tree_check hN
  unfold tree_Part
  rw [h1]
  simp only [Option.bind_some]
  by_cases hc : r.Code = 0
  · obtain rfl := h3 hc
    have hw := h2.1 rfl
    obtain ⟨w1, w2, w3, w4, w5⟩ := hw
    refine .inr ⟨rfl, h2.1 rfl, ?_⟩
    have e0 : (!(((⟨0, 0⟩ : XApi_Fault).Code == 0) && (((⟨0, 0⟩ : XApi_Fault).At == 0) && true))) = false := rfl
    simp only [e0, Bool.false_eq_true, if_false, cin, Option.bind_some, cfault]
    rw [w64_id (by omega) (by omega)]
    by_cases hk : 0 ≤ k ∧ k < N.length
    · have hi : inb k 0 ((N.length : Int) - 1) = true := by simp only [inb, Bool.and_eq_true, decide_eq_true_eq]; omega
      refine .inr ⟨k.toNat, by omega, by omega, ?_⟩
      obtain ⟨_, m1, m2, _⟩ := good_facts w3 k.toNat (by omega)
      have hcp := copy_eq w3 (Nat.le_refl _) w2 k.toNat f [] (by omega) (by omega) (by simp; omega)
      rw [show ((k.toNat : Nat) : Int) = k by omega] at hcp
      simp only [hi, Bool.not_true, Bool.false_eq_true, if_false, hcp, Option.bind_some, ast_Maker_Tree, List.nil_append, List.length_nil]
      congr 4
      unfold Fst; omega
    · have hi : inb k 0 ((N.length : Int) - 1) = false := by
        rw [Bool.eq_false_iff]; intro e
        simp only [inb, Bool.and_eq_true, decide_eq_true_eq] at e; omega
      exact .inl ⟨hk, by simp [hi]⟩
  · refine .inl ⟨r, rfl, hc, fun hw => hc (h2.2 hw), ?_⟩
    have e0 : (r.Code == 0) = false := by simpa using hc
    simp [e0]

/-! ### The same -/
theorem zip_all_refl {α : Type} (p : α → α → Bool) (hp : ∀ x, p x x = true) : ∀ l : List α, (l.zip l).all (fun x => p x.1 x.2) = true
  | [] => rfl
  | x :: l => by simp only [List.zip_cons_cons, List.all_cons, hp, Bool.true_and]; exact zip_all_refl p hp l
theorem bnot_lp {α : Type} (b : Bool) (x y : α) : (if (!b) = true then some x else some y) = some (if b = true then y else x) := by cases b <;> rfl
theorem Loop_zip {α β : Type} {a : List α} {b : List β} (hl : a.length = b.length) (p : α → β → Bool) {step : Int → Option (Lp Int (Br Unit Bool))} (hs : ∀ i (h : i < a.length), step (i : Int) = some (if p a[i] (b[i]'(hl ▸ h)) then .next ((i + 1 : Nat) : Int) else .out (.ret false))) (he : step (a.length : Int) = some (.out (.brk ()))) :
    Loop (fun s => step s) 0 = some (if (a.zip b).all (fun x => p x.1 x.2) then .brk () else .ret false) := by
  have hz : (a.zip b).length = a.length := by simp [hl]
  have := Loop_find (l := a.zip b) (fun _ (x : α × β) => if p x.1 x.2 then none else some false) (step := step) (fun i h => by
    rw [hs i (by omega), List.getElem_zip]
    cases p (a[i]'(by omega)) (b[i]'(by omega)) <;> rfl) (by rw [hz]; exact he)
  rw [this, findI_all (fun x : α × β => p x.1 x.2)]
  cases (a.zip b).all (fun x => p x.1 x.2) <;> rfl
theorem zip_beq : ∀ {a b : List Int}, a.length = b.length → (a.zip b).all (fun x => x.1 == x.2) = (a == b)
  | [], [], _ => rfl
  | x :: a, y :: b, h => by
    simp only [List.zip_cons_cons, List.all_cons, zip_beq (a := a) (b := b) (by simpa using h)]
    rfl
  | [], _ :: _, h => by simp at h
  | _ :: _, [], h => by simp at h
theorem sints_eq {a b : List Int} (ha : a.length ≤ big) : same_Ints a b = some (a == b) := by
  have hag : a.length ≤ 9223372036854775807 := ha
  unfold same_Ints
  by_cases hl : a.length = b.length
  · rw [if_neg (by simp [hl]), Loop_zip hl (fun x y => x == y) (fun i h => by
      unfold same_Ints_L1
      simp only [lt_dec h, if_true, idx_lt h, idx_lt (show i < b.length by omega), Option.bind_some, w64_succ (i := i) (by omega)]
      simp only [bne]
      exact bnot_lp _ _ _) (by
      unfold same_Ints_L1
      simp only [lt_dec']; rfl), zip_beq hl]
    cases a == b <;> rfl
  · rw [if_pos (by simpa using (by omega : ¬ (a.length : Int) = b.length))]
    have : (a == b) = false := by
      rw [Bool.eq_false_iff]; intro e
      exact hl (by rw [eq_of_beq e])
    rw [this]
theorem eints_eq {a b : List Int} (ha : a.length ≤ big) : slices_Equal_int_int a b = some (a == b) := by
  have hag : a.length ≤ 9223372036854775807 := ha
  unfold slices_Equal_int_int
  by_cases hl : a.length = b.length
  · rw [if_neg (by simp [hl]), Loop_zip hl (fun x y => x == y) (fun i h => by
      unfold slices_Equal_int_int_L1
      simp only [lt_dec h, if_true, idx_lt h, idx_lt (show i < b.length by omega), Option.bind_some, w64_succ (i := i) (by omega)]
      simp only [bne]
      exact bnot_lp _ _ _) (by
      unfold slices_Equal_int_int_L1
      simp only [lt_dec']; rfl), zip_beq hl]
    cases a == b <;> rfl
  · rw [if_pos (by simpa using (by omega : ¬ (a.length : Int) = b.length))]
    have : (a == b) = false := by
      rw [Bool.eq_false_iff]; intro e
      exact hl (by rw [eq_of_beq e])
    rw [this]
theorem stree_refl {A : Ns} (hA : TrOk A) : same_Trees ⟨A⟩ ⟨A⟩ = some true := by
  have hag : A.length ≤ 9223372036854775807 := hA.1
  unfold same_Trees
  rw [if_neg (by simp), Loop_zip (a := A) (b := A) rfl (fun _ _ => true) (fun i h => by
    unfold same_Trees_L1 same_Nodes
    have := (hA.2 _ (List.getElem_mem h)).1
    simp only [lt_dec h, if_true, idx_lt h, Option.bind_some, w64_succ (i := i) (by omega), beq_self_eq_true, sints_eq this, Bool.not_true, Bool.false_eq_true, if_false]) (by
    unfold same_Trees_L1
    simp only [lt_dec']; rfl)]
  rw [show ((A.zip A).all fun _ => true) = true by simp]
  rfl
theorem TrOk_part {N : Ns} (hN : TrOk N) (a b : Nat) (d : Int) : TrOk (partL N a b d) := by
  refine ⟨?_, fun n hn => ?_⟩
  · have : (partL N a b d).length ≤ N.length := by simp [partL]; omega
    exact Nat.le_trans this hN.1
  · unfold partL at hn
    obtain ⟨m, hm, rfl⟩ := List.mem_map.1 hn
    have := hN.2 m (List.mem_of_mem_drop (List.mem_of_mem_take hm))
    simpa [sh] using this

/-- Nodes that are alike. -/
def likeB (x y : XApi_Node) : Bool := x.Kind == y.Kind && x.Text.toList == y.Text.toList && x.N == y.N && x.Size == y.Size && x.Kids == y.Kids
def likeN (A B : Ns) : Bool := A.length == B.length && (A.zip B).all fun x => likeB x.1 x.2
theorem same1_eq (x y : XApi_Node) (hx : x.Kids.length ≤ big) : tree_Same_1 x y = some (likeB x y) := by
  unfold tree_Same_1 likeB
  simp only [eints_eq hx, ifF, Option.bind_some, biff]
theorem eqf_eq {A B : Ns} (hA : TrOk A) : slices_EqualFunc_api_Node_api_Node_api_Node_api_Node__f31 A B = some (likeN A B) := by
  have hag : A.length ≤ 9223372036854775807 := hA.1
  unfold slices_EqualFunc_api_Node_api_Node_api_Node_api_Node__f31 likeN
  by_cases hl : A.length = B.length
  · rw [if_neg (by simp [hl]), Loop_zip hl (fun x y => likeB x y) (fun i h => by
      unfold slices_EqualFunc_api_Node_api_Node_api_Node_api_Node__f31_L1
      simp only [lt_dec h, if_true, idx_lt h, idx_lt (show i < B.length by omega), Option.bind_some, w64_succ (i := i) (by omega), same1_eq _ _ (hA.2 _ (List.getElem_mem h)).1]
      cases likeB A[i] B[i] <;> rfl) (by
      unfold slices_EqualFunc_api_Node_api_Node_api_Node_api_Node__f31_L1
      simp only [lt_dec']; rfl)]
    have : (A.length == B.length) = true := by simpa using hl
    rw [this]
    cases (A.zip B).all (fun x => likeB x.1 x.2) <;> rfl
  · rw [if_pos (by simpa using (by omega : ¬ (A.length : Int) = B.length))]
    have : (A.length == B.length) = false := by simpa using hl
    rw [this]; rfl
theorem alike5 (a b c d e : Bool) (nx : Lp Int (Br Unit Bool)) : (if (!a || !b || !c || !d) = true then some (.out (.ret false)) else Br.go (fun _ : Unit => some nx) (fun r : Bool => some (.out (.ret r))) (if e = true then .brk () else .ret false)) = some (if (a && b && c && d && e) = true then nx else .out (.ret false)) := by
  cases a <;> cases b <;> cases c <;> cases d <;> cases e <;> rfl
theorem ralike_eq {A B : Ns} (hA : TrOk A) : ref1_Alike ⟨A⟩ ⟨B⟩ = some (likeN A B) := by
  have hag : A.length ≤ 9223372036854775807 := hA.1
  unfold ref1_Alike likeN
  by_cases hl : A.length = B.length
  · have inner : ∀ (x y : XApi_Node), x.Kids.length ≤ big → x.Kids.length = y.Kids.length → Loop (fun s => ref1_Alike_L2 x y s) 0 = some (if x.Kids == y.Kids then .brk () else .ret false) := by
      intro x y hx hxy
      have hxg : x.Kids.length ≤ 9223372036854775807 := hx
      rw [Loop_zip hxy (fun x y => x == y) (fun i h => by
        unfold ref1_Alike_L2
        simp only [lt_dec h, if_true, idx_lt h, idx_lt (show i < y.Kids.length by omega), Option.bind_some, w64_succ (i := i) (by omega)]
        simp only [bne]
        exact bnot_lp _ _ _) (by
        unfold ref1_Alike_L2
        simp only [lt_dec']; rfl), zip_beq hxy]
    rw [if_neg (by simp [hl]), Loop_zip hl (fun x y => likeB x y) (fun i h => by
      unfold ref1_Alike_L1
      have hk := (hA.2 _ (List.getElem_mem h)).1
      simp only [lt_dec h, if_true, idx_lt h, idx_lt (show i < B.length by omega), Option.bind_some, w64_succ (i := i) (by omega), ifT]
      generalize A[i] = x at *
      generalize B[i]'(by omega) = y at *
      unfold likeB
      by_cases hkl : x.Kids.length = y.Kids.length
      · have e : ((x.Kids.length : Int) != (y.Kids.length : Int)) = false := by simp [hkl]
        simp only [e, Bool.or_false, inner x y hk hkl, Option.bind_some]
        simp only [bne]
        exact alike5 _ _ _ _ _ _
      · have e : ((x.Kids.length : Int) != (y.Kids.length : Int)) = true := by simp; omega
        have e2 : (x.Kids == y.Kids) = false := by
          rw [Bool.eq_false_iff]; intro e
          exact hkl (by rw [eq_of_beq e])
        simp only [e, Bool.or_true, if_true, e2, Bool.and_false, Bool.false_eq_true, if_false]) (by
      unfold ref1_Alike_L1
      simp only [lt_dec']; rfl)]
    have : (A.length == B.length) = true := by simpa using hl
    rw [this]
    cases (A.zip B).all (fun x => likeB x.1 x.2) <;> rfl
  · rw [if_pos (by simpa using (by omega : ¬ (A.length : Int) = B.length))]
    have : (A.length == B.length) = false := by simpa using hl
    rw [this]; rfl
theorem same_ok {A B : Ns} (hA : TrOk A) (hB : TrOk B) : ∃ ra rb, tree_Check ⟨A⟩ = some ra ∧ tree_Check ⟨B⟩ = some rb ∧ (ra.Code = 0 → ra = ⟨0, 0⟩) ∧ (rb.Code = 0 → rb = ⟨0, 0⟩) ∧
    tree_Same ⟨A⟩ ⟨B⟩ = some (if ra.Code ≠ 0 then (false, ra) else if rb.Code ≠ 0 then (false, rb) else (likeN A B, ⟨0, 0⟩)) := by
  obtain ⟨ra, a1, _, a3, _⟩ := tree_check hA
  obtain ⟨rb, b1, _, b3, _⟩ := tree_check hB
  refine ⟨ra, rb, a1, b1, a3, b3, ?_⟩
  unfold tree_Same
  simp only [a1, b1, Option.bind_some, eqf_eq hA]
  by_cases ha : ra.Code = 0
  · obtain rfl := a3 ha
    by_cases hb : rb.Code = 0
    · obtain rfl := b3 hb
      simp
    · have e0 : (rb.Code == 0) = false := by simpa using hb
      simp [e0, hb]
  · have e0 : (ra.Code == 0) = false := by simpa using ha
    simp [e0, ha]
end Go.Ab
