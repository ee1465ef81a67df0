/-
  What came in as a tree is of no more than so much; the places of nodes are no matter.
-/
import Derived.Test.YtpaomhgaokonfaaAbT11
import Derived.Test.YtpaomhgaokonfaaAbDec
namespace Go.Ab
open Go Go.Proofs
theorem tr_ok {B : Nat} (hB : B ≤ maxLen) {t : XApi_Tree} (h : ok_cXApi_Tree B t) : TrOk t.Nodes := by
  obtain ⟨h3, h4⟩ := h
  exact ⟨Nat.le_trans h3 hB, fun n hn => ⟨Nat.le_trans (h4 n hn).2.2.2.2.1.1 hB, Nat.le_trans (h4 n hn).2.1 hB⟩⟩
theorem tr_kids {B : Nat} (hB : B ≤ 1048576) {t : XApi_Tree} (h : ok_cXApi_Tree B t) : TrKids t.Nodes := fun n hn => by
  have := (h.2 n hn).2.2.2.2.1.1
  omega
/-- A node that stands elsewhere. -/
def atN (p : Int) (n : XApi_Node) : XApi_Node := ⟨n.Kind, n.Text, n.N, n.Size, n.Kids, p⟩
theorem like_at (p : Int) : ∀ N : Ns, likeN N (N.map (atN p)) = true := by
  intro N
  unfold likeN
  have h1 : (N.length == (N.map (atN p)).length) = true := by simp
  rw [h1, Bool.true_and]
  induction N with
  | nil => rfl
  | cons x l ih =>
    simp only [List.map_cons, List.zip_cons_cons, List.all_cons]
    rw [ih (by simp)]
    simp [likeB, atN]
theorem treePlaces_true (t : XApi_Tree) (p : Int) (hN : TrOk t.Nodes) (hs : t.Nodes.length ≤ 4294967296) : law1_TreePlaces 3 t p = some true := by
  obtain ⟨N⟩ := t
  have hN : TrOk N := hN
  have hs : N.length ≤ 4294967296 := hs
  unfold law1_TreePlaces
  rw [fact_true _ (by omega)]
  simp only [Option.bind_some, Bool.not_true, Bool.false_eq_true, if_false]
  by_cases hp : p < 0
  · rw [if_pos (by simpa using hp)]
  rw [if_neg (by simpa using hp)]
  have hl := Loop_traj (step := fun s => law1_TreePlaces_L1 ⟨N⟩ p s.1 s.2) (s0 := (⟨[]⟩, 0)) (fun i => (⟨(N.take i).map (atN p)⟩, (i : Int))) N.length ⟨N.map (atN p)⟩ (by simp) (fun i hi => by
    unfold law1_TreePlaces_L1
    simp only [lt_dec hi, if_true, idx_lt hi, Option.bind_some]
    rw [app_ok (by simp; omega), Option.bind_some, w64_succ (by omega)]
    congr 4
    rw [List.take_add_one, List.getElem?_eq_getElem hi, List.map_append]; rfl) (by
    unfold law1_TreePlaces_L1
    simp only [lt_dec', Bool.false_eq_true, if_false, List.take_length])
  have hU : TrOk (N.map (atN p)) := by
    refine ⟨by simpa using hN.1, fun n hn => ?_⟩
    obtain ⟨m, hm, rfl⟩ := List.mem_map.1 hn
    exact hN.2 m hm
  obtain ⟨ra, rb, a1, b1, a3, b3, hsm⟩ := same_ok hN hU
  simp only [hl, Option.bind_some, hsm]
  by_cases ha : ra.Code = 0
  · obtain rfl := a3 ha
    by_cases hb : rb.Code = 0
    · obtain rfl := b3 hb
      simp [like_at]
    · simp [hb, a1, b1]
  · simp [ha, a1]
end Go.Ab
