/-
  What came in as a tree is of no more than so much.
-/
import Derived.Test.YtbhpblokoecoaaaAbSc6
import Derived.Test.YtbhpblokoecoaaaAbDec
namespace Go.Ab
open Go Go.Proofs
theorem tr_ok {B : Nat} (hB : B ≤ maxLen) {t : XApi_Tree} (h : ok_cXApi_Tree B t) : TrOk t.Nodes := by
  obtain ⟨h3, h4⟩ := h
  exact ⟨Nat.le_trans h3 hB, fun n hn => ⟨Nat.le_trans (h4 n hn).2.2.2.2.1.1 hB, Nat.le_trans (h4 n hn).2.1 hB⟩⟩
theorem tr_kids {B : Nat} (hB : B ≤ 1048576) {t : XApi_Tree} (h : ok_cXApi_Tree B t) : TrKids t.Nodes := fun n hn => by
  have := (h.2 n hn).2.2.2.2.1.1
  omega
end Go.Ab
