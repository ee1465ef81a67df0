/-
  What can be read as data is plain data (written by gen3.py).
-/
import Derived.Test.YtbhpblokoecoaaaAbIn
import Derived.Test.YtbhpblokoecoaaaAbGenTy
namespace Go.Ab
open Go Go.Proofs
def ok_cXApi_Node (B : Nat) (x : XApi_Node) : Prop := (fun n : Int => (Lit.int .i64 n).wf = true) x.Kind ∧ (fun s : ByteArray => s.size ≤ B) x.Text ∧ (fun n : Int => (Lit.int .i64 n).wf = true) x.N ∧ (fun n : Int => (Lit.int .i64 n).wf = true) x.Size ∧ (fun l : (List Int) => l.length ≤ B ∧ ∀ x ∈ l, (fun n : Int => (Lit.int .i64 n).wf = true) x) x.Kids ∧ (fun n : Int => (Lit.int .i64 n).wf = true) x.At
theorem dec_cXApi_Node_44 {B : Nat} : ∀ cells, Typ cx.P B 44 cells → ∃ x : XApi_Node, cells = cXApi_Node x ∧ ok_cXApi_Node B x := by
  intro cells h
  have h0 := dec_fields Try.underlying44 h
  clear h
  obtain ⟨a0, b0, e0, g0, h1⟩ := dec_cons h0
  obtain ⟨x0, k0, o0⟩ := (dec_int Try.underlying3 g0)
  obtain ⟨a1, b1, e1, g1, h2⟩ := dec_cons h1
  obtain ⟨x1, k1, o1⟩ := (dec_str Try.underlying9 g1)
  obtain ⟨a2, b2, e2, g2, h3⟩ := dec_cons h2
  obtain ⟨x2, k2, o2⟩ := (dec_int Try.underlying3 g2)
  obtain ⟨a3, b3, e3, g3, h4⟩ := dec_cons h3
  obtain ⟨x3, k3, o3⟩ := (dec_int Try.underlying3 g3)
  obtain ⟨a4, b4, e4, g4, h5⟩ := dec_cons h4
  obtain ⟨x4, k4, o4⟩ := (dec_slice (c := cInt_i64) (ok := (fun n : Int => (Lit.int .i64 n).wf = true)) Try.underlying25 (fun cs (h : Typ Try.prog B 3 cs) => (dec_int Try.underlying3 h)) g4)
  obtain ⟨a5, b5, e5, g5, h6⟩ := dec_cons h5
  obtain ⟨x5, k5, o5⟩ := (dec_int Try.underlying3 g5)
  have kn := dec_nil h6
  subst kn; rw [k5] at e5; subst e5; rw [k4] at e4; subst e4; rw [k3] at e3; subst e3; rw [k2] at e2; subst e2; rw [k1] at e1; subst e1; rw [k0] at e0; subst e0
  exact ⟨⟨x0, x1, x2, x3, x4, x5⟩, rfl, o0, o1, o2, o3, o4, o5⟩
def ok_cXApi_Tree (B : Nat) (x : XApi_Tree) : Prop := (fun l : (List XApi_Node) => l.length ≤ B ∧ ∀ x ∈ l, (ok_cXApi_Node B) x) x.Nodes
theorem dec_cXApi_Tree_24 {B : Nat} : ∀ cells, Typ cx.P B 24 cells → ∃ x : XApi_Tree, cells = cXApi_Tree x ∧ ok_cXApi_Tree B x := by
  intro cells h
  have h0 := dec_fields Try.underlying24 h
  clear h
  obtain ⟨a0, b0, e0, g0, h1⟩ := dec_cons h0
  obtain ⟨x0, k0, o0⟩ := (dec_slice (c := cXApi_Node) (ok := (ok_cXApi_Node B)) Try.underlying22 (fun cs (h : Typ Try.prog B 44 cs) => (dec_cXApi_Node_44 _ h)) g0)
  have kn := dec_nil h1
  subst kn; rw [k0] at e0; subst e0
  exact ⟨⟨x0⟩, rfl, o0⟩
end Go.Ab
