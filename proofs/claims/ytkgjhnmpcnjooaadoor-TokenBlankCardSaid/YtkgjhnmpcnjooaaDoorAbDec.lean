/-
  What can be read as data is plain data (written by gen3.py).
-/
import Derived.Test.YtkgjhnmpcnjooaaDoorAbIn
import Derived.Test.YtkgjhnmpcnjooaaDoorAbGenTy
namespace Go.Ab
open Go Go.Proofs
variable [MM]
def ok_cXApi_Token (B : Nat) (x : XApi_Token) : Prop := (fun n : Int => (Lit.int .i64 n).wf = true) x.Kind ∧ (fun s : ByteArray => s.size ≤ B) x.Text ∧ (fun n : Int => (Lit.int .i64 n).wf = true) x.N ∧ (fun n : Int => (Lit.int .i64 n).wf = true) x.At
theorem dec_cXApi_Token_36 {B : Nat} : ∀ cells, Typ cx.P B 36 cells → ∃ x : XApi_Token, cells = cXApi_Token x ∧ ok_cXApi_Token B x := by
  intro cells h
  have h0 := dec_fields Tryd.underlying36 h
  clear h
  obtain ⟨a0, b0, e0, g0, h1⟩ := dec_cons h0
  obtain ⟨x0, k0, o0⟩ := (dec_int Tryd.underlying3 g0)
  obtain ⟨a1, b1, e1, g1, h2⟩ := dec_cons h1
  obtain ⟨x1, k1, o1⟩ := (dec_str Tryd.underlying9 g1)
  obtain ⟨a2, b2, e2, g2, h3⟩ := dec_cons h2
  obtain ⟨x2, k2, o2⟩ := (dec_int Tryd.underlying3 g2)
  obtain ⟨a3, b3, e3, g3, h4⟩ := dec_cons h3
  obtain ⟨x3, k3, o3⟩ := (dec_int Tryd.underlying3 g3)
  have kn := dec_nil h4
  subst kn; rw [k3] at e3; subst e3; rw [k2] at e2; subst e2; rw [k1] at e1; subst e1; rw [k0] at e0; subst e0
  exact ⟨⟨x0, x1, x2, x3⟩, rfl, o0, o1, o2, o3⟩
end Go.Ab
