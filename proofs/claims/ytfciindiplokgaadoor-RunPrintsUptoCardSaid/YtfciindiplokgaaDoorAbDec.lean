/-
  What can be read as data is plain data (written by gen3.py).
-/
import Derived.Test.YtfciindiplokgaaDoorAbIn
import Derived.Test.YtfciindiplokgaaDoorAbGenTy
namespace Go.Ab
open Go Go.Proofs
def ok_cXApi_Global (B : Nat) (x : XApi_Global) : Prop := (fun s : ByteArray => s.size ≤ B) x.Name ∧ (fun n : Int => (Lit.int .i64 n).wf = true) x.Size ∧ (fun l : (List Int) => l.length ≤ B ∧ ∀ x ∈ l, (fun n : Int => (Lit.int .i64 n).wf = true) x) x.Init
theorem dec_cXApi_Global_68 {B : Nat} : ∀ cells, Typ cx.P B 68 cells → ∃ x : XApi_Global, cells = cXApi_Global x ∧ ok_cXApi_Global B x := by
  intro cells h
  have h0 := dec_fields Tryd.underlying68 h
  clear h
  obtain ⟨a0, b0, e0, g0, h1⟩ := dec_cons h0
  obtain ⟨x0, k0, o0⟩ := (dec_str Tryd.underlying9 g0)
  obtain ⟨a1, b1, e1, g1, h2⟩ := dec_cons h1
  obtain ⟨x1, k1, o1⟩ := (dec_int Tryd.underlying3 g1)
  obtain ⟨a2, b2, e2, g2, h3⟩ := dec_cons h2
  obtain ⟨x2, k2, o2⟩ := (dec_slice (c := cInt_i64) (ok := (fun n : Int => (Lit.int .i64 n).wf = true)) Tryd.underlying26 (fun cs (h : Typ Tryd.prog B 3 cs) => (dec_int Tryd.underlying3 h)) g2)
  have kn := dec_nil h3
  subst kn; rw [k2] at e2; subst e2; rw [k1] at e1; subst e1; rw [k0] at e0; subst e0
  exact ⟨⟨x0, x1, x2⟩, rfl, o0, o1, o2⟩
def ok_cXApi_Val (B : Nat) (x : XApi_Val) : Prop := (fun _ : Bool => True) x.Reg ∧ (fun n : Int => (Lit.int .i64 n).wf = true) x.N
theorem dec_cXApi_Val_52 {B : Nat} : ∀ cells, Typ cx.P B 52 cells → ∃ x : XApi_Val, cells = cXApi_Val x ∧ ok_cXApi_Val B x := by
  intro cells h
  have h0 := dec_fields Tryd.underlying52 h
  clear h
  obtain ⟨a0, b0, e0, g0, h1⟩ := dec_cons h0
  obtain ⟨x0, k0, o0⟩ := (dec_bool Tryd.underlying4 g0)
  obtain ⟨a1, b1, e1, g1, h2⟩ := dec_cons h1
  obtain ⟨x1, k1, o1⟩ := (dec_int Tryd.underlying3 g1)
  have kn := dec_nil h2
  subst kn; rw [k1] at e1; subst e1; rw [k0] at e0; subst e0
  exact ⟨⟨x0, x1⟩, rfl, o0, o1⟩
def ok_cXApi_Phi (B : Nat) (x : XApi_Phi) : Prop := (fun n : Int => (Lit.int .i64 n).wf = true) x.Dst ∧ (fun l : (List XApi_Val) => l.length ≤ B ∧ ∀ x ∈ l, (ok_cXApi_Val B) x) x.From
theorem dec_cXApi_Phi_97 {B : Nat} : ∀ cells, Typ cx.P B 97 cells → ∃ x : XApi_Phi, cells = cXApi_Phi x ∧ ok_cXApi_Phi B x := by
  intro cells h
  have h0 := dec_fields Tryd.underlying97 h
  clear h
  obtain ⟨a0, b0, e0, g0, h1⟩ := dec_cons h0
  obtain ⟨x0, k0, o0⟩ := (dec_int Tryd.underlying3 g0)
  obtain ⟨a1, b1, e1, g1, h2⟩ := dec_cons h1
  obtain ⟨x1, k1, o1⟩ := (dec_slice (c := cXApi_Val) (ok := (ok_cXApi_Val B)) Tryd.underlying61 (fun cs (h : Typ Tryd.prog B 52 cs) => (dec_cXApi_Val_52 _ h)) g1)
  have kn := dec_nil h2
  subst kn; rw [k1] at e1; subst e1; rw [k0] at e0; subst e0
  exact ⟨⟨x0, x1⟩, rfl, o0, o1⟩
def ok_cXApi_Ins (B : Nat) (x : XApi_Ins) : Prop := (fun n : Int => (Lit.int .i64 n).wf = true) x.Op ∧ (fun n : Int => (Lit.int .i64 n).wf = true) x.Dst ∧ (ok_cXApi_Val B) x.A ∧ (ok_cXApi_Val B) x.B ∧ (fun n : Int => (Lit.int .i64 n).wf = true) x.Func ∧ (fun l : (List XApi_Val) => l.length ≤ B ∧ ∀ x ∈ l, (ok_cXApi_Val B) x) x.Args
theorem dec_cXApi_Ins_63 {B : Nat} : ∀ cells, Typ cx.P B 63 cells → ∃ x : XApi_Ins, cells = cXApi_Ins x ∧ ok_cXApi_Ins B x := by
  intro cells h
  have h0 := dec_fields Tryd.underlying63 h
  clear h
  obtain ⟨a0, b0, e0, g0, h1⟩ := dec_cons h0
  obtain ⟨x0, k0, o0⟩ := (dec_int Tryd.underlying3 g0)
  obtain ⟨a1, b1, e1, g1, h2⟩ := dec_cons h1
  obtain ⟨x1, k1, o1⟩ := (dec_int Tryd.underlying3 g1)
  obtain ⟨a2, b2, e2, g2, h3⟩ := dec_cons h2
  obtain ⟨x2, k2, o2⟩ := (dec_cXApi_Val_52 _ g2)
  obtain ⟨a3, b3, e3, g3, h4⟩ := dec_cons h3
  obtain ⟨x3, k3, o3⟩ := (dec_cXApi_Val_52 _ g3)
  obtain ⟨a4, b4, e4, g4, h5⟩ := dec_cons h4
  obtain ⟨x4, k4, o4⟩ := (dec_int Tryd.underlying3 g4)
  obtain ⟨a5, b5, e5, g5, h6⟩ := dec_cons h5
  obtain ⟨x5, k5, o5⟩ := (dec_slice (c := cXApi_Val) (ok := (ok_cXApi_Val B)) Tryd.underlying61 (fun cs (h : Typ Tryd.prog B 52 cs) => (dec_cXApi_Val_52 _ h)) g5)
  have kn := dec_nil h6
  subst kn; rw [k5] at e5; subst e5; rw [k4] at e4; subst e4; rw [k3] at e3; subst e3; rw [k2] at e2; subst e2; rw [k1] at e1; subst e1; rw [k0] at e0; subst e0
  exact ⟨⟨x0, x1, x2, x3, x4, x5⟩, rfl, o0, o1, o2, o3, o4, o5⟩
def ok_cXApi_End (B : Nat) (x : XApi_End) : Prop := (fun n : Int => (Lit.int .i64 n).wf = true) x.Kind ∧ (ok_cXApi_Val B) x.On ∧ (fun l : (List Int) => l.length ≤ B ∧ ∀ x ∈ l, (fun n : Int => (Lit.int .i64 n).wf = true) x) x.To
theorem dec_cXApi_End_54 {B : Nat} : ∀ cells, Typ cx.P B 54 cells → ∃ x : XApi_End, cells = cXApi_End x ∧ ok_cXApi_End B x := by
  intro cells h
  have h0 := dec_fields Tryd.underlying54 h
  clear h
  obtain ⟨a0, b0, e0, g0, h1⟩ := dec_cons h0
  obtain ⟨x0, k0, o0⟩ := (dec_int Tryd.underlying3 g0)
  obtain ⟨a1, b1, e1, g1, h2⟩ := dec_cons h1
  obtain ⟨x1, k1, o1⟩ := (dec_cXApi_Val_52 _ g1)
  obtain ⟨a2, b2, e2, g2, h3⟩ := dec_cons h2
  obtain ⟨x2, k2, o2⟩ := (dec_slice (c := cInt_i64) (ok := (fun n : Int => (Lit.int .i64 n).wf = true)) Tryd.underlying26 (fun cs (h : Typ Tryd.prog B 3 cs) => (dec_int Tryd.underlying3 h)) g2)
  have kn := dec_nil h3
  subst kn; rw [k2] at e2; subst e2; rw [k1] at e1; subst e1; rw [k0] at e0; subst e0
  exact ⟨⟨x0, x1, x2⟩, rfl, o0, o1, o2⟩
def ok_cXApi_Block (B : Nat) (x : XApi_Block) : Prop := (fun l : (List XApi_Phi) => l.length ≤ B ∧ ∀ x ∈ l, (ok_cXApi_Phi B) x) x.Phis ∧ (fun l : (List XApi_Ins) => l.length ≤ B ∧ ∀ x ∈ l, (ok_cXApi_Ins B) x) x.List ∧ (ok_cXApi_End B) x.End
theorem dec_cXApi_Block_58 {B : Nat} : ∀ cells, Typ cx.P B 58 cells → ∃ x : XApi_Block, cells = cXApi_Block x ∧ ok_cXApi_Block B x := by
  intro cells h
  have h0 := dec_fields Tryd.underlying58 h
  clear h
  obtain ⟨a0, b0, e0, g0, h1⟩ := dec_cons h0
  obtain ⟨x0, k0, o0⟩ := (dec_slice (c := cXApi_Phi) (ok := (ok_cXApi_Phi B)) Tryd.underlying55 (fun cs (h : Typ Tryd.prog B 97 cs) => (dec_cXApi_Phi_97 _ h)) g0)
  obtain ⟨a1, b1, e1, g1, h2⟩ := dec_cons h1
  obtain ⟨x1, k1, o1⟩ := (dec_slice (c := cXApi_Ins) (ok := (ok_cXApi_Ins B)) Tryd.underlying56 (fun cs (h : Typ Tryd.prog B 63 cs) => (dec_cXApi_Ins_63 _ h)) g1)
  obtain ⟨a2, b2, e2, g2, h3⟩ := dec_cons h2
  obtain ⟨x2, k2, o2⟩ := (dec_cXApi_End_54 _ g2)
  have kn := dec_nil h3
  subst kn; rw [k2] at e2; subst e2; rw [k1] at e1; subst e1; rw [k0] at e0; subst e0
  exact ⟨⟨x0, x1, x2⟩, rfl, o0, o1, o2⟩
def ok_cXApi_Func (B : Nat) (x : XApi_Func) : Prop := (fun s : ByteArray => s.size ≤ B) x.Name ∧ (fun n : Int => (Lit.int .i64 n).wf = true) x.Params ∧ (fun n : Int => (Lit.int .i64 n).wf = true) x.Regs ∧ (fun l : (List XApi_Block) => l.length ≤ B ∧ ∀ x ∈ l, (ok_cXApi_Block B) x) x.Blocks
theorem dec_cXApi_Func_50 {B : Nat} : ∀ cells, Typ cx.P B 50 cells → ∃ x : XApi_Func, cells = cXApi_Func x ∧ ok_cXApi_Func B x := by
  intro cells h
  have h0 := dec_fields Tryd.underlying50 h
  clear h
  obtain ⟨a0, b0, e0, g0, h1⟩ := dec_cons h0
  obtain ⟨x0, k0, o0⟩ := (dec_str Tryd.underlying9 g0)
  obtain ⟨a1, b1, e1, g1, h2⟩ := dec_cons h1
  obtain ⟨x1, k1, o1⟩ := (dec_int Tryd.underlying3 g1)
  obtain ⟨a2, b2, e2, g2, h3⟩ := dec_cons h2
  obtain ⟨x2, k2, o2⟩ := (dec_int Tryd.underlying3 g2)
  obtain ⟨a3, b3, e3, g3, h4⟩ := dec_cons h3
  obtain ⟨x3, k3, o3⟩ := (dec_slice (c := cXApi_Block) (ok := (ok_cXApi_Block B)) Tryd.underlying48 (fun cs (h : Typ Tryd.prog B 58 cs) => (dec_cXApi_Block_58 _ h)) g3)
  have kn := dec_nil h4
  subst kn; rw [k3] at e3; subst e3; rw [k2] at e2; subst e2; rw [k1] at e1; subst e1; rw [k0] at e0; subst e0
  exact ⟨⟨x0, x1, x2, x3⟩, rfl, o0, o1, o2, o3⟩
def ok_cXApi_Unit (B : Nat) (x : XApi_Unit) : Prop := (fun l : (List XApi_Global) => l.length ≤ B ∧ ∀ x ∈ l, (ok_cXApi_Global B) x) x.Globals ∧ (fun l : (List XApi_Func) => l.length ≤ B ∧ ∀ x ∈ l, (ok_cXApi_Func B) x) x.Funcs
theorem dec_cXApi_Unit_25 {B : Nat} : ∀ cells, Typ cx.P B 25 cells → ∃ x : XApi_Unit, cells = cXApi_Unit x ∧ ok_cXApi_Unit B x := by
  intro cells h
  have h0 := dec_fields Tryd.underlying25 h
  clear h
  obtain ⟨a0, b0, e0, g0, h1⟩ := dec_cons h0
  obtain ⟨x0, k0, o0⟩ := (dec_slice (c := cXApi_Global) (ok := (ok_cXApi_Global B)) Tryd.underlying22 (fun cs (h : Typ Tryd.prog B 68 cs) => (dec_cXApi_Global_68 _ h)) g0)
  obtain ⟨a1, b1, e1, g1, h2⟩ := dec_cons h1
  obtain ⟨x1, k1, o1⟩ := (dec_slice (c := cXApi_Func) (ok := (ok_cXApi_Func B)) Tryd.underlying23 (fun cs (h : Typ Tryd.prog B 50 cs) => (dec_cXApi_Func_50 _ h)) g1)
  have kn := dec_nil h2
  subst kn; rw [k1] at e1; subst e1; rw [k0] at e0; subst e0
  exact ⟨⟨x0, x1⟩, rfl, o0, o1⟩
end Go.Ab
