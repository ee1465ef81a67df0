/-
  The types of the program as plain data, and how they stand as abstract values (written by gen.py).
-/
import Derived.Test.YtbgakafgplbbnaaDoorAbQ3
import Derived.Test.YtbgakafgplbbnaaDoorAbEqS
import Derived.Test.YtbgakafgplbbnaaDoorAbTy
namespace Go.Ab
open Go Go.Proofs
structure XApi_Global where
  Name : ByteArray
  Size : Int
  Init : (List Int)
  deriving DecidableEq, Inhabited
structure XApi_Val where
  Reg : Bool
  N : Int
  deriving DecidableEq, Inhabited
structure XApi_Phi where
  Dst : Int
  From : (List XApi_Val)
  deriving DecidableEq, Inhabited
structure XApi_Ins where
  Op : Int
  Dst : Int
  A : XApi_Val
  B : XApi_Val
  Func : Int
  Args : (List XApi_Val)
  deriving DecidableEq, Inhabited
structure XApi_End where
  Kind : Int
  On : XApi_Val
  To : (List Int)
  deriving DecidableEq, Inhabited
structure XApi_Block where
  Phis : (List XApi_Phi)
  List : (List XApi_Ins)
  End : XApi_End
  deriving DecidableEq, Inhabited
structure XApi_Func where
  Name : ByteArray
  Params : Int
  Regs : Int
  Blocks : (List XApi_Block)
  deriving DecidableEq, Inhabited
structure XApi_Unit where
  Globals : (List XApi_Global)
  Funcs : (List XApi_Func)
  deriving DecidableEq, Inhabited
structure XApi_Fault where
  Code : Int
  At : Int
  deriving DecidableEq, Inhabited
structure XCode_checker where
  u : XApi_Unit
  f : XApi_Func
  ahead : (List (List Int))
  deriving DecidableEq, Inhabited
structure XCore_Shape where
  Dst : Bool
  A : Bool
  B : Bool
  deriving DecidableEq, Inhabited
structure XApi_Outcome where
  State : Int
  Value : Int
  Out : (List Int)
  Steps : Int
  deriving DecidableEq, Inhabited
def cInt_i64 (x : Int) : List AV := [(I x)]
theorem fl_cInt_i64 (x : Int) : flatL (cInt_i64 x) = true := rfl
theorem ln_cInt_i64 (x : Int) : (cInt_i64 x).length = 1 := rfl
def cXApi_Global (x : XApi_Global) : List AV := [(AV.val (.string x.Name)), (I x.Size), (.sl ((x.Init).map cInt_i64))]
theorem fl_cXApi_Global (x : XApi_Global) : flatL (cXApi_Global x) = true := rfl
theorem ln_cXApi_Global (x : XApi_Global) : (cXApi_Global x).length = 3 := rfl
def cXApi_Val (x : XApi_Val) : List AV := [(B x.Reg), (I x.N)]
theorem fl_cXApi_Val (x : XApi_Val) : flatL (cXApi_Val x) = true := rfl
theorem ln_cXApi_Val (x : XApi_Val) : (cXApi_Val x).length = 2 := rfl
def cXApi_Phi (x : XApi_Phi) : List AV := [(I x.Dst), (.sl ((x.From).map cXApi_Val))]
theorem fl_cXApi_Phi (x : XApi_Phi) : flatL (cXApi_Phi x) = true := rfl
theorem ln_cXApi_Phi (x : XApi_Phi) : (cXApi_Phi x).length = 2 := rfl
def cXApi_Ins (x : XApi_Ins) : List AV := [(I x.Op), (I x.Dst), (B x.A.Reg), (I x.A.N), (B x.B.Reg), (I x.B.N), (I x.Func), (.sl ((x.Args).map cXApi_Val))]
theorem fl_cXApi_Ins (x : XApi_Ins) : flatL (cXApi_Ins x) = true := rfl
theorem ln_cXApi_Ins (x : XApi_Ins) : (cXApi_Ins x).length = 8 := rfl
def cXApi_Block (x : XApi_Block) : List AV := [(.sl ((x.Phis).map cXApi_Phi)), (.sl ((x.List).map cXApi_Ins)), (I x.End.Kind), (B x.End.On.Reg), (I x.End.On.N), (.sl ((x.End.To).map cInt_i64))]
theorem fl_cXApi_Block (x : XApi_Block) : flatL (cXApi_Block x) = true := rfl
theorem ln_cXApi_Block (x : XApi_Block) : (cXApi_Block x).length = 6 := rfl
def cXApi_Func (x : XApi_Func) : List AV := [(AV.val (.string x.Name)), (I x.Params), (I x.Regs), (.sl ((x.Blocks).map cXApi_Block))]
theorem fl_cXApi_Func (x : XApi_Func) : flatL (cXApi_Func x) = true := rfl
theorem ln_cXApi_Func (x : XApi_Func) : (cXApi_Func x).length = 4 := rfl
def cXApi_Unit (x : XApi_Unit) : List AV := [(.sl ((x.Globals).map cXApi_Global)), (.sl ((x.Funcs).map cXApi_Func))]
theorem fl_cXApi_Unit (x : XApi_Unit) : flatL (cXApi_Unit x) = true := rfl
theorem ln_cXApi_Unit (x : XApi_Unit) : (cXApi_Unit x).length = 2 := rfl
def cXApi_Fault (x : XApi_Fault) : List AV := [(I x.Code), (I x.At)]
theorem fl_cXApi_Fault (x : XApi_Fault) : flatL (cXApi_Fault x) = true := rfl
theorem ln_cXApi_Fault (x : XApi_Fault) : (cXApi_Fault x).length = 2 := rfl
def cXApi_End (x : XApi_End) : List AV := [(I x.Kind), (B x.On.Reg), (I x.On.N), (.sl ((x.To).map cInt_i64))]
theorem fl_cXApi_End (x : XApi_End) : flatL (cXApi_End x) = true := rfl
theorem ln_cXApi_End (x : XApi_End) : (cXApi_End x).length = 4 := rfl
def cStr (x : ByteArray) : List AV := [(AV.val (.string x))]
theorem fl_cStr (x : ByteArray) : flatL (cStr x) = true := rfl
theorem ln_cStr (x : ByteArray) : (cStr x).length = 1 := rfl
def cs_cInt_i64 (x : (List Int)) : List AV := [(.sl ((x).map cInt_i64))]
theorem fl_cs_cInt_i64 (x : (List Int)) : flatL (cs_cInt_i64 x) = true := rfl
theorem ln_cs_cInt_i64 (x : (List Int)) : (cs_cInt_i64 x).length = 1 := rfl
def cXCode_checker (x : XCode_checker) : List AV := [(.sl ((x.u.Globals).map cXApi_Global)), (.sl ((x.u.Funcs).map cXApi_Func)), (AV.val (.string x.f.Name)), (I x.f.Params), (I x.f.Regs), (.sl ((x.f.Blocks).map cXApi_Block)), (.sl ((x.ahead).map cs_cInt_i64))]
theorem fl_cXCode_checker (x : XCode_checker) : flatL (cXCode_checker x) = true := rfl
theorem ln_cXCode_checker (x : XCode_checker) : (cXCode_checker x).length = 7 := rfl
def cs_cXApi_Block (x : (List XApi_Block)) : List AV := [(.sl ((x).map cXApi_Block))]
theorem fl_cs_cXApi_Block (x : (List XApi_Block)) : flatL (cs_cXApi_Block x) = true := rfl
theorem ln_cs_cXApi_Block (x : (List XApi_Block)) : (cs_cXApi_Block x).length = 1 := rfl
def co_cInt_i64 (x : (List Int)) : List AV := [(.own ((x).map cInt_i64))]
theorem fl_co_cInt_i64 (x : (List Int)) : flatL (co_cInt_i64 x) = true := by simp only [co_cInt_i64, flatL_cons, flatL_nil, flat_own, flat_val, flat_sl, Bool.and_true, Bool.and_self, flatR_map _ _ fl_cInt_i64]
theorem ln_co_cInt_i64 (x : (List Int)) : (co_cInt_i64 x).length = 1 := rfl
theorem fzl_co_cInt_i64 (x : (List Int)) : fzL (co_cInt_i64 x) = cs_cInt_i64 x := by simp only [co_cInt_i64, cs_cInt_i64, fzL, fz, fzR_map cInt_i64 cInt_i64 (fun _ => rfl)]
def cs_cs_cInt_i64 (x : (List (List Int))) : List AV := [(.sl ((x).map cs_cInt_i64))]
theorem fl_cs_cs_cInt_i64 (x : (List (List Int))) : flatL (cs_cs_cInt_i64 x) = true := rfl
theorem ln_cs_cs_cInt_i64 (x : (List (List Int))) : (cs_cs_cInt_i64 x).length = 1 := rfl
def cXCore_Shape (x : XCore_Shape) : List AV := [(B x.Dst), (B x.A), (B x.B)]
theorem fl_cXCore_Shape (x : XCore_Shape) : flatL (cXCore_Shape x) = true := rfl
theorem ln_cXCore_Shape (x : XCore_Shape) : (cXCore_Shape x).length = 3 := rfl
def cBool (x : Bool) : List AV := [(B x)]
theorem fl_cBool (x : Bool) : flatL (cBool x) = true := rfl
theorem ln_cBool (x : Bool) : (cBool x).length = 1 := rfl
def cXApi_Global_O (x : XApi_Global) : List AV := [(AV.val (.string x.Name)), (I x.Size), (.own ((x.Init).map cInt_i64))]
theorem fl_cXApi_Global_O (x : XApi_Global) : flatL (cXApi_Global_O x) = true := by simp only [cXApi_Global_O, flatL_cons, flatL_nil, flat_own, flat_val, flat_sl, Bool.and_true, Bool.and_self, flatR_map _ _ fl_cInt_i64]
theorem ln_cXApi_Global_O (x : XApi_Global) : (cXApi_Global_O x).length = 3 := rfl
theorem fzl_cXApi_Global_O (x : XApi_Global) : fzL (cXApi_Global_O x) = cXApi_Global x := by simp only [cXApi_Global_O, cXApi_Global, fzL, fz, fzR_map cInt_i64 cInt_i64 (fun _ => rfl)]
def cXApi_Phi_O (x : XApi_Phi) : List AV := [(I x.Dst), (.own ((x.From).map cXApi_Val))]
theorem fl_cXApi_Phi_O (x : XApi_Phi) : flatL (cXApi_Phi_O x) = true := by simp only [cXApi_Phi_O, flatL_cons, flatL_nil, flat_own, flat_val, flat_sl, Bool.and_true, Bool.and_self, flatR_map _ _ fl_cXApi_Val]
theorem ln_cXApi_Phi_O (x : XApi_Phi) : (cXApi_Phi_O x).length = 2 := rfl
theorem fzl_cXApi_Phi_O (x : XApi_Phi) : fzL (cXApi_Phi_O x) = cXApi_Phi x := by simp only [cXApi_Phi_O, cXApi_Phi, fzL, fz, fzR_map cXApi_Val cXApi_Val (fun _ => rfl)]
def cXApi_Ins_O (x : XApi_Ins) : List AV := [(I x.Op), (I x.Dst), (B x.A.Reg), (I x.A.N), (B x.B.Reg), (I x.B.N), (I x.Func), (.own ((x.Args).map cXApi_Val))]
theorem fl_cXApi_Ins_O (x : XApi_Ins) : flatL (cXApi_Ins_O x) = true := by simp only [cXApi_Ins_O, flatL_cons, flatL_nil, flat_own, flat_val, flat_sl, Bool.and_true, Bool.and_self, flatR_map _ _ fl_cXApi_Val]
theorem ln_cXApi_Ins_O (x : XApi_Ins) : (cXApi_Ins_O x).length = 8 := rfl
theorem fzl_cXApi_Ins_O (x : XApi_Ins) : fzL (cXApi_Ins_O x) = cXApi_Ins x := by simp only [cXApi_Ins_O, cXApi_Ins, fzL, fz, fzR_map cXApi_Val cXApi_Val (fun _ => rfl)]
def cXApi_Block_O (x : XApi_Block) : List AV := [(.own ((x.Phis).map cXApi_Phi_O)), (.own ((x.List).map cXApi_Ins_O)), (I x.End.Kind), (B x.End.On.Reg), (I x.End.On.N), (.own ((x.End.To).map cInt_i64))]
theorem fl_cXApi_Block_O (x : XApi_Block) : flatL (cXApi_Block_O x) = true := by simp only [cXApi_Block_O, flatL_cons, flatL_nil, flat_own, flat_val, flat_sl, Bool.and_true, Bool.and_self, flatR_map _ _ fl_cXApi_Phi_O, flatR_map _ _ fl_cXApi_Ins_O, flatR_map _ _ fl_cInt_i64]
theorem ln_cXApi_Block_O (x : XApi_Block) : (cXApi_Block_O x).length = 6 := rfl
theorem fzl_cXApi_Block_O (x : XApi_Block) : fzL (cXApi_Block_O x) = cXApi_Block x := by simp only [cXApi_Block_O, cXApi_Block, fzL, fz, fzR_map cXApi_Phi_O cXApi_Phi fzl_cXApi_Phi_O, fzR_map cXApi_Ins_O cXApi_Ins fzl_cXApi_Ins_O, fzR_map cInt_i64 cInt_i64 (fun _ => rfl)]
def cXApi_Func_O (x : XApi_Func) : List AV := [(AV.val (.string x.Name)), (I x.Params), (I x.Regs), (.own ((x.Blocks).map cXApi_Block_O))]
theorem fl_cXApi_Func_O (x : XApi_Func) : flatL (cXApi_Func_O x) = true := by simp only [cXApi_Func_O, flatL_cons, flatL_nil, flat_own, flat_val, flat_sl, Bool.and_true, Bool.and_self, flatR_map _ _ fl_cXApi_Block_O]
theorem ln_cXApi_Func_O (x : XApi_Func) : (cXApi_Func_O x).length = 4 := rfl
theorem fzl_cXApi_Func_O (x : XApi_Func) : fzL (cXApi_Func_O x) = cXApi_Func x := by simp only [cXApi_Func_O, cXApi_Func, fzL, fz, fzR_map cXApi_Block_O cXApi_Block fzl_cXApi_Block_O]
def cXApi_Unit_O (x : XApi_Unit) : List AV := [(.own ((x.Globals).map cXApi_Global_O)), (.own ((x.Funcs).map cXApi_Func_O))]
theorem fl_cXApi_Unit_O (x : XApi_Unit) : flatL (cXApi_Unit_O x) = true := by simp only [cXApi_Unit_O, flatL_cons, flatL_nil, flat_own, flat_val, flat_sl, Bool.and_true, Bool.and_self, flatR_map _ _ fl_cXApi_Global_O, flatR_map _ _ fl_cXApi_Func_O]
theorem ln_cXApi_Unit_O (x : XApi_Unit) : (cXApi_Unit_O x).length = 2 := rfl
theorem fzl_cXApi_Unit_O (x : XApi_Unit) : fzL (cXApi_Unit_O x) = cXApi_Unit x := by simp only [cXApi_Unit_O, cXApi_Unit, fzL, fz, fzR_map cXApi_Global_O cXApi_Global fzl_cXApi_Global_O, fzR_map cXApi_Func_O cXApi_Func fzl_cXApi_Func_O]
def cs_cXApi_Func (x : (List XApi_Func)) : List AV := [(.sl ((x).map cXApi_Func))]
theorem fl_cs_cXApi_Func (x : (List XApi_Func)) : flatL (cs_cXApi_Func x) = true := rfl
theorem ln_cs_cXApi_Func (x : (List XApi_Func)) : (cs_cXApi_Func x).length = 1 := rfl
def cXApi_Outcome (x : XApi_Outcome) : List AV := [(I x.State), (I x.Value), (.sl ((x.Out).map cInt_i64)), (I x.Steps)]
theorem fl_cXApi_Outcome (x : XApi_Outcome) : flatL (cXApi_Outcome x) = true := rfl
theorem ln_cXApi_Outcome (x : XApi_Outcome) : (cXApi_Outcome x).length = 4 := rfl
theorem ao3 : appOk cx 3 1 = true := by kernel_rfl
theorem ao9 : appOk cx 9 1 = true := by kernel_rfl
theorem ao42 : appOk cx 42 1 = true := by kernel_rfl
theorem eq28_eql (x y : Operand) (p0 q0 : Int) (p1 q1 : Int) : binV cx.P .eql 28 x y (.agg ⟨[.int .i64 p0, .int .i64 p1]⟩) (.agg ⟨[.int .i64 q0, .int .i64 q1]⟩) = some (.bool ((p0 == q0) && ((p1 == q1) && true))) :=
  bin_eqlStruct (P := Tryd.prog) Tryd.underlying28 Tryd.stoodInHeld28 Tryd.eqGuardType28 (by simp [eqL, Tryd.underlying3, fits, scEq])
theorem eq28_neq (x y : Operand) (p0 q0 : Int) (p1 q1 : Int) : binV cx.P .neq 28 x y (.agg ⟨[.int .i64 p0, .int .i64 p1]⟩) (.agg ⟨[.int .i64 q0, .int .i64 q1]⟩) = some (.bool (!((p0 == q0) && ((p1 == q1) && true)))) :=
  bin_neqStruct (P := Tryd.prog) Tryd.underlying28 Tryd.stoodInHeld28 Tryd.eqGuardType28 (by simp [eqL, Tryd.underlying3, fits, scEq])
theorem eq47_eql (x y : Operand) (p0 q0 : Bool) (p1 q1 : Int) : binV cx.P .eql 47 x y (.agg ⟨[.bool p0, .int .i64 p1]⟩) (.agg ⟨[.bool q0, .int .i64 q1]⟩) = some (.bool ((p0 == q0) && ((p1 == q1) && true))) :=
  bin_eqlStruct (P := Tryd.prog) Tryd.underlying47 Tryd.stoodInHeld47 Tryd.eqGuardType47 (by simp [eqL, Tryd.underlying3, Tryd.underlying4, fits, scEq])
theorem eq47_neq (x y : Operand) (p0 q0 : Bool) (p1 q1 : Int) : binV cx.P .neq 47 x y (.agg ⟨[.bool p0, .int .i64 p1]⟩) (.agg ⟨[.bool q0, .int .i64 q1]⟩) = some (.bool (!((p0 == q0) && ((p1 == q1) && true)))) :=
  bin_neqStruct (P := Tryd.prog) Tryd.underlying47 Tryd.stoodInHeld47 Tryd.eqGuardType47 (by simp [eqL, Tryd.underlying3, Tryd.underlying4, fits, scEq])
end Go.Ab
