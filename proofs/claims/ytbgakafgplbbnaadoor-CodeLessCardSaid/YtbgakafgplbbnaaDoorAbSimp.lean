/-
  THE MACHINE's STEPS AS EQUATIONS, one for each kind of operation: what a proof about a function rewrites by.
-/
import Derived.Test.YtbgakafgplbbnaaDoorAbBase
namespace Go.Ab
open Go

abbrev I (n : Int) : AV := .val (.int .i64 n)
abbrev B (b : Bool) : AV := .val (.bool b)

section
variable {C : Cx} {f : FuncId} {call : FuncId → List AV → Option (AV × List AV)} {S : St} {g : Bool} {ops : Array Oper}
variable {ρ : Type} {d : Option Tmp} {ty : TypeId} {pos : String} {af : Array Edge} {gd : Option (Nat × Bool)}

@[simp] theorem upd_apply {α β : Type} [DecidableEq α] (f : α → β) (k j : α) (v : β) : upd f k v j = if j = k then v else f j := rfl
@[simp] theorem updS_nil (t : Nat → AV) : updS t [] = t := rfl
@[simp] theorem updS_cons (t : Nat → AV) (i : Nat) (v : AV) (l : List (Nat × AV)) : updS t ((i, v) :: l) = upd (updS t l) i v := rfl
@[simp] theorem updH_nil (h : Id → Option (Option Rows)) : updH h [] = h := rfl
@[simp] theorem updH_cons (h : Id → Option (Option Rows)) (i : Id) (v : Option Rows) (l : List (Id × Option Rows)) : updH h ((i, v) :: l) = upd (updH h l) i (some v) := rfl
@[simp] theorem app_mk (n : Nat) (t : Nat → AV) (h : Id → Option (Option Rows)) (sw : List (Nat × AV)) (rd : List Id) (wr : List (Id × Option Rows)) : St.app ⟨n, t, h⟩ ⟨sw, rd, wr⟩ = ⟨n, updS t sw, updH h wr⟩ := rfl

/-! ### Operands, guards -/
@[simp] theorem get_tmp (t : Nat) : S.get C (.tmp t) = S.t t := rfl
@[simp] theorem get_int (k : IntKind) (n : Int) : S.get C (.const (.int k n)) = .val (.int k n) := rfl
@[simp] theorem get_bool (b : Bool) : S.get C (.const (.bool b)) = .val (.bool b) := rfl
@[simp] theorem get_str (s : ByteArray) : S.get C (.const (.string s)) = .val (.string s) := rfl
@[simp] theorem get_nilp : S.get C (.const (.pointer none)) = .val (.pointer none) := rfl
@[simp] theorem get_nils : S.get C (.const (.slice none 0 0)) = .snil := rfl
@[simp] theorem get_nili : S.get C (.const .nilIface) = .val .nilIface := rfl
@[simp] theorem get_nilf : S.get C (.const .nilFunc) = .val .nilFunc := rfl
@[simp] theorem get_func (k : FuncId) : S.get C (.func k) = .fn (.func k) [] [] := rfl
@[simp] theorem get_glob (k : Nat) : S.get C (.global k) = match C.glob k with | some cs => .vp cs | none => .junk := rfl

@[simp] theorem un_val (v : Value) : un g (.val v) = .val v := rfl
@[simp] theorem un_sl (r : Rows) : un g (.sl r) = .sl r := rfl
@[simp] theorem un_vp (c : List AV) : un g (.vp c) = .vp c := rfl
@[simp] theorem un_snil : un g .snil = .snil := rfl
@[simp] theorem un_rs (i : Id) (a b : Nat) : un g (.rs i a b) = .rs i a b := rfl
@[simp] theorem un_mp (i : Id) (a b : Nat) : un g (.mp i a b) = .mp i a b := rfl
@[simp] theorem un_fn (k : Fn) (a b : List AV) : un g (.fn k a b) = .fn k a b := rfl
@[simp] theorem un_agg (c : List AV) : un g (.agg c) = .agg c := rfl
@[simp] theorem un_tup (c : List AV) : un g (.tup c) = .tup c := rfl
@[simp] theorem un_junk : un g .junk = .junk := rfl
@[simp] theorem un_own (r : Rows) : un g (.own r) = .own r := rfl
@[simp] theorem un_self (x : AV) : un g (.gv g x) = x := by cases g <;> rfl
@[simp] theorem un_true (x : AV) : un g (.gv true x) = x := by cases g <;> rfl
@[simp] theorem un_and (h : Bool) (x : AV) : un (g && h) (.gv g x) = x := by cases g <;> cases h <;> rfl
@[simp] theorem un_and' (h : Bool) (x : AV) : un (g && h) (.gv (g && h) x) = x := un_self x
@[simp] theorem un_and'' (h : Bool) (x : AV) : un (g && h) (.gv h x) = x := by cases g <;> cases h <;> rfl
@[simp] theorem un_and3 (h k : Bool) (x : AV) : un (g && h && k) (.gv g x) = x := by cases g <;> cases h <;> cases k <;> rfl

@[simp] theorem boolOf_bool (b : Bool) : boolOf (.val (.bool b)) = b := rfl

@[simp] theorem evG_none {op : Op} : evG C f call S ops ⟨d, op, ty, pos, af, none⟩ = evOp C f call S true ⟨d, op, ty, pos, af, none⟩ := rfl

/-- A guarded operation, its guard a bool that is known or not. -/
def evGg (C : Cx) (f : FuncId) (call : FuncId → List AV → Option (AV × List AV)) (S : St) (o : Oper) (g : Bool) : Option Eff :=
  match evOp C f call S g o with
  | some e => if e.wr.isEmpty then some { e with sw := e.sw.map fun x => (x.1, .gv g x.2) } else if g then some e else some (junkEff o)
  | none => if g then none else some (junkEff o)

def guardV (want : Bool) : AV → Option Bool
  | .val (.bool b) => some (b == want)
  | .gv g (.val (.bool b)) => some (g && (b == want))
  | .gv false _ => some false
  | _ => none

@[simp] theorem guardV_val (w b : Bool) : guardV w (.val (.bool b)) = some (b == w) := rfl
@[simp] theorem guardV_gv (w b g : Bool) : guardV w (.gv g (.val (.bool b))) = some (g && (b == w)) := rfl

def guardD (w : Bool) (S : St) : Option Nat → Option Bool
  | some d => guardV w (S.t d)
  | none => none
@[simp] theorem guardD_some (w : Bool) (d : Nat) : guardD w S (some d) = guardV w (S.t d) := rfl
def dstAt (ops : Array Oper) (j : Nat) : Option Nat := (ops[j]?).bind (·.dst)
def dstL : List Oper → Nat → Option Nat
  | [], _ => none
  | o :: _, 0 => o.dst
  | _ :: l, j + 1 => dstL l j
theorem dstAt_mk (l : List Oper) (j : Nat) : dstAt ⟨l⟩ j = dstL l j := by
  unfold dstAt
  simp only [List.getElem?_toArray]
  induction l generalizing j with
  | nil => simp [dstL]
  | cons o l ih => cases j with
    | zero => simp [dstL]
    | succ j => simpa [dstL] using ih j
def contG (C : Cx) (f : FuncId) (call : FuncId → List AV → Option (AV × List AV)) (S : St) (o : Oper) : Option Bool → Option Eff
  | some g => evGg C f call S o g
  | none => none
@[simp] theorem contG_some (o : Oper) (g : Bool) : contG C f call S o (some g) = evGg C f call S o g := rfl
def gvs : List (Nat × AV) → Bool → List (Nat × AV)
  | [], _ => []
  | x :: l, g => (x.1, .gv g x.2) :: gvs l g
def contE (o : Oper) (g : Bool) : Option Eff → Option Eff
  | some e => if e.wr.isEmpty then some ⟨gvs e.sw g, e.rd, e.wr⟩ else if g then some e else some (junkEff o)
  | none => if g then none else some (junkEff o)
theorem gvs_eq (l : List (Nat × AV)) (g : Bool) : gvs l g = l.map fun x => (x.1, .gv g x.2) := by
  induction l with
  | nil => rfl
  | cons x l ih => simp [gvs, ih]
@[simp] theorem evGg_eq (o : Oper) (g : Bool) : evGg C f call S o g = contE o g (evOp C f call S g o) := by
  unfold evGg contE
  split <;> simp_all [gvs_eq]
@[simp] theorem contE_one (o : Oper) (g : Bool) (t : Nat) (v : AV) (rd : List Id) : contE o g (some ⟨[(t, v)], rd, []⟩) = some ⟨[(t, .gv g v)], rd, []⟩ := rfl

@[simp] theorem evG_some {op : Op} {j : Nat} {w : Bool} {l : List Oper} : evG C f call S ⟨l⟩ ⟨d, op, ty, pos, af, some (j, w)⟩ =
    contG C f call S ⟨d, op, ty, pos, af, some (j, w)⟩ (guardD w S (dstL l j)) := by
  rw [← dstAt_mk]
  unfold evG guardC dstAt
  simp only
  cases ((⟨l⟩ : Array Oper)[j]?).bind (·.dst) with
  | none => rfl
  | some d =>
    simp only [guardD_some]
    cases S.t d with
    | val v => cases v <;> rfl
    | gv g x => cases x with
      | val v => cases v <;> cases g <;> rfl
      | _ => cases g <;> rfl
    | _ => rfl
@[simp] theorem guardV_gvf (w : Bool) (x : AV) : guardV w (.gv false x) = some false := by
  cases x with
  | val v => cases v <;> rfl
  | _ => rfl

/-! ### Operations -/
@[simp] theorem evOp_move {x : Operand} : evOp C f call S g ⟨d, .move x, ty, pos, af, gd⟩ = ret ⟨d, .move x, ty, pos, af, gd⟩ (un g (S.get C x)) := rfl
@[simp] theorem evOp_assign {x : Operand} : evOp C f call S g ⟨d, .assign x, ty, pos, af, gd⟩ = ret ⟨d, .assign x, ty, pos, af, gd⟩ (un g (S.get C x)) := rfl
@[simp] theorem evOp_pick {c a b : Operand} : evOp C f call S g ⟨d, .pick c a b, ty, pos, af, gd⟩ = evPick ⟨d, .pick c a b, ty, pos, af, gd⟩ (un g (S.get C c)) (un (g && boolOf (un g (S.get C c))) (S.get C a)) (un (g && !boolOf (un g (S.get C c))) (S.get C b)) := rfl
@[simp] theorem evOp_alloc {t : TypeId} : evOp C f call S g ⟨d, .alloc t, ty, pos, af, gd⟩ = evAlloc C S ⟨d, .alloc t, ty, pos, af, gd⟩ t := rfl
@[simp] theorem evOp_box {t : TypeId} {x : Operand} : evOp C f call S g ⟨d, .box t x, ty, pos, af, gd⟩ = evBox C f S ⟨d, .box t x, ty, pos, af, gd⟩ t (un g (S.get C x)) := rfl
@[simp] theorem evOp_build {t : TypeId} {p : Array (Nat × Operand)} : evOp C f call S g ⟨d, .build t p, ty, pos, af, gd⟩ = evBuild C ⟨d, .build t p, ty, pos, af, gd⟩ t (p.toList.map fun p => (p.1, un g (S.get C p.2))) := rfl
@[simp] theorem evOp_buildSlice {t : TypeId} {n : Nat} {p : Array (Nat × Operand)} : evOp C f call S g ⟨d, .buildSlice t n p, ty, pos, af, gd⟩ = evBuildSlice C f S ⟨d, .buildSlice t n p, ty, pos, af, gd⟩ t n (p.toList.map fun p => (p.1, un g (S.get C p.2))) := rfl
@[simp] theorem evOp_load {t : TypeId} {x : Operand} : evOp C f call S g ⟨d, .load t x, ty, pos, af, gd⟩ = evLoad C S ⟨d, .load t x, ty, pos, af, gd⟩ t (un g (S.get C x)) := rfl
@[simp] theorem evOp_store {t : TypeId} {a x : Operand} : evOp C f call S g ⟨d, .store t a x, ty, pos, af, gd⟩ = evStore C f S g ⟨d, .store t a x, ty, pos, af, gd⟩ t a (un g (S.get C a)) (un g (S.get C x)) := rfl
@[simp] theorem evOp_nil {x : Operand} : evOp C f call S g ⟨d, .nilCheck x, ty, pos, af, gd⟩ = evNil ⟨d, .nilCheck x, ty, pos, af, gd⟩ (un g (S.get C x)) := rfl
@[simp] theorem evOp_bin {op : BinOp} {t u : TypeId} {x y : Operand} : evOp C f call S g ⟨d, .binOp op t x y u, ty, pos, af, gd⟩ = evBin C ⟨d, .binOp op t x y u, ty, pos, af, gd⟩ op t x y (un g (S.get C x)) (un g (S.get C y)) := rfl
@[simp] theorem evOp_un {op : UnOp} {t : TypeId} {x : Operand} : evOp C f call S g ⟨d, .unOp op t x, ty, pos, af, gd⟩ = evUn C ⟨d, .unOp op t x, ty, pos, af, gd⟩ op (un g (S.get C x)) := rfl
@[simp] theorem evOp_conv {s t : TypeId} {x : Operand} : evOp C f call S g ⟨d, .convert s t x, ty, pos, af, gd⟩ = evConv C ⟨d, .convert s t x, ty, pos, af, gd⟩ s t (un g (S.get C x)) := rfl
@[simp] theorem evOp_makeFunc {k : Fn} {a b : Array Operand} : evOp C f call S g ⟨d, .makeFunc k a b, ty, pos, af, gd⟩ = ret ⟨d, .makeFunc k a b, ty, pos, af, gd⟩ (.fn k (a.toList.map fun x => un g (S.get C x)) (b.toList.map fun x => un g (S.get C x))) := rfl
@[simp] theorem evOp_make {t : TypeId} {l c : Operand} : evOp C f call S g ⟨d, .makeSlice t l c, ty, pos, af, gd⟩ = evMake C S ⟨d, .makeSlice t l c, ty, pos, af, gd⟩ t (un g (S.get C l)) (un g (S.get C c)) := rfl
@[simp] theorem evOp_slice {t : TypeId} {x : Operand} {lo hi : Option Operand} : evOp C f call S g ⟨d, .slice t x lo hi none, ty, pos, af, gd⟩ = evSlice C S ⟨d, .slice t x lo hi none, ty, pos, af, gd⟩ t (un g (S.get C x)) (lo.map fun y => intOfV (un g (S.get C y))) (hi.map fun y => intOfV (un g (S.get C y))) := rfl
@[simp] theorem evOp_fieldAddr {t : TypeId} {x : Operand} {i : Nat} : evOp C f call S g ⟨d, .fieldAddr t x i, ty, pos, af, gd⟩ = evFieldAddr C ⟨d, .fieldAddr t x i, ty, pos, af, gd⟩ t i (un g (S.get C x)) := rfl
@[simp] theorem evOp_field {t : TypeId} {x : Operand} {i : Nat} : evOp C f call S g ⟨d, .field t x i, ty, pos, af, gd⟩ = evField C ⟨d, .field t x i, ty, pos, af, gd⟩ t i (un g (S.get C x)) := rfl
@[simp] theorem evOp_indexAddr {t : TypeId} {x i : Operand} : evOp C f call S g ⟨d, .indexAddr t x i, ty, pos, af, gd⟩ = evIndexAddr C S ⟨d, .indexAddr t x i, ty, pos, af, gd⟩ t (un g (S.get C x)) (intOfV (un g (S.get C i))) := rfl
@[simp] theorem evOp_index {t : TypeId} {x i : Operand} : evOp C f call S g ⟨d, .index t x i, ty, pos, af, gd⟩ = evIndex C ⟨d, .index t x i, ty, pos, af, gd⟩ t (un g (S.get C x)) (intOfV (un g (S.get C i))) := rfl
@[simp] theorem evOp_extract {x : Operand} {i : Nat} : evOp C f call S g ⟨d, .extract x i, ty, pos, af, gd⟩ = evExtract ⟨d, .extract x i, ty, pos, af, gd⟩ (un g (S.get C x)) i := rfl
@[simp] theorem evOp_len {as : Array Operand} {ts : Array TypeId} : evOp C f call S g ⟨d, .call ⟨.builtin .len, as, ts⟩, ty, pos, af, gd⟩ = evLen C ⟨d, .call ⟨.builtin .len, as, ts⟩, ty, pos, af, gd⟩ ts (as.toList.map fun x => un g (S.get C x)) := rfl
@[simp] theorem evOp_append {as : Array Operand} {ts : Array TypeId} : evOp C f call S g ⟨d, .call ⟨.builtin .append, as, ts⟩, ty, pos, af, gd⟩ = evAppend C S ⟨d, .call ⟨.builtin .append, as, ts⟩, ty, pos, af, gd⟩ ts (as.toList.map fun x => un g (S.get C x)) := rfl
@[simp] theorem evOp_call {fo : Operand} {as : Array Operand} {ts : Array TypeId} : evOp C f call S g ⟨d, .call ⟨.value fo, as, ts⟩, ty, pos, af, gd⟩ = callC C f call S ⟨d, .call ⟨.value fo, as, ts⟩, ty, pos, af, gd⟩ (un g (S.get C fo)) (as.toList.map fun x => un g (S.get C x)) := rfl

variable {op : Op}
@[simp] theorem ret_some {t : Nat} (v : AV) : ret ⟨some t, op, ty, pos, af, gd⟩ v = some ⟨[(t, v)], [], []⟩ := rfl
@[simp] theorem put_some {t : Nat} (v : AV) (rd : List Id) (wr : List (Id × Option Rows)) : put ⟨some t, op, ty, pos, af, gd⟩ v rd wr = ⟨[(t, v)], rd, wr⟩ := rfl
@[simp] theorem put_none (v : AV) (rd : List Id) (wr : List (Id × Option Rows)) : put ⟨none, op, ty, pos, af, gd⟩ v rd wr = ⟨[], rd, wr⟩ := rfl
@[simp] theorem retV_some (o : Oper) (v : Value) : retV o (some v) = if isSc v then ret o (.val v) else none := rfl
@[simp] theorem isSc_int (k : IntKind) (n : Int) : isSc (.int k n) = true := rfl
@[simp] theorem isSc_bool (b : Bool) : isSc (.bool b) = true := rfl
@[simp] theorem isSc_str (b : ByteArray) : isSc (.string b) = true := rfl

@[simp] theorem evPick_bool (o : Oper) (h x y : Bool) : evPick o (.val (.bool h)) (.val (.bool x)) (.val (.bool y)) = ret o (.val (.bool (if h then x else y))) := rfl

@[simp] theorem toVal_val (v : Value) : toVal (.val v) = some v := rfl
@[simp] theorem toVal_agg (c : List AV) : toVal (.agg c) = (toVals c).map fun vs => .agg ⟨vs⟩ := rfl
@[simp] theorem toVals_nil : toVals [] = some [] := rfl
@[simp] theorem toVals_cons (v : Value) (l : List AV) : toVals (.val v :: l) = (toVals l).map (v :: ·) := rfl
@[simp] theorem intOfV_int (k : IntKind) (n : Int) : intOfV (.val (.int k n)) = some n := rfl

theorem evBin_of {o : Oper} {op : BinOp} {t : TypeId} {x y : Operand} {a b : AV} {va vb : Value} (ha : toVal a = some va) (hb : toVal b = some vb) : evBin C o op t x y a b = retV o (binV C.P op t x y va vb) := by
  simp [evBin, ha, hb]
@[simp] theorem evBin_val {o : Oper} {op : BinOp} {t : TypeId} {x y : Operand} {va vb : Value} : evBin C o op t x y (.val va) (.val vb) = retV o (binV C.P op t x y va vb) := rfl
@[simp] theorem evUn_val {o : Oper} {op : UnOp} {va : Value} : evUn C o op (.val va) = retV o (unV C.P op va) := rfl
@[simp] theorem evConv_val {o : Oper} {s t : TypeId} {va : Value} : evConv C o s t (.val va) = retV o (convV C.P s t va) := rfl

variable {P : Program} {t : TypeId} {x y : Operand} {k : IntKind} {a b : Int}
@[simp] theorem bin_add : binV P .add t x y (.int k a) (.int k b) = some (.int k (k.wrap (a + b))) := by simp [binV, eqGuard, binOp, Op.intArith, pureRun, bind, Sem.bind, pure]
@[simp] theorem bin_sub : binV P .sub t x y (.int k a) (.int k b) = some (.int k (k.wrap (a - b))) := by simp [binV, eqGuard, binOp, Op.intArith, pureRun, bind, Sem.bind, pure]
@[simp] theorem bin_mul : binV P .mul t x y (.int k a) (.int k b) = some (.int k (k.wrap (a * b))) := by simp [binV, eqGuard, binOp, Op.intArith, pureRun, bind, Sem.bind, pure]
@[simp] theorem bin_eql : binV P .eql t x y (.int k a) (.int k b) = some (.bool (a == b)) := by simp [binV, eqGuard, binOp, Op.intCmp, pureRun, bind, Sem.bind, pure]
@[simp] theorem bin_neq : binV P .neq t x y (.int k a) (.int k b) = some (.bool (a != b)) := by simp [binV, eqGuard, binOp, Op.intCmp, pureRun, bind, Sem.bind, pure]
@[simp] theorem bin_lss : binV P .lss t x y (.int k a) (.int k b) = some (.bool (decide (a < b))) := by simp [binV, eqGuard, binOp, Op.intCmp, pureRun, bind, Sem.bind, pure]
@[simp] theorem bin_leq : binV P .leq t x y (.int k a) (.int k b) = some (.bool (decide (a ≤ b))) := by simp [binV, eqGuard, binOp, Op.intCmp, pureRun, bind, Sem.bind, pure]
@[simp] theorem bin_gtr : binV P .gtr t x y (.int k a) (.int k b) = some (.bool (decide (b < a))) := by simp [binV, eqGuard, binOp, Op.intCmp, pureRun, bind, Sem.bind, pure]
@[simp] theorem bin_geq : binV P .geq t x y (.int k a) (.int k b) = some (.bool (decide (b ≤ a))) := by simp [binV, eqGuard, binOp, Op.intCmp, pureRun, bind, Sem.bind, pure]
@[simp] theorem un_not {b : Bool} : unV P .not (.bool b) = some (.bool !b) := rfl

/-! ### Code -/
variable {lp : (List AV → Option (Exit × St)) → (St → Option (List AV)) → List AV → Option (Exit × St)}
@[simp] theorem evOps_nil {i : Nat} : evOps C f call ops i [] S = some (S, []) := rfl
/-- The operations of a region, what each looked at and turned gathered on the way (the last first); then what follows. -/
def run1 (C : Cx) (f : FuncId) (call : FuncId → List AV → Option (AV × List AV)) (ops : Array Oper) (K : List HKey → St → Option ρ) : Nat → List Oper → List HKey → St → Option ρ
  | _, [], ks, S => K ks S
  | i, o :: l, ks, S => (evG C f call S ops o).bind fun e => if e.sw.all fun x => decide (x.1 < S.n) then run1 C f call ops K (i + 1) l (hkey i e [] ++ ks) (S.app e) else none

def contOps (C : Cx) (f : FuncId) (call : FuncId → List AV → Option (AV × List AV)) (ops : Array Oper) (K : List HKey → St → Option ρ) (i : Nat) (l : List Oper) (ks : List HKey) (S : St) : Option Eff → Option ρ
  | some e => if e.sw.all fun x => decide (x.1 < S.n) then run1 C f call ops K (i + 1) l (hkey i e [] ++ ks) (S.app e) else none
  | none => none

variable {K : List HKey → St → Option ρ}
@[simp] theorem run1_nil {i : Nat} {ks : List HKey} : run1 C f call ops K i [] ks S = K ks S := rfl
@[simp] theorem run1_cons {i : Nat} {o : Oper} {l : List Oper} {ks : List HKey} : run1 C f call ops K i (o :: l) ks S = contOps C f call ops K i l ks S (evG C f call S ops o) := by
  unfold contOps; cases h : evG C f call S ops o <;> simp [run1, h]
@[simp] theorem contOps_one {i : Nat} {l : List Oper} {ks : List HKey} {n : Nat} {t : Nat → AV} {h : Id → Option (Option Rows)} {s : Nat} {v : AV} :
    contOps C f call ops K i l ks ⟨n, t, h⟩ (some ⟨[(s, v)], [], []⟩) = if s < n then run1 C f call ops K (i + 1) l ks ⟨n, upd t s v, h⟩ else none := by
  simp [contOps, hkey, St.app]
theorem contOps_some {i : Nat} {l : List Oper} {ks : List HKey} {e : Eff} : contOps C f call ops K i l ks S (some e) = if e.sw.all fun x => decide (x.1 < S.n) then run1 C f call ops K (i + 1) l (hkey i e [] ++ ks) (S.app e) else none := rfl
@[simp] theorem contOps_heap {i : Nat} {l : List Oper} {ks : List HKey} {n : Nat} {t : Nat → AV} {h : Id → Option (Option Rows)} {sw : List (Nat × AV)} {rd : List Id} {x : Id × Option Rows} {wr : List (Id × Option Rows)} :
    contOps C f call ops K i l ks ⟨n, t, h⟩ (some ⟨sw, rd, x :: wr⟩) = if sw.all fun x => decide (x.1 < n) then run1 C f call ops K (i + 1) l ((i, rd, (x :: wr).map (·.1)) :: ks) ⟨n, updS t sw, updH h (x :: wr)⟩ else none := by
  simp [contOps, hkey, St.app]
@[simp] theorem contOps_look {i : Nat} {l : List Oper} {ks : List HKey} {n : Nat} {t : Nat → AV} {h : Id → Option (Option Rows)} {sw : List (Nat × AV)} {y : Id} {rd : List Id} :
    contOps C f call ops K i l ks ⟨n, t, h⟩ (some ⟨sw, y :: rd, []⟩) = if sw.all fun x => decide (x.1 < n) then run1 C f call ops K (i + 1) l ((i, y :: rd, []) :: ks) ⟨n, updS t sw, h⟩ else none := by
  simp [contOps, hkey, St.app]
@[simp] theorem contOps_none {i : Nat} {l : List Oper} {ks : List HKey} : contOps C f call ops K i l ks S none = none := rfl
@[simp] theorem contOps_bind {α : Type} {i : Nat} {l : List Oper} {ks : List HKey} {x : Option α} {k : α → Option Eff} : contOps C f call ops K i l ks S (x.bind k) = x.bind fun r => contOps C f call ops K i l ks S (k r) := by cases x <;> rfl
@[simp] theorem contOps_ite {i : Nat} {l : List Oper} {ks : List HKey} {c : Prop} [Decidable c] {a b : Option Eff} : contOps C f call ops K i l ks S (if c then a else b) = if c then contOps C f call ops K i l ks S a else contOps C f call ops K i l ks S b := by split <;> rfl

theorem evOps_run1 (K : List HKey → St → Option ρ) : ∀ (l : List Oper) (i : Nat) (S : St) (ks : List HKey), run1 C f call ops K i l ks S = (evOps C f call ops i l S).bind fun x => K (x.2.reverse ++ ks) x.1 := by
  intro l
  induction l with
  | nil => intro i S ks; simp [evOps]
  | cons o l ih =>
    intro i S ks
    simp only [run1, evOps]
    cases evG C f call S ops o with
    | none => rfl
    | some e =>
      simp only [Option.bind_some]
      split
      · rw [ih]
        cases evOps C f call ops (i + 1) l (S.app e) with
        | none => rfl
        | some x =>
          simp only [Option.bind_some, Option.map_some]
          unfold hkey
          split <;> simp
      · rfl

/-- What follows a region: c: the rest. -/
def kont (C : Cx) (f : FuncId) (id : Nat) (dr : Bool) (k : Exit × St → Option ρ) (ks : List HKey) (S : St) : Option ρ := if dr && !heapFree (C.ah f id) ks.reverse then none else k (.normal, S)
@[simp] theorem kont_false (id : Nat) (k : Exit × St → Option ρ) (ks : List HKey) : kont C f id false k ks S = k (.normal, S) := rfl
@[simp] theorem kont_true (id : Nat) (k : Exit × St → Option ρ) (ks : List HKey) : kont C f id true k ks S = if heapFree (C.ah f id) ks.reverse then k (.normal, S) else none := by
  unfold kont; cases heapFree (C.ah f id) ks.reverse <;> rfl
theorem region_bind {id : Nat} {l : List Oper} {dr : Bool} (k : Exit × St → Option ρ) : (evCode C f call lp (.region id ⟨l⟩ dr) S).bind k = run1 C f call ⟨l⟩ (kont C f id dr k) 0 l [] S := by
  rw [evOps_run1]
  simp only [evCode, evRegion]
  cases evOps C f call ⟨l⟩ 0 l S with
  | none => rfl
  | some x =>
    simp only [Option.bind_some, List.append_nil]
    unfold kont
    cases dr
    · rfl
    · simp only [List.reverse_reverse, if_true, Bool.true_and]
      cases heapFree (C.ah f id) x.2 <;> rfl
/-- Code, and what follows it: k. -/
def ev (C : Cx) (f : FuncId) (call : FuncId → List AV → Option (AV × List AV)) (lp : (List AV → Option (Exit × St)) → (St → Option (List AV)) → List AV → Option (Exit × St)) (c : Code) (k : Exit × St → Option ρ) (S : St) : Option ρ := (evCode C f call lp c S).bind k

def goOn (c : St → Option ρ) (k : Exit × St → Option ρ) (x : Exit × St) : Option ρ := match x.1 with | .normal => c x.2 | _ => k x
@[simp] theorem goOn_normal (c : St → Option ρ) (k : Exit × St → Option ρ) (s : St) : goOn c k (.normal, s) = c s := rfl
@[simp] theorem goOn_ret (c : St → Option ρ) (k : Exit × St → Option ρ) (s : St) : goOn c k (.ret, s) = k (.ret, s) := rfl
@[simp] theorem goOn_exit (c : St → Option ρ) (k : Exit × St → Option ρ) (s : St) (i : Nat) : goOn c k (.exit i, s) = k (.exit i, s) := rfl

def outOf (i : Nat) (k : Exit × St → Option ρ) (x : Exit × St) : Option ρ := k (match x.1 with | .exit j => if j = i then .normal else .exit j | e => e, x.2)
@[simp] theorem outOf_normal (i : Nat) (k : Exit × St → Option ρ) (s : St) : outOf i k (.normal, s) = k (.normal, s) := rfl
@[simp] theorem outOf_ret (i : Nat) (k : Exit × St → Option ρ) (s : St) : outOf i k (.ret, s) = k (.ret, s) := rfl
@[simp] theorem outOf_exit (i j : Nat) (k : Exit × St → Option ρ) (s : St) : outOf i k (.exit j, s) = k (if j = i then .normal else .exit j, s) := rfl

def condV (c : AV) (a b : Option ρ) : Option ρ := match c with | .val (.bool t) => if t then a else b | _ => none
@[simp] theorem condV_bool (t : Bool) (a b : Option ρ) : condV (.val (.bool t)) a b = if t then a else b := rfl

variable {k : Exit × St → Option ρ}
@[simp] theorem ev_skip : ev C f call lp .skip k S = k (.normal, S) := rfl
@[simp] theorem ev_exit {i : Nat} : ev C f call lp (.exit i) k S = k (.exit i, S) := rfl
@[simp] theorem ev_ret : ev C f call lp .ret k S = k (.ret, S) := rfl
@[simp] theorem ev_region {i : Nat} {l : List Oper} {dr : Bool} : ev C f call lp (.region i ⟨l⟩ dr) k S = run1 C f call ⟨l⟩ (kont C f i dr k) 0 l [] S := region_bind k
@[simp] theorem ev_seq {a b : Code} : ev C f call lp (.seq a b) k S = ev C f call lp a (goOn (ev C f call lp b k) k) S := by
  simp only [ev, evCode]
  cases evCode C f call lp a S with
  | none => rfl
  | some x => obtain ⟨e, s⟩ := x; cases e <;> rfl
@[simp] theorem ev_cond {c : Operand} {a b : Code} : ev C f call lp (.cond c a b) k S = condV (un true (S.get C c)) (ev C f call lp a k S) (ev C f call lp b k S) := by
  simp only [ev, evCode, condV]
  generalize un true (S.get C c) = x
  cases x with
  | val v => cases v with
    | bool t => cases t <;> rfl
    | _ => rfl
  | _ => rfl
@[simp] theorem ev_block {i : Nat} {c : Code} : ev C f call lp (.block i c) k S = ev C f call lp c (outOf i k) S := by
  simp only [ev, evCode]
  cases evCode C f call lp c S <;> rfl

/-- A loop's rounds, from what lives at its head, and what follows it. -/
def loopV (C : Cx) (f : FuncId) (call : FuncId → List AV → Option (AV × List AV)) (lp : (List AV → Option (Exit × St)) → (St → Option (List AV)) → List AV → Option (Exit × St)) (c : Code) (k : Exit × St → Option ρ) (n : Nat) (slots : List Nat) (tvs : List AV) : Option ρ :=
  (lp (fun tvs => evCode C f call lp c (mkSt n slots tvs)) (fun S' => renorm S' slots) tvs).bind k

/-- Behind a round. -/
def loopK (V : List AV → Option ρ) (k : Exit × St → Option ρ) (slots : List Nat) (x : Exit × St) : Option ρ := match x.1 with | .normal => (renorm x.2 slots).bind V | _ => k x
@[simp] theorem loopK_normal (V : List AV → Option ρ) (k : Exit × St → Option ρ) (slots : List Nat) (s : St) : loopK V k slots (.normal, s) = (renorm s slots).bind V := rfl
@[simp] theorem loopK_ret (V : List AV → Option ρ) (k : Exit × St → Option ρ) (slots : List Nat) (s : St) : loopK V k slots (.ret, s) = k (.ret, s) := rfl
@[simp] theorem loopK_exit (V : List AV → Option ρ) (k : Exit × St → Option ρ) (slots : List Nat) (s : St) (i : Nat) : loopK V k slots (.exit i, s) = k (.exit i, s) := rfl

theorem ev_loop {c : Code} {slots : List Nat} (hs : (match firstRegion c with | some i => C.live f i | none => []) = slots) (n : Nat) (t : Nat → AV) (h : Id → Option (Option Rows)) :
    ev C f call lp (.loop c) k ⟨n, t, h⟩ = (renorm ⟨n, t, h⟩ slots).bind (loopV C f call lp c k n slots) := by
  subst hs
  simp only [ev, evCode]
  cases renorm ⟨n, t, h⟩ _ <;> rfl

def Unfolds (lp : (List AV → Option (Exit × St)) → (St → Option (List AV)) → List AV → Option (Exit × St)) : Prop :=
  ∀ g rn tvs, lp g rn tvs = (g tvs).bind fun x => match x.1 with | .normal => (rn x.2).bind (lp g rn) | _ => some x

theorem loopV_eq (hu : Unfolds lp) {c : Code} {n : Nat} {slots : List Nat} (tvs : List AV) :
    loopV C f call lp c k n slots tvs = ev C f call lp c (loopK (loopV C f call lp c k n slots) k slots) (mkSt n slots tvs) := by
  unfold loopV
  rw [hu]
  simp only [ev]
  cases evCode C f call lp c (mkSt n slots tvs) with
  | none => rfl
  | some x =>
    obtain ⟨e, s⟩ := x
    cases e <;> simp only [Option.bind_some, loopK]
    cases renorm s slots <;> rfl

/-- A LOOP: what lives at its head as a function of a state of one's own; what all the rest comes to from there; a measure; what holds there. -/
theorem loop_rule (hu : Unfolds lp) {σ : Type} (rep : σ → List AV) (Fin : σ → Option ρ) (μ : σ → Nat) (Inv : σ → Prop) (s0 : σ) {c : Code} {slots : List Nat} {n : Nat} {t : Nat → AV} {h : Id → Option (Option Rows)}
    (hs : (match firstRegion c with | some i => C.live f i | none => []) = slots) (h0 : renorm ⟨n, t, h⟩ slots = some (rep s0)) (hi : Inv s0)
    (step : ∀ (V : List AV → Option ρ) (s : σ), Inv s → (∀ s', μ s' < μ s → Inv s' → V (rep s') = Fin s') → ev C f call lp c (loopK V k slots) (mkSt n slots (rep s)) = Fin s) :
    ev C f call lp (.loop c) k ⟨n, t, h⟩ = Fin s0 := by
  rw [ev_loop hs, h0, Option.bind_some]
  have : ∀ m s, μ s < m → Inv s → loopV C f call lp c k n slots (rep s) = Fin s := by
    intro m
    induction m with
    | zero => intro s hm; omega
    | succ m ih =>
      intro s hm hI
      rw [loopV_eq hu]
      exact step _ s hI fun s' h' hI' => ih s' (by omega) hI'
  exact this _ s0 (Nat.lt_succ_self _) hi

@[simp] theorem ite_bind {α β : Type} (c : Prop) [Decidable c] (a b : Option α) (k : α → Option β) : (if c then a else b).bind k = if c then a.bind k else b.bind k := by split <;> rfl
@[simp] theorem ite_map {α β : Type} (c : Prop) [Decidable c] (a b : Option α) (k : α → β) : (if c then a else b).map k = if c then a.map k else b.map k := by split <;> rfl

/-! ### Ends -/
variable {L : Id → Option (Option Rows)} {n : Nat}
@[simp] theorem pk_val (v : Value) : pk L (n + 1) (.val v) = some (.val v, []) := rfl
@[simp] theorem pk_sl (r : Rows) : pk L (n + 1) (.sl r) = some (.sl r, []) := rfl
@[simp] theorem pk_vp (r : List AV) : pk L (n + 1) (.vp r) = some (.vp r, []) := rfl
@[simp] theorem pk_snil : pk L (n + 1) .snil = some (.own [], []) := rfl
@[simp] theorem pk_junk : pk L (n + 1) .junk = some (.junk, []) := rfl
@[simp] theorem imp_val (p : Id) (v : Value) : imp p (.val v) = (.val v, []) := rfl
@[simp] theorem imp_sl (p : Id) (r : Rows) : imp p (.sl r) = (.sl r, []) := rfl
@[simp] theorem imp_vp (p : Id) (r : List AV) : imp p (.vp r) = (.vp r, []) := rfl
@[simp] theorem imp_junk (p : Id) : imp p .junk = (.junk, []) := rfl
@[simp] theorem imp_own (p : Id) (r : Rows) : imp p (.own r) = (.rs p 0 r.length, [(p, some r)]) := rfl
@[simp] theorem flatR_nil : flatR [] = true := rfl
@[simp] theorem flatR_cons (r : List AV) (l : Rows) : flatR (r :: l) = (flatL r && flatR l) := by simp [flatR]
@[simp] theorem flatL_nil : flatL [] = true := rfl
@[simp] theorem flatL_cons (r : AV) (l : List AV) : flatL (r :: l) = (flat r && flatL l) := by simp [flatL]
@[simp] theorem flat_val (v : Value) : flat (.val v) = true := by simp [flat]
@[simp] theorem flat_sl (v : Rows) : flat (.sl v) = true := by simp [flat]
@[simp] theorem flat_vp (v : List AV) : flat (.vp v) = true := by simp [flat]
@[simp] theorem flat_own (v : Rows) : flat (.own v) = flatR v := by simp [flat]
theorem flatR_append (a b : Rows) : flatR (a ++ b) = (flatR a && flatR b) := by
  induction a with
  | nil => simp
  | cons r l ih => simp [ih, Bool.and_assoc]
theorem flatR_map {α : Type} (g : α → List AV) (l : List α) (h : ∀ x, flatL (g x) = true) : flatR (l.map g) = true := by
  induction l with
  | nil => simp
  | cons x l ih => simp [h, ih]
/-- An object all of whose cells are told. -/
theorem pk_rs {id : Id} {len : Nat} {rows : Rows} (h : L id = some (some rows)) (hl : len = rows.length) (hf : flatR rows = true) : pk L (n + 1) (.rs id 0 len) = some (.own rows, [id]) := by
  simp [pk, pkR, h, hl, hf]
@[simp] theorem renorm_mk (m : Nat) (t : Nat → AV) (h : Id → Option (Option Rows)) (slots : List Nat) : renorm ⟨m, t, h⟩ slots = (packL h t slots).bind fun x => if nodupB x.2 then some x.1 else none := by
  unfold renorm
  dsimp only
  cases packL h t slots <;> rfl
@[simp] theorem packL_nil (t : Nat → AV) : packL L t [] = some ([], []) := rfl
@[simp] theorem packL_cons (t : Nat → AV) (s : Nat) (l : List Nat) : packL L t (s :: l) = (pk L 9 (t s)).bind fun x => (packL L t l).map fun y => (x.1 :: y.1, x.2 ++ y.2) := rfl
@[simp] theorem mkSt_nil (m : Nat) (v : List AV) : mkSt m [] v = ⟨m, fun _ => .junk, fun _ => none⟩ := rfl
@[simp] theorem mkSt_cons (m s : Nat) (l : List Nat) (v : AV) (vs : List AV) : mkSt m (s :: l) (v :: vs) = ⟨m, upd (mkSt m l vs).t s (imp [s] v).1, updH (mkSt m l vs).h (imp [s] v).2⟩ := rfl
@[simp] theorem packV_nil : packV L [] = some ([], []) := rfl
@[simp] theorem lentIds_nil (j : Nat) (l : List AV) : lentIds [] j l = [] := by
  induction l generalizing j with
  | nil => rfl
  | cons a l ih => simp [lentIds, ih]
@[simp] theorem resC_tmp {t : Nat} : resC C S (.tmp t) = pk S.h 9 (un true (S.t t)) := rfl
@[simp] theorem ressC_nil : ressC C S [] = some ([], []) := rfl
@[simp] theorem ressC_cons {r : ResultVar} {l : List ResultVar} : ressC C S (r :: l) = (resC C S r).bind fun x => (ressC C S l).map fun y => (x.1 :: y.1, x.2 ++ y.2) := rfl

def finish1 (C : Cx) (rv : List ResultVar) (lend : List Nat) (args : List AV) (x : Exit × St) : Option (AV × List AV) :=
  match x.1 with
  | .normal | .ret => match ressC C x.2 rv, packV x.2.h (lentIds lend 0 args) with
    | some (rs, i1), some (outs, i2) => if nodupB (i1 ++ i2) then some (match rs with | [r] => r | _ => .tup rs, outs) else none
    | _, _ => none
  | _ => none

theorem evBody_eq {fn : Func} {c : Code} {args : List AV} {rv : List ResultVar} {n : Nat} (he : C.ext f = none) (hf : C.P.funcs[f]? = some fn) (hb : fn.body = some c) (hr : fn.results.toList = rv) (hn : fn.ntmps = n) (hl : args.length ≤ n) :
    evBody C call lp f args = ev C f call lp c (finish1 C rv (C.lend f) args) (mkSt n (List.range args.length) args) := by
  subst hn hr
  unfold evBody
  simp only [he, hf, hb, if_pos hl, ev]
  cases evCode C f call lp c (mkSt fn.ntmps (List.range args.length) args) with
  | none => rfl
  | some x => obtain ⟨e, s⟩ := x; cases e <;> rfl

theorem finish1_ret {rv : List ResultVar} {args : List AV} {s : St} : finish1 C rv [] args (.ret, s) = (ressC C s rv).bind fun x => if nodupB x.2 then some (match x.1 with | [r] => r | _ => .tup x.1, []) else none := by
  simp only [finish1, lentIds_nil, packV_nil]
  cases ressC C s rv with
  | none => rfl
  | some x => obtain ⟨a, b⟩ := x; simp
theorem finish1_normal {rv : List ResultVar} {args : List AV} {s : St} : finish1 C rv [] args (.normal, s) = (ressC C s rv).bind fun x => if nodupB x.2 then some (match x.1 with | [r] => r | _ => .tup x.1, []) else none := finish1_ret

end
end Go.Ab
