/-
  THE MACHINE's STEPS AS EQUATIONS, one for each kind of operation: what a proof about a function rewrites by.
-/
import Derived.Test.YtbhpblokoecoaaaAbBase
namespace Go.Ab
open Go
abbrev I (n : Int) : AV := .val (.int .i64 n)
abbrev B (b : Bool) : AV := .val (.bool b)
section
variable {C : Cx} {f : FuncId} {call : FuncId → List AV → Option (AV × List AV)} {S : St} {g : Bool} {ops : Array Oper}
variable {ρ : Type} {d : Option Tmp} {ty : TypeId} {pos : String} {af : Array Edge} {gd : Option (Nat × Bool)}
@[simp] theorem upd_apply {α β : Type} [DecidableEq α] (f : α → β) (k j : α) (v : β) : upd f k v j = if j = k then v else f j := rfl
@[simp] theorem updS_nil (t : Nat → AV) : updS t [] = t := rfl
@[simp] theorem updS_cons (t : Nat → AV) (i : Nat) (v : AV) (l : List (Nat × AV)) : updS t ((i, v) :: l) = upd (updS t l) i v := rfl
@[simp] theorem updH_nil (h : Id → Option (Option Rows)) : updH h [] = h := rfl
@[simp] theorem updH_cons (h : Id → Option (Option Rows)) (i : Id) (v : Option Rows) (l : List (Id × Option Rows)) : updH h ((i, v) :: l) = upd (updH h l) i (some v) := rfl
@[simp] theorem app_mk (n : Nat) (t : Nat → AV) (h : Id → Option (Option Rows)) (sw : List (Nat × AV)) (rd : List Id) (wr : List (Id × Option Rows)) : St.app ⟨n, t, h⟩ ⟨sw, rd, wr⟩ = ⟨n, updS t sw, updH h wr⟩ := rfl
@[simp] theorem get_tmp (t : Nat) : S.get C (.tmp t) = S.t t := rfl
@[simp] theorem get_int (k : IntKind) (n : Int) : S.get C (.const (.int k n)) = .val (.int k n) := rfl
@[simp] theorem get_bool (b : Bool) : S.get C (.const (.bool b)) = .val (.bool b) := rfl
@[simp] theorem get_str (s : ByteArray) : S.get C (.const (.string s)) = .val (.string s) := rfl
@[simp] theorem get_nilp : S.get C (.const (.pointer none)) = .val (.pointer none) := rfl
@[simp] theorem get_nils : S.get C (.const (.slice none 0 0)) = .snil := rfl
@[simp] theorem get_nili : S.get C (.const .nilIface) = .val .nilIface := rfl
@[simp] theorem get_nilf : S.get C (.const .nilFunc) = .val .nilFunc := rfl
@[simp] theorem get_func (k : FuncId) : S.get C (.func k) = .fn (.func k) [] [] := rfl
@[simp] theorem get_glob (k : Nat) : S.get C (.global k) = match C.glob k with | some cs => .vp cs | none => .junk := rfl
@[simp] theorem un_val (v : Value) : un g (.val v) = .val v := rfl
@[simp] theorem un_sl (r : Rows) : un g (.sl r) = .sl r := rfl
@[simp] theorem un_vp (c : List AV) : un g (.vp c) = .vp c := rfl
@[simp] theorem un_snil : un g .snil = .snil := rfl
@[simp] theorem un_rs (i : Id) (a b : Nat) : un g (.rs i a b) = .rs i a b := rfl
@[simp] theorem un_mp (i : Id) (a b : Nat) : un g (.mp i a b) = .mp i a b := rfl
@[simp] theorem un_fn (k : Fn) (a b : List AV) : un g (.fn k a b) = .fn k a b := rfl
@[simp] theorem un_agg (c : List AV) : un g (.agg c) = .agg c := rfl
@[simp] theorem un_tup (c : List AV) : un g (.tup c) = .tup c := rfl
@[simp] theorem un_junk : un g .junk = .junk := rfl
@[simp] theorem un_own (r : Rows) (m : Nat) : un g (.own r m) = .own r m := rfl
@[simp] theorem un_self (x : AV) : un g (.gv g x) = x := by cases g <;> rfl
@[simp] theorem un_true (x : AV) : un g (.gv true x) = x := by cases g <;> rfl
@[simp] theorem un_and (h : Bool) (x : AV) : un (g && h) (.gv g x) = x := by cases g <;> cases h <;> rfl
@[simp] theorem un_and' (h : Bool) (x : AV) : un (g && h) (.gv (g && h) x) = x := un_self x
@[simp] theorem un_and'' (h : Bool) (x : AV) : un (g && h) (.gv h x) = x := by cases g <;> cases h <;> rfl
@[simp] theorem un_and3 (h k : Bool) (x : AV) : un (g && h && k) (.gv g x) = x := by cases g <;> cases h <;> cases k <;> rfl
@[simp] theorem boolOf_bool (b : Bool) : boolOf (.val (.bool b)) = b := rfl
@[simp] theorem evG_none {op : Op} : evG C f call S ops ⟨d, op, ty, pos, af, none⟩ = evOp C f call S true ⟨d, op, ty, pos, af, none⟩ := rfl
def evGg (C : Cx) (f : FuncId) (call : FuncId → List AV → Option (AV × List AV)) (S : St) (o : Oper) (g : Bool) : Option Eff :=
  match evOp C f call S g o with
  | some e => if e.wr.isEmpty then some { e with sw := e.sw.map fun x => (x.1, .gv g x.2) } else if g then some e else some (junkEff o)
  | none => if g then none else some (junkEff o)
def guardV (want : Bool) : AV → Option Bool
  | .val (.bool b) => some (b == want)
  | .gv g (.val (.bool b)) => some (g && (b == want))
  | .gv false _ => some false
  | _ => none
@[simp] theorem guardV_val (w b : Bool) : guardV w (.val (.bool b)) = some (b == w) := rfl
@[simp] theorem guardV_gv (w b g : Bool) : guardV w (.gv g (.val (.bool b))) = some (g && (b == w)) := rfl
def guardD (w : Bool) (S : St) : Option Nat → Option Bool
  | some d => guardV w (S.t d)
  | none => none
@[simp] theorem guardD_some (w : Bool) (d : Nat) : guardD w S (some d) = guardV w (S.t d) := rfl
def dstAt (ops : Array Oper) (j : Nat) : Option Nat := (ops[j]?).bind (·.dst)
def dstL : List Oper → Nat → Option Nat
  | [], _ => none
  | o :: _, 0 => o.dst
  | _ :: l, j + 1 => dstL l j
theorem dstAt_mk (l : List Oper) (j : Nat) : dstAt ⟨l⟩ j = dstL l j := by
  unfold dstAt
  simp only [List.getElem?_toArray]
  induction l generalizing j with
  | nil => simp [dstL]
  | cons o l ih => cases j with
    | zero => simp [dstL]
    | succ j => simpa [dstL] using ih j
def contG (C : Cx) (f : FuncId) (call : FuncId → List AV → Option (AV × List AV)) (S : St) (o : Oper) : Option Bool → Option Eff
  | some g => evGg C f call S o g
  | none => none
@[simp] theorem contG_some (o : Oper) (g : Bool) : contG C f call S o (some g) = evGg C f call S o g := rfl
def gvs : List (Nat × AV) → Bool → List (Nat × AV)
  | [], _ => []
  | x :: l, g => (x.1, .gv g x.2) :: gvs l g
def contE (o : Oper) (g : Bool) : Option Eff → Option Eff
  | some e => if e.wr.isEmpty then some ⟨gvs e.sw g, e.rd, e.wr⟩ else if g then some e else some (junkEff o)
  | none => if g then none else some (junkEff o)
theorem gvs_eq (l : List (Nat × AV)) (g : Bool) : gvs l g = l.map fun x => (x.1, .gv g x.2) := by
  induction l with
  | nil => rfl
  | cons x l ih => simp [gvs, ih]
@[simp] theorem evGg_eq (o : Oper) (g : Bool) : evGg C f call S o g = contE o g (evOp C f call S g o) := by
  unfold evGg contE
  split <;> simp_all [gvs_eq]
@[simp] theorem contE_one (o : Oper) (g : Bool) (t : Nat) (v : AV) (rd : List Id) : contE o g (some ⟨[(t, v)], rd, []⟩) = some ⟨[(t, .gv g v)], rd, []⟩ := rfl
@[simp] theorem evG_some {op : Op} {j : Nat} {w : Bool} {l : List Oper} : evG C f call S ⟨l⟩ ⟨d, op, ty, pos, af, some (j, w)⟩ =
    contG C f call S ⟨d, op, ty, pos, af, some (j, w)⟩ (guardD w S (dstL l j)) := by
  rw [← dstAt_mk]
  unfold evG guardC dstAt
  simp only
  cases ((⟨l⟩ : Array Oper)[j]?).bind (·.dst) with
  | none => rfl
  | some d =>
    simp only [guardD_some]
    cases S.t d with
    | val v => cases v <;> rfl
    | gv g x => cases x with
      | val v => cases v <;> cases g <;> rfl
      | _ => cases g <;> rfl
    | _ => rfl
@[simp] theorem guardV_gvf (w : Bool) (x : AV) : guardV w (.gv false x) = some false := by
  cases x with
  | val v => cases v <;> rfl
  | _ => rfl
variable {op : Op}
@[simp] theorem ret_some {t : Nat} (v : AV) : ret ⟨some t, op, ty, pos, af, gd⟩ v = some ⟨[(t, v)], [], []⟩ := rfl
@[simp] theorem put_some {t : Nat} (v : AV) (rd : List Id) (wr : List (Id × Option Rows)) : put ⟨some t, op, ty, pos, af, gd⟩ v rd wr = ⟨[(t, v)], rd, wr⟩ := rfl
@[simp] theorem put_none (v : AV) (rd : List Id) (wr : List (Id × Option Rows)) : put ⟨none, op, ty, pos, af, gd⟩ v rd wr = ⟨[], rd, wr⟩ := rfl
@[simp] theorem retV_some (o : Oper) (v : Value) : retV o (some v) = if isSc v then ret o (.val v) else none := rfl
@[simp] theorem isSc_int (k : IntKind) (n : Int) : isSc (.int k n) = true := rfl
@[simp] theorem isSc_bool (b : Bool) : isSc (.bool b) = true := rfl
@[simp] theorem isSc_str (b : ByteArray) : isSc (.string b) = true := rfl
@[simp] theorem evPick_bool (o : Oper) (h x y : Bool) : evPick o (.val (.bool h)) (.val (.bool x)) (.val (.bool y)) = ret o (.val (.bool (if h then x else y))) := rfl
@[simp] theorem toVal_val (v : Value) : toVal (.val v) = some v := rfl
@[simp] theorem toVal_agg (c : List AV) : toVal (.agg c) = (toVals c).map fun vs => .agg ⟨vs⟩ := rfl
@[simp] theorem toVals_nil : toVals [] = some [] := rfl
@[simp] theorem toVals_cons (v : Value) (l : List AV) : toVals (.val v :: l) = (toVals l).map (v :: ·) := rfl
@[simp] theorem intOfV_int (k : IntKind) (n : Int) : intOfV (.val (.int k n)) = some n := rfl
@[simp] theorem evBin_val {o : Oper} {op : BinOp} {t : TypeId} {x y : Operand} {va vb : Value} : evBin C o op t x y (.val va) (.val vb) = retV o (binV C.P op t x y va vb) := rfl
@[simp] theorem evUn_val {o : Oper} {op : UnOp} {va : Value} : evUn C o op (.val va) = retV o (unV C.P op va) := rfl
variable {P : Program} {t : TypeId} {x y : Operand} {k : IntKind} {a b : Int}
@[simp] theorem bin_add : binV P .add t x y (.int k a) (.int k b) = some (.int k (k.wrap (a + b))) := by simp [binV, eqGuard, binOp, Op.intArith, pureRun, bind, Sem.bind, pure]
@[simp] theorem bin_sub : binV P .sub t x y (.int k a) (.int k b) = some (.int k (k.wrap (a - b))) := by simp [binV, eqGuard, binOp, Op.intArith, pureRun, bind, Sem.bind, pure]
@[simp] theorem bin_mul : binV P .mul t x y (.int k a) (.int k b) = some (.int k (k.wrap (a * b))) := by simp [binV, eqGuard, binOp, Op.intArith, pureRun, bind, Sem.bind, pure]
@[simp] theorem bin_eql : binV P .eql t x y (.int k a) (.int k b) = some (.bool (a == b)) := by simp [binV, eqGuard, binOp, Op.intCmp, pureRun, bind, Sem.bind, pure]
@[simp] theorem bin_neq : binV P .neq t x y (.int k a) (.int k b) = some (.bool (a != b)) := by simp [binV, eqGuard, binOp, Op.intCmp, pureRun, bind, Sem.bind, pure]
@[simp] theorem bin_lss : binV P .lss t x y (.int k a) (.int k b) = some (.bool (decide (a < b))) := by simp [binV, eqGuard, binOp, Op.intCmp, pureRun, bind, Sem.bind, pure]
@[simp] theorem bin_leq : binV P .leq t x y (.int k a) (.int k b) = some (.bool (decide (a ≤ b))) := by simp [binV, eqGuard, binOp, Op.intCmp, pureRun, bind, Sem.bind, pure]
@[simp] theorem bin_gtr : binV P .gtr t x y (.int k a) (.int k b) = some (.bool (decide (b < a))) := by simp [binV, eqGuard, binOp, Op.intCmp, pureRun, bind, Sem.bind, pure]
@[simp] theorem bin_geq : binV P .geq t x y (.int k a) (.int k b) = some (.bool (decide (b ≤ a))) := by simp [binV, eqGuard, binOp, Op.intCmp, pureRun, bind, Sem.bind, pure]
@[simp] theorem un_not {b : Bool} : unV P .not (.bool b) = some (.bool !b) := rfl
@[simp] theorem ite_bind {α β : Type} (c : Prop) [Decidable c] (a b : Option α) (k : α → Option β) : (if c then a else b).bind k = if c then a.bind k else b.bind k := by split <;> rfl
@[simp] theorem ite_map {α β : Type} (c : Prop) [Decidable c] (a b : Option α) (k : α → β) : (if c then a else b).map k = if c then a.map k else b.map k := by split <;> rfl
variable {L : Id → Option (Option Rows)} {n : Nat}
@[simp] theorem pk_val (v : Value) : pk L (n + 1) (.val v) = some (.val v, []) := rfl
@[simp] theorem pk_sl (r : Rows) : pk L (n + 1) (.sl r) = some (.sl r, []) := rfl
@[simp] theorem pk_vp (r : List AV) : pk L (n + 1) (.vp r) = some (.vp r, []) := rfl
@[simp] theorem pk_snil : pk L (n + 1) .snil = some (.own [] 0, []) := rfl
@[simp] theorem pk_junk : pk L (n + 1) .junk = some (.junk, []) := rfl
@[simp] theorem imp_val (p : Id) (v : Value) : imp p (.val v) = (.val v, []) := rfl
@[simp] theorem imp_sl (p : Id) (r : Rows) : imp p (.sl r) = (.sl r, []) := rfl
@[simp] theorem imp_vp (p : Id) (r : List AV) : imp p (.vp r) = (.vp r, []) := rfl
@[simp] theorem imp_junk (p : Id) : imp p .junk = (.junk, []) := rfl
@[simp] theorem imp_own (p : Id) (r : Rows) (m : Nat) : imp p (.own r m) = (.rs p 0 m, [(p, some r)]) := rfl
@[simp] theorem flatR_nil : flatR [] = true := rfl
@[simp] theorem flatR_cons (r : List AV) (l : Rows) : flatR (r :: l) = (flatL r && flatR l) := by simp [flatR]
@[simp] theorem flatL_nil : flatL [] = true := rfl
@[simp] theorem flatL_cons (r : AV) (l : List AV) : flatL (r :: l) = (flat r && flatL l) := by simp [flatL]
@[simp] theorem flat_val (v : Value) : flat (.val v) = true := by simp [flat]
@[simp] theorem flat_sl (v : Rows) : flat (.sl v) = true := by simp [flat]
@[simp] theorem flat_om (v : Rows) : flat (.om v) = true := by simp [flat]
@[simp] theorem flat_im (v : Rows) : flat (.im v) = true := by simp [flat]
@[simp] theorem flat_vp (v : List AV) : flat (.vp v) = true := by simp [flat]
@[simp] theorem flat_own (v : Rows) (m : Nat) : flat (.own v m) = flatR v := by simp [flat]
theorem flatR_map {α : Type} (g : α → List AV) (l : List α) (h : ∀ x, flatL (g x) = true) : flatR (l.map g) = true := by
  induction l with
  | nil => simp
  | cons x l ih => simp [h, ih]
theorem pk_rs {id : Id} {len : Nat} {rows : Rows} (h : L id = some (some rows)) (hl : len ≤ rows.length) (hf : flatR rows = true) : pk L (n + 1) (.rs id 0 len) = some (.own rows len, [id]) := by
  simp [pk, pkR, h, hl, hf]
@[simp] theorem renorm_mk (m : Nat) (t : Nat → AV) (h : Id → Option (Option Rows)) (slots : List Nat) : renorm ⟨m, t, h⟩ slots = (packL h t slots).bind fun x => if nodupB x.2 then some x.1 else none := by
  unfold renorm
  dsimp only
  cases packL h t slots <;> rfl
@[simp] theorem packL_nil (t : Nat → AV) : packL L t [] = some ([], []) := rfl
@[simp] theorem packL_cons (t : Nat → AV) (s : Nat) (l : List Nat) : packL L t (s :: l) = (pk L 9 (t s)).bind fun x => (packL L t l).map fun y => (x.1 :: y.1, x.2 ++ y.2) := rfl
@[simp] theorem mkSt_nil (m : Nat) (v : List AV) : mkSt m [] v = ⟨m, fun _ => .junk, fun _ => none⟩ := rfl
@[simp] theorem mkSt_cons (m s : Nat) (l : List Nat) (v : AV) (vs : List AV) : mkSt m (s :: l) (v :: vs) = ⟨m, upd (mkSt m l vs).t s (imp [s] v).1, updH (mkSt m l vs).h (imp [s] v).2⟩ := rfl
@[simp] theorem resC_tmp {t : Nat} : resC C S (.tmp t) = pk S.h 9 (un true (S.t t)) := rfl
@[simp] theorem ressC_nil : ressC C S [] = some ([], []) := rfl
@[simp] theorem ressC_cons {r : ResultVar} {l : List ResultVar} : ressC C S (r :: l) = (resC C S r).bind fun x => (ressC C S l).map fun y => (x.1 :: y.1, x.2 ++ y.2) := rfl
end
end Go.Ab
