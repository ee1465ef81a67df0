/-
  STEPS (second making): one lemma for each operation.
-/
import Derived.Test.YtbhpblokoecoaaaAbEqS
namespace Go.Ab
open Go
inductive Er where
  | nil
  | code (n : Int)
  | other
  deriving DecidableEq, Inhabited
class Ul (C : Cx) (t : TypeId) (d : outParam TypeDesc) : Prop where ul : C.P.underlying t = some d
class Sz (C : Cx) (t : TypeId) (b : outParam Bool) (n : outParam Nat) : Prop where
  ag : isAggC C t = some b
  sz : sizeC C t = some n
class Fd (C : Cx) (t i : Nat) (off n : outParam Nat) (b : outParam Bool) : Prop where fd : fieldC C t i = some (off, n, b)
class Zc (C : Cx) (t : TypeId) (cs : outParam (List AV)) : Prop where zc : zeroC C t = some cs
class Zm (C : Cx) (t : TypeId) (cs : outParam (List AV)) : Prop where zm : zeroM C t = some cs
class Pl (C : Cx) (t : TypeId) (pl : outParam (List (Nat × Nat × Bool))) : Prop where pl : placesC C t = some pl
def appOk (C : Cx) (e : TypeId) (m : Nat) : Bool := match C.P.info? e with | some i => i.size == m && decide (0 < m) && decide (i.bytes ≤ 4096) && zeroFits i | none => false
class Ao (C : Cx) (e : TypeId) (m : outParam Nat) : Prop where ao : appOk C e m = true
class Fl {α : Type} (c : α → List AV) : Prop where fl : ∀ x, flatL (c x) = true
class Imm {α : Type} (c : α → List AV) : Prop where
  im : ∀ x, immL (c x) = true
  ce : ∀ x, (c x).all AV.cell = true
class Fz {α : Type} (c : α → List AV) (c' : outParam (α → List AV)) : Prop where fz : ∀ x, fzL (c x) = c' x
class Mi {α : Type} (c : α → List AV) : Prop where mi : ∀ x, mineL (c x) = true
section
variable {g g' h k : Bool} {x : AV}
theorem un_p1 {p : Bool} : un (true && p) (.gv (p == true) x) = x := by cases p <;> rfl
theorem un_p2 {p : Bool} : un (true && !p) (.gv (p == false) x) = x := by cases p <;> rfl
theorem un_p3 {p : Bool} : un (g && p) (.gv (g && (p == true)) x) = x := by cases p <;> cases g <;> rfl
theorem un_p4 {p : Bool} : un (g && !p) (.gv (g && (p == false)) x) = x := by cases p <;> cases g <;> rfl
end
theorem gvv {a b : AV} (h : a = b := by first | exact un_self _ | exact unEr | exact un_tru | exact un_p1 | exact un_p2 | exact un_p3 | exact un_p4 | exact un_l | exact un_ll | exact un_lm | exact un_lll | exact un_llm) : a = b := h
theorem gt {a b : AV} (h : a = b := by first | exact (rfl : _ = AV.val _) | exact (rfl : _ = AV.sl _) | exact (rfl : _ = AV.rs _ _ _) | exact (rfl : _ = AV.mp _ _ _) | exact (rfl : _ = AV.vp _) | exact (rfl : _ = AV.agg _) | exact (rfl : _ = AV.snil) | exact (rfl : _ = AV.tup _) | exact (rfl : _ = AV.fn _ _ _) | exact unEr | exact (rfl : _ = AV.nn) | exact (rfl : _ = AV.mr _) | exact (rfl : _ = AV.im _) | exact (rfl : _ = AV.om _) | exact gvv) : a = b := h
theorem spC {α : Type} {a : α} {l t t' : List α} (h : l = a :: t) (k : t = t') : l = a :: t' := by rw [h, k]
theorem spN {α : Type} {l : List α} (h : l = [] := by exact rfl) : l = [] := h
theorem spine {α : Type} {a b : List α} (h : a = b := by repeat (first | exact spN | apply spC rfl)) : a = b := h
theorem isNone_of {α : Type} {o : Option α} (h : o = none) : o.isNone = true := by rw [h]; rfl
section
variable {C : Cx} {f : FuncId} {call : CallT} {S : St} {g : Bool}
variable {d : Nat} {ty : TypeId} {pos : String} {af : Array Edge} {gd : Option (Nat × Bool)} {v v' : AV}
variable {x y z : Operand} {k : IntKind} {a b : Int} {T U : TypeId}
theorem oMove (h : un g (S.get C x) = v := by exact gt) : evOp C f call S g ⟨some d, .move x, ty, pos, af, gd⟩ = some ⟨[(d, v)], [], []⟩ := by subst h; rfl
theorem oAssign (h : un g (S.get C x) = v := by exact gt) : evOp C f call S g ⟨some d, .assign x, ty, pos, af, gd⟩ = some ⟨[(d, v)], [], []⟩ := by subst h; rfl
theorem ov_bin {op : BinOp} {ax ay : AV} {va vb vc : Value} (hx : un g (S.get C x) = ax) (hy : un g (S.get C y) = ay) (h1 : toVal ax = some va) (h2 : toVal ay = some vb) (hb : binV C.P op T x y va vb = some vc) (hs : isSc vc = true) :
    evOp C f call S g ⟨some d, .binOp op T x y U, ty, pos, af, gd⟩ = some ⟨[(d, .val vc)], [], []⟩ := by
  show evBin C _ op T x y (un g (S.get C x)) (un g (S.get C y)) = _
  rw [hx, hy]
  simp [evBin, h1, h2, hb, hs]
theorem ov_bi {op : BinOp} {vc : Value} (hb : binV C.P op T x y (.int k a) (.int k b) = some vc) (hs : isSc vc = true) (hx : un g (S.get C x) = .val (.int k a)) (hy : un g (S.get C y) = .val (.int k b)) :
    evOp C f call S g ⟨some d, .binOp op T x y U, ty, pos, af, gd⟩ = some ⟨[(d, .val vc)], [], []⟩ := ov_bin hx hy rfl rfl hb hs
theorem oAdd (hx : un g (S.get C x) = .val (.int k a) := by first | exact rfl | exact gvv) (hy : un g (S.get C y) = .val (.int k b) := by first | exact rfl | exact gvv) : evOp C f call S g ⟨some d, .binOp .add T x y U, ty, pos, af, gd⟩ = some ⟨[(d, .val (.int k (k.wrap (a + b))))], [], []⟩ := ov_bi bin_add rfl hx hy
theorem oSub (hx : un g (S.get C x) = .val (.int k a) := by first | exact rfl | exact gvv) (hy : un g (S.get C y) = .val (.int k b) := by first | exact rfl | exact gvv) : evOp C f call S g ⟨some d, .binOp .sub T x y U, ty, pos, af, gd⟩ = some ⟨[(d, .val (.int k (k.wrap (a - b))))], [], []⟩ := ov_bi bin_sub rfl hx hy
theorem oEql (hx : un g (S.get C x) = .val (.int k a) := by first | exact rfl | exact gvv) (hy : un g (S.get C y) = .val (.int k b) := by first | exact rfl | exact gvv) : evOp C f call S g ⟨some d, .binOp .eql T x y U, ty, pos, af, gd⟩ = some ⟨[(d, .val (.bool (a == b)))], [], []⟩ := ov_bi bin_eql rfl hx hy
theorem oNeq (hx : un g (S.get C x) = .val (.int k a) := by first | exact rfl | exact gvv) (hy : un g (S.get C y) = .val (.int k b) := by first | exact rfl | exact gvv) : evOp C f call S g ⟨some d, .binOp .neq T x y U, ty, pos, af, gd⟩ = some ⟨[(d, .val (.bool (a != b)))], [], []⟩ := ov_bi bin_neq rfl hx hy
theorem oLss (hx : un g (S.get C x) = .val (.int k a) := by first | exact rfl | exact gvv) (hy : un g (S.get C y) = .val (.int k b) := by first | exact rfl | exact gvv) : evOp C f call S g ⟨some d, .binOp .lss T x y U, ty, pos, af, gd⟩ = some ⟨[(d, .val (.bool (decide (a < b))))], [], []⟩ := ov_bi bin_lss rfl hx hy
theorem oLeq (hx : un g (S.get C x) = .val (.int k a) := by first | exact rfl | exact gvv) (hy : un g (S.get C y) = .val (.int k b) := by first | exact rfl | exact gvv) : evOp C f call S g ⟨some d, .binOp .leq T x y U, ty, pos, af, gd⟩ = some ⟨[(d, .val (.bool (decide (a ≤ b))))], [], []⟩ := ov_bi bin_leq rfl hx hy
theorem oGtr (hx : un g (S.get C x) = .val (.int k a) := by first | exact rfl | exact gvv) (hy : un g (S.get C y) = .val (.int k b) := by first | exact rfl | exact gvv) : evOp C f call S g ⟨some d, .binOp .gtr T x y U, ty, pos, af, gd⟩ = some ⟨[(d, .val (.bool (decide (b < a))))], [], []⟩ := ov_bi bin_gtr rfl hx hy
theorem oGeq (hx : un g (S.get C x) = .val (.int k a) := by first | exact rfl | exact gvv) (hy : un g (S.get C y) = .val (.int k b) := by first | exact rfl | exact gvv) : evOp C f call S g ⟨some d, .binOp .geq T x y U, ty, pos, af, gd⟩ = some ⟨[(d, .val (.bool (decide (b ≤ a))))], [], []⟩ := ov_bi bin_geq rfl hx hy
theorem bin_eqlS {P : Program} {a b : ByteArray} : binV P .eql T x y (.string a) (.string b) = some (.bool (a.toList == b.toList)) := by simp [binV, eqGuard, binOp, Op.stringOp, pureRun, bind, Sem.bind, pure]
theorem bin_neqS {P : Program} {a b : ByteArray} : binV P .neq T x y (.string a) (.string b) = some (.bool (a.toList != b.toList)) := by simp [binV, eqGuard, binOp, Op.stringOp, pureRun, bind, Sem.bind, pure, bne]
theorem oEqlS {a b : ByteArray} (hx : un g (S.get C x) = .val (.string a) := by first | exact rfl | exact gvv) (hy : un g (S.get C y) = .val (.string b) := by first | exact rfl | exact gvv) : evOp C f call S g ⟨some d, .binOp .eql T x y U, ty, pos, af, gd⟩ = some ⟨[(d, .val (.bool (a.toList == b.toList)))], [], []⟩ := ov_bin hx hy rfl rfl bin_eqlS rfl
theorem oNeqS {a b : ByteArray} (hx : un g (S.get C x) = .val (.string a) := by first | exact rfl | exact gvv) (hy : un g (S.get C y) = .val (.string b) := by first | exact rfl | exact gvv) : evOp C f call S g ⟨some d, .binOp .neq T x y U, ty, pos, af, gd⟩ = some ⟨[(d, .val (.bool (a.toList != b.toList)))], [], []⟩ := ov_bin hx hy rfl rfl bin_neqS rfl
theorem oStq {op : BinOp} {xs ys : List AV} {vx vy : List Value} {q : Bool} (hb : binV C.P op T x y (.agg ⟨vx⟩) (.agg ⟨vy⟩) = some (.bool q)) (hx : un g (S.get C x) = .agg xs := by first | exact rfl | exact gvv) (hy : un g (S.get C y) = .agg ys := by first | exact rfl | exact gvv) (h1 : toVals xs = some vx := by exact rfl) (h2 : toVals ys = some vy := by exact rfl) :
    evOp C f call S g ⟨some d, .binOp op T x y U, ty, pos, af, gd⟩ = some ⟨[(d, .val (.bool q))], [], []⟩ := ov_bin hx hy (by simp [toVal, h1]) (by simp [toVal, h2]) hb rfl
theorem oNot {p : Bool} (hx : un g (S.get C x) = .val (.bool p) := by first | exact rfl | exact gvv) : evOp C f call S g ⟨some d, .unOp .not T x, ty, pos, af, gd⟩ = some ⟨[(d, .val (.bool !p))], [], []⟩ := by
  show evUn C _ .not (un g (S.get C x)) = _
  rw [hx]; rfl
theorem oPick {p q r : Bool} (hx : un g (S.get C x) = .val (.bool p) := by first | exact rfl | exact gvv) (hy : un (g && p) (S.get C y) = .val (.bool q) := by first | exact rfl | exact gvv) (hz : un (g && !p) (S.get C z) = .val (.bool r) := by first | exact rfl | exact gvv) :
    evOp C f call S g ⟨some d, .pick x y z, ty, pos, af, gd⟩ = some ⟨[(d, .val (.bool (if p then q else r)))], [], []⟩ := by
  show evPick _ (un g (S.get C x)) (un (g && boolOf (un g (S.get C x))) (S.get C y)) (un (g && !boolOf (un g (S.get C x))) (S.get C z)) = _
  rw [hx]; simp only [boolOf]; rw [hy, hz]; rfl
theorem oPickT {q : Bool} (hx : un g (S.get C x) = .val (.bool true) := by exact rfl) (hy : un (g && true) (S.get C y) = .val (.bool q) := by first | exact rfl | exact gvv) :
    evOp C f call S g ⟨some d, .pick x y z, ty, pos, af, gd⟩ = some ⟨[(d, .val (.bool q))], [], []⟩ := by
  show evPick _ (un g (S.get C x)) (un (g && boolOf (un g (S.get C x))) (S.get C y)) (un (g && !boolOf (un g (S.get C x))) (S.get C z)) = _
  rw [hx]; simp only [boolOf]; rw [hy]
  generalize un (g && !true) (S.get C z) = w
  cases w with
  | val v => cases v <;> rfl
  | _ => rfl
theorem oPickF {q : Bool} (hx : un g (S.get C x) = .val (.bool false) := by exact rfl) (hz : un (g && true) (S.get C z) = .val (.bool q) := by first | exact rfl | exact gvv) :
    evOp C f call S g ⟨some d, .pick x y z, ty, pos, af, gd⟩ = some ⟨[(d, .val (.bool q))], [], []⟩ := by
  show evPick _ (un g (S.get C x)) (un (g && boolOf (un g (S.get C x))) (S.get C y)) (un (g && !boolOf (un g (S.get C x))) (S.get C z)) = _
  rw [hx]; simp only [boolOf, Bool.not_false]; rw [hz]
  generalize un (g && false) (S.get C y) = w
  cases w with
  | val v => cases v <;> rfl
  | _ => rfl
theorem oBoxF {bb : Bool} {m : Nat} {cs cs' : List AV} [ha : Sz C T bb m] (hin : (C.frz f).contains d = true := by exact rfl) (hx : un g (S.get C x) = v := by exact gt) (hc : cellsOfV bb v = some cs := by exact rfl) (hz : nzL cs = cs' := by exact spine) (hi : immL cs' = true := by exact rfl) :
    evOp C f call S g ⟨some d, .box T x, ty, pos, af, gd⟩ = some ⟨[(d, .vp cs')], [], []⟩ := by
  show evBox C f S _ T (un g (S.get C x)) = _
  simp only [evBox, ha.ag, hx, hc, inFrz, hin, hz, hi, Bool.and_self, if_true]; rfl
theorem oLd {m : Nat} {cells cs : List AV} [ha : Sz C T false m] (hx : un g (S.get C x) = .vp cells := by first | exact rfl | exact gvv) (hm : m = 1 := by exact rfl) (hv : cells = v :: cs := by exact rfl) :
    evOp C f call S g ⟨some d, .load T x, ty, pos, af, gd⟩ = some ⟨[(d, v)], [], []⟩ := by
  show evLoad C S _ T (un g (S.get C x)) = _
  subst hm hv
  simp [evLoad, ha.ag, ha.sz, hx, mkV]
theorem oLdA {m : Nat} {cells cs : List AV} [ha : Sz C T true m] (hx : un g (S.get C x) = .vp cells := by first | exact rfl | exact gvv) (hl : Nat.ble m cells.length = true := by exact rfl) (hv : cells.take m = cs := by exact spine) :
    evOp C f call S g ⟨some d, .load T x, ty, pos, af, gd⟩ = some ⟨[(d, .agg cs)], [], []⟩ := by
  show evLoad C S _ T (un g (S.get C x)) = _
  have hl' : m ≤ cells.length := Nat.le_of_ble_eq_true hl
  simp [evLoad, ha.ag, ha.sz, hx, hl', hv, mkV]
theorem oFA {i off m : Nat} {bb : Bool} {cells : List AV} [hf : Fd C T i off m bb] (hx : un g (S.get C x) = .vp cells := by first | exact rfl | exact gvv) (h0 : Nat.blt 0 m = true := by exact rfl) (hl : Nat.ble off cells.length = true := by exact rfl) :
    evOp C f call S g ⟨some d, .fieldAddr T x i, ty, pos, af, gd⟩ = some ⟨[(d, .vp (cells.drop off))], [], []⟩ := by
  show evFieldAddr C _ T i (un g (S.get C x)) = _
  have hl' : off ≤ cells.length := Nat.le_of_ble_eq_true hl
  have h0' : 0 < m := of_decide_eq_true (blt_decide h0)
  simp [evFieldAddr, hf.fd, hx, hl', h0']
theorem oIx {e : TypeId} {m : Nat} {bb : Bool} {α : Type} {c : α → List AV} {q : List α} {i : Int} {r : α} (hi : idx q i = some r) [hu : Ul C T (.slice e)] [hs : Sz C e bb m] (hx : un g (S.get C x) = .sl (q.map c) := by first | exact rfl | exact gvv) (hy : un g (S.get C y) = .val (.int k i) := by first | exact rfl | exact gvv) (h0 : Nat.blt 0 m = true := by exact rfl) (hr : (c r).length = m := by exact rfl) :
    evOp C f call S g ⟨some d, .indexAddr T x y, ty, pos, af, gd⟩ = some ⟨[(d, .vp (c r))], [], []⟩ := by
  show evIndexAddr C S _ T (un g (S.get C x)) (intOfV (un g (S.get C y))) = _
  have h0' : 0 < m := of_decide_eq_true (blt_decide h0)
  have h1 := idx_map (c := c) hi
  unfold idx at h1
  split at h1
  · rename_i hp
    simp only [hx, hy, intOfV, evIndexAddr, hu.ul, hs.sz, if_pos hp, h1, Option.bind_some]
    simp [hr, h0']
  · cases h1
def sidx (s : ByteArray) (i : Int) : Option UInt8 := if 0 ≤ i then s[i.toNat]? else none
theorem oIxS {s : ByteArray} {i : Int} {r : UInt8} (hi : sidx s i = some r) [hu : Ul C T .string] (hx : un g (S.get C x) = .val (.string s) := by first | exact rfl | exact gvv) (hy : un g (S.get C y) = .val (.int k i) := by first | exact rfl | exact gvv) :
    evOp C f call S g ⟨some d, .index T x y, ty, pos, af, gd⟩ = some ⟨[(d, .val (.int .u8 r.toNat))], [], []⟩ := by
  show evIndex C _ T (un g (S.get C x)) (intOfV (un g (S.get C y))) = _
  unfold sidx at hi
  split at hi
  · rename_i hp
    simp only [hx, hy, intOfV, evIndex, hu.ul, if_pos hp, hi, Option.bind_some]
    rfl
  · cases hi
section
variable {e : TypeId} {xs : Array Operand} {ts : Array TypeId} {T : TypeId}
theorem oLenSl {α : Type} {c : α → List AV} {q : List α} (hx : un g (S.get C x) = .sl (q.map c) := by first | exact rfl | exact gvv) [hu : Ul C T (.slice e)] : evOp C f call S g ⟨some d, .call ⟨.builtin .len, ⟨[x]⟩, ⟨[T]⟩⟩, ty, pos, af, gd⟩ = some ⟨[(d, .val (.int .i64 q.length))], [], []⟩ := by
  show evLen C _ _ ([x].map fun x => un g (S.get C x)) = _
  simp [hx, evLen, hu.ul, lenC, lenS, goI]
theorem oLenRs {id : Id} {off m m' : Nat} (hx : un g (S.get C x) = .rs id off m' := by first | exact rfl | exact gvv) (hm : m' = m := by first | exact List.length_map _ | exact rfl) [hu : Ul C T (.slice e)] : evOp C f call S g ⟨some d, .call ⟨.builtin .len, ⟨[x]⟩, ⟨[T]⟩⟩, ty, pos, af, gd⟩ = some ⟨[(d, .val (.int .i64 m))], [], []⟩ := by
  show evLen C _ _ ([x].map fun x => un g (S.get C x)) = _
  simp [hx, evLen, hu.ul, lenC, lenS, goI, hm]
theorem oLenS {s : ByteArray} (hx : un g (S.get C x) = .val (.string s) := by first | exact rfl | exact gvv) [hu : Ul C T .string] : evOp C f call S g ⟨some d, .call ⟨.builtin .len, ⟨[x]⟩, ⟨[T]⟩⟩, ty, pos, af, gd⟩ = some ⟨[(d, .val (.int .i64 s.size))], [], []⟩ := by
  show evLen C _ _ ([x].map fun x => un g (S.get C x)) = _
  simp [hx, evLen, hu.ul, lenC, goI]
end
theorem psN : ([] : List (Nat × Operand)).map (fun p => (p.1, un g (S.get C p.2))) = [] := rfl
theorem psC {i : Nat} {l : List (Nat × Operand)} {l' : List (Nat × AV)} (hx : un g (S.get C x) = v) (k : l.map (fun p => (p.1, un g (S.get C p.2))) = l') : ((i, x) :: l).map (fun p => (p.1, un g (S.get C p.2))) = (i, v) :: l' := by simp [hx, k]
theorem pss {l : List (Nat × Operand)} {l' : List (Nat × AV)} (h : l.map (fun p => (p.1, un g (S.get C p.2))) = l' := by repeat (first | exact psN | (apply psC; exact gt))) : l.map (fun p => (p.1, un g (S.get C p.2))) = l' := h
theorem oBuild {p : List (Nat × Operand)} {zc cs cs0 : List AV} {pl : List (Nat × Nat × Bool)} {ps : List (Nat × AV)} [hz : Zc C T zc] [hp : Pl C T pl] (hq : (p.map fun p => (p.1, un g (S.get C p.2))) = ps := by exact pss) (hf : fillC pl zc ps = some cs0 := by exact rfl) (hc : cs0 = cs := by exact spine) (hsl : C.zsl f d = [] := by exact rfl) :
    evOp C f call S g ⟨some d, .build T ⟨p⟩, ty, pos, af, gd⟩ = some ⟨[(d, .agg cs)], [], []⟩ := by
  show evBuild C f _ T (p.map fun p => (p.1, un g (S.get C p.2))) = _
  rw [hq]
  simp [evBuild, hz.zc, hp.pl, hf, hc, zslD, hsl, zslC]
theorem oBuildZ {p : List (Nat × Operand)} {zc zc' cs cs0 : List AV} {l : List Nat} {pl : List (Nat × Nat × Bool)} {ps : List (Nat × AV)} [hz : Zc C T zc] [hp : Pl C T pl] (hsl : C.zsl f d = l := by exact rfl) (hzz : zslC l zc = zc' := by exact rfl) (hq : (p.map fun p => (p.1, un g (S.get C p.2))) = ps := by exact pss) (hf : fillC pl zc' ps = some cs0 := by exact rfl) (hc : cs0 = cs := by exact spine) :
    evOp C f call S g ⟨some d, .build T ⟨p⟩, ty, pos, af, gd⟩ = some ⟨[(d, .agg cs)], [], []⟩ := by
  subst hzz
  show evBuild C f _ T (p.map fun p => (p.1, un g (S.get C p.2))) = _
  rw [hq]
  simp [evBuild, hz.zc, hp.pl, hf, hc, zslD, hsl]
theorem oFunc {kf : Fn} {fs cs : Array Operand} {fa fb : List AV} (ha : (fs.toList.map fun x => un g (S.get C x)) = fa := by exact spine) (hb : (cs.toList.map fun x => un g (S.get C x)) = fb := by exact spine) :
    evOp C f call S g ⟨some d, .makeFunc kf fs cs, ty, pos, af, gd⟩ = some ⟨[(d, .fn kf fa fb)], [], []⟩ := by
  subst ha hb; rfl
theorem oExt {vs : List AV} {i : Nat} (hx : un g (S.get C x) = .tup vs := by first | exact rfl | exact gvv) (hi : vs[i]? = some v := by exact rfl) : evOp C f call S g ⟨some d, .extract x i, ty, pos, af, gd⟩ = some ⟨[(d, v)], [], []⟩ := by
  show evExtract _ (un g (S.get C x)) i = _
  rw [hx]; simp [evExtract, hi]
theorem oNil (hx : un g (S.get C x) = v := by exact gt) (hv : (match v with | .vp _ | .mp _ _ _ | .fn (.func _) _ _ => true | _ => false) = true := by exact rfl) : evOp C f call S g ⟨some d, .nilCheck x, ty, pos, af, gd⟩ = some ⟨[(d, v)], [], []⟩ := by
  show evNil _ (un g (S.get C x)) = _
  rw [hx]
  cases v with
  | fn kf a b => cases kf <;> first | rfl | cases hv
  | vp _ => rfl
  | mp _ _ _ => rfl
  | _ => cases hv
theorem max_int {P : Program} {ts : Array TypeId} {k : IntKind} {a b : Int} : maxV P ts ty [.int k a, .int k b] = some (.int k (max a b)) := by
  have e : (if b > a then b else a) = max a b := by omega
  simp [maxV, Builtin.max_, Builtin.max2, pureRun, List.foldlM, bind, Sem.bind, pure, e]
theorem oMax {k : IntKind} {a b : Int} {ts : Array TypeId} (hx : un g (S.get C x) = .val (.int k a) := by first | exact rfl | exact gvv) (hy : un g (S.get C y) = .val (.int k b) := by first | exact rfl | exact gvv) :
    evOp C f call S g ⟨some d, .call ⟨.builtin .max, ⟨[x, y]⟩, ts⟩, ty, pos, af, gd⟩ = some ⟨[(d, .val (.int k (max a b)))], [], []⟩ := by
  show (match toVals ([x, y].map fun x => un g (S.get C x)) with | some vs => retV _ (maxV C.P ts ty vs) | none => none) = _
  simp only [List.map_cons, List.map_nil, hx, hy, toVals, Option.map_some, max_int]
  rfl
def sslc (s : ByteArray) (lo hi : Option Int) : Option ByteArray := (bounds (lo.map some) (hi.map some) s.size).map fun p => s.extract p.1 p.2
theorem bnd0 : (none.map fun y => intOfV (un g (S.get C y))) = (none : Option Int).map some := rfl
theorem bnd1 {n : Int} (h : un g (S.get C y) = .val (.int k n) := by first | exact rfl | exact gvv) : ((some y).map fun y => intOfV (un g (S.get C y))) = (some n).map some := by
  show some (intOfV (un g (S.get C y))) = _
  rw [h]; rfl
theorem all_map_len {α : Type} {c : α → List AV} {q : List α} {m : Nat} (hc : ∀ x, (c x).length = m) : (q.map c).all (·.length == m) = true := by simp [hc]
theorem oSlcS {s r : ByteArray} {lo hi : Option Operand} {lo' hi' : Option Int} (hr : sslc s lo' hi' = some r) [hu : Ul C T .string] (hx : un g (S.get C x) = .val (.string s) := by first | exact rfl | exact gvv)
    (h1 : (lo.map fun y => intOfV (un g (S.get C y))) = lo'.map some := by first | exact bnd0 | exact bnd1) (h2 : (hi.map fun y => intOfV (un g (S.get C y))) = hi'.map some := by first | exact bnd0 | exact bnd1) :
    evOp C f call S g ⟨some d, .slice T x lo hi none, ty, pos, af, gd⟩ = some ⟨[(d, .val (.string r))], [], []⟩ := by
  show evSlice C S _ T (un g (S.get C x)) (lo.map fun y => intOfV (un g (S.get C y))) (hi.map fun y => intOfV (un g (S.get C y))) = _
  unfold sslc at hr
  obtain ⟨p, hp, rfl⟩ := Option.map_eq_some_iff.1 hr
  rw [hx, h1, h2]
  simp only [evSlice, hu.ul, hp, Option.bind_some]
  rfl
end
end Go.Ab
