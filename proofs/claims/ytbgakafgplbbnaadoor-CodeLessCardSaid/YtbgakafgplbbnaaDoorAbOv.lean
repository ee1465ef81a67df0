/-
  STEPS: one lemma for each operation.
-/
import Derived.Test.YtbgakafgplbbnaaDoorAbStep
namespace Go.Ab
open Go

section
variable {C : Cx} {f : FuncId} {call : CallT} {S : St} {g : Bool}
variable {d : Nat} {ty : TypeId} {pos : String} {af : Array Edge} {gd : Option (Nat × Bool)} {v v' : AV}
variable {x y z : Operand} {k : IntKind} {a b : Int} {T U : TypeId}

theorem un_imp {g' : Bool} {x : AV} (h : (!g || g') = true) : un g (.gv g' x) = x := by
  show (if (!g || g') = true then x else AV.junk) = x
  rw [if_pos h]

theorem ov_move (h : un g (S.get C x) = v) : evOp C f call S g ⟨some d, .move x, ty, pos, af, gd⟩ = some ⟨[(d, v)], [], []⟩ := by subst h; rfl
theorem ov_assign (h : un g (S.get C x) = v) : evOp C f call S g ⟨some d, .assign x, ty, pos, af, gd⟩ = some ⟨[(d, v)], [], []⟩ := by subst h; rfl

theorem ov_bin {op : BinOp} {ax ay : AV} {va vb vc : Value} (hx : un g (S.get C x) = ax) (hy : un g (S.get C y) = ay) (h1 : toVal ax = some va) (h2 : toVal ay = some vb) (hb : binV C.P op T x y va vb = some vc) (hs : isSc vc = true) :
    evOp C f call S g ⟨some d, .binOp op T x y U, ty, pos, af, gd⟩ = some ⟨[(d, .val vc)], [], []⟩ := by
  show evBin C _ op T x y (un g (S.get C x)) (un g (S.get C y)) = _
  rw [hx, hy]
  simp [evBin, h1, h2, hb, hs]
theorem ov_bi {op : BinOp} {vc : Value} (hb : binV C.P op T x y (.int k a) (.int k b) = some vc) (hs : isSc vc = true) (hx : un g (S.get C x) = .val (.int k a)) (hy : un g (S.get C y) = .val (.int k b)) :
    evOp C f call S g ⟨some d, .binOp op T x y U, ty, pos, af, gd⟩ = some ⟨[(d, .val vc)], [], []⟩ := ov_bin hx hy rfl rfl hb hs
theorem ov_add (hx : un g (S.get C x) = .val (.int k a)) (hy : un g (S.get C y) = .val (.int k b)) : evOp C f call S g ⟨some d, .binOp .add T x y U, ty, pos, af, gd⟩ = some ⟨[(d, .val (.int k (k.wrap (a + b))))], [], []⟩ := ov_bi bin_add rfl hx hy
theorem ov_sub (hx : un g (S.get C x) = .val (.int k a)) (hy : un g (S.get C y) = .val (.int k b)) : evOp C f call S g ⟨some d, .binOp .sub T x y U, ty, pos, af, gd⟩ = some ⟨[(d, .val (.int k (k.wrap (a - b))))], [], []⟩ := ov_bi bin_sub rfl hx hy
theorem ov_mul (hx : un g (S.get C x) = .val (.int k a)) (hy : un g (S.get C y) = .val (.int k b)) : evOp C f call S g ⟨some d, .binOp .mul T x y U, ty, pos, af, gd⟩ = some ⟨[(d, .val (.int k (k.wrap (a * b))))], [], []⟩ := ov_bi bin_mul rfl hx hy
theorem ov_eql (hx : un g (S.get C x) = .val (.int k a)) (hy : un g (S.get C y) = .val (.int k b)) : evOp C f call S g ⟨some d, .binOp .eql T x y U, ty, pos, af, gd⟩ = some ⟨[(d, .val (.bool (a == b)))], [], []⟩ := ov_bi bin_eql rfl hx hy
theorem ov_neq (hx : un g (S.get C x) = .val (.int k a)) (hy : un g (S.get C y) = .val (.int k b)) : evOp C f call S g ⟨some d, .binOp .neq T x y U, ty, pos, af, gd⟩ = some ⟨[(d, .val (.bool (a != b)))], [], []⟩ := ov_bi bin_neq rfl hx hy
theorem ov_lss (hx : un g (S.get C x) = .val (.int k a)) (hy : un g (S.get C y) = .val (.int k b)) : evOp C f call S g ⟨some d, .binOp .lss T x y U, ty, pos, af, gd⟩ = some ⟨[(d, .val (.bool (decide (a < b))))], [], []⟩ := ov_bi bin_lss rfl hx hy
theorem ov_leq (hx : un g (S.get C x) = .val (.int k a)) (hy : un g (S.get C y) = .val (.int k b)) : evOp C f call S g ⟨some d, .binOp .leq T x y U, ty, pos, af, gd⟩ = some ⟨[(d, .val (.bool (decide (a ≤ b))))], [], []⟩ := ov_bi bin_leq rfl hx hy
theorem ov_gtr (hx : un g (S.get C x) = .val (.int k a)) (hy : un g (S.get C y) = .val (.int k b)) : evOp C f call S g ⟨some d, .binOp .gtr T x y U, ty, pos, af, gd⟩ = some ⟨[(d, .val (.bool (decide (b < a))))], [], []⟩ := ov_bi bin_gtr rfl hx hy
theorem ov_geq (hx : un g (S.get C x) = .val (.int k a)) (hy : un g (S.get C y) = .val (.int k b)) : evOp C f call S g ⟨some d, .binOp .geq T x y U, ty, pos, af, gd⟩ = some ⟨[(d, .val (.bool (decide (b ≤ a))))], [], []⟩ := ov_bi bin_geq rfl hx hy
theorem bin_eqlS {P : Program} {a b : ByteArray} : binV P .eql T x y (.string a) (.string b) = some (.bool (a.toList == b.toList)) := by simp [binV, eqGuard, binOp, Op.stringOp, pureRun, bind, Sem.bind, pure]
theorem bin_neqS {P : Program} {a b : ByteArray} : binV P .neq T x y (.string a) (.string b) = some (.bool (a.toList != b.toList)) := by simp [binV, eqGuard, binOp, Op.stringOp, pureRun, bind, Sem.bind, pure, bne]
theorem ov_eqlS {a b : ByteArray} (hx : un g (S.get C x) = .val (.string a)) (hy : un g (S.get C y) = .val (.string b)) : evOp C f call S g ⟨some d, .binOp .eql T x y U, ty, pos, af, gd⟩ = some ⟨[(d, .val (.bool (a.toList == b.toList)))], [], []⟩ := ov_bin hx hy rfl rfl bin_eqlS rfl
theorem ov_neqS {a b : ByteArray} (hx : un g (S.get C x) = .val (.string a)) (hy : un g (S.get C y) = .val (.string b)) : evOp C f call S g ⟨some d, .binOp .neq T x y U, ty, pos, af, gd⟩ = some ⟨[(d, .val (.bool (a.toList != b.toList)))], [], []⟩ := ov_bin hx hy rfl rfl bin_neqS rfl
theorem ov_not {p : Bool} (hx : un g (S.get C x) = .val (.bool p)) : evOp C f call S g ⟨some d, .unOp .not T x, ty, pos, af, gd⟩ = some ⟨[(d, .val (.bool !p))], [], []⟩ := by
  show evUn C _ .not (un g (S.get C x)) = _
  rw [hx]; rfl
theorem ov_un {op : UnOp} {va vc : Value} (hx : un g (S.get C x) = .val va) (hb : unV C.P op va = some vc) (hs : isSc vc = true) : evOp C f call S g ⟨some d, .unOp op T x, ty, pos, af, gd⟩ = some ⟨[(d, .val vc)], [], []⟩ := by
  show evUn C _ op (un g (S.get C x)) = _
  rw [hx]; simp [hb, hs]
theorem ov_conv {va vc : Value} (hx : un g (S.get C x) = .val va) (hb : convV C.P T U va = some vc) (hs : isSc vc = true) : evOp C f call S g ⟨some d, .convert T U x, ty, pos, af, gd⟩ = some ⟨[(d, .val vc)], [], []⟩ := by
  show evConv C _ T U (un g (S.get C x)) = _
  rw [hx]; simp [hb, hs]
theorem ov_pickB {p q r : Bool} (hx : un g (S.get C x) = .val (.bool p)) (hy : un (g && p) (S.get C y) = .val (.bool q)) (hz : un (g && !p) (S.get C z) = .val (.bool r)) :
    evOp C f call S g ⟨some d, .pick x y z, ty, pos, af, gd⟩ = some ⟨[(d, .val (.bool (if p then q else r)))], [], []⟩ := by
  show evPick _ (un g (S.get C x)) (un (g && boolOf (un g (S.get C x))) (S.get C y)) (un (g && !boolOf (un g (S.get C x))) (S.get C z)) = _
  rw [hx]; simp only [boolOf]; rw [hy, hz]; rfl
/-- One side is not looked at. -/
theorem ov_pickT {q : Bool} (hx : un g (S.get C x) = .val (.bool true)) (hy : un (g && true) (S.get C y) = .val (.bool q)) :
    evOp C f call S g ⟨some d, .pick x y z, ty, pos, af, gd⟩ = some ⟨[(d, .val (.bool q))], [], []⟩ := by
  show evPick _ (un g (S.get C x)) (un (g && boolOf (un g (S.get C x))) (S.get C y)) (un (g && !boolOf (un g (S.get C x))) (S.get C z)) = _
  rw [hx]; simp only [boolOf]; rw [hy]
  generalize un (g && !true) (S.get C z) = w
  cases w with
  | val v => cases v <;> rfl
  | _ => rfl
theorem ov_pickF {q : Bool} (hx : un g (S.get C x) = .val (.bool false)) (hz : un (g && true) (S.get C z) = .val (.bool q)) :
    evOp C f call S g ⟨some d, .pick x y z, ty, pos, af, gd⟩ = some ⟨[(d, .val (.bool q))], [], []⟩ := by
  show evPick _ (un g (S.get C x)) (un (g && boolOf (un g (S.get C x))) (S.get C y)) (un (g && !boolOf (un g (S.get C x))) (S.get C z)) = _
  rw [hx]; simp only [boolOf, Bool.not_false]; rw [hz]
  generalize un (g && false) (S.get C y) = w
  cases w with
  | val v => cases v <;> rfl
  | _ => rfl

/-! ### Memory that does not change -/
theorem ov_boxF {bb : Bool} {cs cs' : List AV} {L : List Nat} (ha : isAggC C T = some bb) (hL : C.frz f = L) (hin : L.contains d = true) (hx : un g (S.get C x) = v) (hc : cellsOfV bb v = some cs) (hz : nzL cs = cs') (hi : immL cs' = true) :
    evOp C f call S g ⟨some d, .box T x, ty, pos, af, gd⟩ = some ⟨[(d, .vp cs')], [], []⟩ := by
  show evBox C f S _ T (un g (S.get C x)) = _
  subst hL
  simp only [evBox, ha, hx, hc, inFrz, hin, hz, hi, Bool.and_self, if_true]; rfl
theorem ov_load {bb : Bool} {m : Nat} {cells : List AV} (ha : isAggC C T = some bb) (hs : sizeC C T = some m) (hx : un g (S.get C x) = .vp cells) (hl : Nat.ble m cells.length = true) (hv : mkV bb (cells.take m) = some v) :
    evOp C f call S g ⟨some d, .load T x, ty, pos, af, gd⟩ = some ⟨[(d, v)], [], []⟩ := by
  show evLoad C S _ T (un g (S.get C x)) = _
  have hl' : m ≤ cells.length := Nat.le_of_ble_eq_true hl
  simp [evLoad, ha, hs, hx, hl', hv]
theorem ov_fieldAddr {i off m : Nat} {bb : Bool} {cells cells' : List AV} (hf : fieldC C T i = some (off, m, bb)) (h0 : Nat.blt 0 m = true) (hx : un g (S.get C x) = .vp cells) (hl : Nat.ble off cells.length = true) (hd : cells.drop off = cells') :
    evOp C f call S g ⟨some d, .fieldAddr T x i, ty, pos, af, gd⟩ = some ⟨[(d, .vp cells')], [], []⟩ := by
  show evFieldAddr C _ T i (un g (S.get C x)) = _
  have hl' : off ≤ cells.length := Nat.le_of_ble_eq_true hl
  have h0' : 0 < m := of_decide_eq_true (blt_decide h0)
  simp [evFieldAddr, hf, hx, hl', h0', ← hd]
theorem ov_field {i off m : Nat} {bb : Bool} {cells : List AV} (hf : fieldC C T i = some (off, m, bb)) (hx : un g (S.get C x) = .agg cells) (hl : Nat.ble (off + m) cells.length = true) (hv : mkV bb ((cells.drop off).take m) = some v) :
    evOp C f call S g ⟨some d, .field T x i, ty, pos, af, gd⟩ = some ⟨[(d, v)], [], []⟩ := by
  show evField C _ T i (un g (S.get C x)) = _
  have hl' : off + m ≤ cells.length := Nat.le_of_ble_eq_true hl
  simp [evField, hf, hx, hl', hv]
theorem ov_indexAddr {e : TypeId} {m : Nat} {α : Type} {c : α → List AV} {q : List α} {i : Int} {r : α} (hu : C.P.underlying T = some (.slice e)) (hs : sizeC C e = some m) (h0 : Nat.blt 0 m = true) (hx : un g (S.get C x) = .sl (q.map c)) (hy : un g (S.get C y) = .val (.int k i)) (hi : idx q i = some r) (hr : (c r).length = m) :
    evOp C f call S g ⟨some d, .indexAddr T x y, ty, pos, af, gd⟩ = some ⟨[(d, .vp (c r))], [], []⟩ := by
  show evIndexAddr C S _ T (un g (S.get C x)) (intOfV (un g (S.get C y))) = _
  have h0' : 0 < m := of_decide_eq_true (blt_decide h0)
  have h1 := idx_map (c := c) hi
  unfold idx at h1
  split at h1
  · rename_i hp
    simp only [hx, hy, intOfV, evIndexAddr, hu, hs, if_pos hp, h1, Option.bind_some]
    simp [hr, h0']
  · cases h1
/-- An array of numbers. -/
theorem ov_indexArr {e : TypeId} {m len : Nat} {cells : List AV} {i : Int} {q : List AV} (hu : C.P.underlying T = some (.array len e)) (hs : sizeC C e = some m) (hx : un g (S.get C x) = .vp cells) (hy : un g (S.get C y) = .val (.int k i)) (hi : (0 ≤ i ∧ i < len ∧ i.toNat * m ≤ cells.length)) (hq : cells.drop (i.toNat * m) = q) :
    evOp C f call S g ⟨some d, .indexAddr T x y, ty, pos, af, gd⟩ = some ⟨[(d, .vp q)], [], []⟩ := by
  show evIndexAddr C S _ T (un g (S.get C x)) (intOfV (un g (S.get C y))) = _
  simp [hx, hy, intOfV, evIndexAddr, hu, hs, hi, ← hq]
/-- A string's byte. -/
def sidx (s : ByteArray) (i : Int) : Option UInt8 := if 0 ≤ i then s[i.toNat]? else none
theorem ov_indexStr {s : ByteArray} {i : Int} {r : UInt8} (hu : C.P.underlying T = some .string) (hx : un g (S.get C x) = .val (.string s)) (hy : un g (S.get C y) = .val (.int k i)) (hi : sidx s i = some r) :
    evOp C f call S g ⟨some d, .index T x y, ty, pos, af, gd⟩ = some ⟨[(d, .val (.int .u8 r.toNat))], [], []⟩ := by
  show evIndex C _ T (un g (S.get C x)) (intOfV (un g (S.get C y))) = _
  unfold sidx at hi
  split at hi
  · rename_i hp
    simp only [hx, hy, intOfV, evIndex, hu, if_pos hp, hi, Option.bind_some]
    rfl
  · cases hi
theorem ov_lenSl {e : TypeId} {rows : Rows} {m : Nat} {xs : Array Operand} {ts : Array TypeId} {T : TypeId} (hu : C.P.underlying T = some (.slice e)) (ht : ts[0]? = some T) (ha : xs.toList = [x]) (hx : un g (S.get C x) = .sl rows) (hm : rows.length = m) :
    evOp C f call S g ⟨some d, .call ⟨.builtin .len, xs, ts⟩, ty, pos, af, gd⟩ = some ⟨[(d, .val (.int .i64 m))], [], []⟩ := by
  show evLen C _ ts (xs.toList.map fun x => un g (S.get C x)) = _
  simp [ha, hx, evLen, ht, hu, lenC, lenS, goI, hm]
theorem ov_lenNil {e : TypeId} {xs : Array Operand} {ts : Array TypeId} {T : TypeId} (hu : C.P.underlying T = some (.slice e)) (ht : ts[0]? = some T) (ha : xs.toList = [x]) (hx : un g (S.get C x) = .snil) :
    evOp C f call S g ⟨some d, .call ⟨.builtin .len, xs, ts⟩, ty, pos, af, gd⟩ = some ⟨[(d, .val (.int .i64 0))], [], []⟩ := by
  show evLen C _ ts (xs.toList.map fun x => un g (S.get C x)) = _
  simp [ha, hx, evLen, ht, hu, lenC, lenS, goI]
theorem ov_lenRs {e : TypeId} {id : Id} {off m : Nat} {xs : Array Operand} {ts : Array TypeId} {T : TypeId} (hu : C.P.underlying T = some (.slice e)) (ht : ts[0]? = some T) (ha : xs.toList = [x]) (hx : un g (S.get C x) = .rs id off m) :
    evOp C f call S g ⟨some d, .call ⟨.builtin .len, xs, ts⟩, ty, pos, af, gd⟩ = some ⟨[(d, .val (.int .i64 m))], [], []⟩ := by
  show evLen C _ ts (xs.toList.map fun x => un g (S.get C x)) = _
  simp [ha, hx, evLen, ht, hu, lenC, lenS, goI]
theorem ov_lenStr {s : ByteArray} {xs : Array Operand} {ts : Array TypeId} {T : TypeId} (hu : C.P.underlying T = some .string) (ht : ts[0]? = some T) (ha : xs.toList = [x]) (hx : un g (S.get C x) = .val (.string s)) :
    evOp C f call S g ⟨some d, .call ⟨.builtin .len, xs, ts⟩, ty, pos, af, gd⟩ = some ⟨[(d, .val (.int .i64 s.size))], [], []⟩ := by
  show evLen C _ ts (xs.toList.map fun x => un g (S.get C x)) = _
  simp [ha, hx, evLen, ht, hu, lenC, goI]
theorem ov_build {p : Array (Nat × Operand)} {zc cs : List AV} {pl : List (Nat × Nat × Bool)} {ps : List (Nat × AV)} (hz : zeroC C T = some zc) (hp : placesC C T = some pl) (hq : (p.toList.map fun p => (p.1, un g (S.get C p.2))) = ps) (hf : fillC pl zc ps = some cs) :
    evOp C f call S g ⟨some d, .build T p, ty, pos, af, gd⟩ = some ⟨[(d, .agg cs)], [], []⟩ := by
  show evBuild C _ T (p.toList.map fun p => (p.1, un g (S.get C p.2))) = _
  rw [hq]
  simp [evBuild, hz, hp, hf]
theorem ov_func {kf : Fn} {fs cs : Array Operand} {fa fb : List AV} (ha : (fs.toList.map fun x => un g (S.get C x)) = fa) (hb : (cs.toList.map fun x => un g (S.get C x)) = fb) :
    evOp C f call S g ⟨some d, .makeFunc kf fs cs, ty, pos, af, gd⟩ = some ⟨[(d, .fn kf fa fb)], [], []⟩ := by
  subst ha hb; rfl
theorem ov_extract {vs : List AV} {i : Nat} (hx : un g (S.get C x) = .tup vs) (hi : vs[i]? = some v) : evOp C f call S g ⟨some d, .extract x i, ty, pos, af, gd⟩ = some ⟨[(d, v)], [], []⟩ := by
  show evExtract _ (un g (S.get C x)) i = _
  rw [hx]; simp [evExtract, hi]
theorem ov_nil (hx : un g (S.get C x) = v) (hv : (match v with | .vp _ | .mp _ _ _ | .fn (.func _) _ _ => true | _ => false) = true) : evOp C f call S g ⟨some d, .nilCheck x, ty, pos, af, gd⟩ = some ⟨[(d, v)], [], []⟩ := by
  show evNil _ (un g (S.get C x)) = _
  rw [hx]
  cases v with
  | fn kf a b => cases kf <;> first | rfl | cases hv
  | vp _ => rfl
  | mp _ _ _ => rfl
  | _ => cases hv
theorem ov_sliceS {e : TypeId} {rows : Rows} {lo hi : Option Operand} {m : Nat} {p : Nat × Nat} {rows' : Rows} (hu : C.P.underlying T = some (.slice e)) (hs : sizeC C e = some m) (h0 : Nat.blt 0 m = true) (hx : un g (S.get C x) = .sl rows) (hr : rows.all (·.length == m) = true)
    (hb : bounds (lo.map fun y => intOfV (un g (S.get C y))) (hi.map fun y => intOfV (un g (S.get C y))) rows.length = some p) (hv : (rows.take p.2).drop p.1 = rows') :
    evOp C f call S g ⟨some d, .slice T x lo hi none, ty, pos, af, gd⟩ = some ⟨[(d, .sl rows')], [], []⟩ := by
  show evSlice C S _ T (un g (S.get C x)) _ _ = _
  have h0' : 0 < m := of_decide_eq_true (blt_decide h0)
  rw [hx]
  simp only [evSlice, hu, hs, hb, Option.bind_some]
  rw [if_pos ⟨h0', hr⟩, hv]; rfl

/-! ### Calls -/
theorem bwL_imm {L : Id → Option (Option Rows)} : ∀ {as : List AV}, immL as = true → bwL L as = some (as, []) := by
  intro as
  induction as with
  | nil => intro _; rfl
  | cons a as ih =>
    intro h
    simp only [immL, Bool.and_eq_true] at h
    have h1 : bw L 9 a = some (a, []) := by
      obtain ⟨h, _⟩ := h
      cases a with
      | agg cs => simp only [imm] at h; simp [bw, bwC, h]
      | tup cs => simp only [imm] at h; simp [bw, bwC, h]
      | fn k a b => simp only [imm, Bool.and_eq_true] at h; simp [bw, bwC, h]
      | _ => first | rfl | simp [imm] at h
    have h2 := ih h.2
    unfold bwL at h2 ⊢
    simp [foldC, h1, h2]
/-- A call; nothing of the heap is handed over; what comes back is no new memory. -/
theorem ov_call {fo : Operand} {xs : Array Operand} {ts : Array TypeId} {kf : FuncId} {as bs cs args : List AV} {r v : AV} {L : List Nat} (hfo : un g (S.get C fo) = .fn (.func kf) as bs) (hx : (xs.toList.map fun x => un g (S.get C x)) = cs) (hargs : as ++ cs ++ bs = args) (hi : immL args = true)
    (hc : call kf args = some (r, [])) (hL : C.frz f = L) (hv : (if L.contains d then fz r else r) = v) (hp : imp [d] v = (v, [])) :
    evOp C f call S g ⟨some d, .call ⟨.value fo, xs, ts⟩, ty, pos, af, gd⟩ = some ⟨[(d, v)], [], []⟩ := by
  show callC C f call S _ (un g (S.get C fo)) (xs.toList.map fun x => un g (S.get C x)) = _
  subst hL hargs
  rw [hfo, hx]
  have e : (if inFrz C f (some d) = true then fz r else r) = v := hv
  simp only [callC, bwL_imm hi, hc]
  rw [e, hp]
  rfl
/-- A call that makes new memory. -/
theorem ov_callH {fo : Operand} {xs : Array Operand} {ts : Array TypeId} {kf : FuncId} {as bs cs args : List AV} {r v v' : AV} {y : Id × Option Rows} {wr : List (Id × Option Rows)} {L : List Nat} (hfo : un g (S.get C fo) = .fn (.func kf) as bs) (hx : (xs.toList.map fun x => un g (S.get C x)) = cs) (hargs : as ++ cs ++ bs = args) (hi : immL args = true)
    (hc : call kf args = some (r, [])) (hL : C.frz f = L) (hv : (if L.contains d then fz r else r) = v) (hp : imp [d] v = (v', y :: wr)) (hfr : fresh S.h (y :: wr) = true) :
    evOp C f call S g ⟨some d, .call ⟨.value fo, xs, ts⟩, ty, pos, af, gd⟩ = some ⟨[(d, v')], [], y :: wr⟩ := by
  show callC C f call S _ (un g (S.get C fo)) (xs.toList.map fun x => un g (S.get C x)) = _
  subst hL hargs
  rw [hfo, hx]
  have e : (if inFrz C f (some d) = true then fz r else r) = v := hv
  simp only [callC, bwL_imm hi, hc]
  rw [e, hp]
  simp only [List.isEmpty_nil, Bool.not_true, Bool.false_and, Bool.false_eq_true, if_false, hfr, if_true]
  rfl

/-! ### Memory of one's own -/
theorem isNone_of {α : Type} {o : Option α} (h : o = none) : o.isNone = true := by rw [h]; rfl
theorem ov_alloc {cs : List AV} (hz : zeroM C T = some cs) (hn : S.h [d] = none) : evOp C f call S g ⟨some d, .alloc T, ty, pos, af, gd⟩ = some ⟨[(d, .mp [d] 0 0)], [], [([d], some [cs])]⟩ := by
  show evAlloc C S _ T = _
  simp [evAlloc, hz, hn]
theorem ov_boxM {bb : Bool} {cs : List AV} {L : List Nat} (ha : isAggC C T = some bb) (hL : C.frz f = L) (hin : L.contains d = false) (hx : un g (S.get C x) = v) (hc : cellsOfV bb v = some cs) (hn : S.h [d] = none) :
    evOp C f call S g ⟨some d, .box T x, ty, pos, af, gd⟩ = some ⟨[(d, .mp [d] 0 0)], [], [([d], some [cs])]⟩ := by
  show evBox C f S _ T (un g (S.get C x)) = _
  subst hL
  simp only [evBox, ha, hx, hc, inFrz, hin, Bool.false_and, Bool.false_eq_true, if_false]
  rw [if_pos (isNone_of hn)]; rfl
/-- The store behind which a variable is frozen. -/
theorem ov_storeF {bb : Bool} {m ta : Nat} {id : Id} {cs cs' r : List AV} {L : List Nat} (ha : isAggC C T = some bb) (hs : sizeC C T = some m) (hx : un true (S.get C (.tmp ta)) = .mp id 0 0) (hy : un true (S.get C y) = v) (hc : cellsOfV bb v = some cs) (hcl : cs.length = m)
    (hh : S.h id = some (some [r])) (hr : r.length = m) (hL : C.frz f = L) (hin : L.contains ta = true) (hz : nzL cs = cs') (hi : immL cs' = true) :
    evOp C f call S true ⟨none, .store T (.tmp ta) y, ty, pos, af, gd⟩ = some ⟨[(ta, .vp cs')], [id], [(id, none)]⟩ := by
  show evStore C f S true _ T (.tmp ta) (un true (S.get C (.tmp ta))) (un true (S.get C y)) = _
  subst hL
  rw [hx, hy]
  have e : frzStore C f (.tmp ta) = some ta := by unfold frzStore; simp only; rw [if_pos hin]
  subst hz
  simp [evStore, ha, hs, hc, hcl, hh, hr, e, hi]
def tmpIn (L : List Nat) : Operand → Bool | .tmp ta => L.contains ta | _ => false
theorem frzStore_none {a : Operand} {L : List Nat} (hL : C.frz f = L) (hin : tmpIn L a = false) : frzStore C f a = none := by
  subst hL
  cases a with
  | tmp ta => simp only [tmpIn] at hin; unfold frzStore; simp only; rw [if_neg (by rw [hin]; simp)]
  | _ => rfl
theorem ov_storeM {bb : Bool} {m row off : Nat} {ao : Operand} {id : Id} {cs : List AV} {α : Type} {c : α → List AV} {q : List α} {r r' : α} {L : List Nat} (ha : isAggC C T = some bb) (hs : sizeC C T = some m) (hx : un g (S.get C ao) = .mp id row off) (hy : un g (S.get C y) = v) (hc : cellsOfV bb v = some cs) (hcl : cs.length = m)
    (hh : S.h id = some (some (q.map c))) (hr : q[row]? = some r) (hl : Nat.ble (off + m) (c r).length = true) (hL : C.frz f = L) (hin : tmpIn L ao = false) (hq : (c r).take off ++ cs ++ (c r).drop (off + m) = c r') :
    evOp C f call S g ⟨none, .store T ao y, ty, pos, af, gd⟩ = some ⟨[], [id], [(id, some ((q.set row r').map c))]⟩ := by
  show evStore C f S g _ T ao (un g (S.get C ao)) (un g (S.get C y)) = _
  rw [hx, hy]
  have hl' : off + m ≤ (c r).length := Nat.le_of_ble_eq_true hl
  have e := frzStore_none (f := f) hL hin
  have e2 : (q.map c)[row]? = some (c r) := by simp [hr]
  simp only [evStore, ha, hs, hc]
  rw [if_neg (by simp [hcl]), hh]
  simp only [e2, Option.bind_some, if_pos hl', e]
  rw [hq, List.map_set]
  rfl
theorem ov_loadM {bb : Bool} {m row off : Nat} {id : Id} {α : Type} {c : α → List AV} {q : List α} {r : α} {cs : List AV} (ha : isAggC C T = some bb) (hs : sizeC C T = some m) (hx : un g (S.get C x) = .mp id row off) (hh : S.h id = some (some (q.map c))) (hr : q[row]? = some r) (hl : Nat.ble (off + m) (c r).length = true)
    (hu : unpackC [d] 0 (((c r).drop off).take m) = (cs, [])) (hv : mkV bb cs = some v) :
    evOp C f call S g ⟨some d, .load T x, ty, pos, af, gd⟩ = some ⟨[(d, v)], [id], []⟩ := by
  show evLoad C S _ T (un g (S.get C x)) = _
  rw [hx]
  have hl' : off + m ≤ (c r).length := Nat.le_of_ble_eq_true hl
  have e2 : (q.map c)[row]? = some (c r) := by simp [hr]
  simp only [evLoad, ha, hs, hh, e2, Option.bind_some, if_pos hl', dstP, hu, List.isEmpty_nil, if_true, hv, Option.map_some]
  rfl
theorem ov_fieldAddrM {i off off' row m : Nat} {bb : Bool} {id : Id} (hf : fieldC C T i = some (off, m, bb)) (h0 : Nat.blt 0 m = true) (hx : un g (S.get C x) = .mp id row off') :
    evOp C f call S g ⟨some d, .fieldAddr T x i, ty, pos, af, gd⟩ = some ⟨[(d, .mp id row (off' + off))], [], []⟩ := by
  show evFieldAddr C _ T i (un g (S.get C x)) = _
  have h0' : 0 < m := of_decide_eq_true (blt_decide h0)
  simp [evFieldAddr, hf, hx, h0']
theorem ov_indexAddrM {e : TypeId} {m : Nat} {α : Type} {c : α → List AV} {q : List α} {i : Int} {r : α} {id : Id} (hu : C.P.underlying T = some (.slice e)) (hs : sizeC C e = some m) (hx : un g (S.get C x) = .rs id 0 q.length) (hh : S.h id = some (some (q.map c))) (hy : un g (S.get C y) = .val (.int k i)) (hi : idx q i = some r) (hr : (c r).length = m) :
    evOp C f call S g ⟨some d, .indexAddr T x y, ty, pos, af, gd⟩ = some ⟨[(d, .mp id i.toNat 0)], [id], []⟩ := by
  show evIndexAddr C S _ T (un g (S.get C x)) (intOfV (un g (S.get C y))) = _
  unfold idx at hi
  split at hi
  · rename_i hp
    have hlt : i.toNat < q.length := by
      rcases Nat.lt_or_ge i.toNat q.length with h | h
      · exact h
      · rw [List.getElem?_eq_none h] at hi; cases hi
    have h2 : 0 ≤ i ∧ i < (q.length : Nat) := ⟨hp, by omega⟩
    simp only [hx, hy, intOfV, evIndexAddr, hu, hs]
    rw [if_pos h2, hh]
    simp [hi, hr]
  · cases hi
/-- A type of which slices may grow. -/
def appOk (C : Cx) (e : TypeId) (m : Nat) : Bool := match C.P.info? e with | some i => i.size == m && decide (0 < m) && decide (i.bytes ≤ 4096) && zeroFits i | none => false
def app {α : Type} (a b : List α) : Option (List α) := if a.length + b.length ≤ 4294967296 then some (a ++ b) else none
theorem app_some {α : Type} {a b r : List α} (h : app a b = some r) : a.length + b.length ≤ 4294967296 ∧ r = a ++ b := by
  unfold app at h; split at h
  · exact ⟨‹_›, by simpa using h.symm⟩
  · cases h
theorem all_map_len {α : Type} {c : α → List AV} {q : List α} {m : Nat} (hc : ∀ x, (c x).length = m) : (q.map c).all (·.length == m) = true := by simp [hc]
theorem ov_append {e U : TypeId} {m : Nat} {α : Type} {c : α → List AV} {q q' r : List α} {id : Id} {xs : Array Operand} {ts : Array TypeId} (ht : ts[0]? = some T) (hu : C.P.underlying T = some (.slice e)) (ht1 : ts[1]? = some U) (hu1 : C.P.underlying U = some (.slice e)) (hok : appOk C e m = true)
    (ha : xs.toList = [x, y]) (hx : un g (S.get C x) = .rs id 0 q.length) (hh : S.h id = some (some (q.map c))) (hy : un g (S.get C y) = .sl (q'.map c)) (hl : ∀ x, (c x).length = m) (hcell : rowCell (q'.map c) = true) (hr : app q q' = some r) (hn : S.h [d] = none) :
    evOp C f call S g ⟨some d, .call ⟨.builtin .append, xs, ts⟩, ty, pos, af, gd⟩ = some ⟨[(d, .rs [d] 0 r.length)], [id], [(id, none), ([d], some (r.map c))]⟩ := by
  show evAppend C S _ ts (xs.toList.map fun x => un g (S.get C x)) = _
  obtain ⟨h1, rfl⟩ := app_some hr
  unfold appOk at hok
  split at hok
  · rename_i inf hinf
    simp only [Bool.and_eq_true, beq_iff_eq, decide_eq_true_eq] at hok
    obtain ⟨⟨⟨k1, k2⟩, k3⟩, k4⟩ := hok
    subst k1
    simp only [ha, List.map_cons, List.map_nil, hx, hy, evAppend, ht, ht1, Option.bind_some, hu1, appendC, hu, hinf, rowsOf, hh]
    have e1 : (if 0 + q.length ≤ (q.map c).length then some (((q.map c).drop 0).take q.length, [id]) else none) = some (q.map c, [id]) := by
      rw [if_pos (by simp), List.drop_zero, List.take_of_length_le (by simp)]
    rw [e1]
    simp only
    rw [if_pos (by
      simp only [Bool.and_eq_true, decide_eq_true_eq]
      exact ⟨⟨⟨⟨⟨⟨all_map_len hl, k2⟩, k3⟩, k4⟩, by simpa [maxRows] using h1⟩, hcell⟩, by rw [hn]; rfl⟩)]
    rw [if_pos (by
      simp only [Bool.and_eq_true]
      refine ⟨⟨all_map_len hl, by simp⟩, ?_⟩
      cases q <;> simp)]
    simp [put, List.map_append]
  · cases hok
theorem ov_appendNil {e U : TypeId} {m : Nat} {α : Type} {c : α → List AV} {q' : List α} {xs : Array Operand} {ts : Array TypeId} (ht : ts[0]? = some T) (hu : C.P.underlying T = some (.slice e)) (ht1 : ts[1]? = some U) (hu1 : C.P.underlying U = some (.slice e)) (hok : appOk C e m = true)
    (ha : xs.toList = [x, y]) (hx : un g (S.get C x) = .snil) (hy : un g (S.get C y) = .sl (q'.map c)) (hl : ∀ x, (c x).length = m) (hcell : rowCell (q'.map c) = true) (hr : q'.length ≤ 4294967296) (hn : S.h [d] = none) :
    evOp C f call S g ⟨some d, .call ⟨.builtin .append, xs, ts⟩, ty, pos, af, gd⟩ = some ⟨[(d, .rs [d] 0 q'.length)], [], [([d], some (q'.map c))]⟩ := by
  show evAppend C S _ ts (xs.toList.map fun x => un g (S.get C x)) = _
  unfold appOk at hok
  split at hok
  · rename_i inf hinf
    simp only [Bool.and_eq_true, beq_iff_eq, decide_eq_true_eq] at hok
    obtain ⟨⟨⟨k1, k2⟩, k3⟩, k4⟩ := hok
    subst k1
    simp only [ha, List.map_cons, List.map_nil, hx, hy, evAppend, ht, ht1, Option.bind_some, hu1, appendC, hu, hinf, rowsOf]
    rw [if_pos (by
      simp only [Bool.and_eq_true, decide_eq_true_eq]
      exact ⟨⟨⟨⟨⟨⟨all_map_len hl, k2⟩, k3⟩, k4⟩, by simpa [maxRows] using hr⟩, hcell⟩, by rw [hn]; rfl⟩)]
    simp [put]
  · cases hok
def mks {α : Type} (n : Int) (z : α) : Option (List α) := if 0 ≤ n ∧ n ≤ 4294967296 then some (List.replicate n.toNat z) else none
theorem ov_make {e : TypeId} {m : Nat} {α : Type} {c : α → List AV} {zv : α} {zc : List AV} {nn : Int} {r : List α} (hu : C.P.underlying T = some (.slice e)) (hok : appOk C e m = true) (hz : zeroM C e = some zc) (hzl : zc.length = m) (hzc : c zv = zc)
    (hx : un g (S.get C x) = .val (.int k nn)) (hy : un g (S.get C y) = .val (.int k nn)) (hr : mks nn zv = some r) (hn : S.h [d] = none) :
    evOp C f call S g ⟨some d, .makeSlice T x y, ty, pos, af, gd⟩ = some ⟨[(d, .rs [d] 0 r.length)], [], [([d], some (r.map c))]⟩ := by
  show evMake C S _ T (un g (S.get C x)) (un g (S.get C y)) = _
  unfold mks at hr
  split at hr
  · rename_i hp
    obtain rfl : List.replicate nn.toNat zv = r := by simpa using hr
    unfold appOk at hok
    split at hok
    · rename_i inf hinf
      simp only [Bool.and_eq_true, beq_iff_eq, decide_eq_true_eq] at hok
      obtain ⟨⟨⟨k1, k2⟩, k3⟩, k4⟩ := hok
      simp only [hx, hy, evMake, hu, intOfV, hz, hinf]
      rw [if_pos (by
        simp only [Bool.and_eq_true, decide_eq_true_eq]
        exact ⟨⟨⟨⟨by omega, by omega⟩, k3⟩, by omega⟩, by rw [hn]; rfl⟩)]
      simp [put, hzc]
    · cases hok
  · cases hr
theorem ov_buildSliceF {e : TypeId} {bb : Bool} {m len : Nat} {zc : List AV} {p : Array (Nat × Operand)} {ps : List (Nat × AV)} {rows rows' : Rows} {L : List Nat} (hu : C.P.underlying T = some (.slice e)) (hz : zeroC C e = some zc) (ha : isAggC C e = some bb) (hs : sizeC C e = some m) (h0 : (decide (0 < m) && decide (m = zc.length) && decide (len * m ≤ 1000)) = true)
    (hq : (p.toList.map fun p => (p.1, un g (S.get C p.2))) = ps) (hf : fillRows m bb (List.replicate len zc) ps = some rows) (hL : C.frz f = L) (hin : L.contains d = true) (hzz : rows.map nzL = rows') (hi : immR rows' = true) :
    evOp C f call S g ⟨some d, .buildSlice T len p, ty, pos, af, gd⟩ = some ⟨[(d, .sl rows')], [], []⟩ := by
  show evBuildSlice C f S _ T len (p.toList.map fun p => (p.1, un g (S.get C p.2))) = _
  subst hL
  rw [hq]
  simp only [evBuildSlice, hu, hz, ha, hs, h0, if_true, hf, inFrz, hin, hzz, hi, Bool.and_self]
  rfl
theorem ov_buildSliceM {e : TypeId} {bb : Bool} {m len : Nat} {zc : List AV} {p : Array (Nat × Operand)} {ps : List (Nat × AV)} {rows : Rows} {L : List Nat} (hu : C.P.underlying T = some (.slice e)) (hz : zeroC C e = some zc) (ha : isAggC C e = some bb) (hs : sizeC C e = some m) (h0 : (decide (0 < m) && decide (m = zc.length) && decide (len * m ≤ 1000)) = true)
    (hq : (p.toList.map fun p => (p.1, un g (S.get C p.2))) = ps) (hf : fillRows m bb (List.replicate len zc) ps = some rows) (hL : C.frz f = L) (hin : L.contains d = false) (hn : S.h [d] = none) :
    evOp C f call S g ⟨some d, .buildSlice T len p, ty, pos, af, gd⟩ = some ⟨[(d, .rs [d] 0 len)], [], [([d], some rows)]⟩ := by
  show evBuildSlice C f S _ T len (p.toList.map fun p => (p.1, un g (S.get C p.2))) = _
  subst hL
  rw [hq]
  simp only [evBuildSlice, hu, hz, ha, hs, h0, if_true, hf, inFrz, hin, Bool.false_and, Bool.false_eq_true, if_false]
  rw [if_pos (isNone_of hn)]; rfl

/-! ### Functions -/
def oneR : List AV → AV | [r] => r | vs => .tup vs
/-- What the results come to. -/
def Fin (C : Cx) (rv : List ResultVar) (r : AV) (x : Exit × St) : Prop := (x.1 = .ret ∨ x.1 = .normal) ∧ ∃ vs ids, ressC C x.2 rv = some (vs, ids) ∧ nodupB ids = true ∧ oneR vs = r
theorem fin_ret {rv : List ResultVar} {r : AV} {vs : List AV} {ids : List Id} (h : ressC C S rv = some (vs, ids)) (hn : nodupB ids = true) (hr : oneR vs = r) : Fin C rv r (.ret, S) := ⟨.inl rfl, vs, ids, h, hn, hr⟩
theorem res_nil : ressC C S [] = some ([], []) := rfl
theorem res_tmp {t : Nat} {v : AV} {ids : List Id} {rv : List ResultVar} {vs : List AV} {is : List Id} (h : pk S.h 9 (un true (S.t t)) = some (v, ids)) (hr : ressC C S rv = some (vs, is)) : ressC C S (.tmp t :: rv) = some (v :: vs, ids ++ is) := by
  show (resC C S (.tmp t)).bind _ = _
  simp only [resC, h, Option.bind_some, hr, Option.map_some]
theorem res_cellV {a m : Nat} {bb : Bool} {cells : List AV} {v v' : AV} {ids : List Id} {rv : List ResultVar} {vs : List AV} {is : List Id} (ha : isAggC C T = some bb) (hs : sizeC C T = some m) (hx : un true (S.t a) = .vp cells) (hl : Nat.ble m cells.length = true) (hv : mkV bb (cells.take m) = some v) (h : pk S.h 9 v = some (v', ids)) (hr : ressC C S rv = some (vs, is)) :
    ressC C S (.cell a T :: rv) = some (v' :: vs, ids ++ is) := by
  show (resC C S (.cell a T)).bind _ = _
  have hl' : m ≤ cells.length := Nat.le_of_ble_eq_true hl
  simp only [resC, ha, hs, hx, if_pos hl', hv, Option.bind_some, h, hr, Option.map_some]
theorem res_cellM {a m row off : Nat} {id : Id} {bb : Bool} {rows : Rows} {r : List AV} {v v' : AV} {ids : List Id} {rv : List ResultVar} {vs : List AV} {is : List Id} (ha : isAggC C T = some bb) (hs : sizeC C T = some m) (hx : un true (S.t a) = .mp id row off) (hh : S.h id = some (some rows)) (hrow : rows[row]? = some r) (hl : Nat.ble (off + m) r.length = true) (hv : mkV bb ((r.drop off).take m) = some v) (h : pk S.h 9 v = some (v', ids)) (hr : ressC C S rv = some (vs, is)) :
    ressC C S (.cell a T :: rv) = some (v' :: vs, id :: ids ++ is) := by
  show (resC C S (.cell a T)).bind _ = _
  have hl' : off + m ≤ r.length := Nat.le_of_ble_eq_true hl
  simp only [resC, ha, hs, hx, hh, hrow, if_pos hl', hv, Option.bind_some, h, hr, Option.map_some]

theorem fn_of {fn : Func} {c : Code} {args : List AV} {rv : List ResultVar} {nn N : Nat} {r : AV} (he : C.ext f = none) (hf : C.P.funcs[f]? = some fn) (hb : fn.body = some c) (hr : fn.results.toList = rv) (hn : fn.ntmps = N) (hle : C.lend f = []) (hl : Nat.ble args.length N = true)
    (h : W C f (den C nn) c (mkSt N (List.range args.length) args) (Fin C rv r)) : den C (nn + 1) f args = some (r, []) := by
  obtain ⟨⟨e, s⟩, h1, h2, vs, ids, h3, h4, h5⟩ := h
  subst hr hn
  show evBody C (den C nn) lpD f args = _
  unfold evBody
  simp only [he, hf, hb, if_pos (Nat.le_of_ble_eq_true hl), h1, Option.bind_some]
  have hfin : finish C fn (C.lend f) args s = some (r, []) := by
    unfold finish
    rw [hle, lentIds_nil, packV_nil, h3]
    simp only [List.append_nil, h4, if_true]
    rw [← h5]
    congr 2
    cases vs with
    | nil => rfl
    | cons a l => cases l <;> rfl
  rcases h2 with h2 | h2
  · simp only at h2; subst h2; exact hfin
  · simp only at h2; subst h2; exact hfin
end
end Go.Ab
