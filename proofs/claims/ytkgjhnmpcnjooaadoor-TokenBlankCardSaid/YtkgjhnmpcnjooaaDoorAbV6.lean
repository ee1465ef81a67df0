/-
  STEPS: strings set together and compared; quotients; bits; numbers of one kind turned into another.
-/
/-
  LIBRARY FUNCTIONS BY CONTRACT, as abstract values and as plain data.
-/
/-
  STEPS: errors as values of an interface type; arrays; a string's bytes.
-/
import Derived.Test.YtkgjhnmpcnjooaaDoorAbV4
import Derived.Below
import Derived.Lib.Strings
import Derived.Lib.Bytealg
import Derived.Lib.Index
import Derived.Lib.IndexMore
import Derived.Lib.Join
namespace Go.Ab
open Go

/-- Strings set together. -/
def catS (a b : ByteArray) : Option ByteArray := if a.size + b.size ≤ 9223372036854775807 then some (a ++ b) else none
def qdiv (k : IntKind) (a b : Int) : Option Int := if b = 0 then none else some (k.wrap (a.tdiv b))
def qrem (a b : Int) : Option Int := if b = 0 then none else some (a.tmod b)
def andK (k : IntKind) (a b : Int) : Int := k.wrap ((BitVec.ofInt k.bits a &&& BitVec.ofInt k.bits b).toNat : Nat)
def orK (k : IntKind) (a b : Int) : Int := k.wrap ((BitVec.ofInt k.bits a ||| BitVec.ofInt k.bits b).toNat : Nat)
def xorK (k : IntKind) (a b : Int) : Int := k.wrap ((BitVec.ofInt k.bits a ^^^ BitVec.ofInt k.bits b).toNat : Nat)
def shlK (k : IntKind) (a n : Int) : Option Int := if n < 0 then none else some (k.wrap (a * 2 ^ (min n.toNat k.bits)))
def shrK (k : IntKind) (a n : Int) : Option Int := if n < 0 then none else some (a.fdiv (2 ^ (min n.toNat k.bits)))
def lessS (a b : ByteArray) : Bool := Op.bytesLess a.toList b.toList

section
variable {C : Cx} {f : FuncId} {call : CallT} {S : St} {g : Bool}
variable {d : Nat} {ty : TypeId} {pos : String} {af : Array Edge} {gd : Option (Nat × Bool)} {v v' : AV}
variable {x y z : Operand} {k k' : IntKind} {a b : Int} {T U : TypeId}

theorem bin_addS {P : Program} {a b r : ByteArray} (h : catS a b = some r) : binV P .add T x y (.string a) (.string b) = some (.string r) := by
  unfold catS at h
  split at h
  · rename_i hl
    obtain rfl := Option.some.inj h
    have : ¬ (((a.size + b.size : Nat) : Int) > IntKind.i64.max) := by
      have : IntKind.i64.max = 9223372036854775807 := by decide
      rw [this]; omega
    have e : binV P .add T x y (.string a) (.string b) = pureRun P (Op.stringOp .add a b) := rfl
    rw [e]
    simp only [Op.stringOp, if_neg this]
    rfl
  · cases h
theorem oAddS {a b r : ByteArray} (h : catS a b = some r) (hx : un g (S.get C x) = .val (.string a) := by first | exact rfl | exact gvv) (hy : un g (S.get C y) = .val (.string b) := by first | exact rfl | exact gvv) : evOp C f call S g ⟨some d, .binOp .add T x y U, ty, pos, af, gd⟩ = some ⟨[(d, .val (.string r))], [], []⟩ := ov_bin hx hy rfl rfl (bin_addS h) rfl
theorem oLssS {a b : ByteArray} (hx : un g (S.get C x) = .val (.string a) := by first | exact rfl | exact gvv) (hy : un g (S.get C y) = .val (.string b) := by first | exact rfl | exact gvv) : evOp C f call S g ⟨some d, .binOp .lss T x y U, ty, pos, af, gd⟩ = some ⟨[(d, .val (.bool (lessS a b)))], [], []⟩ :=
  ov_bin hx hy rfl rfl (by simp [binV, eqGuard, binOp, Op.stringOp, pureRun, bind, Sem.bind, pure, lessS]) rfl
theorem bin_quo {P : Program} {r : Int} (h : qdiv k a b = some r) : binV P .quo T x y (.int k a) (.int k b) = some (.int k r) := by
  unfold qdiv at h
  split at h
  · cases h
  · rename_i h0
    obtain rfl := Option.some.inj h
    simp [binV, eqGuard, binOp, Op.intDiv, pureRun, bind, Sem.bind, pure, h0]
theorem bin_rem {P : Program} {r : Int} (h : qrem a b = some r) : binV P .rem T x y (.int k a) (.int k b) = some (.int k r) := by
  unfold qrem at h
  split at h
  · cases h
  · rename_i h0
    obtain rfl := Option.some.inj h
    simp [binV, eqGuard, binOp, Op.intDiv, pureRun, bind, Sem.bind, pure, h0]
theorem oQuo {r : Int} (h : qdiv k a b = some r) (hx : un g (S.get C x) = .val (.int k a) := by first | exact rfl | exact gvv) (hy : un g (S.get C y) = .val (.int k b) := by first | exact rfl | exact gvv) : evOp C f call S g ⟨some d, .binOp .quo T x y U, ty, pos, af, gd⟩ = some ⟨[(d, .val (.int k r))], [], []⟩ := ov_bi (bin_quo h) rfl hx hy
theorem oRem {r : Int} (h : qrem a b = some r) (hx : un g (S.get C x) = .val (.int k a) := by first | exact rfl | exact gvv) (hy : un g (S.get C y) = .val (.int k b) := by first | exact rfl | exact gvv) : evOp C f call S g ⟨some d, .binOp .rem T x y U, ty, pos, af, gd⟩ = some ⟨[(d, .val (.int k r))], [], []⟩ := ov_bi (bin_rem h) rfl hx hy
theorem oAnd (hx : un g (S.get C x) = .val (.int k a) := by first | exact rfl | exact gvv) (hy : un g (S.get C y) = .val (.int k b) := by first | exact rfl | exact gvv) : evOp C f call S g ⟨some d, .binOp .and T x y U, ty, pos, af, gd⟩ = some ⟨[(d, .val (.int k (andK k a b)))], [], []⟩ :=
  ov_bi (by simp [binV, eqGuard, binOp, Op.intBits, pureRun, bind, Sem.bind, pure, andK]) rfl hx hy
theorem oOr (hx : un g (S.get C x) = .val (.int k a) := by first | exact rfl | exact gvv) (hy : un g (S.get C y) = .val (.int k b) := by first | exact rfl | exact gvv) : evOp C f call S g ⟨some d, .binOp .or T x y U, ty, pos, af, gd⟩ = some ⟨[(d, .val (.int k (orK k a b)))], [], []⟩ :=
  ov_bi (by simp [binV, eqGuard, binOp, Op.intBits, pureRun, bind, Sem.bind, pure, orK]) rfl hx hy
theorem oXor (hx : un g (S.get C x) = .val (.int k a) := by first | exact rfl | exact gvv) (hy : un g (S.get C y) = .val (.int k b) := by first | exact rfl | exact gvv) : evOp C f call S g ⟨some d, .binOp .xor T x y U, ty, pos, af, gd⟩ = some ⟨[(d, .val (.int k (xorK k a b)))], [], []⟩ :=
  ov_bi (by simp [binV, eqGuard, binOp, Op.intBits, pureRun, bind, Sem.bind, pure, xorK]) rfl hx hy
theorem oShl {r : Int} (h : shlK k a b = some r) (hx : un g (S.get C x) = .val (.int k a) := by first | exact rfl | exact gvv) (hy : un g (S.get C y) = .val (.int k' b) := by first | exact rfl | exact gvv) : evOp C f call S g ⟨some d, .binOp .shl T x y U, ty, pos, af, gd⟩ = some ⟨[(d, .val (.int k r))], [], []⟩ := by
  refine ov_bin hx hy rfl rfl ?_ rfl
  unfold shlK at h
  split at h
  · cases h
  · rename_i h0
    obtain rfl := Option.some.inj h
    simp [binV, eqGuard, binOp, Op.shift, pureRun, bind, Sem.bind, pure, h0]
theorem oShr {r : Int} (h : shrK k a b = some r) (hx : un g (S.get C x) = .val (.int k a) := by first | exact rfl | exact gvv) (hy : un g (S.get C y) = .val (.int k' b) := by first | exact rfl | exact gvv) : evOp C f call S g ⟨some d, .binOp .shr T x y U, ty, pos, af, gd⟩ = some ⟨[(d, .val (.int k r))], [], []⟩ := by
  refine ov_bin hx hy rfl rfl ?_ rfl
  unfold shrK at h
  split at h
  · cases h
  · rename_i h0
    obtain rfl := Option.some.inj h
    simp [binV, eqGuard, binOp, Op.shift, pureRun, bind, Sem.bind, pure, h0]
theorem oNeg (hx : un g (S.get C x) = .val (.int k a) := by first | exact rfl | exact gvv) : evOp C f call S g ⟨some d, .unOp .neg T x, ty, pos, af, gd⟩ = some ⟨[(d, .val (.int k (k.wrap (0 - a))))], [], []⟩ :=
  oUn (by simp [unV, Op.unary, Op.intArith, pureRun, pure]) rfl hx
theorem oCom (hs : k.signed = true := by rfl) (hx : un g (S.get C x) = .val (.int k a) := by first | exact rfl | exact gvv) : evOp C f call S g ⟨some d, .unOp .xor T x, ty, pos, af, gd⟩ = some ⟨[(d, .val (.int k (xorK k (-1) a)))], [], []⟩ :=
  oUn (by simp [unV, Op.unary, Op.intBits, pureRun, pure, xorK, hs]) rfl hx
theorem oCvt {dT : TypeDesc} [h1 : Ul C T dT] [h2 : Ul C U (.int k')] (hx : un g (S.get C x) = .val (.int k a) := by first | exact rfl | exact gvv) : evOp C f call S g ⟨some d, .convert T U x, ty, pos, af, gd⟩ = some ⟨[(d, .val (.int k' (k'.wrap a)))], [], []⟩ := by
  refine oConv ?_ hx rfl (by unfold bytesTo; rw [h2.ul]; cases C.P.underlying T <;> rfl)
  unfold convV convert
  rw [pr_bind, pr_underlying h1.ul, Option.bind_some, pr_bind, pr_underlying h2.ul, Option.bind_some]
  cases dT <;> rfl
end
end Go.Ab

namespace Go.Ab
open Go

/-- What a package's variable of unknown value holds. -/
class MM where m : Int
theorem kept_below {w w' : World} (h : RowKit.Below w.heap.size w w') (F : Nat → Prop) : Kept w w' F :=
  ⟨h.size, fun b hb _ => h.block b hb, h.os, h.output, fun a ha => h.frozen ha, blk_old fun b hb => h.block b hb⟩

theorem vals_inv {w : World} {I : Nat → Prop} {β : Id → Option Loc} : ∀ {us vs : List Value} {fp : List Nat}, RL w I β fp vs (us.map .val) → vs = us ∧ fp = []
  | [], vs, fp, h => by
    have := h.length
    simp only [List.map_nil, List.length_nil, List.length_eq_zero_iff] at this
    subst this
    generalize hx : (AV.agg ([].map AV.val)) = x at h
    cases h with
    | nil => exact ⟨rfl, rfl⟩
    | _ => cases hx
  | u :: us, vs, fp, h => by
    obtain ⟨f1, f2, v', vs', e1, e, k1, k2⟩ := RL.cons_inv h
    subst e
    obtain ⟨k3, k4⟩ := vals_inv k2
    have k5 := k1.val_inv
    have : f1 = [] := by
      generalize hx : AV.val u = x at k1
      cases k1 <;> first | rfl | cases hx
    subst this k3 k4
    simp_all

section
variable {C : Cx} {f : FuncId} {fn : Func} {c : Code}
theorem sound_sc (hf : C.P.funcs[f]? = some fn) (hb : fn.body = some c) (hl : C.lend f = []) {us : List Value} {v : Value} (hv : isSc v = true)
    (h : ∀ w I0, (∀ g cs, C.glob g = some cs → R w I0 noB [] (.pointer (some ⟨g, 0, none⟩)) (.vp cs)) → Calls C.P f ⟨us⟩ w fun e w' => e = .returned v ∧ RowKit.Below w.heap.size w w') : Sound C f (us.map .val) (.val v, []) := by
  intro w I0 fp vs hr hnd hI hfp hg
  obtain ⟨rfl, rfl⟩ := vals_inv hr
  refine .inl ⟨fn, c, hf, hb, (h w I0 hg).mono fun e w' ⟨he, hk⟩ => ⟨v, he, ⟨kept_below hk _, fun _ => False, [], ?_, List.nodup_nil, fun b hb => (by cases hb), fun b hb => hb.elim⟩⟩⟩
  rw [hl]
  exact .cons (f1 := []) (f2 := []) (.val hv) .nil
theorem does_sc (hf : C.P.funcs[f]? = some fn) (hb : fn.body = some c) (hl : C.lend f = []) {vs : List Value} {v : Value} (hv : isSc v = true) {w : World} {I0 : Nat → Prop} {fp : List Nat}
    (h : Calls C.P f ⟨vs⟩ w fun e w' => e = .returned v ∧ RowKit.Below w.heap.size w w') : Does C.P f ⟨vs⟩ w (Res w fp I0 (lentV (C.lend f) vs) (.val v, [])) := by
  refine .inl ⟨fn, c, hf, hb, h.mono fun e w' ⟨he, hk⟩ => ⟨v, he, ⟨kept_below hk _, fun _ => False, [], ?_, List.nodup_nil, fun b hb => (by cases hb), fun b hb => hb.elim⟩⟩⟩
  rw [hl]
  exact .cons (f1 := []) (f2 := []) (.val hv) .nil
/-- A package's variable of one cell. -/
theorem glob_cell {w : World} {I : Nat → Prop} {g : Nat} {v : Value} {cs : List AV} (h : R w I noB [] (.pointer (some ⟨g, 0, none⟩)) (.vp (.val v :: cs))) : w.cell? ⟨g, 0, none⟩ = some v := by
  obtain ⟨_, b, p, vs, hv, _, hc, hr⟩ := h.vp_inv
  obtain ⟨f1, f2, v', vs', e1, e, k1, k2⟩ := RL.cons_inv hr
  subst e
  have k5 := k1.val_inv
  simp only [Value.pointer.injEq, Option.some.injEq, Addr.mk.injEq] at hv
  obtain ⟨rfl, rfl, _⟩ := hv
  have := hc 0 v' rfl
  rw [Nat.zero_add] at this
  rw [this, k5.2]
end

/-! ### As plain data -/
def hasPrefixS (s p : ByteArray) : Option Bool := some (Lib.hasPrefix s.data.toList p.data.toList)
def indexByteS (s : ByteArray) (c : Int) : Option Int := some (Lib.indexByte s.data.toList c.toNat.toUInt8)
def indexS (s p : ByteArray) : Option Int := if s.size < 4294967281 then some (Lib.index s.data.toList p.data.toList) else none
def containsS (s p : ByteArray) : Option Bool := if s.size < 4294967281 then some (Lib.contains s.data.toList p.data.toList) else none
def cloneSt (s : ByteArray) : Option ByteArray := if s.size ≤ 281474976710656 then some s else none
def joinS (l : List ByteArray) (sep : ByteArray) : Option ByteArray := if l.length ≤ 140737488355328 ∧ (Lib.join (l.map (·.data.toList)) sep.data.toList).length ≤ 140737488355328 then some ⟨(Lib.join (l.map (·.data.toList)) sep.data.toList).toArray⟩ else none
/-! ### As abstract values -/
def strRows : Rows → Option (List ByteArray)
  | [] => some []
  | [.val (.string s)] :: l => (strRows l).map (s :: ·)
  | _ => none
theorem strRows_inv : ∀ {rows : Rows} {l : List ByteArray}, strRows rows = some l → rows = l.map fun s => [.val (.string s)]
  | [], l, h => by simp [strRows] at h; subst h; rfl
  | r :: rows, l, h => by
    unfold strRows at h
    split at h
    · rename_i heq; cases heq
    · rename_i s r' heq
      simp only [List.cons.injEq] at heq
      obtain ⟨rfl, rfl⟩ := heq
      simp only [Option.map_eq_some_iff] at h
      obtain ⟨l', h1, rfl⟩ := h
      rw [strRows_inv h1]; rfl
    · cases h
theorem strRows_of (l : List ByteArray) : strRows (l.map fun s => [.val (.string s)]) = some l := by
  induction l with
  | nil => rfl
  | cons s l ih => simp [strRows, ih]
theorem strRows_flat (l : List ByteArray) : (l.map fun s => [AV.val (Value.string s)]).flatten = (l.map Value.string).map AV.val := by
  induction l with
  | nil => rfl
  | cons s l ih => simp [ih]
def joinA : List AV → Option (AV × List AV)
  | [.sl rows, .val (.string sep)] => (strRows rows).bind fun l => (joinS l sep).map fun r => (.val (.string r), [])
  | _ => none
theorem joinA_of {c : ByteArray → List AV} {l : List ByteArray} {sep r : ByteArray} (h : joinS l sep = some r) (hc : c = fun s => [.val (.string s)] := by exact rfl) : joinA [.sl (l.map c), .val (.string sep)] = some (.val (.string r), []) := by
  subst hc; simp [joinA, strRows_of, h]
def hasPrefixA : List AV → Option (AV × List AV)
  | [.val (.string s), .val (.string p)] => (hasPrefixS s p).map fun r => (.val (.bool r), [])
  | _ => none
def indexByteA : List AV → Option (AV × List AV)
  | [.val (.string s), .val (.int .u8 c)] => (indexByteS s c).map fun r => (.val (.int .i64 r), [])
  | _ => none
def indexA : List AV → Option (AV × List AV)
  | [.val (.string s), .val (.string p)] => (indexS s p).map fun r => (.val (.int .i64 r), [])
  | _ => none
def containsA : List AV → Option (AV × List AV)
  | [.val (.string s), .val (.string p)] => (containsS s p).map fun r => (.val (.bool r), [])
  | _ => none
def cloneStA : List AV → Option (AV × List AV)
  | [.val (.string s)] => (cloneSt s).map fun r => (.val (.string r), [])
  | _ => none
theorem hasPrefixA_of {s p : ByteArray} {r : Bool} (h : hasPrefixS s p = some r) : hasPrefixA [.val (.string s), .val (.string p)] = some (.val (.bool r), []) := by simp [hasPrefixA, h]
theorem indexByteA_of {s : ByteArray} {c : Int} {r : Int} (h : indexByteS s c = some r) : indexByteA [.val (.string s), .val (.int .u8 c)] = some (.val (.int .i64 r), []) := by simp [indexByteA, h]
theorem indexA_of {s p : ByteArray} {r : Int} (h : indexS s p = some r) : indexA [.val (.string s), .val (.string p)] = some (.val (.int .i64 r), []) := by simp [indexA, h]
theorem containsA_of {s p : ByteArray} {r : Bool} (h : containsS s p = some r) : containsA [.val (.string s), .val (.string p)] = some (.val (.bool r), []) := by simp [containsA, h]
theorem cloneStA_of {s : ByteArray} {r : ByteArray} (h : cloneSt s = some r) : cloneStA [.val (.string s)] = some (.val (.string r), []) := by simp [cloneStA, h]

section
variable {C : Cx} {f : FuncId} {fn : Func} {c : Code} {args : List AV} {r : AV × List AV}
theorem hasPrefix_sound (hf : C.P.funcs[f]? = some fn) (hb : fn.body = some c) (hl : C.lend f = [])
    (H : ∀ (s p : ByteArray) (w : World), Calls C.P f #[.string s, .string p] w fun e w' => e = .returned (.bool (Lib.hasPrefix s.data.toList p.data.toList)) ∧ w' = w) {g : List AV → Option (AV × List AV)} (hg : g = hasPrefixA) (h : g args = some r) : Sound C f args r := by
  subst hg
  unfold hasPrefixA at h
  split at h
  · rename_i s p
    simp only [hasPrefixS, Option.map_some, Option.some.injEq] at h
    subst h
    exact sound_sc (us := [.string s, .string p]) hf hb hl rfl fun w _ _ => (H s p w).mono fun e w' ⟨h1, h2⟩ => ⟨h1, h2 ▸ RowKit.Below.refl _ _⟩
  · cases h
theorem indexByte_sound (hf : C.P.funcs[f]? = some fn) (hb : fn.body = some c) (hl : C.lend f = [])
    (H : ∀ (s : ByteArray) (c : Int) (w : World), Calls C.P f #[.string s, .int .u8 c] w fun e w' => e = .returned (.int .i64 (Lib.indexByte s.data.toList c.toNat.toUInt8)) ∧ w' = w) {g : List AV → Option (AV × List AV)} (hg : g = indexByteA) (h : g args = some r) : Sound C f args r := by
  subst hg
  unfold indexByteA at h
  split at h
  · rename_i s p
    simp only [indexByteS, Option.map_some, Option.some.injEq] at h
    subst h
    exact sound_sc (us := [.string s, .int .u8 p]) hf hb hl rfl fun w _ _ => (H s p w).mono fun e w' ⟨h1, h2⟩ => ⟨h1, h2 ▸ RowKit.Below.refl _ _⟩
  · cases h
theorem index_sound {k : Nat} {m : Int} {cs : List AV} (hf : C.P.funcs[f]? = some fn) (hb : fn.body = some c) (hl : C.lend f = []) (hgl : C.glob k = some (.val (.int .i64 m) :: cs))
    (H : ∀ (s p : ByteArray) (m : Int) (w : World), s.size < 4294967281 → w.cell? ⟨k, 0, none⟩ = some (.int .i64 m) → Calls C.P f #[.string s, .string p] w fun e w' => e = .returned (.int .i64 (Lib.index s.data.toList p.data.toList)) ∧ w' = w) {g : List AV → Option (AV × List AV)} (hg : g = indexA) (h : g args = some r) : Sound C f args r := by
  subst hg
  unfold indexA at h
  split at h
  · rename_i s p
    unfold indexS at h
    split at h
    · rename_i hs
      simp only [Option.map_some, Option.some.injEq] at h
      subst h
      exact sound_sc (us := [.string s, .string p]) hf hb hl rfl fun w _ hg => (H s p m w hs (glob_cell (hg _ _ hgl))).mono fun e w' ⟨h1, h2⟩ => ⟨h1, h2 ▸ RowKit.Below.refl _ _⟩
    · cases h
  · cases h
theorem contains_sound {k : Nat} {m : Int} {cs : List AV} (hf : C.P.funcs[f]? = some fn) (hb : fn.body = some c) (hl : C.lend f = []) (hgl : C.glob k = some (.val (.int .i64 m) :: cs))
    (H : ∀ (s p : ByteArray) (m : Int) (w : World), s.size < 4294967281 → w.cell? ⟨k, 0, none⟩ = some (.int .i64 m) → Calls C.P f #[.string s, .string p] w fun e w' => e = .returned (.bool (Lib.contains s.data.toList p.data.toList)) ∧ w' = w) {g : List AV → Option (AV × List AV)} (hg : g = containsA) (h : g args = some r) : Sound C f args r := by
  subst hg
  unfold containsA at h
  split at h
  · rename_i s p
    unfold containsS at h
    split at h
    · rename_i hs
      simp only [Option.map_some, Option.some.injEq] at h
      subst h
      exact sound_sc (us := [.string s, .string p]) hf hb hl rfl fun w _ hg => (H s p m w hs (glob_cell (hg _ _ hgl))).mono fun e w' ⟨h1, h2⟩ => ⟨h1, h2 ▸ RowKit.Below.refl _ _⟩
    · cases h
  · cases h
theorem cloneSt_sound (hf : C.P.funcs[f]? = some fn) (hb : fn.body = some c) (hl : C.lend f = [])
    (H : ∀ (s : ByteArray) (w : World), s.size ≤ 281474976710656 → Calls C.P f #[.string s] w fun e w' => e = .returned (.string s) ∧ RowKit.Below w.heap.size w w') {g : List AV → Option (AV × List AV)} (hg : g = cloneStA) (h : g args = some r) : Sound C f args r := by
  subst hg
  unfold cloneStA at h
  split at h
  · rename_i s
    unfold cloneSt at h
    split at h
    · rename_i hs
      simp only [Option.map_some, Option.some.injEq] at h
      subst h
      exact sound_sc (us := [.string s]) hf hb hl rfl fun w _ _ => H s w hs
    · cases h
  · cases h
theorem join_sound (hf : C.P.funcs[f]? = some fn) (hb : fn.body = some c) (hl : C.lend f = [])
    (H0 : ∀ (a : Option Addr) (c : Nat) (sep : ByteArray) (w : World), Calls C.P f #[.slice a 0 c, .string sep] w fun e w' => e = .returned (.string ⟨#[]⟩) ∧ w' = w)
    (H : ∀ (bk o c : Nat) (xs : List ByteArray) (sep : ByteArray) (w : World), (∀ (j : Nat) x, xs[j]? = some x → w.cell? ⟨bk, o + j, none⟩ = some (.string x)) → bk < w.heap.size → xs.length ≤ 140737488355328 → xs.length ≤ c → (Lib.join (xs.map (·.data.toList)) sep.data.toList).length ≤ 140737488355328 →
      Calls C.P f #[.slice (some ⟨bk, o, none⟩) xs.length c, .string sep] w fun e w' => e = .returned (.string ⟨(Lib.join (xs.map (·.data.toList)) sep.data.toList).toArray⟩) ∧ RowKit.Below w.heap.size w w')
    {g : List AV → Option (AV × List AV)} (hg : g = joinA) (h : g args = some r) : Sound C f args r := by
  subst hg
  unfold joinA at h
  split at h
  · rename_i rows sep
    simp only [Option.bind_eq_some_iff, Option.map_eq_some_iff] at h
    obtain ⟨l, hrows, q, hq, rfl⟩ := h
    obtain rfl := strRows_inv hrows
    unfold joinS at hq
    split at hq
    · rename_i hlen
      obtain rfl := Option.some.inj hq
      intro w I0 fp vs hr hnd hI hfp hgl
      obtain ⟨f1, f2, v1, vs1, e1, rfl, k1, k2⟩ := RL.cons_inv hr
      obtain ⟨rfl, rfl⟩ := vals_inv (us := [.string sep]) k2
      refine does_sc hf hb hl rfl ?_
      generalize hx : AV.sl (l.map fun s => [.val (.string s)]) = x at k1
      cases k1 with
      | sl0 =>
        simp only [AV.sl.injEq, List.map_eq_nil_iff] at hx
        subst hx
        exact (H0 _ _ sep w).mono fun e w' ⟨h1, h2⟩ => ⟨h1.trans (by simp [Lib.join]), h2 ▸ RowKit.Below.refl _ _⟩
      | @sl _ b o sz cap vs rows h1 h2 h3 h4 h5 =>
        simp only [AV.sl.injEq] at hx
        subst hx
        have hfl := strRows_flat l
        rw [hfl] at h5
        obtain ⟨rfl, _⟩ := vals_inv h5
        rw [List.length_map] at h4 ⊢
        exact H b o cap l sep w (fun j x hj => h3 j _ (by rw [List.getElem?_map, hj]; rfl)) (hI b h2).1 hlen.1 h4 hlen.2
      | _ => cases hx
    · cases hq
  · cases h
end
end Go.Ab

namespace Go.Ab
open Go

def Er.isNil : Er → Bool
  | .nil => true
  | _ => false
/-- Is it this number? Not told of one that is not looked into. -/
def Er.isCode : Er → Int → Option Bool
  | .nil, _ => some false
  | .code m, n => some (m == n)
  | .other, _ => none
def cmpb (P : Program) (t : TypeId) : Bool := match P.info? t with
  | some i => i.comparable
  | none => false
class Cb (C : Cx) (t : TypeId) : Prop where cb : cmpb C.P t = true
theorem Cb.ex {C : Cx} {t : TypeId} (h : Cb C t) : ∃ i, C.P.info? t = some i ∧ i.comparable = true := by
  have := h.cb
  unfold cmpb at this
  split at this
  · exact ⟨_, ‹_›, this⟩
  · cases this
section
variable {C : Cx} {f : FuncId} {call : CallT} {S : St} {g : Bool}
variable {d : Nat} {ty : TypeId} {pos : String} {af : Array Edge} {gd : Option (Nat × Bool)} {v v' : AV}
variable {x y z : Operand} {k k' : IntKind} {a b : Int} {T U t : TypeId} {e : Er} {ms : Array (String × TypeId)}

theorem equal_iface_nil {tx : TypeId} {vx : Value} (hu : C.P.underlying T = some (.interface ms)) : pureRun C.P (Op.equal T (.iface tx vx) .nilIface) = some false := by
  unfold Op.equal Op.maxDepth
  have : ∀ d, pureRun C.P (Op.equalIn (d + 1) T (.iface tx vx) .nilIface) = some false := fun d => by
    simp [Op.equalIn, pr_bind, pr_underlying hu, pr_pure]
  exact this 9999
theorem equal_nil_nil (hu : C.P.underlying T = some (.interface ms)) : pureRun C.P (Op.equal T .nilIface .nilIface) = some true := by
  unfold Op.equal Op.maxDepth
  have : ∀ d, pureRun C.P (Op.equalIn (d + 1) T .nilIface .nilIface) = some true := fun d => by
    simp [Op.equalIn, pr_bind, pr_underlying hu, pr_pure]
  exact this 9999
theorem equal_nil_iface {tx : TypeId} {vx : Value} (hu : C.P.underlying T = some (.interface ms)) : pureRun C.P (Op.equal T .nilIface (.iface tx vx)) = some false := by
  unfold Op.equal Op.maxDepth
  have : ∀ d, pureRun C.P (Op.equalIn (d + 1) T .nilIface (.iface tx vx)) = some false := fun d => by
    simp [Op.equalIn, pr_bind, pr_underlying hu, pr_pure]
  exact this 9999
theorem equal_code {m n : Int} (hu : C.P.underlying T = some (.interface ms)) (ht : C.P.underlying t = some (.int .i64)) (hc : ∃ i, C.P.info? t = some i ∧ i.comparable = true) :
    pureRun C.P (Op.equal T (.iface t (.int .i64 m)) (.iface t (.int .i64 n))) = some (m == n) := by
  obtain ⟨i, hi, hc⟩ := hc
  unfold Op.equal Op.maxDepth
  have : ∀ d, pureRun C.P (Op.equalIn (d + 1 + 1) T (.iface t (.int .i64 m)) (.iface t (.int .i64 n))) = some (m == n) := fun d => by
    have hti : pureRun C.P (typeInfo t) = some i := by
      unfold typeInfo
      rw [pr_bind]
      show (some C.P).bind _ = _
      simp [hi, pr_pure]
    simp [Op.equalIn, pr_bind, pr_underlying hu, pr_underlying ht, pr_pure, hti, hc]
  exact this 9998
def nilI : Operand := .const .nilIface
theorem bin_eqlI {va vb : Value} {r : Bool} (hk : (∃ tx vx, va = .iface tx vx) ∨ (∃ tx vx, vb = .iface tx vx) ∨ y = .const .nilIface) (hb : va = .nilIface ∨ ∃ tx vx, va = .iface tx vx) (hb' : vb = .nilIface ∨ ∃ tx vx, vb = .iface tx vx)
    (h : pureRun C.P (Op.equal T va vb) = some r) : binV C.P .eql T x y va vb = some (.bool r) ∧ binV C.P .neq T x y va vb = some (.bool (!r)) := by
  have hg : ∀ op, pureRun C.P (eqGuard op T x y va vb) = some () := fun op => by
    rcases hb with rfl | ⟨_, _, rfl⟩ <;> rcases hb' with rfl | ⟨_, _, rfl⟩
    · rcases hk with ⟨_, _, h⟩ | ⟨_, _, h⟩ | rfl
      · cases h
      · cases h
      · cases op <;> cases x <;> simp [eqGuard, pr_pure, pureRun, pure]
    · cases op <;> rfl
    · cases op <;> rfl
    · cases op <;> rfl
  have ho1 : binOp .eql T va vb = (do pure (.bool (← Op.equal T va vb)) : Sem Value) := by
    rcases hb with rfl | ⟨_, _, rfl⟩ <;> rcases hb' with rfl | ⟨_, _, rfl⟩ <;> rfl
  have ho2 : binOp .neq T va vb = (do pure (.bool (!(← Op.equal T va vb))) : Sem Value) := by
    rcases hb with rfl | ⟨_, _, rfl⟩ <;> rcases hb' with rfl | ⟨_, _, rfl⟩ <;> rfl
  constructor
  · unfold binV
    rw [pr_bind, hg, Option.bind_some, ho1, pr_bind, h]
    rfl
  · unfold binV
    rw [pr_bind, hg, Option.bind_some, ho2, pr_bind, h]
    rfl

theorem oErNil {op : BinOp} {r : Bool} [hu : Ul C T (.interface ms)] (hx : un g (S.get C x) = erV t e := by first | exact rfl | exact gvv) (hy : y = nilI := by exact rfl) (hop : (op = .eql ∧ r = e.isNil) ∨ (op = .neq ∧ r = !e.isNil) := by first | exact .inl ⟨rfl, rfl⟩ | exact .inr ⟨rfl, rfl⟩) :
    evOp C f call S g ⟨some d, .binOp op T x y U, ty, pos, af, gd⟩ = some ⟨[(d, .val (.bool r))], [], []⟩ := by
  subst hy
  have hy : un g (S.get C nilI) = .val .nilIface := by cases g <;> rfl
  cases e with
  | nil =>
    have := bin_eqlI (C := C) (T := T) (x := x) (y := nilI) (va := .nilIface) (vb := .nilIface) (.inr (.inr rfl)) (.inl rfl) (.inl rfl) (equal_nil_nil hu.ul)
    rcases hop with ⟨rfl, rfl⟩ | ⟨rfl, rfl⟩
    · exact ov_bin hx hy rfl rfl this.1 rfl
    · exact ov_bin hx hy rfl rfl this.2 rfl
  | code n =>
    have := bin_eqlI (C := C) (T := T) (x := x) (y := nilI) (va := .iface t (.int .i64 n)) (vb := .nilIface) (.inl ⟨_, _, rfl⟩) (.inr ⟨_, _, rfl⟩) (.inl rfl) (equal_iface_nil hu.ul)
    rcases hop with ⟨rfl, rfl⟩ | ⟨rfl, rfl⟩
    · exact ov_bin hx hy rfl rfl this.1 rfl
    · exact ov_bin hx hy rfl rfl this.2 rfl
  | other =>
    show evBin C _ op T x nilI (un g (S.get C x)) (un g (S.get C nilI)) = _
    rw [hx, hy]
    rcases hop with ⟨rfl, rfl⟩ | ⟨rfl, rfl⟩ <;> simp [evBin, erV, toVal, hu.ul, nilCmp, Er.isNil, ret, put]
theorem oErCode {op : BinOp} {n : Int} {r0 r : Bool} (hc : e.isCode n = some r0) [hu : Ul C T (.interface ms)] [ht : Ul C t (.int .i64)] [hb : Cb C t] (hx : un g (S.get C x) = erV t e := by first | exact rfl | exact gvv) (hy : un g (S.get C y) = erV t (.code n) := by first | exact rfl | exact gvv) (hop : (op = .eql ∧ r = r0) ∨ (op = .neq ∧ r = !r0) := by first | exact .inl ⟨rfl, rfl⟩ | exact .inr ⟨rfl, rfl⟩) :
    evOp C f call S g ⟨some d, .binOp op T x y U, ty, pos, af, gd⟩ = some ⟨[(d, .val (.bool r))], [], []⟩ := by
  cases e with
  | nil =>
    obtain rfl : false = r0 := Option.some.inj hc
    have := bin_eqlI (C := C) (T := T) (x := x) (y := y) (va := .nilIface) (vb := .iface t (.int .i64 n)) (.inr (.inl ⟨_, _, rfl⟩)) (.inl rfl) (.inr ⟨_, _, rfl⟩) (equal_nil_iface hu.ul)
    rcases hop with ⟨rfl, rfl⟩ | ⟨rfl, rfl⟩
    · exact ov_bin hx hy rfl rfl this.1 rfl
    · exact ov_bin hx hy rfl rfl this.2 rfl
  | code m =>
    obtain rfl : (m == n) = r0 := Option.some.inj hc
    have := bin_eqlI (C := C) (T := T) (x := x) (y := y) (va := .iface t (.int .i64 m)) (vb := .iface t (.int .i64 n)) (.inl ⟨_, _, rfl⟩) (.inr ⟨_, _, rfl⟩) (.inr ⟨_, _, rfl⟩) (equal_code hu.ul ht.ul hb.ex)
    rcases hop with ⟨rfl, rfl⟩ | ⟨rfl, rfl⟩
    · exact ov_bin hx hy rfl rfl this.1 rfl
    · exact ov_bin hx hy rfl rfl this.2 rfl
  | other => cases hc

/-- An interface value out of a number; out of a pointer. -/
theorem oIfC {n : Int} [hu : Ul C t (.int .i64)] (hx : un g (S.get C x) = .val (.int .i64 n) := by first | exact rfl | exact gvv) : evOp C f call S g ⟨some d, .makeInterface t x, ty, pos, af, gd⟩ = some ⟨[(d, erV t (.code n))], [], []⟩ := by
  show evIface C _ t (un g (S.get C x)) = _
  rw [hx]; simp [evIface, hu.ul, isSc, ret, put, erV]
theorem oIfM {e' : TypeId} {id : Id} {row off : Nat} [hu : Ul C t (.pointer e')] (hx : un g (S.get C x) = .mp id row off := by first | exact rfl | exact gvv) : evOp C f call S g ⟨some d, .makeInterface t x, ty, pos, af, gd⟩ = some ⟨[(d, .nn)], [], []⟩ := by
  show evIface C _ t (un g (S.get C x)) = _
  rw [hx]; simp [evIface, hu.ul, ret, put]
theorem oIfP {e' : TypeId} {cs : List AV} [hu : Ul C t (.pointer e')] (hx : un g (S.get C x) = .vp cs := by first | exact rfl | exact gvv) : evOp C f call S g ⟨some d, .makeInterface t x, ty, pos, af, gd⟩ = some ⟨[(d, .nn)], [], []⟩ := by
  show evIface C _ t (un g (S.get C x)) = _
  rw [hx]; simp [evIface, hu.ul, ret, put]

/-- A string's bytes. -/
def bytesI (s : ByteArray) : List Int := s.data.toList.map fun b => (b.toNat : Int)
theorem oBytes {s : ByteArray} {dT : TypeDesc} {el : TypeId} [h1 : Ul C T dT] [h2 : Ul C U (.slice el)] [h3 : Ul C el (.int .u8)] (hx : un g (S.get C x) = .val (.string s) := by first | exact rfl | exact gvv) : evOp C f call S g ⟨some d, .convert T U x, ty, pos, af, gd⟩ = some ⟨[(d, .sl ((bytesI s).map fun n => [.val (.int .u8 n)]))], [], []⟩ := by
  show evConv C _ T U (un g (S.get C x)) = _
  have hb : bytesTo C T U = true := by simp [bytesTo, h1.ul, h2.ul, h3.ul]
  rw [hx]; simp [evConv, hb, evBytes, ret, put, byteRows, bytesI, List.map_map, Function.comp]
def gStr (s : ByteArray) : AV := .val (.string s)
/-- A package's array. -/
theorem oLdG {α : Type} {c : α → AV} {m : Nat} {q : List α} [ha : Sz C T true m] (hx : un g (S.get C x) = .vp (q.map c) := by exact rfl) (hl : q.length = m := by exact rfl) :
    evOp C f call S g ⟨some d, .load T x, ty, pos, af, gd⟩ = some ⟨[(d, .agg (q.map c))], [], []⟩ := by
  show evLoad C S _ T (un g (S.get C x)) = _
  have ht : List.take q.length (q.map c) = q.map c := by rw [← List.length_map c]; exact List.take_length
  simp [evLoad, ha.ag, ha.sz, hx, ← hl, mkV, ht]
/-- An array's element. -/
theorem oIxArr {α : Type} {c : α → AV} {el : TypeId} {len : Nat} {i : Int} {r : α} {q : List α} (hi : idx q i = some r) [hu : Ul C T (.array len el)] [hs : Sz C el false 1] (hx : un g (S.get C x) = .agg (q.map c) := by first | exact rfl | exact gvv) (hc : ∀ x, (c x).cell = true := by exact fun _ => rfl) (hy : un g (S.get C y) = .val (.int k i) := by first | exact rfl | exact gvv) (hl : q.length = len := by exact rfl) :
    evOp C f call S g ⟨some d, .index T x y, ty, pos, af, gd⟩ = some ⟨[(d, c r)], [], []⟩ := by
  show evIndex C _ T (un g (S.get C x)) (intOfV (un g (S.get C y))) = _
  have hb := idx_bounds hi
  have hn := idx_nat hi
  subst hl
  have hlt : i.toNat < q.length := by omega
  have e1 : ((q.map c).drop (i.toNat * 1)).take 1 = [c r] := by
    have : q[i.toNat] = r := by rw [List.getElem?_eq_getElem hlt] at hn; simpa using hn
    rw [Nat.mul_one, List.drop_eq_getElem_cons (by simpa using hlt)]
    simp [this]
  simp only [hx, hy, intOfV, evIndex, hu.ul, hs.sz, hs.ag]
  rw [if_pos ⟨hb.1, hb.2, by simp; omega⟩, e1]
  simp [mkV, put]
end
end Go.Ab
