/-
  STEPS: strings set together and compared; quotients; bits; numbers of one kind turned into another.
-/
import Derived.Test.YtbhpblokoecoaaaAbV4
namespace Go.Ab
open Go

/-- Strings set together. -/
def catS (a b : ByteArray) : Option ByteArray := if a.size + b.size ≤ 9223372036854775807 then some (a ++ b) else none
def qdiv (k : IntKind) (a b : Int) : Option Int := if b = 0 then none else some (k.wrap (a.tdiv b))
def qrem (a b : Int) : Option Int := if b = 0 then none else some (a.tmod b)
def andK (k : IntKind) (a b : Int) : Int := k.wrap ((BitVec.ofInt k.bits a &&& BitVec.ofInt k.bits b).toNat : Nat)
def orK (k : IntKind) (a b : Int) : Int := k.wrap ((BitVec.ofInt k.bits a ||| BitVec.ofInt k.bits b).toNat : Nat)
def xorK (k : IntKind) (a b : Int) : Int := k.wrap ((BitVec.ofInt k.bits a ^^^ BitVec.ofInt k.bits b).toNat : Nat)
def shlK (k : IntKind) (a n : Int) : Option Int := if n < 0 then none else some (k.wrap (a * 2 ^ (min n.toNat k.bits)))
def shrK (k : IntKind) (a n : Int) : Option Int := if n < 0 then none else some (a.fdiv (2 ^ (min n.toNat k.bits)))
def lessS (a b : ByteArray) : Bool := Op.bytesLess a.toList b.toList

section
variable {C : Cx} {f : FuncId} {call : CallT} {S : St} {g : Bool}
variable {d : Nat} {ty : TypeId} {pos : String} {af : Array Edge} {gd : Option (Nat × Bool)} {v v' : AV}
variable {x y z : Operand} {k k' : IntKind} {a b : Int} {T U : TypeId}

theorem bin_addS {P : Program} {a b r : ByteArray} (h : catS a b = some r) : binV P .add T x y (.string a) (.string b) = some (.string r) := by
  unfold catS at h
  split at h
  · rename_i hl
    obtain rfl := Option.some.inj h
    have : ¬ (((a.size + b.size : Nat) : Int) > IntKind.i64.max) := by
      have : IntKind.i64.max = 9223372036854775807 := by decide
      rw [this]; omega
    have e : binV P .add T x y (.string a) (.string b) = pureRun P (Op.stringOp .add a b) := rfl
    rw [e]
    simp only [Op.stringOp, if_neg this]
    rfl
  · cases h
theorem oAddS {a b r : ByteArray} (h : catS a b = some r) (hx : un g (S.get C x) = .val (.string a) := by first | exact rfl | exact gvv) (hy : un g (S.get C y) = .val (.string b) := by first | exact rfl | exact gvv) : evOp C f call S g ⟨some d, .binOp .add T x y U, ty, pos, af, gd⟩ = some ⟨[(d, .val (.string r))], [], []⟩ := ov_bin hx hy rfl rfl (bin_addS h) rfl
theorem oLssS {a b : ByteArray} (hx : un g (S.get C x) = .val (.string a) := by first | exact rfl | exact gvv) (hy : un g (S.get C y) = .val (.string b) := by first | exact rfl | exact gvv) : evOp C f call S g ⟨some d, .binOp .lss T x y U, ty, pos, af, gd⟩ = some ⟨[(d, .val (.bool (lessS a b)))], [], []⟩ :=
  ov_bin hx hy rfl rfl (by simp [binV, eqGuard, binOp, Op.stringOp, pureRun, bind, Sem.bind, pure, lessS]) rfl
theorem bin_quo {P : Program} {r : Int} (h : qdiv k a b = some r) : binV P .quo T x y (.int k a) (.int k b) = some (.int k r) := by
  unfold qdiv at h
  split at h
  · cases h
  · rename_i h0
    obtain rfl := Option.some.inj h
    simp [binV, eqGuard, binOp, Op.intDiv, pureRun, bind, Sem.bind, pure, h0]
theorem bin_rem {P : Program} {r : Int} (h : qrem a b = some r) : binV P .rem T x y (.int k a) (.int k b) = some (.int k r) := by
  unfold qrem at h
  split at h
  · cases h
  · rename_i h0
    obtain rfl := Option.some.inj h
    simp [binV, eqGuard, binOp, Op.intDiv, pureRun, bind, Sem.bind, pure, h0]
theorem oQuo {r : Int} (h : qdiv k a b = some r) (hx : un g (S.get C x) = .val (.int k a) := by first | exact rfl | exact gvv) (hy : un g (S.get C y) = .val (.int k b) := by first | exact rfl | exact gvv) : evOp C f call S g ⟨some d, .binOp .quo T x y U, ty, pos, af, gd⟩ = some ⟨[(d, .val (.int k r))], [], []⟩ := ov_bi (bin_quo h) rfl hx hy
theorem oRem {r : Int} (h : qrem a b = some r) (hx : un g (S.get C x) = .val (.int k a) := by first | exact rfl | exact gvv) (hy : un g (S.get C y) = .val (.int k b) := by first | exact rfl | exact gvv) : evOp C f call S g ⟨some d, .binOp .rem T x y U, ty, pos, af, gd⟩ = some ⟨[(d, .val (.int k r))], [], []⟩ := ov_bi (bin_rem h) rfl hx hy
theorem oAnd (hx : un g (S.get C x) = .val (.int k a) := by first | exact rfl | exact gvv) (hy : un g (S.get C y) = .val (.int k b) := by first | exact rfl | exact gvv) : evOp C f call S g ⟨some d, .binOp .and T x y U, ty, pos, af, gd⟩ = some ⟨[(d, .val (.int k (andK k a b)))], [], []⟩ :=
  ov_bi (by simp [binV, eqGuard, binOp, Op.intBits, pureRun, bind, Sem.bind, pure, andK]) rfl hx hy
theorem oOr (hx : un g (S.get C x) = .val (.int k a) := by first | exact rfl | exact gvv) (hy : un g (S.get C y) = .val (.int k b) := by first | exact rfl | exact gvv) : evOp C f call S g ⟨some d, .binOp .or T x y U, ty, pos, af, gd⟩ = some ⟨[(d, .val (.int k (orK k a b)))], [], []⟩ :=
  ov_bi (by simp [binV, eqGuard, binOp, Op.intBits, pureRun, bind, Sem.bind, pure, orK]) rfl hx hy
theorem oXor (hx : un g (S.get C x) = .val (.int k a) := by first | exact rfl | exact gvv) (hy : un g (S.get C y) = .val (.int k b) := by first | exact rfl | exact gvv) : evOp C f call S g ⟨some d, .binOp .xor T x y U, ty, pos, af, gd⟩ = some ⟨[(d, .val (.int k (xorK k a b)))], [], []⟩ :=
  ov_bi (by simp [binV, eqGuard, binOp, Op.intBits, pureRun, bind, Sem.bind, pure, xorK]) rfl hx hy
theorem oShl {r : Int} (h : shlK k a b = some r) (hx : un g (S.get C x) = .val (.int k a) := by first | exact rfl | exact gvv) (hy : un g (S.get C y) = .val (.int k' b) := by first | exact rfl | exact gvv) : evOp C f call S g ⟨some d, .binOp .shl T x y U, ty, pos, af, gd⟩ = some ⟨[(d, .val (.int k r))], [], []⟩ := by
  refine ov_bin hx hy rfl rfl ?_ rfl
  unfold shlK at h
  split at h
  · cases h
  · rename_i h0
    obtain rfl := Option.some.inj h
    simp [binV, eqGuard, binOp, Op.shift, pureRun, bind, Sem.bind, pure, h0]
theorem oShr {r : Int} (h : shrK k a b = some r) (hx : un g (S.get C x) = .val (.int k a) := by first | exact rfl | exact gvv) (hy : un g (S.get C y) = .val (.int k' b) := by first | exact rfl | exact gvv) : evOp C f call S g ⟨some d, .binOp .shr T x y U, ty, pos, af, gd⟩ = some ⟨[(d, .val (.int k r))], [], []⟩ := by
  refine ov_bin hx hy rfl rfl ?_ rfl
  unfold shrK at h
  split at h
  · cases h
  · rename_i h0
    obtain rfl := Option.some.inj h
    simp [binV, eqGuard, binOp, Op.shift, pureRun, bind, Sem.bind, pure, h0]
theorem oNeg (hx : un g (S.get C x) = .val (.int k a) := by first | exact rfl | exact gvv) : evOp C f call S g ⟨some d, .unOp .neg T x, ty, pos, af, gd⟩ = some ⟨[(d, .val (.int k (k.wrap (0 - a))))], [], []⟩ :=
  oUn (by simp [unV, Op.unary, Op.intArith, pureRun, pure]) rfl hx
theorem oCom (hx : un g (S.get C x) = .val (.int k a) := by first | exact rfl | exact gvv) (hs : k.signed = true := by rfl) : evOp C f call S g ⟨some d, .unOp .xor T x, ty, pos, af, gd⟩ = some ⟨[(d, .val (.int k (xorK k (-1) a)))], [], []⟩ :=
  oUn (by simp [unV, Op.unary, Op.intBits, pureRun, pure, xorK, hs]) rfl hx
theorem oCvt {dT : TypeDesc} [h1 : Ul C T dT] [h2 : Ul C U (.int k')] (hx : un g (S.get C x) = .val (.int k a) := by first | exact rfl | exact gvv) : evOp C f call S g ⟨some d, .convert T U x, ty, pos, af, gd⟩ = some ⟨[(d, .val (.int k' (k'.wrap a)))], [], []⟩ := by
  refine oConv ?_ hx rfl (by unfold bytesTo; rw [h2.ul]; cases C.P.underlying T <;> rfl)
  unfold convV convert
  rw [pr_bind, pr_underlying h1.ul, Option.bind_some, pr_bind, pr_underlying h2.ul, Option.bind_some]
  cases dT <;> rfl
end
end Go.Ab
