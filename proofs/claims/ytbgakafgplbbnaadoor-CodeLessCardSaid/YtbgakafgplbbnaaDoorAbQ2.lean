/-
  STEPS: the rest.
-/
import Derived.Test.YtbgakafgplbbnaaDoorAbQ
namespace Go.Ab
open Go
theorem cons_eq {α : Type} {a b : α} {l m : List α} (h : a = b) (k : l = m) : a :: l = b :: m := by rw [h, k]
theorem cons_eqp {α β : Type} {i : β} {a b : α} {l m : List (β × α)} (h : a = b) (k : l = m) : (i, a) :: l = (i, b) :: m := by rw [h, k]
theorem idx_nat {α : Type} {l : List α} {i : Int} {x : α} (h : idx l i = some x) : l[i.toNat]? = some x := by
  unfold idx at h; split at h
  · exact h
  · cases h
theorem un_tru (x : AV) {g : Bool} : un g (.gv true x) = x := by cases g <;> rfl
def RelO {τ ρ : Type} (B : τ → Exit × St → Prop) (R : ρ → Exit × St → Prop) : Br τ ρ → Exit × St → Prop
  | .brk a, x => B a x
  | .ret r, x => R r x
theorem relB {τ ρ : Type} {B : τ → Exit × St → Prop} {R : ρ → Exit × St → Prop} {a : τ} {x : Exit × St} (h : B a x) : RelO B R (.brk a) x := h
theorem relR {τ ρ : Type} {B : τ → Exit × St → Prop} {R : ρ → Exit × St → Prop} {a : ρ} {x : Exit × St} (h : R a x) : RelO B R (.ret a) x := h
theorem fzR_map {α : Type} (c d : α → List AV) (h : ∀ x, fzL (c x) = d x) (l : List α) : fzR (l.map c) = l.map d := by
  induction l with
  | nil => simp [fzR]
  | cons x l ih => simp [fzR, h, ih]
theorem fz_map {α : Type} (c d : α → List AV) (h : ∀ x, fzL (c x) = d x) (l : List α) : fz (.own (l.map c)) = .sl (l.map d) := by
  simp [fz, fzR_map c d h]
end Go.Ab
namespace Go.Ab
open Go
section
variable {C : Cx} {f : FuncId} {call : CallT} {S : St} {g : Bool}
variable {d : Nat} {ty : TypeId} {pos : String} {af : Array Edge} {gd : Option (Nat × Bool)} {v : AV}
theorem bwL_0 {L : Id → Option (Option Rows)} : bwL L [] = some ([], []) := rfl
theorem bw_imm {L : Id → Option (Option Rows)} {a : AV} (h : imm a = true) : bw L 9 a = some (a, []) := by
  cases a with
  | agg cs => simp only [imm] at h; simp [bw, bwC, h]
  | tup cs => simp only [imm] at h; simp [bw, bwC, h]
  | fn k a b => simp only [imm, Bool.and_eq_true] at h; simp [bw, bwC, h]
  | _ => first | rfl | simp [imm] at h
theorem bwL_imm1 {L : Id → Option (Option Rows)} {a : AV} {as bs : List AV} {is : List Id} (h : imm a = true) (k : bwL L as = some (bs, is)) : bwL L (a :: as) = some (a :: bs, is) := by
  unfold bwL at *
  simp [foldC, bw_imm h, k]
theorem bwL_rs {L : Id → Option (Option Rows)} {id : Id} {α : Type} {c : α → List AV} {q : List α} {as bs : List AV} {is : List Id} (hh : L id = some (some (q.map c))) (hi : ∀ x, immL (c x) = true) (k : bwL L as = some (bs, is)) : bwL L (.rs id 0 q.length :: as) = some (.sl (q.map c) :: bs, id :: is) := by
  unfold bwL at *
  have h1 : bw L 9 (.rs id 0 q.length) = some (.sl (q.map c), [id]) := by
    have hi' : immR (q.map c) = true := by simp [immR, hi]
    have e : ((q.map c).drop 0).take q.length = q.map c := by rw [List.drop_zero, List.take_of_length_le (by simp)]
    have e0 : bw L 9 (.rs id 0 q.length) = match L id with
      | some (some rs) => if 0 + q.length ≤ rs.length then (bwR (bw L 8) ((rs.drop 0).take q.length)).map fun x => (.sl x.1, id :: x.2) else none
      | _ => none := rfl
    rw [e0, hh]
    simp only
    rw [if_pos (by simp), e]
    simp [bwR, hi']
  simp [foldC, h1, k]
theorem bwL_snil {L : Id → Option (Option Rows)} {α : Type} {c : α → List AV} {as bs : List AV} {is : List Id} (k : bwL L as = some (bs, is)) : bwL L (.snil :: as) = some (.sl (([] : List α).map c) :: bs, is) := by
  unfold bwL at *
  have h1 : bw L 9 .snil = some (.sl [], []) := rfl
  simp [foldC, h1, k]
theorem bwL_mp {L : Id → Option (Option Rows)} {id : Id} {cs : List AV} {as bs : List AV} {is : List Id} (hh : L id = some (some [cs])) (hi : immL cs = true) (k : bwL L as = some (bs, is)) : bwL L (.mp id 0 0 :: as) = some (.vp cs :: bs, id :: is) := by
  unfold bwL at *
  have h1 : bw L 9 (.mp id 0 0) = some (.vp cs, [id]) := by
    have e0 : bw L 9 (.mp id 0 0) = match L id with
      | some (some rs) => match rs[0]? with
        | some r => if 0 ≤ r.length then (bwC (bw L 8) (r.drop 0)).map fun x => (.vp x.1, id :: x.2) else none
        | none => none
      | _ => none := rfl
    rw [e0, hh]
    simp [bwC, hi]
  simp [foldC, h1, k]
/-- A call to which memory of one's own is shown. -/
theorem ov_callB {fo : Operand} {xs : Array Operand} {ts : Array TypeId} {kf : FuncId} {as bs cs all args : List AV} {seen : List Id} {r v : AV} {L : List Nat} (hfo : un g (S.get C fo) = .fn (.func kf) as bs) (hx : (xs.toList.map fun x => un g (S.get C x)) = cs) (hall : as ++ cs ++ bs = all) (hb : bwL S.h all = some (args, seen))
    (hc : call kf args = some (r, [])) (hm : mine r = true) (hL : C.frz f = L) (hv : (if L.contains d then fz r else r) = v) (hp : imp [d] v = (v, [])) :
    evOp C f call S g ⟨some d, .call ⟨.value fo, xs, ts⟩, ty, pos, af, gd⟩ = some ⟨[(d, v)], seen, []⟩ := by
  show callC C f call S _ (un g (S.get C fo)) (xs.toList.map fun x => un g (S.get C x)) = _
  subst hL hall
  rw [hfo, hx]
  have e : (if inFrz C f (some d) = true then fz r else r) = v := hv
  simp only [callC, hb, hc, hm]
  rw [e, hp]
  simp [fresh, put]
end
end Go.Ab
