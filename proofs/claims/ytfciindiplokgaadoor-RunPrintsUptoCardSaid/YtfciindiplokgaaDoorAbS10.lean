/-
  PLAIN LAW: one step of the two walkers.
-/
/-
  PLAIN LAW: registers set; functions entered.
-/
/-
  PLAIN LAW: a function entered.
-/
/-
  PLAIN LAW: what an instruction makes of two numbers.
-/
/-
  PLAIN LAW: numbers, kind by kind.
-/
/-
  PLAIN LAW: arguments read.
-/
/-
  PLAIN LAW: a jump: where the block one comes from stands among those that lead to it.
-/
/-
  PLAIN LAW: a jump: the phis, done at once.
-/
/-
  PLAIN LAW: a jump.
-/
/-
  PLAIN LAW: a jump, whole.
-/
import Derived.Test.YtfciindiplokgaaDoorAbR10
import Derived.Test.YtfciindiplokgaaDoorAbGen7
namespace Go.Ab
open Go
def cvF (f : XTurneryref2_Frame) : XRun_frame := ⟨f.Fn, f.Block, f.At, f.Regs, f.Dst⟩
def cvW (A : List (List (List Int))) (st : Int) (r : XTurneryref2_Run) : XRun_walker := ⟨r.U, A, r.Mem, r.Input, ⟨st, r.Value, r.Out, r.Steps⟩, (r.Frames.1.map cvF, r.Frames.2), r.Counts⟩
section
variable {α : Type} {l : List α} {n : Nat}
theorem stk_ok (h : n ≤ l.length) : stk (l, n) = some () := if_pos h
theorem w64_pred (h1 : 1 ≤ n) (h3 : n ≤ 1000) : w64 ((n : Int) - 1) = ((n - 1 : Nat) : Int) := by
  rw [w64_id (by omega) (by omega)]; omega
theorem top2 (h1 : 1 ≤ n) (h2 : n ≤ l.length) (h3 : n ≤ 1000) : idx l (w64 ((n : Int) - 1)) = some (l[n - 1]'(by omega)) := by
  rw [w64_pred h1 h3, idx_lt (by omega)]
theorem top5 (h1 : 1 ≤ n) (h2 : n ≤ l.length) : idx l ((n : Int) - 1) = some (l[n - 1]'(by omega)) := by
  rw [show (n : Int) - 1 = ((n - 1 : Nat) : Int) by omega, idx_lt (by omega)]
theorem top3 (h1 : 1 ≤ n) (h2 : n ≤ l.length) (h3 : n ≤ 1000) : lastx l ((n : Int) - 1) = some (l[n - 1]'(by omega)) := by
  unfold lastx; rw [if_pos (by omega)]; exact top5 h1 h2
theorem top1 (h1 : 1 ≤ n) (h2 : n ≤ l.length) (h3 : n ≤ 1000) : idx (l.take n) (w64 ((n : Int) - 1)) = some (l[n - 1]'(by omega)) := by
  have hl : (l.take n).length = n := by simp; omega
  have := top2 (l := l.take n) (n := n) h1 (by omega) h3
  rw [this]; simp
theorem top1' (h1 : 1 ≤ n) (h2 : n ≤ l.length) (h3 : n ≤ 1000) : idx (l.take n) (w64 (((l.take n).length : Int) - 1)) = some (l[n - 1]'(by omega)) := by
  have hl : (l.take n).length = n := by simp; omega
  rw [hl]; exact top1 h1 h2 h3
theorem top4 (h1 : 1 ≤ n) (h2 : n ≤ l.length) (h3 : n ≤ 1000) : lastx (l.take n) (((l.take n).length : Int) - 1) = some (l[n - 1]'(by omega)) := by
  have hl : (l.take n).length = n := by simp; omega
  rw [hl]
  have := top3 (l := l.take n) (n := n) h1 (by omega) h3
  rw [this]; simp
end
structure FrOk (u : XApi_Unit) (f : XTurneryref2_Frame) (fn : XApi_Func) (b : XApi_Block) : Prop where
  hfn : idx u.Funcs f.Fn = some fn
  blk : idx fn.Blocks f.Block = some b
  at0 : 0 ≤ f.At
  at1 : f.At ≤ b.List.length
  regs : (f.Regs.length : Int) = fn.Regs
structure RInv (u : XApi_Unit) (r : XTurneryref2_Run) : Prop where
  hu : r.U = u
  pos : 1 ≤ r.Frames.2
  le : r.Frames.2 ≤ 30
  len : r.Frames.2 ≤ r.Frames.1.length
  fr : ∀ i (h : i < r.Frames.1.length), i < r.Frames.2 → ∃ fn b, FrOk u r.Frames.1[i] fn b
  dst : ∀ i (h : i + 1 < r.Frames.1.length), i + 1 < r.Frames.2 → r.Frames.1[i + 1].Dst < r.Frames.1[i].Regs.length
  mem : r.Mem.length ≤ 2000
  inp : r.Input.length ≤ 30
  out : r.Out.length ≤ 200
  cnt : r.Counts.length = u.Funcs.length
  cnts : ∀ i (h : i < r.Counts.length) (h2 : i < u.Funcs.length), r.Counts[i].length = u.Funcs[i].Blocks.length
  val : r.Value = 0
  state : r.State = -1
section
variable {u : XApi_Unit} {r : XTurneryref2_Run}
def top (r : XTurneryref2_Run) : XTurneryref2_Frame := r.Frames.1.getD (r.Frames.2 - 1) ⟨0, 0, 0, [], 0⟩
theorem RInv.top_eq (h : RInv u r) : r.Frames.1[r.Frames.2 - 1]'(by have := h.pos; have := h.len; omega) = top r := by
  have := h.pos; have := h.len
  unfold top
  rw [List.getD_eq_getElem?_getD, List.getElem?_eq_getElem (by omega)]; rfl
def sget (r : XTurneryref2_Run) (v : XApi_Val) : Int := if v.Reg then (top r).Regs.getD v.N.toNat 0 else v.N
def vOk (r : XTurneryref2_Run) (v : XApi_Val) : Prop := v.Reg = true → 0 ≤ v.N ∧ v.N < (top r).Regs.length
theorem idx_in' {α : Type} {l : List α} {i : Int} {d : α} (h0 : 0 ≤ i) (h1 : i < l.length) : idx l i = some (l.getD i.toNat d) := by
  obtain ⟨k, rfl⟩ : ∃ k : Nat, i = k := ⟨i.toNat, by omega⟩
  have hk : k < l.length := by omega
  rw [idx_lt hk, List.getD_eq_getElem?_getD, Int.toNat_natCast, List.getElem?_eq_getElem hk]; rfl
theorem rget (h : RInv u r) {v : XApi_Val} (hv : vOk r v) : ref2_Run_get r v = some (sget r v) := by
  unfold ref2_Run_get sget
  by_cases hr : v.Reg = true
  · obtain ⟨h0, h1⟩ := hv hr
    rw [if_pos hr, if_pos hr, top1' h.pos h.len (by have := h.le; omega), Option.bind_some, h.top_eq, idx_in' (d := 0) h0 h1]; rfl
  · rw [if_neg hr, if_neg hr]
theorem wget {A : List (List (List Int))} {st : Int} (h : RInv u r) {v : XApi_Val} (hv : vOk r v) : run_walker_val (cvW A st r) v = some (sget r v) := by
  unfold run_walker_val sget cvW
  by_cases hr : v.Reg = true
  · obtain ⟨h0, h1⟩ := hv hr
    have hl := h.len
    have := h.top_eq
    rw [if_pos hr, if_pos hr]
    simp only
    rw [top4 h.pos (by simpa using hl) (by have := h.le; omega), Option.bind_some, List.getElem_map, this]
    show (idx (top r).Regs v.N).bind _ = _
    rw [idx_in' (d := 0) h0 h1]; rfl
  · rw [if_neg hr, if_neg hr]
end
end Go.Ab
namespace Go.Ab
open Go
@[simp] theorem etaR (r : XTurneryref2_Run) : XTurneryref2_Run.mk r.U r.Mem r.Input r.Out (r.Frames.1, r.Frames.2) r.Counts r.State r.Value r.Steps = r := rfl
@[simp] theorem etaW (r : XRun_walker) : XRun_walker.mk r.u r.ahead r.mem r.input r.out (r.frames.1, r.frames.2) r.counts = r := rfl
@[simp] theorem etaO (r : XApi_Outcome) : XApi_Outcome.mk r.State r.Value r.Out r.Steps = r := rfl
structure FInv (r : XTurneryref2_Run) : Prop where
  pos : 1 ≤ r.Frames.2
  le : r.Frames.2 ≤ 30
  len : r.Frames.2 ≤ r.Frames.1.length
theorem RInv.f {u : XApi_Unit} {r : XTurneryref2_Run} (h : RInv u r) : FInv r := ⟨h.pos, h.le, h.len⟩
section
variable {u : XApi_Unit} {r : XTurneryref2_Run} {A : List (List (List Int))} {st : Int}
theorem FInv.top_eq (h : FInv r) : r.Frames.1[r.Frames.2 - 1]'(by have := h.pos; have := h.len; omega) = top r := by
  have := h.pos; have := h.len
  unfold top
  rw [List.getD_eq_getElem?_getD, List.getElem?_eq_getElem (by omega)]; rfl
theorem FInv.stk (h : FInv r) : stk (r.Frames.1, r.Frames.2) = some () := stk_ok h.len
theorem FInv.stkW (h : FInv r) : Go.Ab.stk ((cvW A st r).frames.1, (cvW A st r).frames.2) = some () := stk_ok (by simpa [cvW] using h.len)
theorem FInv.r1 (h : FInv r) : idx (List.take r.Frames.2 r.Frames.1) (w64 ((r.Frames.2 : Int) - 1)) = some (top r) := by
  rw [top1 h.pos h.len (by have := h.le; omega), h.top_eq]
theorem FInv.r2 (h : FInv r) : idx r.Frames.1 (w64 ((r.Frames.2 : Int) - 1)) = some (top r) := by
  rw [top2 h.pos h.len (by have := h.le; omega), h.top_eq]
theorem FInv.w3 (h : FInv r) : lastx (cvW A st r).frames.1 (((cvW A st r).frames.2 : Int) - 1) = some (cvF (top r)) := by
  show lastx (r.Frames.1.map cvF) ((r.Frames.2 : Int) - 1) = _
  rw [top3 h.pos (by simpa using h.len) (by have := h.le; omega), List.getElem_map, h.top_eq]
theorem FInv.w5 (h : FInv r) : idx (cvW A st r).frames.1 (((cvW A st r).frames.2 : Int) - 1) = some (cvF (top r)) := by
  show idx (r.Frames.1.map cvF) ((r.Frames.2 : Int) - 1) = _
  rw [top5 h.pos (by simpa using h.len), List.getElem_map, h.top_eq]
theorem FInv.k (h : FInv r) : (w64 ((r.Frames.2 : Int) - 1)).toNat = r.Frames.2 - 1 := by rw [w64_pred h.pos (by have := h.le; omega)]; rfl
theorem FInv.kW (h : FInv r) : (((cvW A st r).frames.2 : Int) - 1).toNat = r.Frames.2 - 1 := by
  show ((r.Frames.2 : Int) - 1).toNat = _
  have := h.pos; omega
def setTop (r : XTurneryref2_Run) (f : XTurneryref2_Frame) : XTurneryref2_Run := { r with Frames := (r.Frames.1.set (r.Frames.2 - 1) f, r.Frames.2) }
theorem FInv.setTop (h : FInv r) (f : XTurneryref2_Frame) : FInv (setTop r f) := ⟨h.pos, h.le, by simpa [Go.Ab.setTop] using h.len⟩
theorem top_setTop (h : FInv r) (f : XTurneryref2_Frame) : top (setTop r f) = f := by
  have := h.pos; have := h.len
  unfold top setTop
  simp only [List.getD_eq_getElem?_getD]
  rw [List.getElem?_set_self (by omega)]; rfl
theorem cvW_setTop (f : XTurneryref2_Frame) : cvW A st (setTop r f) = { cvW A st r with frames := ((cvW A st r).frames.1.set (r.Frames.2 - 1) (cvF f), (cvW A st r).frames.2) } := by
  simp [cvW, setTop, List.map_set]
def sset (r : XTurneryref2_Run) (d n : Int) : XTurneryref2_Run := if 0 ≤ d then setTop r { top r with Regs := (top r).Regs.set d.toNat n } else r
theorem FInv.sset (h : FInv r) (d n : Int) : FInv (sset r d n) := by unfold Go.Ab.sset; split; exact h.setTop _; exact h
theorem rset (h : FInv r) {d : Int} (n : Int) (hd : d < (top r).Regs.length) : ref2_Run_set r d n = some (sset r d n) := by
  have hJ : ∀ r : XTurneryref2_Run, FInv r → ref2_Run_set_J1 r = some r := fun r h => by
    unfold ref2_Run_set_J1
    simp only [h.stk, Option.bind_some]
  unfold ref2_Run_set Go.Ab.sset
  rw [h.stk, Option.bind_some]
  by_cases h0 : 0 ≤ d
  · rw [if_pos (by simpa using h0), h.r1, Option.bind_some, idx_in' (d := 0) h0 hd, Option.bind_some, h.k, if_pos h0]
    exact hJ _ (h.setTop _)
  · rw [if_neg (by simpa using h0), if_neg h0]
    exact hJ _ h
theorem wset (h : FInv r) {d : Int} (n : Int) (hd : d < (top r).Regs.length) : run_walker_set (cvW A st r) d n = some (cvW A st (sset r d n)) := by
  unfold run_walker_set Go.Ab.sset
  rw [h.stkW, Option.bind_some]
  by_cases h0 : 0 ≤ d
  · rw [if_pos (by simpa using h0), h.w3, Option.bind_some, show (cvF (top r)).regs = (top r).Regs from rfl, idx_in' (d := 0) h0 hd, Option.bind_some, h.kW, if_pos h0, cvW_setTop]
    rfl
  · rw [if_neg (by simpa using h0), if_neg h0]
end
end Go.Ab
namespace Go.Ab
open Go
def lay {α : Type} : Nat → List α → List α → List α
  | _, regs, [] => regs
  | i, regs, x :: l => lay (i + 1) (regs.set i x) l
theorem lay_eq {α : Type} : ∀ (l : List α) (i : Nat) (regs : List α), i + l.length ≤ regs.length → lay i regs l = regs.take i ++ l ++ regs.drop (i + l.length)
  | [], i, regs, h => by simp [lay]
  | x :: l, i, regs, h => by
    simp only [List.length_cons] at h
    rw [lay, lay_eq l (i + 1) (regs.set i x) (by simp; omega)]
    have e1 : (regs.set i x).take (i + 1) = regs.take i ++ [x] := by
      rw [List.take_add_one, List.take_set_of_le (by omega), List.getElem?_set_self (by omega)]; rfl
    have e2 : (regs.set i x).drop (i + 1 + l.length) = regs.drop (i + (l.length + 1)) := by
      rw [List.drop_set_of_lt (by omega), Nat.add_assoc, Nat.add_comm 1]
    rw [e1, e2, List.length_cons]
    simp
theorem lay_cpy {α : Type} (l regs : List α) (h : l.length ≤ regs.length) : lay 0 regs l = cpy regs l := by
  rw [lay_eq l 0 regs (by omega)]
  unfold cpy
  rw [Nat.min_eq_left h]
  simp
theorem run_lay {α : Type} {τ : Type} (e : List α → τ) : ∀ (l : List α) (i : Nat) (regs : List α), run (fun i (s : List α) x => (.inr (s.set i x) : τ ⊕ List α)) e i regs l = e (lay i regs l)
  | [], _, _ => rfl
  | x :: l, i, regs => by simp only [run, lay]; exact run_lay e l (i + 1) _
section
variable {u : XApi_Unit} {r : XTurneryref2_Run} {A : List (List (List Int))} {st : Int}
def r0 : XTurneryref2_Run := XTurneryref2_Run.mk (XApi_Unit.mk [] []) [] [] [] ([], 0) [] 0 0 0
theorem enter_loop (hlen : r.Frames.2 ≤ r.Frames.1.length) (args regs : List Int) (h : args.length ≤ regs.length) (hm : args.length ≤ 1000) :
    Loop (fun (s : (XTurneryref2_Run × XTurneryref2_Run × (List Int) × Int)) => ref2_Run_enter_L1 args s.1 s.2.1 s.2.2.1 s.2.2.2) (r, r0, regs, 0) = some (r, r0, cpy regs args) := by
  have := Loop_run (l := args) (τ := XTurneryref2_Run × XTurneryref2_Run × List Int) (S := XTurneryref2_Run × XTurneryref2_Run × List Int × Int) (fun (s : List Int) i => (r, r0, s, i)) (fun i (s : List Int) x => .inr (s.set i x)) (fun s => (r, r0, s)) (fun _ s => s.length = regs.length) (step := fun s => ref2_Run_enter_L1 args s.1 s.2.1 s.2.2.1 s.2.2.2)
    (fun i s hi hI => by
      refine ⟨?_, by simpa using hI⟩
      have hI : s.length = regs.length := hI
      show ref2_Run_enter_L1 args r r0 s i = _
      unfold ref2_Run_enter_L1
      rw [stk_ok hlen, Option.bind_some, stk_ok (by exact Nat.le_refl _), Option.bind_some]
      rw [if_pos (by simpa using hi), idx_lt hi, Option.bind_some, idx_lt (by omega), Option.bind_some, w64_succ (i := i) (by omega)]
      rfl) (fun s _ => by
      show ref2_Run_enter_L1 args r r0 s (args.length : Int) = _
      unfold ref2_Run_enter_L1
      rw [stk_ok hlen, Option.bind_some, stk_ok (by exact Nat.le_refl _), Option.bind_some]
      rw [if_neg (by simp)]) (s0 := regs) rfl
  rw [this, run_lay, lay_cpy args regs h]
def bump (cs : List (List Int)) (i j : Int) : List (List Int) := cs.set i.toNat ((cs.getD i.toNat []).set j.toNat (w64 ((cs.getD i.toNat []).getD j.toNat 0 + 1)))
theorem mks_ok {α : Type} {n : Int} {z : α} (h0 : 0 ≤ n) (h1 : n ≤ 4294967296) : mks n z = some (List.replicate n.toNat z) := if_pos ⟨h0, h1⟩
def senter (r : XTurneryref2_Run) (fn dst : Int) (regs : Int) (args : List Int) : XTurneryref2_Run :=
  { r with Frames := (r.Frames.1.take r.Frames.2 ++ [⟨fn, 0, 0, cpy (List.replicate regs.toNat 0) args, dst⟩], r.Frames.2 + 1), Counts := bump r.Counts fn 0 }
theorem set_last {α : Type} (l : List α) (x : α) : (l ++ [x]).set l.length x = l ++ [x] := by
  simp [List.set_append]
theorem renter (hlen : r.Frames.2 ≤ r.Frames.1.length) (h1000 : r.Frames.2 ≤ 1000) {fn dst : Int} {args : List Int} {F : XApi_Func} (hF : idx r.U.Funcs fn = some F) (hr0 : 0 ≤ F.Regs) (hr1 : F.Regs ≤ 1000) (ha : (args.length : Int) ≤ F.Regs)
    (hc0 : 0 ≤ fn) (hc1 : fn < r.Counts.length) (hc2 : 0 < (r.Counts.getD fn.toNat []).length) : ref2_Run_enter r fn dst args = some (senter r fn dst F.Regs args) := by
  unfold ref2_Run_enter
  have hl := enter_loop hlen args (List.replicate F.Regs.toNat 0) (by simp; omega) (by omega)
  rw [stk_ok hlen, Option.bind_some, hF, Option.bind_some, mks_ok hr0 (by omega), Option.bind_some]
  refine (congrArg (fun x => Option.bind x _) hl).trans ?_
  rw [Option.bind_some]
  simp only
  rw [stk_ok hlen, Option.bind_some, stk_ok (by exact Nat.le_refl _), Option.bind_some, app_ok (by simp; omega), Option.bind_some, idx_in' (d := []) hc0 hc1, Option.bind_some, idx_in' (d := 0) (by omega) (by omega), Option.bind_some, Option.bind_some]
  have e : (((List.take r.Frames.2 r.Frames.1).length : Nat) : Int).toNat = (List.take r.Frames.2 r.Frames.1).length := by omega
  rw [e, set_last]
  unfold senter bump
  have e2 : (List.take r.Frames.2 r.Frames.1 ++ [XTurneryref2_Frame.mk fn 0 0 (cpy (List.replicate F.Regs.toNat 0) args) dst]).length = r.Frames.2 + 1 := by simp; omega
  rw [e2]
theorem wenter (hlen : r.Frames.2 ≤ r.Frames.1.length) (h1000 : r.Frames.2 ≤ 1000) {fn dst : Int} {args : List Int} {F : XApi_Func} (hF : idx r.U.Funcs fn = some F) (hr0 : 0 ≤ F.Regs) (hr1 : F.Regs ≤ 1000) (_ha : (args.length : Int) ≤ F.Regs)
    (hc0 : 0 ≤ fn) (hc1 : fn < r.Counts.length) (hc2 : 0 < (r.Counts.getD fn.toNat []).length) : run_walker_enter (cvW A st r) fn dst args = some (cvW A st (senter r fn dst F.Regs args)) := by
  unfold run_walker_enter
  rw [show (cvW A st r).counts = r.Counts from rfl]
  have e0 : List.take (cvW A st r).frames.2 (cvW A st r).frames.1 = (r.Frames.1.take r.Frames.2).map cvF := by simp [cvW, List.map_take]
  rw [stk_ok (by simpa [cvW] using hlen), Option.bind_some, show idx (cvW A st r).u.Funcs fn = some F from hF, Option.bind_some, mks_ok hr0 (by omega), Option.bind_some, e0, app_ok (by simp; omega), Option.bind_some,
    idx_in' (d := []) hc0 hc1, Option.bind_some, idx_in' (l := r.Counts.getD fn.toNat []) (i := 0) (d := 0) (by omega) (by omega), Option.bind_some, Option.bind_some]
  have e : (((List.map cvF (List.take r.Frames.2 r.Frames.1)).length : Nat) : Int).toNat = (List.map cvF (List.take r.Frames.2 r.Frames.1)).length := by omega
  rw [e, set_last]
  have e2 : (List.map cvF (List.take r.Frames.2 r.Frames.1) ++ [XRun_frame.mk fn 0 0 (cpy (List.replicate F.Regs.toNat 0) args) dst]).length = r.Frames.2 + 1 := by simp; omega
  rw [e2]
  simp [cvW, senter, bump, cvF]
end
end Go.Ab
namespace Go.Ab
open Go
def strT : List ByteArray := [(ByteArray.mk #[43]), (ByteArray.mk #[45]), (ByteArray.mk #[42]), (ByteArray.mk #[47]), (ByteArray.mk #[37]), (ByteArray.mk #[38]), (ByteArray.mk #[124]), (ByteArray.mk #[94]), (ByteArray.mk #[60, 60]), (ByteArray.mk #[62, 62]), (ByteArray.mk #[61, 61]), (ByteArray.mk #[33, 61]), (ByteArray.mk #[60]), (ByteArray.mk #[60, 61]), (ByteArray.mk #[62]), (ByteArray.mk #[62, 61])]
theorem eq_tab : (List.range 16).all (fun i => (List.range 16).all fun j => ((strT.getD i default).toList == (strT.getD j default).toList) == (i == j)) = true := by decide +kernel
theorem eqT (i j : Nat) (hi : i < 16) (hj : j < 16) : ((strT.getD i default).toList == (strT.getD j default).toList) = (i == j) := by
  have h1 := List.all_eq_true.1 eq_tab i (by simpa using hi)
  have h2 := List.all_eq_true.1 h1 j (by simpa using hj)
  exact eq_of_beq h2
theorem mask_in (b : Int) : 0 ≤ andK .i64 b 63 ∧ andK .i64 b 63 ≤ 63 := by
  unfold andK
  have h : (BitVec.ofInt IntKind.i64.bits b &&& BitVec.ofInt IntKind.i64.bits 63).toNat ≤ 63 := by
    rw [BitVec.toNat_and]
    exact Nat.le_trans Nat.and_le_right (by decide)
  generalize (BitVec.ofInt IntKind.i64.bits b &&& BitVec.ofInt IntKind.i64.bits 63).toNat = x at h
  have : IntKind.i64.wrap (x : Int) = x := w64_id (by omega) (by omega)
  rw [this]; omega
theorem mask_wrap (b : Int) : IntKind.u64.wrap (andK .i64 b 63) = andK .i64 b 63 := by
  have := mask_in b
  generalize andK .i64 b 63 = x at this
  simp only [IntKind.wrap, IntKind.bits, IntKind.signed]
  simp
  omega
theorem not_eq (a : Int) : xorK .i64 (-1) a = w64 (w64 (0 - a) - 1) := by
  have e : (BitVec.ofInt 64 (-1) ^^^ BitVec.ofInt 64 a).toNat = 18446744073709551615 - (BitVec.ofInt 64 a).toNat := by
    rw [show BitVec.ofInt 64 (-1) = BitVec.allOnes 64 by decide, BitVec.allOnes_xor, BitVec.toNat_not]
  unfold xorK
  show IntKind.i64.wrap (((BitVec.ofInt 64 (-1) ^^^ BitVec.ofInt 64 a).toNat : Nat) : Int) = _
  rw [e, BitVec.toNat_ofInt]
  simp only [w64, IntKind.wrap, IntKind.bits, IntKind.signed]
  simp
  omega
end Go.Ab
namespace Go.Ab
open Go
theorem bind_pair (o : Option Int) : ((o.bind fun x => some (x, true)).bind fun x => some (x.1, x.2)) = o.bind fun x => some (x, true) := by cases o <;> rfl
theorem eq16 (s : ByteArray) (i : Nat) (q : ∀ j, j < 16 → (s.toList == (strT.getD j default).toList) = (i == j)) : (s.toList == (ByteArray.mk #[43]).toList) = (i == 0) ∧ (s.toList == (ByteArray.mk #[45]).toList) = (i == 1) ∧ (s.toList == (ByteArray.mk #[42]).toList) = (i == 2) ∧ (s.toList == (ByteArray.mk #[47]).toList) = (i == 3) ∧ (s.toList == (ByteArray.mk #[37]).toList) = (i == 4) ∧ (s.toList == (ByteArray.mk #[38]).toList) = (i == 5) ∧ (s.toList == (ByteArray.mk #[124]).toList) = (i == 6) ∧ (s.toList == (ByteArray.mk #[94]).toList) = (i == 7) ∧ (s.toList == (ByteArray.mk #[60, 60]).toList) = (i == 8) ∧ (s.toList == (ByteArray.mk #[62, 62]).toList) = (i == 9) ∧ (s.toList == (ByteArray.mk #[61, 61]).toList) = (i == 10) ∧ (s.toList == (ByteArray.mk #[33, 61]).toList) = (i == 11) ∧ (s.toList == (ByteArray.mk #[60]).toList) = (i == 12) ∧ (s.toList == (ByteArray.mk #[60, 61]).toList) = (i == 13) ∧ (s.toList == (ByteArray.mk #[62]).toList) = (i == 14) ∧ (s.toList == (ByteArray.mk #[62, 61]).toList) = (i == 15) :=
  ⟨q 0 (by omega), q 1 (by omega), q 2 (by omega), q 3 (by omega), q 4 (by omega), q 5 (by omega), q 6 (by omega), q 7 (by omega), q 8 (by omega), q 9 (by omega), q 10 (by omega), q 11 (by omega), q 12 (by omega), q 13 (by omega), q 14 (by omega), q 15 (by omega)⟩
theorem cas : ∀ (i : Nat) (k : Int), i < 14 → k = i + 2 → i = 0 ∧ k = 2 ∨ i = 1 ∧ k = 3 ∨ i = 2 ∧ k = 4 ∨ i = 3 ∧ k = 5 ∨ i = 4 ∧ k = 6 ∨ i = 5 ∧ k = 7 ∨ i = 6 ∧ k = 8 ∨ i = 7 ∧ k = 9 ∨ i = 8 ∧ k = 10 ∨ i = 9 ∧ k = 11 ∨ i = 10 ∧ k = 12 ∨ i = 11 ∧ k = 13 ∨ i = 12 ∧ k = 14 ∨ i = 13 ∧ k = 15
  | 0, _, _, e => .inl ⟨rfl, e⟩
  | 1, _, _, e => .inr (.inl ⟨rfl, e⟩)
  | 2, _, _, e => .inr (.inr (.inl ⟨rfl, e⟩))
  | 3, _, _, e => .inr (.inr (.inr (.inl ⟨rfl, e⟩)))
  | 4, _, _, e => .inr (.inr (.inr (.inr (.inl ⟨rfl, e⟩))))
  | 5, _, _, e => .inr (.inr (.inr (.inr (.inr (.inl ⟨rfl, e⟩)))))
  | 6, _, _, e => .inr (.inr (.inr (.inr (.inr (.inr (.inl ⟨rfl, e⟩))))))
  | 7, _, _, e => .inr (.inr (.inr (.inr (.inr (.inr (.inr (.inl ⟨rfl, e⟩)))))))
  | 8, _, _, e => .inr (.inr (.inr (.inr (.inr (.inr (.inr (.inr (.inl ⟨rfl, e⟩))))))))
  | 9, _, _, e => .inr (.inr (.inr (.inr (.inr (.inr (.inr (.inr (.inr (.inl ⟨rfl, e⟩)))))))))
  | 10, _, _, e => .inr (.inr (.inr (.inr (.inr (.inr (.inr (.inr (.inr (.inr (.inl ⟨rfl, e⟩))))))))))
  | 11, _, _, e => .inr (.inr (.inr (.inr (.inr (.inr (.inr (.inr (.inr (.inr (.inr (.inl ⟨rfl, e⟩)))))))))))
  | 12, _, _, e => .inr (.inr (.inr (.inr (.inr (.inr (.inr (.inr (.inr (.inr (.inr (.inr (.inl ⟨rfl, e⟩))))))))))))
  | 13, _, _, e => .inr (.inr (.inr (.inr (.inr (.inr (.inr (.inr (.inr (.inr (.inr (.inr (.inr ⟨rfl, e⟩))))))))))))
  | n + 14, _, h, _ => absurd h (by omega)
theorem tab16 (i : Nat) (k : Int) (h : i < 14) (e : k = i + 2) : idx ([(ByteArray.mk #[]), (ByteArray.mk #[]), (ByteArray.mk #[43]), (ByteArray.mk #[45]), (ByteArray.mk #[42]), (ByteArray.mk #[47]), (ByteArray.mk #[37]), (ByteArray.mk #[38]), (ByteArray.mk #[124]), (ByteArray.mk #[94]), (ByteArray.mk #[60, 60]), (ByteArray.mk #[62, 62]), (ByteArray.mk #[61, 61]), (ByteArray.mk #[33, 61]), (ByteArray.mk #[60]), (ByteArray.mk #[60, 61])] : List ByteArray) k = some (strT.getD i default) := by
  obtain ⟨rfl, rfl⟩ | ⟨rfl, rfl⟩ | ⟨rfl, rfl⟩ | ⟨rfl, rfl⟩ | ⟨rfl, rfl⟩ | ⟨rfl, rfl⟩ | ⟨rfl, rfl⟩ | ⟨rfl, rfl⟩ | ⟨rfl, rfl⟩ | ⟨rfl, rfl⟩ | ⟨rfl, rfl⟩ | ⟨rfl, rfl⟩ | ⟨rfl, rfl⟩ | ⟨rfl, rfl⟩ := cas i k h e
  all_goals rfl
set_option maxHeartbeats 4000000 in
theorem two_mid (a b : Int) (i : Nat) (k : Int) (h : i < 14) (e : k = i + 2) : core_Two k a b = ref2_Two k a b := by
  have hx := tab16 i k h e
  have q := eq16 (strT.getD i default) i fun j hj => eqT i j (by omega) hj
  obtain ⟨rfl, rfl⟩ | ⟨rfl, rfl⟩ | ⟨rfl, rfl⟩ | ⟨rfl, rfl⟩ | ⟨rfl, rfl⟩ | ⟨rfl, rfl⟩ | ⟨rfl, rfl⟩ | ⟨rfl, rfl⟩ | ⟨rfl, rfl⟩ | ⟨rfl, rfl⟩ | ⟨rfl, rfl⟩ | ⟨rfl, rfl⟩ | ⟨rfl, rfl⟩ | ⟨rfl, rfl⟩ := cas i k h e
  all_goals
    simp only [core_Two, core_Two_J1, core_Two_1, ref2_Two, ref1_Two, ref1_Two_J1, ref1_Two_J2, ref1_Two_J3, ref1_Two_J4, ref1_Two_J5, ref1_Two_J6, ref1_Two_J7, ref1_Two_J8, ref1_Two_J9, ref1_Two_J10, ref1_Two_J11, ref1_Two_J12, ref1_Two_J13, ref1_Two_J14, ref1_Two_J15, ref1_Two_J16, ref1_truth, bind_pair, hx, q, Nat.reduceBEq, mask_wrap, Option.bind_some, Bool.false_eq_true, if_false, if_true, beq_self_eq_true, Int.reduceBEq]
    try (repeat' split) <;> first | (simp_all [bind_pair]; done) | (simp_all; done)
theorem two_1 (a b : Int) : core_Two 1 a b = ref2_Two 1 a b := by
  simp [core_Two, core_Two_J1, ref2_Two]
theorem two_16 (a b : Int) : core_Two 16 a b = ref2_Two 16 a b := by
  simp [core_Two, core_Two_J1, ref2_Two]
theorem two_17 (a b : Int) : core_Two 17 a b = ref2_Two 17 a b := by
  simp [core_Two, core_Two_J1, not_eq, ref2_Two]
theorem two_eq {op : Int} (a b : Int) (h : inb op 1 17 = true) : core_Two op a b = ref2_Two op a b := by
  simp only [inb, Bool.and_eq_true, decide_eq_true_eq] at h
  by_cases h1 : op = 1
  · subst h1; exact two_1 a b
  by_cases h16 : op = 16
  · subst h16; exact two_16 a b
  by_cases h17 : op = 17
  · subst h17; exact two_17 a b
  exact two_mid a b (op - 2).toNat op (by omega) (by omega)
end Go.Ab
namespace Go.Ab
open Go
theorem run_map {α β τ : Type} (g : α → β) (e : List β → τ) : ∀ (l : List α) (i : Nat) (acc : List β), run (fun _ acc x => (.inr (acc ++ [g x]) : τ ⊕ List β)) e i acc l = e (acc ++ l.map g)
  | [], i, acc => by simp [run]
  | x :: l, i, acc => by
    simp only [run]
    rw [run_map g e l (i + 1) (acc ++ [g x])]
    simp
section
variable {r : XTurneryref2_Run} {A : List (List (List Int))} {st : Int}
theorem FInv.get (h : FInv r) {v : XApi_Val} (hv : vOk r v) : ref2_Run_get r v = some (sget r v) := by
  unfold ref2_Run_get sget
  by_cases hr : v.Reg = true
  · obtain ⟨h0, h1⟩ := hv hr
    rw [if_pos hr, if_pos hr, top1' h.pos h.len (by have := h.le; omega), Option.bind_some, h.top_eq, idx_in' (d := 0) h0 h1]; rfl
  · rw [if_neg hr, if_neg hr]
theorem FInv.getW (h : FInv r) {v : XApi_Val} (hv : vOk r v) : run_walker_val (cvW A st r) v = some (sget r v) := by
  unfold run_walker_val sget cvW
  by_cases hr : v.Reg = true
  · obtain ⟨h0, h1⟩ := hv hr
    have hl := h.len
    have := h.top_eq
    rw [if_pos hr, if_pos hr]
    simp only
    rw [top4 h.pos (by simpa using hl) (by have := h.le; omega), Option.bind_some, List.getElem_map, this]
    show (idx (top r).Regs v.N).bind _ = _
    rw [idx_in' (d := 0) h0 h1]; rfl
  · rw [if_neg hr, if_neg hr]
theorem rargs (h : FInv r) (x : XApi_Ins) (hv : ∀ v ∈ x.Args, vOk r v) (hm : x.Args.length ≤ 1000) :
    Loop (fun (s : (XTurneryref2_Run × XTurneryref2_Run × (List Int) × Int)) => ref2_Run_ins_L1 x s.1 s.2.1 s.2.2.1 s.2.2.2) (r, r0, [], 0) = some (r, r0, x.Args.map (sget r)) := by
  have := Loop_run (l := x.Args) (τ := XTurneryref2_Run × XTurneryref2_Run × List Int) (S := XTurneryref2_Run × XTurneryref2_Run × List Int × Int) (fun (s : List Int) i => (r, r0, s, i)) (fun _ (s : List Int) v => .inr (s ++ [sget r v])) (fun s => (r, r0, s)) (fun i s => s.length = i) (step := fun s => ref2_Run_ins_L1 x s.1 s.2.1 s.2.2.1 s.2.2.2)
    (fun i s hi hI => by
      refine ⟨?_, by simp [hI]⟩
      have hI : s.length = i := hI
      show ref2_Run_ins_L1 x r r0 s i = _
      unfold ref2_Run_ins_L1
      rw [h.stk, Option.bind_some, stk_ok (by exact Nat.le_refl _), Option.bind_some]
      rw [if_pos (by simpa using hi), idx_lt hi, Option.bind_some, etaR, h.get (hv _ (List.getElem_mem hi)), Option.bind_some, app_ok (by simp; omega), Option.bind_some, w64_succ (i := i) (by omega)]) (fun s _ => by
      show ref2_Run_ins_L1 x r r0 s (x.Args.length : Int) = _
      unfold ref2_Run_ins_L1
      rw [h.stk, Option.bind_some, stk_ok (by exact Nat.le_refl _), Option.bind_some]
      rw [if_neg (by simp)]) (s0 := []) rfl
  rw [this, run_map]; simp
theorem wargs (h : FInv r) (x : XApi_Ins) (hv : ∀ v ∈ x.Args, vOk r v) (hm : x.Args.length ≤ 1000) :
    Loop (fun (s : (XRun_walker × (List Int) × Int)) => run_walker_ins_L1 x s.1 s.2.1 s.2.2) (cvW A st r, [], 0) = some (cvW A st r, x.Args.map (sget r)) := by
  have := Loop_run (l := x.Args) (τ := XRun_walker × List Int) (S := XRun_walker × List Int × Int) (fun (s : List Int) i => (cvW A st r, s, i)) (fun _ (s : List Int) v => .inr (s ++ [sget r v])) (fun s => (cvW A st r, s)) (fun i s => s.length = i) (step := fun s => run_walker_ins_L1 x s.1 s.2.1 s.2.2)
    (fun i s hi hI => by
      refine ⟨?_, by simp [hI]⟩
      have hI : s.length = i := hI
      show run_walker_ins_L1 x (cvW A st r) s i = _
      unfold run_walker_ins_L1
      rw [h.stkW, Option.bind_some]
      rw [if_pos (by simpa using hi), idx_lt hi, Option.bind_some, etaW, h.getW (hv _ (List.getElem_mem hi)), Option.bind_some, app_ok (by simp; omega), Option.bind_some, w64_succ (i := i) (by omega)]) (fun s _ => by
      show run_walker_ins_L1 x (cvW A st r) s (x.Args.length : Int) = _
      unfold run_walker_ins_L1
      rw [h.stkW, Option.bind_some]
      rw [if_neg (by simp)]) (s0 := []) rfl
  rw [this, run_map]; simp
end
end Go.Ab
namespace Go.Ab
open Go
section
variable {r : XTurneryref2_Run} {A : List (List (List Int))} {st : Int}
theorem setTop_top (h : FInv r) : setTop r (top r) = r := by
  have h1 := h.pos; have h2 := h.len
  have : r.Frames.1.set (r.Frames.2 - 1) (top r) = r.Frames.1 := by
    rw [← h.top_eq]; simp
  unfold setTop
  rw [this]
theorem rindex (h : FInv r) (f : XTurneryref2_Frame) (l : List Int) {p : Nat} (hp : p < l.length) (hx : l[p] = f.Block) (hn : ∀ j (hj : j < p), l[j] ≠ f.Block) (hm : l.length ≤ 1000) :
    Loop (fun (s : Int) => ref2_Run_jump_L1 r f l s) 0 = some (p : Int) := by
  have step : ∀ i (hi : i < l.length), ref2_Run_jump_L1 r f l i = some (if l[i] != f.Block then .next ((i + 1 : Nat) : Int) else .out (i : Int)) := by
    intro i hi
    unfold ref2_Run_jump_L1
    rw [h.stk, Option.bind_some, h.r2, Option.bind_some, idx_lt hi, Option.bind_some, w64_succ (i := i) (by omega)]
    split <;> simp_all
  have key : ∀ k i, p - i = k → i ≤ p → Loop (fun (s : Int) => ref2_Run_jump_L1 r f l s) (i : Int) = some (p : Int) := by
    intro k
    induction k with
    | zero =>
      intro i hk hi
      obtain rfl : i = p := by omega
      rw [Loop_eq, step i hp, if_neg (by simp [hx])]; rfl
    | succ k ih =>
      intro i hk hi
      rw [Loop_eq, step i (by omega), if_pos (by simpa using hn i (by omega))]
      exact ih (i + 1) (by omega) (by omega)
  exact key _ 0 rfl (by omega)
theorem windex (x : Int) (l : List Int) {p : Nat} (hp : p < l.length) (hx : l[p] = x) (hn : ∀ j (hj : j < p), l[j] ≠ x) (hm : l.length ≤ 1000) :
    slices_Index_int_int l x = some (p : Int) := by
  have step : ∀ i (hi : i < l.length), slices_Index_int_int_L1 l x i = some (if x == l[i] then .out (.ret (i : Int)) else .next ((i + 1 : Nat) : Int)) := by
    intro i hi
    unfold slices_Index_int_int_L1
    rw [lt_dec hi, if_pos rfl, idx_lt hi, Option.bind_some, w64_succ (i := i) (by omega)]
    split <;> simp_all
  have key : ∀ k i, p - i = k → i ≤ p → Loop (fun (s : Int) => slices_Index_int_int_L1 l x s) (i : Int) = some (.ret (p : Int)) := by
    intro k
    induction k with
    | zero =>
      intro i hk hi
      obtain rfl : i = p := by omega
      rw [Loop_eq, step i hp, if_pos (by simp [hx])]; rfl
    | succ k ih =>
      intro i hk hi
      rw [Loop_eq, step i (by omega), if_neg (by simpa using fun e => hn i (by omega) e.symm)]
      exact ih (i + 1) (by omega) (by omega)
  unfold slices_Index_int_int
  have := key _ 0 rfl (by omega)
  simp only [Int.natCast_zero] at this
  rw [this]; rfl
end
end Go.Ab
namespace Go.Ab
open Go
def v0 : XApi_Val := ⟨false, 0⟩
def snext (r : XTurneryref2_Run) (b : XApi_Block) (at_ : Nat) : List Int := b.Phis.map fun p => sget r (p.From.getD at_ v0)
def sregs (next : List Int) : Nat → List XApi_Phi → List Int → List Int
  | _, [], regs => regs
  | i, p :: ps, regs => sregs next (i + 1) ps (regs.set p.Dst.toNat (next.getD i 0))
theorem sregs_len (next : List Int) : ∀ (ps : List XApi_Phi) (i : Nat) (regs : List Int), (sregs next i ps regs).length = regs.length
  | [], _, _ => rfl
  | p :: ps, i, regs => by rw [sregs, sregs_len next ps]; simp
theorem run_sregs {τ : Type} (next : List Int) (e : List Int → τ) : ∀ (ps : List XApi_Phi) (i : Nat) (regs : List Int), run (fun i (regs : List Int) (p : XApi_Phi) => (.inr (regs.set p.Dst.toNat (next.getD i 0)) : τ ⊕ List Int)) e i regs ps = e (sregs next i ps regs)
  | [], _, _ => rfl
  | p :: ps, i, regs => by simp only [run, sregs]; exact run_sregs next e ps (i + 1) _
structure PhOk (r : XTurneryref2_Run) (b : XApi_Block) (at_ : Nat) : Prop where
  len : b.Phis.length ≤ 1000
  frm : ∀ p ∈ b.Phis, at_ < p.From.length
  val : ∀ p ∈ b.Phis, ∀ v ∈ p.From, vOk r v
  dst : ∀ p ∈ b.Phis, 0 ≤ p.Dst ∧ p.Dst < (top r).Regs.length
section
variable {r : XTurneryref2_Run} {A : List (List (List Int))} {st : Int} {b : XApi_Block} {at_ : Nat}
theorem getD_lt {α : Type} {l : List α} {i : Nat} {d : α} (h : i < l.length) : l.getD i d = l[i] := by
  rw [List.getD_eq_getElem?_getD, List.getElem?_eq_getElem h]; rfl
theorem rnext (h : FInv r) (hp : PhOk r b at_) : Loop (fun (s : (Int × (List Int))) => ref2_Run_jump_L2 r (top r) b at_ s.1 s.2) (0, []) = some (snext r b at_) := by
  have e : XTurneryref2_Run.mk r.U r.Mem r.Input r.Out ((List.set r.Frames.1 (w64 ((r.Frames.2 : Int) - 1)).toNat (top r)), r.Frames.2) r.Counts r.State r.Value r.Steps = r := by
    rw [h.k]; exact setTop_top h
  have hl := hp.len
  have := Loop_run (l := b.Phis) (τ := List Int) (S := Int × List Int) (fun (s : List Int) i => (i, s)) (fun _ (s : List Int) p => .inr (s ++ [sget r (p.From.getD at_ v0)])) (fun s => s) (fun i s => s.length = i) (step := fun s => ref2_Run_jump_L2 r (top r) b at_ s.1 s.2)
    (fun i s hi hI => by
      refine ⟨?_, by simp [hI]⟩
      have hI : s.length = i := hI
      have hmem : b.Phis[i] ∈ b.Phis := List.getElem_mem hi
      have ha := hp.frm _ hmem
      show ref2_Run_jump_L2 r (top r) b at_ i s = _
      unfold ref2_Run_jump_L2
      rw [h.stk, Option.bind_some, h.r2, Option.bind_some, lt_dec hi, if_pos rfl, idx_lt hi, Option.bind_some, idx_lt ha, Option.bind_some, e, h.get (hp.val _ hmem _ (List.getElem_mem ha)), Option.bind_some, app_ok (by simp; omega), Option.bind_some, w64_succ (i := i) (by omega), getD_lt ha])
    (fun s _ => by
      show ref2_Run_jump_L2 r (top r) b at_ (b.Phis.length : Int) s = _
      unfold ref2_Run_jump_L2
      rw [h.stk, Option.bind_some, h.r2, Option.bind_some, lt_dec', if_neg (by simp)]) (s0 := []) rfl
  rw [this, run_map]; rfl
theorem wnext (h : FInv r) (hp : PhOk r b at_) : Loop (fun (s : (Int × (List Int))) => run_walker_jump_L1 (cvW A st r) at_ b s.1 s.2) (0, []) = some (snext r b at_) := by
  have hl := hp.len
  have := Loop_run (l := b.Phis) (τ := List Int) (S := Int × List Int) (fun (s : List Int) i => (i, s)) (fun _ (s : List Int) p => .inr (s ++ [sget r (p.From.getD at_ v0)])) (fun s => s) (fun i s => s.length = i) (step := fun s => run_walker_jump_L1 (cvW A st r) at_ b s.1 s.2)
    (fun i s hi hI => by
      refine ⟨?_, by simp [hI]⟩
      have hI : s.length = i := hI
      have hmem : b.Phis[i] ∈ b.Phis := List.getElem_mem hi
      have ha := hp.frm _ hmem
      show run_walker_jump_L1 (cvW A st r) at_ b i s = _
      unfold run_walker_jump_L1
      rw [h.stkW, Option.bind_some, h.w5, Option.bind_some, lt_dec hi, if_pos rfl, idx_lt hi, Option.bind_some, idx_lt ha, Option.bind_some, etaW, h.getW (hp.val _ hmem _ (List.getElem_mem ha)), Option.bind_some, app_ok (by simp; omega), Option.bind_some, w64_succ (i := i) (by omega), getD_lt ha])
    (fun s _ => by
      show run_walker_jump_L1 (cvW A st r) at_ b (b.Phis.length : Int) s = _
      unfold run_walker_jump_L1
      rw [h.stkW, Option.bind_some, h.w5, Option.bind_some, lt_dec', if_neg (by simp)]) (s0 := []) rfl
  rw [this, run_map]; rfl
theorem rphis (h : FInv r) (hp : PhOk r b at_) : Loop (fun (s : (Int × (List Int))) => ref2_Run_jump_L3 r b (snext r b at_) s.1 s.2) (0, (top r).Regs) = some (sregs (snext r b at_) 0 b.Phis (top r).Regs) := by
  have hl := hp.len
  have hn : (snext r b at_).length = b.Phis.length := by simp [snext]
  have := Loop_run (l := b.Phis) (τ := List Int) (S := Int × List Int) (fun (s : List Int) i => (i, s)) (fun i (s : List Int) p => .inr (s.set p.Dst.toNat ((snext r b at_).getD i 0))) (fun s => s) (fun _ s => s.length = (top r).Regs.length) (step := fun s => ref2_Run_jump_L3 r b (snext r b at_) s.1 s.2)
    (fun i s hi hI => by
      refine ⟨?_, by simpa using hI⟩
      have hI : s.length = (top r).Regs.length := hI
      have hmem : b.Phis[i] ∈ b.Phis := List.getElem_mem hi
      obtain ⟨d0, d1⟩ := hp.dst _ hmem
      show ref2_Run_jump_L3 r b (snext r b at_) i s = _
      unfold ref2_Run_jump_L3
      rw [h.stk, Option.bind_some, h.r2, Option.bind_some, lt_dec hi, if_pos rfl, idx_lt hi, Option.bind_some, idx_lt (by omega), Option.bind_some, idx_in' (d := 0) d0 (by omega), Option.bind_some, w64_succ (i := i) (by omega), getD_lt (l := snext r b at_) (by omega)])
    (fun s _ => by
      show ref2_Run_jump_L3 r b (snext r b at_) (b.Phis.length : Int) s = _
      unfold ref2_Run_jump_L3
      rw [h.stk, Option.bind_some, h.r2, Option.bind_some, lt_dec', if_neg (by simp)]) (s0 := (top r).Regs) rfl
  rw [this, run_sregs]
end
end Go.Ab
namespace Go.Ab
open Go
section
variable {r : XTurneryref2_Run} {A : List (List (List Int))} {st : Int} {b : XApi_Block} {at_ : Nat}
def frW (r : XTurneryref2_Run) (regs : List Int) : List XRun_frame := (r.Frames.1.map cvF).set (r.Frames.2 - 1) (cvF ⟨(top r).Fn, (top r).Block, (top r).At, regs, (top r).Dst⟩)
theorem frW_len (regs : List Int) : (frW r regs).length = r.Frames.1.length := by simp [frW]
theorem frW_top (h : FInv r) : frW r (top r).Regs = r.Frames.1.map cvF := by
  have h1 := h.pos; have h2 := h.len
  unfold frW
  have e : cvF ⟨(top r).Fn, (top r).Block, (top r).At, (top r).Regs, (top r).Dst⟩ = (r.Frames.1.map cvF)[r.Frames.2 - 1]'(by simp; omega) := by
    rw [List.getElem_map, h.top_eq]
  rw [e]; exact List.set_getElem_self _
theorem frW_get (h : FInv r) (regs : List Int) : idx (frW r regs) (((cvW A st r).frames.2 : Int) - 1) = some (cvF ⟨(top r).Fn, (top r).Block, (top r).At, regs, (top r).Dst⟩) := by
  have h1 := h.pos; have h2 := h.len
  show idx (frW r regs) ((r.Frames.2 : Int) - 1) = _
  rw [top5 h.pos (by rw [frW_len]; exact h2)]
  unfold frW
  rw [List.getElem_set_self]
theorem wphis (h : FInv r) (hp : PhOk r b at_) : Loop (fun (s : (Int × (List XRun_frame))) => run_walker_jump_L2 (cvW A st r) b (snext r b at_) s.1 s.2) (0, (cvW A st r).frames.1) = some (frW r (sregs (snext r b at_) 0 b.Phis (top r).Regs)) := by
  have hl := hp.len
  have hn : (snext r b at_).length = b.Phis.length := by simp [snext]
  have hs : ∀ regs, stk (frW r regs, (cvW A st r).frames.2) = some () := fun regs => stk_ok (by rw [frW_len]; exact h.len)
  have := Loop_run (l := b.Phis) (τ := List XRun_frame) (S := Int × List XRun_frame) (fun (s : List Int) i => (i, frW r s)) (fun i (s : List Int) p => .inr (s.set p.Dst.toNat ((snext r b at_).getD i 0))) (fun s => frW r s) (fun _ s => s.length = (top r).Regs.length) (step := fun s => run_walker_jump_L2 (cvW A st r) b (snext r b at_) s.1 s.2)
    (fun i s hi hI => by
      refine ⟨?_, by simpa using hI⟩
      have hI : s.length = (top r).Regs.length := hI
      have hmem : b.Phis[i] ∈ b.Phis := List.getElem_mem hi
      obtain ⟨d0, d1⟩ := hp.dst _ hmem
      show run_walker_jump_L2 (cvW A st r) b (snext r b at_) i (frW r s) = _
      unfold run_walker_jump_L2
      rw [hs, Option.bind_some, frW_get h, Option.bind_some, lt_dec hi, if_pos rfl, idx_lt hi, Option.bind_some, idx_lt (by omega), Option.bind_some, show (cvF ⟨(top r).Fn, (top r).Block, (top r).At, s, (top r).Dst⟩).regs = s from rfl, idx_in' (d := 0) d0 (by omega), Option.bind_some, w64_succ (i := i) (by omega), getD_lt (l := snext r b at_) (by omega), h.kW]
      unfold frW
      rw [List.set_set]
      rfl)
    (fun s _ => by
      show run_walker_jump_L2 (cvW A st r) b (snext r b at_) (b.Phis.length : Int) (frW r s) = _
      unfold run_walker_jump_L2
      rw [hs, Option.bind_some, frW_get h, Option.bind_some, lt_dec', if_neg (by simp)]) (s0 := (top r).Regs) rfl
  rw [frW_top h] at this
  refine Eq.trans this ?_
  rw [run_sregs]
end
end Go.Ab
namespace Go.Ab
open Go
section
variable {r : XTurneryref2_Run} {A : List (List (List Int))} {st : Int} {b : XApi_Block} {p : Nat} {F : XApi_Func} {to : Int} {al : List Int}
def sjump (r : XTurneryref2_Run) (b : XApi_Block) (p : Nat) (to : Int) : XTurneryref2_Run :=
  { setTop r ⟨(top r).Fn, to, 0, sregs (snext r b p) 0 b.Phis (top r).Regs, (top r).Dst⟩ with Counts := bump r.Counts (top r).Fn to }
theorem rjump (h : FInv r) (hF : idx r.U.Funcs (top r).Fn = some F) (hb : idx F.Blocks to = some b) (hA : ref2_Ahead F to = some al) (hp : p < al.length) (hx : al[p] = (top r).Block) (hn : ∀ j (hj : j < p), al[j] ≠ (top r).Block) (hm : al.length ≤ 1000)
    (hph : PhOk r b p) (c0 : 0 ≤ (top r).Fn) (c1 : (top r).Fn < r.Counts.length) (t0 : 0 ≤ to) (t1 : to < (r.Counts.getD (top r).Fn.toNat []).length) : ref2_Run_jump r to = some (sjump r b p to) := by
  unfold ref2_Run_jump
  rw [h.stk, Option.bind_some, h.r1, Option.bind_some, hF, Option.bind_some, hb, Option.bind_some, Option.bind_some, hA, Option.bind_some, rindex h (top r) al hp hx hn hm, Option.bind_some, Option.bind_some, h.r2, Option.bind_some,
    rnext h hph, Option.bind_some, Option.bind_some, Option.bind_some, rphis h hph, Option.bind_some, Option.bind_some, Option.bind_some, Option.bind_some, Option.bind_some, idx_in' (d := []) c0 c1, Option.bind_some, idx_in' (d := 0) t0 t1, Option.bind_some, Option.bind_some, h.k]
  rfl
theorem wjump (h : FInv r) (hF : idx r.U.Funcs (top r).Fn = some F) (hb : idx F.Blocks to = some b) {tab : List (List Int)} (hT : idx A (top r).Fn = some tab) (hA : idx tab to = some al) (hp : p < al.length) (hx : al[p] = (top r).Block) (hn : ∀ j (hj : j < p), al[j] ≠ (top r).Block) (hm : al.length ≤ 1000)
    (hph : PhOk r b p) (c0 : 0 ≤ (top r).Fn) (c1 : (top r).Fn < r.Counts.length) (t0 : 0 ≤ to) (t1 : to < (r.Counts.getD (top r).Fn.toNat []).length) : run_walker_jump (cvW A st r) to = some (cvW A st (sjump r b p to)) := by
  unfold run_walker_jump
  have hs : ∀ regs, stk (frW r regs, (cvW A st r).frames.2) = some () := fun regs => stk_ok (by rw [frW_len]; exact h.len)
  have hw := wphis (A := A) (st := st) h hph
  rw [h.stkW, Option.bind_some, h.w3, Option.bind_some, show idx (cvW A st r).ahead (cvF (top r)).fn = some tab from hT, Option.bind_some, hA, Option.bind_some, show slices_Index_int_int al (cvF (top r)).block = some (p : Int) from windex _ al hp hx hn hm, Option.bind_some,
    show idx (cvW A st r).u.Funcs (cvF (top r)).fn = some F from hF, Option.bind_some, hb, Option.bind_some, wnext h hph, Option.bind_some, Option.bind_some, h.w5, Option.bind_some, hw, Option.bind_some, hs, Option.bind_some, frW_get h, Option.bind_some,
    show (cvW A st r).counts = r.Counts from rfl, show (cvF ⟨(top r).Fn, (top r).Block, (top r).At, sregs (snext r b p) 0 b.Phis (top r).Regs, (top r).Dst⟩).fn = (top r).Fn from rfl, idx_in' (d := []) c0 c1, Option.bind_some, idx_in' (d := 0) t0 t1, Option.bind_some, Option.bind_some, h.kW, List.set_set]
  unfold frW
  rw [List.set_set]
  simp [cvW, sjump, setTop, bump, cvF, List.map_set]
end
end Go.Ab
