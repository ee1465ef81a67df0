/-
  The seat's program, with the hints of the abstract machine (written by gen3.py).
-/
import Derived.Test.YtbhpblokoecoaaaAbBT
import Derived.Test.YtbhpblokoecoaaaAbV7
import Derived.KernelRfl
import Derived.Test.YtbhpblokoecoaaaAbV5
import Derived.Test.YtbhpblokoecoaaaAbKids
import Derived.Test.YtbhpblokoecoaaaChecked
namespace Go.Ab
open Go Go.Proofs
def frzT : BT (List Nat) := (.n 48 (.n 27 (.n 10 (.n 6 (.n 4 (.o 3 [1, 4, 6, 13, 18] []) (.o 4 [1, 4, 6, 13, 18] [])) (.n 7 (.o 6 [1, 4, 5, 9, 12, 57, 71, 76] []) (.n 9 (.o 7 [1, 4, 38] []) (.o 9 [1, 5, 7, 9, 12, 42] [])))) (.n 21 (.n 19 (.o 10 [1, 5, 10, 37] []) (.o 19 [1, 9, 26, 48] [])) (.n 24 (.o 21 [2, 3] []) (.n 25 (.o 24 [7] []) (.o 25 [1, 9, 21, 33, 42] []))))) (.n 40 (.n 29 (.n 28 (.o 27 [4, 58, 59, 64, 65] []) (.o 28 [4] [])) (.n 30 (.o 29 [5, 9, 113, 117, 127] []) (.n 31 (.o 30 [4, 7, 88, 108] []) (.o 31 [1] [])))) (.n 45 (.n 41 (.o 40 [5, 18, 23, 82, 92, 96, 102, 109, 114] []) (.n 43 (.o 41 [1, 6] []) (.o 43 [5, 6, 34, 50, 58, 120] []))) (.n 46 (.o 45 [2, 5, 17, 22, 28, 34, 42, 79, 86, 90, 94, 99, 106, 110] []) (.n 47 (.o 46 [2, 29] []) (.o 47 [2, 29] [])))))) (.n 74 (.n 61 (.n 51 (.n 50 (.o 48 [4, 7] []) (.o 50 [5, 37, 47, 48, 53, 54, 59, 60, 81, 113] [])) (.n 53 (.o 51 [6, 55, 60, 76, 79, 87, 92, 102, 107, 113, 116, 135] []) (.n 54 (.o 53 [3, 4, 7, 33, 106, 112, 121, 127, 152, 168, 176, 202] []) (.o 54 [3, 4, 7, 34, 83, 90, 97] [])))) (.n 66 (.n 64 (.o 61 [3] []) (.n 65 (.o 64 [5, 7, 17] []) (.o 65 [1] []))) (.n 72 (.o 66 [5] []) (.n 73 (.o 72 [6, 11, 22, 28] []) (.o 73 [6, 9, 18] []))))) (.n 81 (.n 78 (.n 75 (.o 74 [1] []) (.o 75 [3, 4] [])) (.n 79 (.o 78 [6, 11, 47, 56, 73, 74] []) (.n 80 (.o 79 [6, 8, 20] []) (.o 80 [9, 20] [])))) (.n 84 (.n 82 (.o 81 [5] []) (.n 83 (.o 82 [4, 5] []) (.o 83 [4, 5, 32, 46] []))) (.n 86 (.o 84 [7, 9, 11] []) (.n 94 (.o 86 [3, 7] []) (.o 94 [7] [])))))))
def liveT : BT (List (Nat × List Nat)) := (.n 46 (.n 27 (.n 9 (.n 7 (.o 6 [(9, [1, 2, 3, 5, 6, 44, 45]), (14, [1, 2, 3, 5, 6])] []) (.n 8 (.o 7 [(9, [1, 3, 5, 6, 7]), (14, [1, 3, 5, 6, 8, 9])] []) (.o 8 [(4, [0, 1, 5])] []))) (.n 24 (.n 19 (.o 9 [(9, [1, 2, 3, 6])] []) (.o 19 [(5, [1, 2, 3, 20, 21])] [])) (.n 25 (.o 24 [(2, [0, 4, 8, 9, 10])] []) (.o 25 [(4, [1, 2, 3])] [])))) (.n 31 (.n 29 (.n 28 (.o 27 [(2, [2, 3, 4, 6, 7])] []) (.o 28 [(2, [2, 3, 4, 6, 7])] [])) (.n 30 (.o 29 [(11, [0, 1, 4, 5, 6, 70, 71, 72])] []) (.o 30 [(12, [2, 3, 4, 6, 7, 8, 9, 10])] []))) (.n 41 (.n 40 (.o 31 [(3, [1, 3, 4])] []) (.o 40 [(9, [0, 1, 2, 5, 8, 9])] [])) (.n 45 (.o 41 [(4, [3, 4, 14, 15, 16]), (7, [3, 4, 5, 14, 15, 16, 22, 23, 24])] []) (.o 45 [(9, [2, 5, 8, 9])] []))))) (.n 68 (.n 50 (.n 47 (.o 46 [(3, [1, 2, 5, 6])] []) (.n 48 (.o 47 [(3, [1, 2, 5, 6])] []) (.o 48 [(28, [2, 3, 4, 6, 7, 11, 12])] []))) (.n 54 (.n 53 (.o 50 [(10, [0, 1, 6, 7, 28, 29])] []) (.o 53 [(4, [2, 3, 4, 7, 8, 9])] [])) (.n 63 (.o 54 [(5, [3, 4, 7, 8, 9, 10]), (10, [3, 4, 7, 8, 9, 11])] []) (.o 63 [(4, [0, 14, 15])] [])))) (.n 82 (.n 75 (.n 72 (.o 68 [(2, [0, 1, 2, 7])] []) (.o 72 [(4, [0, 3])] [])) (.n 78 (.o 75 [(3, [2, 3, 4, 7, 8])] []) (.o 78 [(7, [0, 1, 6, 7, 8]), (14, [0, 1, 7, 8, 12, 65, 66])] []))) (.n 99 (.n 98 (.o 82 [(10, [3, 5, 9, 10, 11])] []) (.o 98 [(2, [0, 1, 5])] [])) (.n 102 (.o 99 [(4, [0, 1, 12, 13])] []) (.o 102 [(2, [0, 1, 7, 8])] []))))))
def shrT : BT (List Nat) := (.n 40 (.o 9 [9] []) (.o 40 [9] []))
def ahT : BT (List (Nat × List (Nat × Nat))) := (.n 28 (.n 9 (.n 7 (.o 6 [(7, [(9, 10)]), (22, [(8, 9)])] []) (.o 7 [(19, [(0, 7)])] [])) (.n 19 (.o 9 [(4, [(8, 9)])] []) (.n 23 (.o 19 [(3, [(6, 7)])] []) (.o 23 [(2, [(10, 11)])] [])))) (.n 43 (.n 30 (.o 28 [(4, [(0, 12)])] []) (.n 41 (.o 30 [(14, [(0, 8)])] []) (.o 41 [(9, [(4, 12), (5, 12), (8, 12), (9, 12), (11, 12)])] []))) (.n 66 (.o 43 [(21, [(4, 5), (5, 8)])] []) (.n 79 (.o 66 [(3, [(4, 14), (8, 14)])] []) (.o 79 [(11, [(11, 12)])] [])))))
def cutRT : BT (List (Nat × Bool × List Nat)) := (.n 54 (.n 43 (.n 27 (.n 4 (.o 3 [(5, (false, [2]))] []) (.o 4 [(5, (false, [2]))] [])) (.n 31 (.o 27 [(4, (false, [2, 3, 4, 6, 7, 43]))] []) (.n 40 (.o 31 [(5, (false, [1, 3, 4, 41]))] []) (.o 40 [(11, (true, [0, 1, 2, 5, 8, 9, 62])), (17, (false, [0, 5, 89])), (19, (false, [0, 5, 99]))] [])))) (.n 50 (.n 45 (.o 43 [(17, (false, [0, 1, 4, 5, 7, 72])), (22, (false, [0, 1, 4, 5, 8, 96]))] []) (.n 48 (.o 45 [(2, (false, [1, 2, 5, 30])), (11, (false, [2, 5, 8, 9, 81])), (14, (false, [5, 96])), (16, (false, [5, 108]))] []) (.o 48 [(20, (false, [2, 3, 6, 10, 98])), (30, (false, [2, 3, 4, 6, 7, 11, 12, 152]))] []))) (.n 51 (.o 50 [(12, (false, [0, 1, 6, 7, 28, 29])), (20, (false, [6])), (25, (false, [6]))] []) (.n 53 (.o 51 [(13, (false, [4, 5])), (19, (false, [4, 5])), (21, (false, [4, 5])), (27, (false, [4, 5])), (28, (false, [4, 5]))] []) (.o 53 [(16, (false, [2, 3, 4, 7, 8, 76])), (22, (false, [3, 4, 7, 8, 113])), (24, (false, [3, 4, 7, 8, 137])), (26, (false, [3, 4, 7, 8, 153])), (28, (false, [7, 8, 169])), (30, (false, [8, 185]))] []))))) (.n 73 (.n 64 (.n 59 (.o 54 [(12, (false, [3, 4, 7, 8, 9, 11])), (18, (false, [3, 7, 8, 9])), (22, (false, [3, 7, 8]))] []) (.n 61 (.o 59 [(1, (false, [2]))] []) (.o 61 [(10, (false, [6])), (13, (false, [6])), (15, (false, [6]))] []))) (.n 66 (.o 64 [(13, (false, [4]))] []) (.n 72 (.o 66 [(2, (false, [0, 4, 5]))] []) (.o 72 [(1, (false, [0, 12])), (6, (false, [0, 3, 30]))] [])))) (.n 82 (.n 75 (.o 73 [(5, (false, [4])), (9, (false, [4]))] []) (.n 79 (.o 75 [(5, (false, [2, 3, 4, 7, 8, 44]))] []) (.o 79 [(12, (false, [0, 6, 7, 8, 9])), (13, (false, [4, 5]))] []))) (.n 83 (.o 82 [(3, (false, [50]))] []) (.n 95 (.o 83 [(11, (false, [4, 5, 10, 11, 12])), (12, (false, [4, 5, 10, 11, 12, 57]))] []) (.o 95 [(1, (false, [2]))] []))))))
def cutBT : BT (List (Nat × Bool × List Nat)) := (.n 46 (.n 28 (.n 19 (.n 7 (.o 6 [(0, (false, [1, 2, 3, 5, 6]))] []) (.n 8 (.o 7 [(0, (false, [1, 3, 5, 6])), (2, (false, [1, 3, 5, 6]))] []) (.o 8 [(0, (false, []))] []))) (.n 25 (.n 24 (.o 19 [(0, (false, [1, 2, 3]))] []) (.o 24 [(0, (false, [0, 4]))] [])) (.n 27 (.o 25 [(0, (false, [1, 2]))] []) (.o 27 [(0, (false, [2, 3, 6]))] [])))) (.n 31 (.n 29 (.o 28 [(0, (false, [3, 6]))] []) (.n 30 (.o 29 [(1, (false, [0, 1, 4, 5, 6]))] []) (.o 30 [(0, (false, [2, 3, 4, 6, 7, 8, 9]))] []))) (.n 41 (.n 40 (.o 31 [(0, (false, []))] []) (.o 40 [(0, (true, [0, 1, 2, 5, 8]))] [])) (.n 45 (.o 41 [(0, (false, [4])), (2, (false, [3, 4, 5, 14, 15, 16]))] []) (.o 45 [(0, (false, [5]))] []))))) (.n 68 (.n 50 (.n 47 (.o 46 [(0, (false, [5]))] []) (.n 48 (.o 47 [(0, (false, [5]))] []) (.o 48 [(0, (false, [2, 3, 4, 6, 7, 11]))] []))) (.n 54 (.n 53 (.o 50 [(1, (false, [6]))] []) (.o 53 [(0, (false, [2, 3, 4, 7, 8]))] [])) (.n 63 (.o 54 [(0, (false, [3, 4, 7, 8, 9])), (2, (false, [3, 4, 7, 8, 9]))] []) (.o 63 [(0, (false, []))] [])))) (.n 82 (.n 75 (.n 72 (.o 68 [(0, (false, []))] []) (.o 72 [(0, (false, []))] [])) (.n 78 (.o 75 [(0, (false, [3, 7]))] []) (.o 78 [(3, (false, [7, 8, 12]))] []))) (.n 99 (.n 98 (.o 82 [(0, (false, [5, 9]))] []) (.o 98 [(0, (false, []))] [])) (.n 102 (.o 99 [(0, (false, []))] []) (.o 102 [(0, (false, []))] []))))))
def cutST : BT (List (Nat × Bool × List Nat)) := (.n 60 (.n 48 (.n 43 (.n 30 (.o 29 [(10, (false, [0, 1, 4, 5, 6])), (22, (false, [0, 1, 4, 5]))] []) (.o 30 [(6, (false, [2, 3, 4, 6, 7, 8, 9])), (9, (false, [2, 3, 4, 6, 7, 8, 9])), (11, (false, [2, 3, 4, 6, 7, 8, 9])), (29, (false, [3, 6]))] [])) (.n 47 (.o 43 [(7, (false, [0, 1, 4, 5, 19, 20])), (26, (false, [0, 4, 5]))] []) (.o 47 [(4, (false, [1, 2, 5, 6]))] []))) (.n 53 (.n 50 (.o 48 [(17, (false, [3, 6])), (29, (false, [2, 3, 4, 6, 7, 11, 12])), (36, (false, [2, 3, 4, 6]))] []) (.o 50 [(6, (false, [0, 1, 5, 6, 18, 19])), (9, (false, [0, 1, 5, 6, 7])), (16, (false, [0, 1, 5, 6, 18, 42])), (23, (false, [0, 1, 5, 6, 18, 76])), (32, (false, [6]))] [])) (.n 54 (.o 53 [(35, (false, []))] []) (.o 54 [(13, (false, [3, 4, 7, 8, 9])), (15, (false, [3, 4, 7, 8, 9])), (17, (false, [3, 4, 7, 8, 9])), (19, (false, [3, 7, 8, 9])), (21, (false, [3, 7, 8, 9])), (23, (false, [3, 7, 8]))] [])))) (.n 78 (.n 65 (.n 61 (.o 60 [(5, (false, [4, 5])), (8, (false, [4, 9])), (13, (false, [4, 14])), (18, (false, [4, 17])), (27, (false, [4, 24]))] []) (.o 61 [(13, (false, [1, 2, 15, 67]))] [])) (.n 75 (.o 65 [(10, (false, [1, 4, 50]))] []) (.o 75 [(4, (false, [2, 3, 4, 7, 8]))] []))) (.n 80 (.n 79 (.o 78 [(12, (false, [0, 1, 6, 7, 8]))] []) (.o 79 [(6, (false, [0, 6, 7, 22, 23]))] [])) (.n 83 (.o 80 [(11, (false, [0, 1, 2, 37]))] []) (.o 83 [(7, (false, [3, 4, 5, 9, 10, 11, 12])), (9, (false, [3, 4, 5, 9, 10, 11, 12])), (14, (false, [11, 12]))] [])))))
def lendT : BT (List Nat) := (.n 40 (.n 24 (.o 23 [0] []) (.n 29 (.o 24 [0] []) (.o 29 [0] []))) (.n 43 (.o 40 [0] []) (.n 66 (.o 43 [0] []) (.o 66 [0] []))))
def modesT : BT (List Nat) := (.n 30 (.n 27 (.n 24 (.o 23 [1, 0] []) (.o 24 [1, 0] [])) (.n 28 (.o 27 [1, 0, 0] []) (.n 29 (.o 28 [1, 0, 0] []) (.o 29 [1, 0] [])))) (.n 43 (.n 40 (.o 30 [1, 0, 0] []) (.o 40 [1, 0] [])) (.n 48 (.o 43 [1, 0] []) (.n 66 (.o 48 [1, 0, 0] []) (.o 66 [1, 0] [])))))
def globT (g : Nat) : Option (List AV) :=  none
noncomputable def cx : Cx := { P := Try.prog, glob := globT, ext := fun _ => none, path := fun f => none, zsl := fun f d => bif Nat.beq f 7 then (bif Nat.beq d 6 then [0, 1] else []) else bif Nat.beq f 9 then (bif Nat.beq d 25 then [7] else []) else [], iter := fun f => bif Nat.beq f 42 then some (kidsIt 6 4) else none, lend := lendT.get, modes := modesT.get, shr := fun f i => (shrT.get f).contains i, frz := frzT.get, live := fun f i => look (liveT.get f) i [], ah := fun f i => look (ahT.get f) i [], cutR := fun f i => lookO (cutRT.get f) i, cutB := fun f i => lookO (cutBT.get f) i, cutS := fun f i => lookO (cutST.get f) i }
@[simp] theorem cxP : cx.P = Try.prog := rfl
def okF (C : Cx) (f : Nat) : Bool := match C.P.funcs[f]? with | some fn => (match fn.body with | some c => okC C f c | none => true) | none => true
theorem okF_some {C : Cx} {f : Nat} {fn : Func} {c : Code} (h : okF C f = true) (hf : C.P.funcs[f]? = some fn) (hb : fn.body = some c) : okC C f c = true := by
  unfold okF at h
  rw [hf] at h
  simp only [hb] at h
  exact h
theorem okAll : (List.range 119).all (okF cx) = true := by kernel_rfl
theorem szAll : decide (Try.prog.funcs.size ≤ 119) = true := by kernel_rfl
theorem noAll : (Try.prog.funcs.toList.all fun fn => !(fn.name == "runtime.NumGoroutine")) = true := by kernel_rfl
theorem cxNo0 : NoCount cx.P := fun f fn hf => by
  have := List.all_eq_true.1 noAll fn (by
    have := Array.mem_of_getElem? hf
    simpa using this)
  simpa using this
theorem cxNo : NC cx := ⟨cxNo0, fun k p h => by cases h⟩
theorem cxWide : cx.P.follows .mixedOrders = true := by kernel_rfl
theorem cxLive : ∀ f i, (cx.live f i).Nodup := fun f i => look_all (liveT.all_ok (p := allNd) (by kernel_rfl) f) i
theorem cxCut : CutOk cx := ⟨fun f i b l h => lookO_all (i := i) (cutRT.all_ok (p := allCut) (by kernel_rfl) f) h, fun f i b l h => lookO_all (i := i) (cutBT.all_ok (p := allCut) (by kernel_rfl) f) h, fun f i b l h => lookO_all (i := i) (cutST.all_ok (p := allCut) (by kernel_rfl) f) h⟩
theorem kidsS42 : IterSound cx 42 (kidsIt 6 4) := by
  haveI : Fd cx 24 0 0 1 false := ⟨by kernel_rfl⟩
  haveI : Sz cx 22 false 1 := ⟨by kernel_rfl, by kernel_rfl⟩
  haveI : Ul cx 22 (.slice 44) := ⟨Try.underlying22⟩
  haveI : Sz cx 44 true 6 := ⟨by kernel_rfl, by kernel_rfl⟩
  haveI : Fd cx 44 4 4 1 false := ⟨by kernel_rfl⟩
  haveI : Sz cx 25 false 1 := ⟨by kernel_rfl, by kernel_rfl⟩
  haveI : Ul cx 25 (.slice 3) := ⟨Try.underlying25⟩
  haveI : Sz cx 3 false 1 := ⟨by kernel_rfl, by kernel_rfl⟩
  exact kids_sound (by rfl) cxNo Try.func42 Try.ntmps42 (by rfl) (by rfl)
theorem cxIter : ∀ k it, cx.iter k = some it → IterSound cx k it := fun k it h => by
  have h : (bif Nat.beq k 42 then some (kidsIt 6 4) else none) = some it := h
  cases hb42 : Nat.beq k 42 with
  | true =>
    simp only [hb42, cond_true, Option.some.injEq] at h
    subst h
    rw [Nat.eq_of_beq_eq_true hb42]
    exact kidsS42
  | false =>
    simp only [hb42, cond_false] at h
    cases h
theorem cxGood : Good cx where
  count := cxNo
  wide := cxWide
  live := cxLive
  cut := cxCut
  free := fun f fn c _ hf hb => by
    have hlt : f < 119 := by
      have h1 : f < cx.P.funcs.size := by
        rcases Nat.lt_or_ge f cx.P.funcs.size with h | h
        · exact h
        · rw [Array.getElem?_eq_none h] at hf; cases hf
      have h2 := of_decide_eq_true szAll
      rw [cxP] at h1
      exact Nat.lt_of_lt_of_le h1 h2
    exact okF_some (List.all_eq_true.1 okAll f (List.mem_range.2 hlt)) hf hb
  ext := fun f g args r h => by cases h
  iter := cxIter
end Go.Ab
