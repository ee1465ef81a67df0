/-
  The seat's program, with the hints of the abstract machine (written by gen3.py).
-/
import Derived.Test.YtfciindiplokgaaDoorAbBT
import Derived.Test.YtfciindiplokgaaDoorAbV7
import Derived.KernelRfl
import Derived.Test.YtfciindiplokgaaDoorAbTop
import Derived.Test.YtfciindiplokgaaDoorAbV5
import Derived.Test.YtfciindiplokgaaDoorChecked
namespace Go.Ab
open Go Go.Proofs
def frzT : BT (List Nat) := (.n 40 (.n 19 (.n 9 (.n 6 (.n 4 (.o 3 [3, 8, 9, 11, 12, 14, 16, 22, 31, 37, 40, 45, 52, 84] []) (.n 5 (.o 4 [4, 10, 11, 12, 13, 14, 18, 22, 29, 38] []) (.o 5 [3, 9, 10, 20, 24, 30, 89, 120] []))) (.n 7 (.o 6 [3, 9, 10, 17, 21, 27, 88] []) (.n 8 (.o 7 [4, 10, 11, 12, 13, 19, 23, 27, 43, 50, 108] []) (.o 8 [1, 25] [])))) (.n 14 (.n 12 (.o 9 [1, 32, 55, 74, 81] []) (.n 13 (.o 12 [3, 10] []) (.o 13 [3, 9, 12, 14, 16, 30, 81, 90, 111, 112, 121, 123] []))) (.n 16 (.n 15 (.o 14 [2, 3] []) (.o 15 [3, 15, 57, 82] [])) (.n 17 (.o 16 [25] []) (.o 17 [1, 2, 4, 5, 7, 8, 12, 13, 43, 48, 49] []))))) (.n 29 (.n 23 (.n 20 (.o 19 [2, 41] []) (.n 22 (.o 20 [1] []) (.o 22 [3, 7, 15, 21, 24] []))) (.n 25 (.n 24 (.o 23 [2, 5, 13, 22, 25, 32, 38, 42] []) (.o 24 [2, 3, 8] [])) (.n 26 (.o 25 [1] []) (.o 26 [1, 6, 9, 10, 13, 14, 39, 45, 49, 72, 92, 101, 116, 125] [])))) (.n 34 (.n 31 (.o 29 [2, 6, 18] []) (.n 32 (.o 31 [16] []) (.o 32 [1] []))) (.n 37 (.n 35 (.o 34 [4] []) (.o 35 [2, 3] [])) (.n 38 (.o 37 [3, 23] []) (.o 38 [3, 33, 78, 79, 124, 133] [])))))) (.n 58 (.n 49 (.n 44 (.n 41 (.o 40 [6, 11, 22, 28] []) (.n 43 (.o 41 [4] []) (.o 43 [2, 3, 8, 33, 63] []))) (.n 47 (.n 45 (.o 44 [3, 5, 14, 21, 27] []) (.o 45 [3, 4, 5, 10, 17, 27, 39, 65, 72, 87, 93, 104, 120] [])) (.n 48 (.o 47 [7] []) (.o 48 [2, 7, 30, 37, 42, 51, 59] [])))) (.n 53 (.n 50 (.o 49 [4, 7, 9, 12, 32] []) (.n 51 (.o 50 [1] []) (.o 51 [1, 5, 35] []))) (.n 55 (.n 54 (.o 53 [3, 16, 22, 29, 35, 41, 43, 77] []) (.o 54 [3, 9, 20, 28, 39, 50, 74, 95, 96, 105, 132, 151] [])) (.n 56 (.o 55 [7, 41, 69, 70] []) (.o 56 [2, 3] []))))) (.n 72 (.n 68 (.n 62 (.o 58 [21] []) (.n 63 (.o 62 [2, 3] []) (.o 63 [2, 17] []))) (.n 70 (.n 69 (.o 68 [2, 3, 8, 23] []) (.o 69 [3, 5, 9] [])) (.n 71 (.o 70 [2, 3, 5, 6, 10, 14, 84] []) (.o 71 [9, 11, 31, 62] [])))) (.n 78 (.n 76 (.o 72 [3] []) (.n 77 (.o 76 [7] []) (.o 77 [10] []))) (.n 84 (.n 79 (.o 78 [2, 3, 14] []) (.o 79 [2, 10] [])) (.n 88 (.o 84 [5, 18] []) (.o 88 [16] [])))))))
def liveT : BT (List (Nat × List Nat)) := (.n 40 (.n 18 (.n 9 (.n 7 (.n 6 (.o 5 [(13, [2, 3, 8, 9, 11, 12]), (20, [2, 3, 8, 9, 11, 12, 13, 14, 15]), (30, [2, 3, 8, 9, 11, 12, 13, 14, 15, 17, 18, 19])] []) (.o 6 [(12, [3, 8, 11]), (17, [3, 8, 11, 12]), (23, [3, 8, 11, 12, 13, 14, 15, 16])] [])) (.n 8 (.o 7 [(12, [4, 10, 12, 14, 15]), (15, [4, 10, 12, 14, 15, 16]), (18, [4, 10, 12, 14, 15, 16, 17])] []) (.o 8 [(2, [1, 3])] []))) (.n 15 (.n 13 (.o 9 [(5, [1, 2, 3, 4]), (12, [1, 2, 6]), (18, [1, 2, 8])] []) (.o 13 [(10, [2, 3, 7, 8, 10, 39, 40, 41]), (16, [2, 3, 7, 8, 10, 71, 72, 73]), (23, [2, 7, 8, 10])] [])) (.n 16 (.o 15 [(3, [2, 3, 7, 8, 9]), (6, [2, 3, 7, 8, 9, 10]), (13, [2, 3, 7, 8, 12]), (17, [2, 3, 7, 8])] []) (.o 16 [(4, [0, 1, 5])] [])))) (.n 25 (.n 20 (.n 19 (.o 18 [(4, [0, 1, 5])] []) (.o 19 [(3, [1, 2, 5, 6]), (6, [1, 2, 5, 6, 7])] [])) (.n 24 (.o 20 [(3, [1, 3, 4])] []) (.o 24 [(2, [2, 3, 5]), (8, [2, 3, 7]), (12, [2, 3, 7, 8, 9]), (18, [2, 3, 7, 8, 11])] []))) (.n 31 (.n 26 (.o 25 [(2, [1, 3])] []) (.o 26 [(6, [1, 2, 3, 4, 29, 30, 31]), (25, [1, 2, 3, 80, 81, 82]), (34, [1, 2, 105, 106, 107])] [])) (.n 36 (.o 31 [(2, [0, 1, 7, 8])] []) (.n 38 (.o 36 [(3, [1, 2, 3, 4, 8, 9, 10])] []) (.o 38 [(17, [2, 3, 4, 7, 8])] [])))))) (.n 55 (.n 48 (.n 43 (.n 41 (.o 40 [(4, [0, 3])] []) (.o 41 [(2, [1, 2, 3, 4, 9]), (7, [2, 3, 4, 10])] [])) (.n 46 (.o 43 [(6, [2, 3, 5])] []) (.o 46 [(4, [0, 14, 15])] []))) (.n 51 (.n 49 (.o 48 [(3, [1, 2, 5, 10, 11, 12])] []) (.o 49 [(2, [1, 16, 17, 18]), (10, [1, 36, 37, 38]), (13, [1, 6, 7, 36, 37, 38, 44, 45, 46]), (20, [1, 36, 37, 38, 59, 60, 61])] [])) (.n 54 (.o 51 [(3, [3, 13, 14, 15]), (6, [3, 4, 13, 14, 15, 22, 23, 24])] []) (.o 54 [(19, [0, 3, 7, 86, 87, 88])] [])))) (.n 71 (.n 67 (.n 63 (.o 55 [(6, [1, 2, 4, 5, 6, 7, 8, 9]), (10, [1, 2, 4, 5, 6, 7, 9, 10, 11]), (14, [1, 2, 4, 5, 6, 7, 10, 12])] []) (.o 63 [(2, [1, 2, 5])] [])) (.n 69 (.o 67 [(2, [0, 1, 7, 8])] []) (.o 69 [(9, [3, 31, 32, 33])] []))) (.n 84 (.n 81 (.o 71 [(5, [0, 1, 4, 5, 6, 7, 48, 49, 50]), (10, [0, 1, 4, 7, 65, 66, 67])] []) (.o 81 [(2, [6, 7, 8])] [])) (.n 85 (.o 84 [(8, [2, 34, 35, 36])] []) (.n 88 (.o 85 [(2, [0, 1, 7, 8])] []) (.o 88 [(2, [0, 1, 7, 8])] [])))))))
def shrT : BT (List Nat) := (.n 71 (.o 55 [6, 10, 14] []) (.o 71 [5, 10] []))
def ahT : BT (List (Nat × List (Nat × Nat))) := (.n 53 (.n 34 (.n 15 (.o 13 [(12, [(4, 10)]), (13, [(4, 14)]), (20, [(4, 13), (9, 10)])] []) (.o 15 [(15, [(1, 13), (10, 11)]), (16, [(0, 4)]), (23, [(11, 12)]), (27, [(0, 8)])] [])) (.n 38 (.o 34 [(2, [(18, 19)]), (7, [(6, 10)])] []) (.o 38 [(8, [(6, 8), (7, 8)])] []))) (.n 55 (.n 54 (.o 53 [(10, [(4, 14), (8, 14)])] []) (.o 54 [(13, [(6, 10), (8, 10), (9, 10)])] [])) (.n 71 (.o 55 [(16, [(12, 13)])] []) (.o 71 [(12, [(3, 10), (3, 11), (10, 11)]), (15, [(8, 9), (9, 11), (9, 12), (9, 14), (9, 15), (11, 15), (12, 15), (14, 15)])] []))))
def cutRT : BT (List (Nat × Bool × List Nat)) := (.n 35 (.n 7 (.n 5 (.n 4 (.o 3 [(6, (false, [1, 2, 3, 7, 39])), (13, (false, [6])), (15, (false, [6]))] []) (.o 4 [(4, (false, [1, 2, 3, 4, 24])), (12, (false, [8]))] [])) (.n 6 (.o 5 [(33, (false, [2, 3, 8, 9, 11, 12, 13, 14, 15, 151]))] []) (.o 6 [(26, (false, [3, 8, 11, 12, 13, 14, 15, 16])), (27, (false, [3, 8, 11, 12, 136]))] []))) (.n 17 (.n 8 (.o 7 [(4, (false, [1, 2, 3, 4, 38])), (24, (false, [10, 12, 14, 144])), (26, (false, [10, 12, 14, 170])), (28, (false, [8]))] []) (.o 8 [(4, (false, [1, 3, 27]))] [])) (.n 23 (.o 17 [(3, (false, [0]))] []) (.o 23 [(6, (false, [5, 34])), (8, (false, [44]))] [])))) (.n 48 (.n 43 (.n 40 (.o 35 [(1, (false, [4]))] []) (.o 40 [(1, (false, [0, 12])), (6, (false, [0, 3, 30]))] [])) (.n 45 (.o 43 [(10, (false, [2, 3, 59]))] []) (.o 45 [(4, (false, [3, 4, 5, 7, 62])), (6, (false, [3, 4, 5, 7, 83])), (8, (false, [3, 4, 5, 7, 95]))] []))) (.n 68 (.n 62 (.o 48 [(11, (false, [2, 5, 38]))] []) (.o 62 [(1, (false, [4]))] [])) (.n 78 (.o 68 [(7, (false, [2, 3, 24]))] []) (.o 78 [(1, (false, [16]))] [])))))
def cutBT : BT (List (Nat × Bool × List Nat)) := (.n 40 (.n 18 (.n 9 (.n 7 (.n 6 (.o 5 [(0, (false, [9, 11])), (2, (false, [2, 3, 8, 9, 11, 12, 13, 14])), (4, (false, [2, 3, 8, 9, 11, 12, 13, 14, 15, 18]))] []) (.o 6 [(0, (false, [])), (2, (false, [3, 8, 11])), (4, (false, [3, 8, 11, 12, 14, 15]))] [])) (.n 8 (.o 7 [(0, (false, [10, 12, 14])), (2, (false, [4, 10, 12, 14, 15])), (4, (false, [4, 10, 12, 14, 15, 16]))] []) (.o 8 [(0, (false, [1]))] []))) (.n 15 (.n 13 (.o 9 [(0, (false, [1, 2])), (2, (false, [1, 2])), (4, (false, [1, 2]))] []) (.o 13 [(0, (false, [2, 3, 7, 8, 10])), (2, (false, [2, 3, 7, 8, 10])), (4, (false, [7, 8, 10]))] [])) (.n 16 (.o 15 [(0, (false, [2, 3, 7, 8])), (2, (false, [2, 3, 7, 8, 9])), (4, (false, [2, 3, 7, 8])), (6, (false, [7, 8]))] []) (.o 16 [(0, (false, []))] [])))) (.n 25 (.n 20 (.n 19 (.o 18 [(0, (false, []))] []) (.o 19 [(0, (false, [5])), (2, (false, [1, 2, 5, 6]))] [])) (.n 24 (.o 20 [(0, (false, [3]))] []) (.o 24 [(0, (false, [2, 3])), (2, (false, [])), (4, (false, [2, 3, 7, 8])), (6, (false, [2, 3, 7]))] []))) (.n 31 (.n 26 (.o 25 [(0, (false, []))] []) (.o 26 [(0, (false, [1, 2, 3])), (3, (false, [1, 2])), (5, (false, [1, 2]))] [])) (.n 36 (.o 31 [(0, (false, []))] []) (.n 38 (.o 36 [(0, (false, [1, 2, 4, 8, 9]))] []) (.o 38 [(0, (false, [2, 3, 4, 7]))] [])))))) (.n 55 (.n 48 (.n 43 (.n 41 (.o 40 [(0, (false, []))] []) (.o 41 [(0, (false, [2, 3, 4])), (2, (false, []))] [])) (.n 46 (.o 43 [(0, (false, [2, 3]))] []) (.o 46 [(0, (false, []))] []))) (.n 51 (.n 49 (.o 48 [(0, (false, [1, 2, 5]))] []) (.o 49 [(0, (false, [1])), (2, (false, [])), (4, (false, [1, 7, 36, 37, 38])), (6, (false, [1, 36, 37, 38]))] [])) (.n 54 (.o 51 [(0, (false, [3])), (2, (false, [3, 13, 14, 15]))] []) (.o 54 [(1, (false, [0, 3, 7]))] [])))) (.n 71 (.n 67 (.n 63 (.o 55 [(0, (true, [1, 2, 4, 5, 6, 7, 9])), (2, (true, [1, 2, 4, 5, 6, 7, 10])), (4, (true, [1, 2, 4, 5, 6]))] []) (.o 63 [(0, (false, []))] [])) (.n 69 (.o 67 [(0, (false, []))] []) (.o 69 [(0, (false, []))] []))) (.n 84 (.n 81 (.o 71 [(0, (true, [0, 1, 4, 6, 7])), (2, (true, [0, 1, 4]))] []) (.o 81 [(0, (false, []))] [])) (.n 85 (.o 84 [(1, (false, []))] []) (.n 88 (.o 85 [(0, (false, []))] []) (.o 88 [(0, (false, []))] [])))))))
def cutST : BT (List (Nat × Bool × List Nat)) := (.n 53 (.n 15 (.n 5 (.o 3 [(6, (false, [1, 2, 3, 7])), (8, (false, [1, 2, 3, 7]))] []) (.o 5 [(27, (false, [2, 3, 8, 9, 11, 12, 13, 14, 15]))] [])) (.n 19 (.o 15 [(11, (false, [2, 3, 7, 8, 9, 10, 11]))] []) (.n 26 (.o 19 [(7, (false, [1, 2, 5, 6, 7]))] []) (.o 26 [(19, (false, [1, 2, 3, 4, 5, 6, 7, 29, 30, 31]))] [])))) (.n 70 (.n 54 (.o 53 [(15, (false, [0]))] []) (.n 57 (.o 54 [(9, (false, [0, 3, 5, 6, 22, 40])), (29, (false, [0, 3, 10])), (34, (false, [0]))] []) (.o 57 [(3, (false, [3, 6]))] []))) (.n 74 (.o 70 [(11, (false, [2, 3, 6]))] []) (.n 75 (.o 74 [(13, (false, [0, 1, 2, 8, 9, 28]))] []) (.o 75 [(6, (false, [0, 1, 2, 8])), (8, (false, [0, 1, 2, 8])), (10, (false, [0, 1, 2, 8])), (12, (false, [0, 1, 2, 8])), (14, (false, [0, 1, 2, 8])), (16, (false, [0, 1, 2, 8])), (18, (false, [0, 1, 2, 8])), (20, (false, [0, 1, 2, 8])), (22, (false, [0, 1, 2, 8])), (24, (false, [0, 1, 2, 8])), (26, (false, [0, 1, 2, 8])), (28, (false, [0, 1, 2, 8])), (30, (false, [0, 1, 2, 8])), (32, (false, [0, 1, 2, 8])), (34, (false, [0, 1, 2, 8])), (36, (false, [8]))] [])))))
def lendT : BT (List Nat) := (.n 53 (.n 33 (.o 30 [0] []) (.n 34 (.o 33 [0] []) (.o 34 [0] []))) (.n 71 (.n 54 (.o 53 [0] []) (.o 54 [0] [])) (.n 73 (.o 71 [0] []) (.o 73 [0] []))))
def modesT : BT (List Nat) := (.n 53 (.n 36 (.n 33 (.o 30 [1, 0, 0, 2] []) (.n 34 (.o 33 [1, 0] []) (.o 34 [1] []))) (.n 37 (.o 36 [1, 0, 0, 2] []) (.n 38 (.o 37 [1, 0] []) (.o 38 [1, 0] [])))) (.n 57 (.n 54 (.o 53 [1, 0] []) (.n 55 (.o 54 [1, 0] []) (.o 55 [1, 0] []))) (.n 71 (.o 57 [1, 0, 0] []) (.n 73 (.o 71 [1, 0] []) (.o 73 [1, 0, 0] [])))))
def globT (g : Nat) : Option (List AV) := if g = 0 then some [I 0, I 0, I 1, I 2] else none
noncomputable def cx : Cx := { P := Tryd.prog, glob := globT, ext := fun _ => none, path := fun f => bif Nat.beq f 52 then some (9, 5) else none, lend := lendT.get, modes := modesT.get, shr := fun f i => (shrT.get f).contains i, frz := frzT.get, live := fun f i => look (liveT.get f) i [], ah := fun f i => look (ahT.get f) i [], cutR := fun f i => lookO (cutRT.get f) i, cutB := fun f i => lookO (cutBT.get f) i, cutS := fun f i => lookO (cutST.get f) i }
@[simp] theorem cxP : cx.P = Tryd.prog := rfl
def okF (C : Cx) (f : Nat) : Bool := match C.P.funcs[f]? with | some fn => (match fn.body with | some c => okC C f c | none => true) | none => true
theorem okF_some {C : Cx} {f : Nat} {fn : Func} {c : Code} (h : okF C f = true) (hf : C.P.funcs[f]? = some fn) (hb : fn.body = some c) : okC C f c = true := by
  unfold okF at h
  rw [hf] at h
  simp only [hb] at h
  exact h
theorem okAll : (List.range 109).all (okF cx) = true := by kernel_rfl
theorem szAll : decide (Tryd.prog.funcs.size ≤ 109) = true := by kernel_rfl
theorem noAll : (Tryd.prog.funcs.toList.all fun fn => !(fn.name == "runtime.NumGoroutine")) = true := by kernel_rfl
theorem cxNo0 : NoCount cx.P := fun f fn hf => by
  have := List.all_eq_true.1 noAll fn (by
    have := Array.mem_of_getElem? hf
    simpa using this)
  simpa using this
theorem cxNo : NC cx := ⟨cxNo0, fun k p h => by
  have h : (bif Nat.beq k 52 then some (9, 5) else none) = some p := h
  cases hb52 : Nat.beq k 52 with
  | true =>
    simp only [hb52, cond_true, Option.some.injEq] at h
    subst h
    rw [Nat.eq_of_beq_eq_true hb52]
    exact topS
  | false =>
    simp only [hb52, cond_false] at h
    cases h⟩
theorem cxWide : cx.P.follows .mixedOrders = true := by kernel_rfl
theorem cxLive : ∀ f i, (cx.live f i).Nodup := fun f i => look_all (liveT.all_ok (p := allNd) (by kernel_rfl) f) i
theorem cxCut : CutOk cx := ⟨fun f i b l h => lookO_all (i := i) (cutRT.all_ok (p := allCut) (by kernel_rfl) f) h, fun f i b l h => lookO_all (i := i) (cutBT.all_ok (p := allCut) (by kernel_rfl) f) h, fun f i b l h => lookO_all (i := i) (cutST.all_ok (p := allCut) (by kernel_rfl) f) h⟩
theorem cxGood : Good cx where
  count := cxNo
  wide := cxWide
  live := cxLive
  cut := cxCut
  free := fun f fn c _ hf hb => by
    have hlt : f < 109 := by
      have h1 : f < cx.P.funcs.size := by
        rcases Nat.lt_or_ge f cx.P.funcs.size with h | h
        · exact h
        · rw [Array.getElem?_eq_none h] at hf; cases hf
      have h2 := of_decide_eq_true szAll
      rw [cxP] at h1
      exact Nat.lt_of_lt_of_le h1 h2
    exact okF_some (List.all_eq_true.1 okAll f (List.mem_range.2 hlt)) hf hb
  ext := fun f g args r h => by cases h
end Go.Ab
