/-
  The seat's program, with the hints of the abstract machine (written by gen3.py).
-/
import Derived.Test.YtpaomhgaokonfaaAbClone
import Derived.Test.YtpaomhgaokonfaaAbBT
import Derived.KernelRfl
import Derived.Test.YtpaomhgaokonfaaChecked
namespace Go.Ab
open Go Go.Proofs
def frzT : BT (List Nat) := (.n 22 (.n 12 (.n 6 (.n 4 (.o 3 [2, 6, 7, 8, 14, 16, 20, 35, 38, 50] []) (.n 5 (.o 4 [2, 3, 7, 19, 24, 28, 42] []) (.o 5 [3, 8, 10, 11, 12, 18, 27, 36, 42, 56, 69] []))) (.n 8 (.n 7 (.o 6 [2, 10, 11, 33, 49, 54] []) (.o 7 [1, 9, 21, 33, 42] [])) (.n 9 (.o 8 [1, 9, 26, 48] []) (.o 9 [2, 6, 20, 29] [])))) (.n 16 (.n 14 (.n 13 (.o 12 [1] []) (.o 13 [2, 3, 30] [])) (.n 15 (.o 14 [2, 14, 43, 50] []) (.o 15 [2, 3, 6, 7] []))) (.n 20 (.n 17 (.o 16 [2, 3, 6, 7] []) (.o 17 [1, 2, 3, 4, 6, 9, 11, 14, 17] [])) (.n 21 (.o 20 [2, 5, 17, 22, 28, 34, 42, 79, 86, 90, 94, 99, 106, 110] []) (.o 21 [2, 29] []))))) (.n 37 (.n 27 (.n 25 (.o 22 [2, 29] []) (.n 26 (.o 25 [5, 18, 23, 82, 92, 96, 102, 109, 114] []) (.o 26 [1, 6] []))) (.n 30 (.n 29 (.o 27 [4, 25, 26] []) (.o 29 [2, 3] [])) (.n 31 (.o 30 [8, 9, 29] []) (.o 31 [2, 3] [])))) (.n 45 (.n 39 (.n 38 (.o 37 [6, 11, 22, 28] []) (.o 38 [6, 9, 18] [])) (.n 42 (.o 39 [1] []) (.o 42 [3] []))) (.n 47 (.n 46 (.o 45 [5, 7, 17] []) (.o 46 [1] [])) (.n 56 (.o 47 [8, 16] []) (.o 56 [7] []))))))
def liveT : BT (List (Nat × List Nat)) := (.n 25 (.n 14 (.n 8 (.n 7 (.o 6 [(8, [1, 2, 6, 7])] []) (.o 7 [(4, [1, 2, 3])] [])) (.n 13 (.o 8 [(5, [1, 2, 3, 20, 21])] []) (.o 13 [(4, [2, 3, 5])] []))) (.n 20 (.n 16 (.o 14 [(4, [1, 2, 4, 5, 6, 7]), (9, [1, 2, 4, 5, 6, 7, 8, 9, 10])] []) (.o 16 [(4, [2, 3, 5]), (11, [2, 3, 5, 6, 7, 8])] [])) (.n 21 (.o 20 [(9, [2, 5, 8, 9])] []) (.n 22 (.o 21 [(3, [1, 2, 5, 6])] []) (.o 22 [(3, [1, 2, 5, 6])] []))))) (.n 37 (.n 27 (.n 26 (.o 25 [(9, [0, 1, 2, 5, 8, 9])] []) (.o 26 [(4, [3, 4, 14, 15, 16]), (7, [3, 4, 5, 14, 15, 16, 22, 23, 24])] [])) (.n 30 (.o 27 [(3, [0, 2, 4, 7, 15, 16, 17])] []) (.n 32 (.o 30 [(4, [1, 2, 15, 16, 17])] []) (.o 32 [(4, [0, 1, 12, 13])] [])))) (.n 48 (.n 44 (.o 37 [(4, [0, 3])] []) (.o 44 [(4, [0, 14, 15])] [])) (.n 52 (.o 48 [(4, [0, 1, 5])] []) (.n 58 (.o 52 [(2, [0, 1, 5])] []) (.o 58 [(2, [0, 1, 7, 8])] []))))))
def shrT : BT (List Nat) := (.o 25 [9] [])
def ahT : BT (List (Nat × List (Nat × Nat))) := (.n 26 (.o 8 [(3, [(6, 7)])] []) (.n 47 (.o 26 [(9, [(4, 12), (5, 12), (8, 12), (9, 12), (11, 12)])] []) (.o 47 [(2, [(4, 10)])] [])))
def cutRT : BT (List (Nat × Bool × List Nat)) := (.n 29 (.n 6 (.n 4 (.o 3 [(8, (false, [1, 2, 5, 7, 8, 37]))] []) (.n 5 (.o 4 [(7, (false, [4]))] []) (.o 5 [(7, (false, [1, 2, 3, 8, 9, 38])), (11, (false, [6])), (13, (false, [6]))] []))) (.n 20 (.n 17 (.o 6 [(15, (false, [4]))] []) (.o 17 [(5, (false, [0]))] [])) (.n 25 (.o 20 [(2, (false, [1, 2, 5, 30])), (11, (false, [2, 5, 8, 9, 81])), (14, (false, [5, 96])), (16, (false, [5, 108]))] []) (.o 25 [(11, (true, [0, 1, 2, 5, 8, 9, 62])), (17, (false, [0, 5, 89])), (19, (false, [0, 5, 99]))] [])))) (.n 40 (.n 37 (.n 31 (.o 29 [(1, (false, [4]))] []) (.o 31 [(1, (false, [4]))] [])) (.n 38 (.o 37 [(1, (false, [0, 12])), (6, (false, [0, 3, 30]))] []) (.o 38 [(5, (false, [4])), (9, (false, [4]))] []))) (.n 45 (.n 42 (.o 40 [(1, (false, [2]))] []) (.o 42 [(10, (false, [6])), (13, (false, [6])), (15, (false, [6]))] [])) (.n 49 (.o 45 [(13, (false, [4]))] []) (.o 49 [(1, (false, [2]))] [])))))
def cutBT : BT (List (Nat × Bool × List Nat)) := (.n 25 (.n 14 (.n 8 (.n 7 (.o 6 [(0, (false, [2, 6]))] []) (.o 7 [(0, (false, [1, 2]))] [])) (.n 13 (.o 8 [(0, (false, [1, 2, 3]))] []) (.o 13 [(0, (false, []))] []))) (.n 20 (.n 16 (.o 14 [(0, (false, [4, 6])), (2, (false, [1, 2, 4, 5, 6, 7, 8, 9]))] []) (.o 16 [(0, (false, [])), (2, (false, [2, 3, 5]))] [])) (.n 21 (.o 20 [(0, (false, [5]))] []) (.n 22 (.o 21 [(0, (false, [5]))] []) (.o 22 [(0, (false, [5]))] []))))) (.n 37 (.n 27 (.n 26 (.o 25 [(0, (true, [0, 1, 2, 5, 8]))] []) (.o 26 [(0, (false, [4])), (2, (false, [3, 4, 5, 14, 15, 16]))] [])) (.n 30 (.o 27 [(0, (false, [0, 2, 4, 7]))] []) (.n 32 (.o 30 [(0, (false, []))] []) (.o 32 [(0, (false, []))] [])))) (.n 48 (.n 44 (.o 37 [(0, (false, []))] []) (.o 44 [(0, (false, []))] [])) (.n 52 (.o 48 [(0, (false, []))] []) (.n 58 (.o 52 [(0, (false, []))] []) (.o 58 [(0, (false, []))] []))))))
def cutST : BT (List (Nat × Bool × List Nat)) := (.n 41 (.n 4 (.o 3 [(10, (false, [1, 2, 5, 7, 8]))] []) (.n 22 (.o 4 [(6, (false, [2, 3, 5]))] []) (.o 22 [(4, (false, [1, 2, 5, 6]))] []))) (.n 42 (.o 41 [(5, (false, [4, 5])), (8, (false, [4, 9])), (13, (false, [4, 14])), (18, (false, [4, 17])), (27, (false, [4, 24]))] []) (.n 46 (.o 42 [(13, (false, [1, 2, 15, 67]))] []) (.o 46 [(10, (false, [1, 4, 50]))] []))))
def lendT : BT (List Nat) := (.n 27 (.o 25 [0] []) (.n 47 (.o 27 [0] []) (.o 47 [0] [])))
def modesT : BT (List Nat) := (.n 28 (.n 27 (.o 25 [1, 0] []) (.o 27 [1, 0, 0] [])) (.n 47 (.o 28 [1] []) (.o 47 [1, 0, 2] [])))
def globT (g : Nat) : Option (List AV) :=  none
noncomputable def cx : Cx := { P := Try.prog, glob := globT, ext := fun f => bif Nat.beq f 57 then some (cloneA 1) else none, lend := lendT.get, modes := modesT.get, shr := fun f i => (shrT.get f).contains i, frz := frzT.get, live := fun f i => look (liveT.get f) i [], ah := fun f i => look (ahT.get f) i [], cutR := fun f i => lookO (cutRT.get f) i, cutB := fun f i => lookO (cutBT.get f) i, cutS := fun f i => lookO (cutST.get f) i }
@[simp] theorem cxP : cx.P = Try.prog := rfl
def okF (C : Cx) (f : Nat) : Bool := match C.P.funcs[f]? with | some fn => (match fn.body with | some c => okC C f c | none => true) | none => true
theorem okAll : (List.range 75).all (okF cx) = true := by kernel_rfl
theorem szAll : decide (Try.prog.funcs.size ≤ 75) = true := by kernel_rfl
theorem noAll : (Try.prog.funcs.toList.all fun fn => !(fn.name == "runtime.NumGoroutine")) = true := by kernel_rfl
theorem cxNo : NoCount cx.P := fun f fn hf => by
  have := List.all_eq_true.1 noAll fn (by
    have := Array.mem_of_getElem? hf
    simpa using this)
  simpa using this
theorem cxWide : cx.P.follows .mixedOrders = true := by kernel_rfl
theorem cxLive : ∀ f i, (cx.live f i).Nodup := fun f i => look_all (liveT.all_ok (p := allNd) (by kernel_rfl) f) i
theorem cxCut : CutOk cx := ⟨fun f i b l h => lookO_all (i := i) (cutRT.all_ok (p := allCut) (by kernel_rfl) f) h, fun f i b l h => lookO_all (i := i) (cutBT.all_ok (p := allCut) (by kernel_rfl) f) h, fun f i b l h => lookO_all (i := i) (cutST.all_ok (p := allCut) (by kernel_rfl) f) h⟩
theorem cloneS57 {g : List AV → Option (AV × List AV)} (hg : g = cloneA 1) {args : List AV} {r : AV × List AV} (h : g args = some r) : Sound cx 57 args r := by
  haveI : Ul cx 40 (.slice 3) := ⟨Try.underlying40⟩
  haveI : Ao cx 3 1 := ⟨by kernel_rfl⟩
  haveI : Zc cx 3 [.val (.int .i64 0)] := ⟨by kernel_rfl⟩
  haveI : Sz cx 3 false 1 := ⟨by kernel_rfl, by kernel_rfl⟩
  exact clone_sound (C := cx) (f := 57) (e := 3) (m := 1) (bb := false) (zc := [.val (.int .i64 0)]) (by rfl) cxNo cxWide cxLive cxCut (fun _ => rfl) (fun _ => rfl) rfl rfl Try.func57 Try.ntmps57 (by rfl) (by rfl) hg h
theorem cxGood : Good cx where
  count := cxNo
  wide := cxWide
  live := cxLive
  cut := cxCut
  free := fun f fn c _ hf hb => by
    have hlt : f < 75 := by
      have h1 : f < cx.P.funcs.size := by
        rcases Nat.lt_or_ge f cx.P.funcs.size with h | h
        · exact h
        · rw [Array.getElem?_eq_none h] at hf; cases hf
      have h2 := of_decide_eq_true szAll
      rw [cxP] at h1
      exact Nat.lt_of_lt_of_le h1 h2
    have := List.all_eq_true.1 okAll f (List.mem_range.2 hlt)
    unfold okF at this
    rw [hf] at this
    simp only [hb] at this
    exact this
  ext := fun f g args r h h2 => by
    have h : (bif Nat.beq f 57 then some (cloneA 1) else none) = some g := h
    cases hb57 : Nat.beq f 57 with
    | true =>
      simp only [hb57, cond_true, Option.some.injEq] at h
      rw [Nat.eq_of_beq_eq_true hb57]
      exact cloneS57 h.symm h2
    | false =>
      simp only [hb57, cond_false] at h
      cases h
end Go.Ab
