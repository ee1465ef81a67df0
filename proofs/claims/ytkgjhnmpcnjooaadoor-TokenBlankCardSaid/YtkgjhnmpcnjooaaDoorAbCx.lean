/-
  The seat's program, with the hints of the abstract machine (written by gen3.py).
-/
import Derived.Test.YtkgjhnmpcnjooaaDoorAbClone
import Derived.Test.YtkgjhnmpcnjooaaDoorAbBT
import Derived.Test.YtkgjhnmpcnjooaaDoorAbV6
import Derived.KernelRfl
import Derived.Test.YtkgjhnmpcnjooaaDoorAbShelf
import Derived.Test.YtkgjhnmpcnjooaaDoorChecked
namespace Go.Ab
open Go Go.Proofs
def frzT : BT (List Nat) := (.n 21 (.n 10 (.n 6 (.n 4 (.o 3 [4, 6, 12, 17] []) (.n 5 (.o 4 [4, 6, 12, 17] []) (.o 5 [9, 12, 17, 25, 33, 35, 36, 43, 54, 65, 73, 75] []))) (.n 8 (.n 7 (.o 6 [7, 9, 11, 15, 26, 31, 39, 89] []) (.o 7 [13, 18, 29, 72, 86, 94, 96] [])) (.n 9 (.o 8 [5, 8, 10, 12, 13, 18, 46, 78, 110] []) (.o 9 [18, 56] [])))) (.n 14 (.n 12 (.o 10 [133] []) (.n 13 (.o 12 [6, 21, 30] []) (.o 13 [6, 7, 26, 44] []))) (.n 18 (.n 15 (.o 14 [2, 4, 6, 11] []) (.o 15 [19] [])) (.n 19 (.o 18 [11, 21, 24, 28, 31] []) (.o 19 [15, 22, 29, 38] []))))) (.n 41 (.n 35 (.n 22 (.o 21 [14, 18, 28, 33, 43, 55, 60, 95] []) (.n 25 (.o 22 [1, 3, 8, 21] []) (.o 25 [15] []))) (.n 39 (.n 36 (.o 35 [60, 67, 86] []) (.o 36 [11] [])) (.n 40 (.o 39 [46] []) (.o 40 [3] [])))) (.n 54 (.n 43 (.o 41 [6, 11, 22, 28] []) (.n 50 (.o 43 [3] []) (.o 50 [22] []))) (.n 69 (.n 64 (.o 54 [4] []) (.o 64 [17, 24, 32, 40] [])) (.n 75 (.o 69 [47, 59, 71, 123, 127, 131, 167] []) (.o 75 [32, 37, 43, 49, 73, 80] []))))))
def liveT : BT (List (Nat × List Nat)) := (.n 21 (.n 11 (.n 8 (.n 7 (.o 6 [(16, [0, 8, 10, 11, 12, 13])] []) (.o 7 [(8, [0, 1, 2, 8, 9, 10])] [])) (.n 9 (.o 8 [(9, [0, 4, 6, 7])] []) (.n 10 (.o 9 [(5, [0, 3, 4, 5])] []) (.o 10 [(5, [0, 3, 4, 5]), (10, [0, 3, 4, 5]), (14, [0, 3, 4, 5, 7])] [])))) (.n 13 (.n 12 (.o 11 [(4, [0, 1, 5])] []) (.o 12 [(5, [3, 4, 13, 14, 15])] [])) (.n 15 (.o 13 [(5, [0, 3, 4, 5])] []) (.n 18 (.o 15 [(3, [0, 3, 4])] []) (.o 18 [(2, [0, 4])] []))))) (.n 39 (.n 32 (.n 25 (.o 21 [(3, [0, 2, 5]), (20, [0, 2, 11])] []) (.o 25 [(2, [0, 1, 5])] [])) (.n 33 (.o 32 [(2, [0, 5, 6])] []) (.n 36 (.o 33 [(4, [0, 14, 15])] []) (.o 36 [(2, [0, 5, 6])] [])))) (.n 55 (.n 41 (.o 39 [(11, [0, 4, 6, 7, 8])] []) (.o 41 [(4, [0, 3])] [])) (.n 69 (.o 55 [(2, [0, 1, 5])] []) (.n 75 (.o 69 [(36, [1, 8, 9, 10, 11, 12, 13, 99, 100, 101])] []) (.o 75 [(10, [0, 3, 4, 5])] []))))))
def shrT : BT (List Nat) := (.l [])
def ahT : BT (List (Nat × List (Nat × Nat))) := (.l [])
def cutRT : BT (List (Nat × Bool × List Nat)) := (.n 31 (.n 8 (.n 6 (.n 5 (.o 3 [(5, (false, [2]))] []) (.o 5 [(7, (false, [1, 7, 38])), (18, (false, [4]))] [])) (.n 7 (.o 6 [(21, (false, [4]))] []) (.o 7 [(5, (false, [0, 1, 2, 8, 9, 39])), (10, (false, [0, 1, 2, 8, 9, 10, 63])), (16, (false, [6]))] []))) (.n 14 (.n 10 (.o 8 [(12, (false, [0, 4, 7, 8, 68])), (20, (false, [0, 4, 6, 7, 131]))] []) (.o 10 [(9, (false, [0, 3, 4, 5, 6, 49])), (10, (false, [0, 3, 4, 5, 59])), (12, (false, [0, 3, 4, 5, 77])), (14, (false, [0, 3, 4, 5, 7, 97]))] [])) (.n 21 (.o 14 [(3, (false, [0]))] []) (.n 25 (.o 21 [(1, (false, [0, 2, 19])), (3, (false, [0, 2, 5, 35])), (22, (false, [0, 2, 11, 96]))] []) (.o 25 [(2, (false, [0, 1, 5, 16]))] []))))) (.n 42 (.n 39 (.n 35 (.o 31 [(1, (false, [2]))] []) (.o 35 [(9, (false, [8, 9, 10, 11, 12])), (10, (false, [8, 9, 10, 11, 58]))] [])) (.n 41 (.o 39 [(3, (false, [0, 4, 5, 27])), (6, (false, [0, 4, 5, 35])), (16, (false, [0, 4, 6, 7, 8, 9, 62]))] []) (.o 41 [(1, (false, [0, 12])), (6, (false, [0, 3, 30]))] []))) (.n 63 (.n 50 (.o 42 [(1, (false, [0, 31])), (3, (false, [0, 47])), (8, (false, [0, 61]))] []) (.o 50 [(1, (false, [0, 6])), (5, (false, [0, 28]))] [])) (.n 69 (.o 63 [(12, (false, [2, 7, 8, 9, 38]))] []) (.n 75 (.o 69 [(12, (false, [0, 2, 8, 9, 40])), (15, (false, [0, 2, 8, 9, 52])), (18, (false, [0, 2, 8, 9, 64])), (44, (false, [1, 8, 9, 10, 11, 12, 13, 15, 99, 100, 101, 121])), (56, (false, [13, 169]))] []) (.o 75 [(3, (false, [0, 3, 4, 18])), (6, (false, [0, 3, 4, 5, 46])), (12, (false, [0, 3, 4, 5, 83]))] []))))))
def cutBT : BT (List (Nat × Bool × List Nat)) := (.n 21 (.n 11 (.n 8 (.n 7 (.o 6 [(0, (false, [10, 11, 12]))] []) (.o 7 [(0, (false, [0, 1, 2, 8, 9]))] [])) (.n 9 (.o 8 [(0, (false, []))] []) (.n 10 (.o 9 [(0, (false, []))] []) (.o 10 [(0, (false, [3, 4])), (2, (false, [0, 3, 4, 5])), (4, (false, [0, 3, 4, 5, 7]))] [])))) (.n 13 (.n 12 (.o 11 [(0, (false, []))] []) (.o 12 [(0, (false, [3, 4]))] [])) (.n 15 (.o 13 [(0, (false, [3, 4]))] []) (.n 18 (.o 15 [(0, (false, [3]))] []) (.o 18 [(0, (false, []))] []))))) (.n 39 (.n 32 (.n 25 (.o 21 [(0, (false, [0, 2, 5])), (2, (false, [2]))] []) (.o 25 [(0, (false, [5]))] [])) (.n 33 (.o 32 [(0, (false, []))] []) (.n 36 (.o 33 [(0, (false, []))] []) (.o 36 [(0, (false, []))] [])))) (.n 55 (.n 41 (.o 39 [(0, (false, [6, 7]))] []) (.o 41 [(0, (false, []))] [])) (.n 69 (.o 55 [(0, (false, []))] []) (.n 75 (.o 69 [(3, (false, [9, 12, 13]))] []) (.o 75 [(0, (false, [3]))] []))))))
def cutST : BT (List (Nat × Bool × List Nat)) := (.n 42 (.n 10 (.n 8 (.o 5 [(11, (false, [1, 7]))] []) (.o 8 [(10, (false, [0, 4, 6, 7]))] [])) (.n 13 (.o 10 [(24, (false, [0, 3, 4, 5, 8, 9, 10]))] []) (.n 39 (.o 13 [(17, (false, [0, 3, 4, 5, 6]))] []) (.o 39 [(8, (false, [0, 4, 5])), (12, (false, [0, 4, 6, 7, 8]))] [])))) (.n 63 (.n 50 (.o 42 [(10, (false, []))] []) (.o 50 [(7, (false, []))] [])) (.n 69 (.o 63 [(10, (false, [0, 1, 2, 8])), (16, (false, [2, 8, 9])), (24, (false, [11]))] []) (.n 75 (.o 69 [(21, (false, [0, 1, 2, 8, 9])), (25, (false, [0, 1, 2, 8, 9])), (32, (false, [0, 1, 2, 8, 9, 10])), (46, (false, [1, 8, 9, 10, 11, 12, 13, 16, 99, 100, 101])), (55, (false, [1, 8, 9, 10, 11, 12, 13, 99, 100, 101]))] []) (.o 75 [(5, (false, [0, 3, 4])), (10, (false, [0, 3, 4, 5])), (11, (false, [0, 3, 4, 5]))] [])))))
def lendT : BT (List Nat) := (.l [])
def modesT : BT (List Nat) := (.l [])
def Gkeys : List ByteArray := [(ByteArray.mk #[105, 110, 116]), (ByteArray.mk #[118, 111, 105, 100]), (ByteArray.mk #[105, 102]), (ByteArray.mk #[101, 108, 115, 101]), (ByteArray.mk #[119, 104, 105, 108, 101]), (ByteArray.mk #[100, 111]), (ByteArray.mk #[102, 111, 114]), (ByteArray.mk #[115, 119, 105, 116, 99, 104]), (ByteArray.mk #[99, 97, 115, 101]), (ByteArray.mk #[100, 101, 102, 97, 117, 108, 116]), (ByteArray.mk #[98, 114, 101, 97, 107]), (ByteArray.mk #[99, 111, 110, 116, 105, 110, 117, 101]), (ByteArray.mk #[114, 101, 116, 117, 114, 110])]
def Gsigns : List ByteArray := [(ByteArray.mk #[60, 60, 61]), (ByteArray.mk #[62, 62, 61]), (ByteArray.mk #[60, 60]), (ByteArray.mk #[62, 62]), (ByteArray.mk #[60, 61]), (ByteArray.mk #[62, 61]), (ByteArray.mk #[61, 61]), (ByteArray.mk #[33, 61]), (ByteArray.mk #[38, 38]), (ByteArray.mk #[124, 124]), (ByteArray.mk #[43, 61]), (ByteArray.mk #[45, 61]), (ByteArray.mk #[42, 61]), (ByteArray.mk #[47, 61]), (ByteArray.mk #[37, 61]), (ByteArray.mk #[38, 61]), (ByteArray.mk #[94, 61]), (ByteArray.mk #[124, 61]), (ByteArray.mk #[43, 43]), (ByteArray.mk #[45, 45]), (ByteArray.mk #[43]), (ByteArray.mk #[45]), (ByteArray.mk #[42]), (ByteArray.mk #[47]), (ByteArray.mk #[37]), (ByteArray.mk #[38]), (ByteArray.mk #[124]), (ByteArray.mk #[94]), (ByteArray.mk #[126]), (ByteArray.mk #[33]), (ByteArray.mk #[60]), (ByteArray.mk #[62]), (ByteArray.mk #[61]), (ByteArray.mk #[63]), (ByteArray.mk #[58]), (ByteArray.mk #[59]), (ByteArray.mk #[44]), (ByteArray.mk #[40]), (ByteArray.mk #[41]), (ByteArray.mk #[91]), (ByteArray.mk #[93]), (ByteArray.mk #[123]), (ByteArray.mk #[125])]
variable [MM]
def globT (g : Nat) : Option (List AV) := if g = 0 then some (Gkeys.map gStr) else if g = 1 then some (Gsigns.map gStr) else if g = 2 then some [.val (.int .i64 MM.m)] else if g = 3 then some [.nn] else if g = 4 then some [.nn] else none
noncomputable def cx : Cx := { P := Tryd.prog, glob := globT, ext := fun f => bif Nat.beq f 27 then some hasPrefixA else bif Nat.beq f 29 then some indexA else bif Nat.beq f 62 then some indexByteA else bif Nat.beq f 76 then some cloneStA else bif Nat.beq f 52 then some containsA else bif Nat.beq f 23 then some joinA else none, lend := lendT.get, modes := modesT.get, shr := fun f i => (shrT.get f).contains i, frz := frzT.get, live := fun f i => look (liveT.get f) i [], ah := fun f i => look (ahT.get f) i [], cutR := fun f i => lookO (cutRT.get f) i, cutB := fun f i => lookO (cutBT.get f) i, cutS := fun f i => lookO (cutST.get f) i }
@[simp] theorem cxP : cx.P = Tryd.prog := rfl
def okF (C : Cx) (f : Nat) : Bool := match C.P.funcs[f]? with | some fn => (match fn.body with | some c => okC C f c | none => true) | none => true
omit [MM] in
theorem okF_some {C : Cx} {f : Nat} {fn : Func} {c : Code} (h : okF C f = true) (hf : C.P.funcs[f]? = some fn) (hb : fn.body = some c) : okC C f c = true := by
  unfold okF at h
  rw [hf] at h
  simp only [hb] at h
  exact h
theorem okAll : (List.range 122).all (okF cx) = true := by kernel_rfl
omit [MM] in
theorem szAll : decide (Tryd.prog.funcs.size ≤ 122) = true := by kernel_rfl
omit [MM] in
theorem noAll : (Tryd.prog.funcs.toList.all fun fn => !(fn.name == "runtime.NumGoroutine")) = true := by kernel_rfl
theorem cxNo : NoCount cx.P := fun f fn hf => by
  have := List.all_eq_true.1 noAll fn (by
    have := Array.mem_of_getElem? hf
    simpa using this)
  simpa using this
theorem cxWide : cx.P.follows .mixedOrders = true := by kernel_rfl
theorem cxLive : ∀ f i, (cx.live f i).Nodup := fun f i => look_all (liveT.all_ok (p := allNd) (by kernel_rfl) f) i
theorem cxCut : CutOk cx := ⟨fun f i b l h => lookO_all (i := i) (cutRT.all_ok (p := allCut) (by kernel_rfl) f) h, fun f i b l h => lookO_all (i := i) (cutBT.all_ok (p := allCut) (by kernel_rfl) f) h, fun f i b l h => lookO_all (i := i) (cutST.all_ok (p := allCut) (by kernel_rfl) f) h⟩
theorem cloneS27 {g : List AV → Option (AV × List AV)} (hg : g = hasPrefixA) {args : List AV} {r : AV × List AV} (h : g args = some r) : Sound cx 27 args r := hasPrefix_sound (C := cx) Tryd.func27 (by rfl) (by rfl) Tryd.strings_HasPrefix hg h
theorem cloneS29 {g : List AV → Option (AV × List AV)} (hg : g = indexA) {args : List AV} {r : AV × List AV} (h : g args = some r) : Sound cx 29 args r := index_sound (k := 2) (m := MM.m) (cs := []) (C := cx) Tryd.func29 (by rfl) (by rfl) (by rfl) Tryd.strings_Index hg h
theorem cloneS62 {g : List AV → Option (AV × List AV)} (hg : g = indexByteA) {args : List AV} {r : AV × List AV} (h : g args = some r) : Sound cx 62 args r := indexByte_sound (C := cx) Tryd.func62 (by rfl) (by rfl) Tryd.strings_IndexByte hg h
theorem cloneS76 {g : List AV → Option (AV × List AV)} (hg : g = cloneStA) {args : List AV} {r : AV × List AV} (h : g args = some r) : Sound cx 76 args r := cloneSt_sound (C := cx) Tryd.func76 (by rfl) (by rfl) Tryd.stringslite_Clone hg h
theorem cloneS52 {g : List AV → Option (AV × List AV)} (hg : g = containsA) {args : List AV} {r : AV × List AV} (h : g args = some r) : Sound cx 52 args r := contains_sound (k := 2) (m := MM.m) (cs := []) (C := cx) Tryd.func52 (by rfl) (by rfl) (by rfl) Tryd.strings_Contains hg h
theorem cloneS23 {g : List AV → Option (AV × List AV)} (hg : g = joinA) {args : List AV} {r : AV × List AV} (h : g args = some r) : Sound cx 23 args r := join_sound (C := cx) Tryd.func23 (by rfl) (by rfl) Tryd.strings_Join_none Tryd.strings_Join hg h
theorem cxGood : Good cx where
  count := cxNo
  wide := cxWide
  live := cxLive
  cut := cxCut
  free := fun f fn c _ hf hb => by
    have hlt : f < 122 := by
      have h1 : f < cx.P.funcs.size := by
        rcases Nat.lt_or_ge f cx.P.funcs.size with h | h
        · exact h
        · rw [Array.getElem?_eq_none h] at hf; cases hf
      have h2 := of_decide_eq_true szAll
      rw [cxP] at h1
      exact Nat.lt_of_lt_of_le h1 h2
    exact okF_some (List.all_eq_true.1 okAll f (List.mem_range.2 hlt)) hf hb
  ext := fun f g args r h h2 => by
    have h : (bif Nat.beq f 27 then some hasPrefixA else bif Nat.beq f 29 then some indexA else bif Nat.beq f 62 then some indexByteA else bif Nat.beq f 76 then some cloneStA else bif Nat.beq f 52 then some containsA else bif Nat.beq f 23 then some joinA else none) = some g := h
    cases hb27 : Nat.beq f 27 with
    | true =>
      simp only [hb27, cond_true, Option.some.injEq] at h
      rw [Nat.eq_of_beq_eq_true hb27]
      exact cloneS27 h.symm h2
    | false =>
      simp only [hb27, cond_false] at h
      cases hb29 : Nat.beq f 29 with
      | true =>
        simp only [hb29, cond_true, Option.some.injEq] at h
        rw [Nat.eq_of_beq_eq_true hb29]
        exact cloneS29 h.symm h2
      | false =>
        simp only [hb29, cond_false] at h
        cases hb62 : Nat.beq f 62 with
        | true =>
          simp only [hb62, cond_true, Option.some.injEq] at h
          rw [Nat.eq_of_beq_eq_true hb62]
          exact cloneS62 h.symm h2
        | false =>
          simp only [hb62, cond_false] at h
          cases hb76 : Nat.beq f 76 with
          | true =>
            simp only [hb76, cond_true, Option.some.injEq] at h
            rw [Nat.eq_of_beq_eq_true hb76]
            exact cloneS76 h.symm h2
          | false =>
            simp only [hb76, cond_false] at h
            cases hb52 : Nat.beq f 52 with
            | true =>
              simp only [hb52, cond_true, Option.some.injEq] at h
              rw [Nat.eq_of_beq_eq_true hb52]
              exact cloneS52 h.symm h2
            | false =>
              simp only [hb52, cond_false] at h
              cases hb23 : Nat.beq f 23 with
              | true =>
                simp only [hb23, cond_true, Option.some.injEq] at h
                rw [Nat.eq_of_beq_eq_true hb23]
                exact cloneS23 h.symm h2
              | false =>
                simp only [hb23, cond_false] at h
                cases h
end Go.Ab
