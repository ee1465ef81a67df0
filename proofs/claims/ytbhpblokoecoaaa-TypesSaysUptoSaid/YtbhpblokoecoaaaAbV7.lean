/-
  STEPS: lists whose elements own memory (one row of them may be open), slices that show less than their object has, places told by functions, copies.
-/
import Derived.Test.YtbhpblokoecoaaaAbV4
namespace Go.Ab
open Go
theorem app_get {α : Type} {x : α} {q1 r0 : List α} (h : app q1 [x] = some r0) : r0[((q1.length : Nat) : Int).toNat]? = some x := by
  obtain ⟨_, rfl⟩ := app_some h
  simp
def cutN (n : Nat) (k : Int) : Option Nat := if 0 ≤ k ∧ k ≤ n then some k.toNat else none
theorem cutN_le {n m : Nat} {k : Int} (h : cutN n k = some m) : m ≤ n := by
  unfold cutN at h; split at h
  · simp only [Option.some.injEq] at h; omega
  · cases h
def stk {α : Type} (x : List α × Nat) : Option Unit := if x.2 ≤ x.1.length then some () else none
theorem stk_le {α : Type} {x : List α × Nat} {u : Unit} (h : stk x = some u) : x.2 ≤ x.1.length := by
  unfold stk at h; split at h
  · assumption
  · cases h
section
variable {C : Cx} {f : FuncId} {call : CallT} {S : St} {g : Bool}
variable {d : Nat} {ty : TypeId} {pos : String} {af : Array Edge} {gd : Option (Nat × Bool)} {v v' : AV}
variable {x y z : Operand} {k : IntKind} {a b : Int} {T U : TypeId}
theorem oLdY {m row off : Nat} {id : Id} {rows rows' : Rows} {r r' cs cs0 : List AV} {w : Id × Option Rows} {wr : List (Id × Option Rows)} (hr : rows[row]? = some r) (hs : rows.set row r' = rows') [ha : Sz C T false m] (hx : un g (S.get C x) = .mp id row off := by first | exact rfl | exact gvv) (hh : S.h id = some (some rows) := by exact rfl) (hm : m = 1 := by exact rfl)
    (hl : Nat.ble (off + 1) r.length = true := by exact rfl) (hv : (r.drop off).take 1 = cs0 := by exact spine) (hu : unpackC [d] 0 cs0 = (cs, w :: wr) := by exact upk) (hcv : cs = [v] := by exact rfl) (hq : r.take off ++ cs ++ r.drop (off + 1) = r' := by exact spine) (hf : fresh S.h (w :: wr) = true := by exact rfl) :
    evOp C f call S g ⟨some d, .load T x, ty, pos, af, gd⟩ = some ⟨[(d, v)], [id], (id, some rows') :: w :: wr⟩ := by
  subst hm hq hs
  exact ld1 (rows := rows) (r := r) ha.ag ha.sz hx hh hr hl (by rw [hv]; exact hu) hf (by rw [hcv]; rfl)
theorem oIxQ {e : TypeId} {m n : Nat} {bb : Bool} {rows : Rows} {r : List AV} {i : Int} {id : Id} (hb : 0 ≤ i ∧ i < n) (hr : rows[i.toNat]? = some r) [hu : Ul C T (.slice e)] [hs : Sz C e bb m] (hx : un g (S.get C x) = .rs id 0 n := by first | exact rfl | exact gvv) (hh : S.h id = some (some rows) := by exact rfl) (hy : un g (S.get C y) = .val (.int k i) := by first | exact rfl | exact gvv) (hl : r.length = m := by exact rfl) :
    evOp C f call S g ⟨some d, .indexAddr T x y, ty, pos, af, gd⟩ = some ⟨[(d, .mp id i.toNat 0)], [id], []⟩ := by
  show evIndexAddr C S _ T (un g (S.get C x)) (intOfV (un g (S.get C y))) = _
  simp only [hx, hy, intOfV, evIndexAddr, hu.ul, hs.sz]
  rw [if_pos hb, hh]
  simp [hr, hl]
theorem idx_bt {α : Type} {l : List α} {i : Int} {x : α} {n : Nat} (h : idx (l.take n) i = some x) : 0 ≤ i ∧ i < n := by
  have := idx_bounds h
  rw [List.length_take] at this
  omega
theorem idx_take' {α : Type} {l : List α} {i : Int} {x : α} {n : Nat} (h : idx (l.take n) i = some x) : l[i.toNat]? = some x := by
  have := idx_nat h
  rw [List.getElem?_take] at this
  split at this
  · exact this
  · cases this
theorem oCut {e : TypeId} {m n n' : Nat} {bb : Bool} {id : Id} {rows : Rows} {hi : Operand} {K : Int} (hc : cutN n K = some n') [hu : Ul C T (.slice e)] [hs : Sz C e bb m] (hm : Nat.blt 0 m = true := by exact rfl) (hx : un g (S.get C x) = .rs id 0 n := by first | exact rfl | exact gvv) (hh : S.h id = some (some rows) := by exact rfl) (hy : un g (S.get C hi) = .val (.int k K) := by first | exact rfl | exact gvv) (hall : (rows.all (·.length == m)) = true := by first | exact all_map_len (fun _ => rfl) | exact all_open (fun _ => rfl) rfl) (hn : n ≤ rows.length := by (simp only [List.length_map, List.length_set]; exact lle)) :
    evOp C f call S g ⟨some d, .slice T x none (some hi) none, ty, pos, af, gd⟩ = some ⟨[(d, .rs id 0 n')], [id], []⟩ := by
  show evSlice C S _ T (un g (S.get C x)) none (some (intOfV (un g (S.get C hi)))) = _
  have hm' : 0 < m := of_decide_eq_true (blt_decide hm)
  unfold cutN at hc
  split at hc
  · rename_i hk
    simp only [Option.some.injEq] at hc; subst hc
    have hb : bounds none (some (some K)) n = some (0, K.toNat) := by
      unfold bounds
      show (if 0 ≤ 0 ∧ 0 ≤ K ∧ K ≤ n then some ((0 : Int).toNat, K.toNat) else none) = _
      rw [if_pos ⟨by omega, hk.1, hk.2⟩]; rfl
    simp only [hx, hy, intOfV, evSlice, hu.ul, hs.sz, hh, hb, Option.bind_some]
    rw [if_pos ⟨by omega, hm', hall⟩]
    simp [put]
  · cases hc
theorem oAppO {α : Type} {c : α → List AV} {q r : List α} {x' : α} {id id2 : Id} {e : TypeId} {m n : Nat} {row : List AV} (hr : app (q.take n) [x'] = some r) (hn : n ≤ q.length) [hu : Ul C T (.slice e)] [hu1 : Ul C U (.slice e)] [hok : Ao C e m] (hx : un g (S.get C x) = .rs id 0 n := by exact rfl) (hh : S.h id = some (some (q.map c)) := by exact rfl) (hy : un g (S.get C y) = .rs id2 0 1 := by exact rfl) (hh2 : S.h id2 = some (some [row]) := by exact rfl) (hl : ∀ x, (c x).length = m := by exact fun _ => rfl) (hrl : row.length = m := by exact rfl) (hcell : rowCell [row] = true := by exact rfl) (hd : S.h [d] = none := by exact rfl) (hfz : (C.frz f).contains d = false := by exact rfl) :
    evOp C f call S g ⟨some d, .call ⟨.builtin .append, ⟨[x, y]⟩, ⟨[T, U]⟩⟩, ty, pos, af, gd⟩ = some ⟨[(d, .rs [d] 0 r.length)], [id, id2], [(id, none), ([d], some ((r.map c).set (((q.take n).length : Nat) : Int).toNat row))]⟩ := by
  obtain ⟨h1, rfl⟩ := app_some hr
  have hrows : rowsOf S.h (.rs id 0 n) = some ((q.take n).map c, [id]) := by
    simp only [rowsOf, hh, List.length_map, Nat.zero_add, if_pos hn, List.drop_zero, List.map_take]
  have hrows2 : rowsOf S.h (.rs id2 0 1) = some ([row], [id2]) := by
    simp [rowsOf, hh2]
  have e1 : (((q.take n ++ [x']).map c).set (((q.take n).length : Nat) : Int).toNat row) = (q.take n).map c ++ [row] := by
    rw [Int.toNat_natCast, List.map_append, List.set_append_right _ _ (by simp)]
    simp
  rw [e1]
  refine app0 hok.ao hu.ul hu1.ul hx hrows (by rw [hy]; exact hrows2) (by simp [hrl]) hcell (by simpa [maxRows] using h1) hd hfz ?_
  simp only [appE, appTail, hh]
  rw [if_pos (by
      simp only [Bool.and_eq_true]
      exact ⟨⟨all_map_len hl, by simp⟩, by simp⟩)]
  simp [put]
end
section
variable {C : Cx} {S : St} {rv : List ResultVar} {lend : List Nat} {vs outs : List AV} {ids is : List Id} {r : AV}
theorem fin1 (h : ressC C S rv = some ([r], ids) := by exact rsk) (hp : packL S.h S.t lend = some (outs, is) := by exact plk) (hn : nodupB (ids ++ is) = true := by exact rfl) : Fin C rv lend r outs (.ret, S) := ⟨.inl rfl, [r], ids, is, h, hp, hn, rfl⟩
theorem finT {a b : AV} (h : ressC C S rv = some (a :: b :: vs, ids) := by exact rsk) (hp : packL S.h S.t lend = some (outs, is) := by exact plk) (hn : nodupB (ids ++ is) = true := by exact rfl) : Fin C rv lend (.tup (a :: b :: vs)) outs (.ret, S) := ⟨.inl rfl, _, ids, is, h, hp, hn, rfl⟩
end
end Go.Ab
