/-
  STEPS: slices of slices: an object one of whose rows is open.
-/
import Derived.Test.YtbgakafgplbbnaaDoorAbQ2
namespace Go.Ab
open Go
section
variable {C : Cx} {f : FuncId} {call : CallT} {S : St} {g : Bool}
variable {d : Nat} {ty : TypeId} {pos : String} {af : Array Edge} {gd : Option (Nat × Bool)} {v : AV}
variable {x y z : Operand} {k : IntKind} {T : TypeId}
/-- A slice out of a row: it becomes an object of its own. -/
theorem ov_loadO {α β : Type} {c : α → List AV} {c' : β → List AV} {q : List α} {id : Id} {row off : Nat} {r : α} {l : List β} (ha : isAggC C T = some false) (hs : sizeC C T = some 1) (hx : un g (S.get C x) = .mp id row off) (hh : S.h id = some (some (q.map c))) (hr : q[row]? = some r)
    (hl : Nat.ble (off + 1) (c r).length = true) (hc : ((c r).drop off).take 1 = [.own (l.map c')]) (hn : S.h [0, d] = none) :
    evOp C f call S g ⟨some d, .load T x, ty, pos, af, gd⟩ = some ⟨[(d, .rs [0, d] 0 l.length)], [id], [(id, some ((q.map c).set row ((c r).take off ++ [.rs [0, d] 0 l.length] ++ (c r).drop (off + 1)))), ([0, d], some (l.map c'))]⟩ := by
  show evLoad C S _ T (un g (S.get C x)) = _
  rw [hx]
  have hl' : off + 1 ≤ (c r).length := Nat.le_of_ble_eq_true hl
  have e2 : (q.map c)[row]? = some (c r) := by simp [hr]
  simp only [evLoad, ha, hs, hh, e2, Option.bind_some, if_pos hl', dstP, hc, unpackC, List.length_map]
  rw [if_neg (by simp), if_pos (by simp [fresh, hn])]
  rfl
theorem ov_indexAddrO {e : TypeId} {m n : Nat} {rows : Rows} {rc : List AV} {i : Int} {id : Id} (hu : C.P.underlying T = some (.slice e)) (hs : sizeC C e = some m) (hx : un g (S.get C x) = .rs id 0 n) (hh : S.h id = some (some rows)) (hy : un g (S.get C y) = .val (.int k i)) (h0 : 0 ≤ i ∧ i < n) (hi : rows[i.toNat]? = some rc) (hr : rc.length = m) :
    evOp C f call S g ⟨some d, .indexAddr T x y, ty, pos, af, gd⟩ = some ⟨[(d, .mp id i.toNat 0)], [id], []⟩ := by
  show evIndexAddr C S _ T (un g (S.get C x)) (intOfV (un g (S.get C y))) = _
  simp only [hx, hy, intOfV, evIndexAddr, hu, hs]
  rw [if_pos h0, hh]
  simp [hi, hr]
theorem ov_storeO {bb : Bool} {m row off : Nat} {ao : Operand} {id : Id} {cs rc : List AV} {rows : Rows} {L : List Nat} (ha : isAggC C T = some bb) (hs : sizeC C T = some m) (hx : un g (S.get C ao) = .mp id row off) (hy : un g (S.get C y) = v) (hc : cellsOfV bb v = some cs) (hcl : cs.length = m)
    (hh : S.h id = some (some rows)) (hr : rows[row]? = some rc) (hl : Nat.ble (off + m) rc.length = true) (hL : C.frz f = L) (hin : tmpIn L ao = false) :
    evOp C f call S g ⟨none, .store T ao y, ty, pos, af, gd⟩ = some ⟨[], [id], [(id, some (rows.set row (rc.take off ++ cs ++ rc.drop (off + m))))]⟩ := by
  show evStore C f S g _ T ao (un g (S.get C ao)) (un g (S.get C y)) = _
  rw [hx, hy]
  have hl' : off + m ≤ rc.length := Nat.le_of_ble_eq_true hl
  have e := frzStore_none (f := f) hL hin
  simp only [evStore, ha, hs, hc]
  rw [if_neg (by simp [hcl]), hh]
  simp only [hr, Option.bind_some, if_pos hl', e]
  rfl
end
theorem idx_bounds {α : Type} {l : List α} {i : Int} {x : α} (h : idx l i = some x) : 0 ≤ i ∧ i < (l.length : Nat) := by
  unfold idx at h; split at h
  · rename_i hp
    refine ⟨hp, ?_⟩
    rcases Nat.lt_or_ge i.toNat l.length with h' | h'
    · omega
    · rw [List.getElem?_eq_none h'] at h; cases h
  · cases h
theorem set_get {α : Type} {l : List α} {i : Nat} {x y : α} (h : l[i]? = some x) : (l.set i y)[i]? = some y := by
  rw [List.getElem?_set_self]
  rcases Nat.lt_or_ge i l.length with h' | h'
  · exact h'
  · rw [List.getElem?_eq_none h'] at h; cases h
theorem getE_map {α β : Type} {c : α → β} {l : List α} {i : Nat} {x : α} (h : l[i]? = some x) : (l.map c)[i]? = some (c x) := by simp [h]
/-- An object, one row of which is open. -/
theorem pk_open {L : Id → Option (Option Rows)} {x : AV} {id : Id} {α : Type} {c : α → List AV} {q : List α} {row : Nat} {r r' : α} {rc : List AV} {ids : List Id} {n : Nat} (hx : x = .rs id 0 n) (hn : n = q.length) (hh : L id = some (some ((q.map c).set row rc))) (hr : q[row]? = some r) (hf : ∀ y, flatL (c y) = true) (hfr : flatL rc = false)
    (hp : foldC (pk L 8) rc = some (c r', ids)) : pk L 9 x = some (.own ((q.set row r').map c), id :: ids) := by
  subst hn hx
  have key : ∀ (q : List α) (row : Nat), q[row]? = some r → foldR (pkC (pk L 8)) ((q.map c).set row rc) = some ((q.set row r').map c, ids) := by
    intro q
    induction q with
    | nil => intro row h; simp at h
    | cons a q ih =>
      intro row h
      cases row with
      | zero =>
        simp only [List.map_cons, List.set_cons_zero, foldR]
        have e1 : pkC (pk L 8) rc = some (c r', ids) := by unfold pkC; rw [hfr]; simpa using hp
        have e2 : foldR (pkC (pk L 8)) (q.map c) = some (q.map c, []) := by
          clear ih h
          induction q with
          | nil => rfl
          | cons b q ih2 => simp [foldR, pkC, hf, ih2]
        simp [e1, e2]
      | succ row =>
        have h' : q[row]? = some r := by simpa using h
        simp [foldR, pkC, hf, ih row h']
  have hne : flatR ((q.map c).set row rc) = false := by
    clear key hh
    induction q generalizing row with
    | nil => simp at hr
    | cons a q ih =>
      cases row with
      | zero => simp [flatR, hfr]
      | succ row =>
        have h' : q[row]? = some r := by simpa using hr
        simp [flatR, ih h']
  have e : List.take q.length ((q.map c).set row rc) = (q.map c).set row rc := List.take_of_length_le (by simp)
  have e0 : pk L 9 (.rs id 0 q.length) = match L id with
      | some (some rs) => if 0 = 0 ∧ (q.length = rs.length ∨ 0 < q.length ∧ q.length < rs.length) then (pkR (pk L 8) (rs.take q.length)).map fun x => (.own x.1, id :: x.2) else none
      | _ => none := rfl
  rw [e0, hh]
  simp only
  rw [if_pos ⟨trivial, .inl (by simp)⟩, e]
  simp [pkR, hne, key q row hr]
theorem foldC_0 {p : AV → Option (AV × List Id)} : foldC p [] = some ([], []) := rfl
theorem foldC_1 {p : AV → Option (AV × List Id)} {a b : AV} {as bs : List AV} {i1 i2 : List Id} (h : p a = some (b, i1)) (k : foldC p as = some (bs, i2)) : foldC p (a :: as) = some (b :: bs, i1 ++ i2) := by simp [foldC, h, k]
theorem pk8_rs {L : Id → Option (Option Rows)} {id : Id} {n : Nat} {α : Type} {c : α → List AV} {q : List α} (hn : n = q.length) (hh : L id = some (some (q.map c))) (hf : ∀ y, flatL (c y) = true) : pk L 8 (.rs id 0 n) = some (.own (q.map c), [id]) := by
  subst hn
  exact pk_rs (n := 7) hh (by simp) (flatR_map c q hf)
def sel (l : List AV) (k : Nat) : AV := l.getD k .junk
/-! An array of numbers. -/
theorem idx_arr {l : List Int} {i : Int} {x : Int} {f : Int → AV} (h : idx l i = some x) : 0 ≤ i ∧ i < (l.length : Nat) ∧ i.toNat * 1 ≤ (l.map f).length := by
  have := idx_bounds h
  refine ⟨this.1, this.2, ?_⟩
  simp; omega
theorem idx_drop_len {l : List Int} {i : Int} {x : Int} {f : Int → AV} (h : idx l i = some x) : Nat.ble 1 ((l.map f).drop (i.toNat * 1)).length = true := by
  have := idx_bounds h
  apply Nat.ble_eq_true_of_le
  simp; omega
theorem idx_drop_one {l : List Int} {i : Int} {x : Int} {f : Int → AV} (h : idx l i = some x) : mkV false (((l.map f).drop (i.toNat * 1)).take 1) = some (f x) := by
  have hb := idx_bounds h
  have hn := idx_nat h
  have hlt : i.toNat < l.length := by omega
  have : l[i.toNat] = x := by rw [List.getElem?_eq_getElem hlt] at hn; simpa using hn
  rw [Nat.mul_one, List.drop_eq_getElem_cons (by simpa using hlt)]
  simp [mkV, this]
/-! Parts of slices and strings. -/
def slc {α : Type} (l : List α) (lo hi : Option Int) : Option (List α) := (bounds (lo.map some) (hi.map some) l.length).map fun p => (l.take p.2).drop p.1
def sslc (s : ByteArray) (lo hi : Option Int) : Option ByteArray := (bounds (lo.map some) (hi.map some) s.size).map fun p => s.extract p.1 p.2
section
variable {C : Cx} {f : FuncId} {call : CallT} {S : St} {g : Bool}
variable {d : Nat} {ty : TypeId} {pos : String} {af : Array Edge} {gd : Option (Nat × Bool)}
variable {x : Operand} {T : TypeId}
theorem lo_some {y : Operand} {k : IntKind} {n : Int} (h : un g (S.get C y) = .val (.int k n)) : ((some y).map fun y => intOfV (un g (S.get C y))) = (some n).map some := by
  show some (intOfV (un g (S.get C y))) = _
  rw [h]; rfl
theorem ov_sliceT {e : TypeId} {α : Type} {c : α → List AV} {q r : List α} {lo hi : Option Operand} {lo' hi' : Option Int} {m : Nat} (hu : C.P.underlying T = some (.slice e)) (hs : sizeC C e = some m) (h0 : Nat.blt 0 m = true) (hx : un g (S.get C x) = .sl (q.map c)) (hl : ∀ x, (c x).length = m)
    (h1 : (lo.map fun y => intOfV (un g (S.get C y))) = lo'.map some) (h2 : (hi.map fun y => intOfV (un g (S.get C y))) = hi'.map some) (hr : slc q lo' hi' = some r) :
    evOp C f call S g ⟨some d, .slice T x lo hi none, ty, pos, af, gd⟩ = some ⟨[(d, .sl (r.map c))], [], []⟩ := by
  unfold slc at hr
  obtain ⟨p, hp, rfl⟩ := Option.map_eq_some_iff.1 hr
  refine ov_sliceS (rows := q.map c) (p := p) hu hs h0 hx (all_map_len hl) ?_ ?_
  · rw [h1, h2, List.length_map]; exact hp
  · simp
theorem ov_sliceStr {s r : ByteArray} {lo hi : Option Operand} {lo' hi' : Option Int} (hu : C.P.underlying T = some .string) (hx : un g (S.get C x) = .val (.string s))
    (h1 : (lo.map fun y => intOfV (un g (S.get C y))) = lo'.map some) (h2 : (hi.map fun y => intOfV (un g (S.get C y))) = hi'.map some) (hr : sslc s lo' hi' = some r) :
    evOp C f call S g ⟨some d, .slice T x lo hi none, ty, pos, af, gd⟩ = some ⟨[(d, .val (.string r))], [], []⟩ := by
  show evSlice C S _ T (un g (S.get C x)) (lo.map fun y => intOfV (un g (S.get C y))) (hi.map fun y => intOfV (un g (S.get C y))) = _
  unfold sslc at hr
  obtain ⟨p, hp, rfl⟩ := Option.map_eq_some_iff.1 hr
  rw [hx, h1, h2]
  simp only [evSlice, hu, hp, Option.bind_some]
  rfl
end
theorem bw_imm' {L : Id → Option (Option Rows)} {n : Nat} {a : AV} (h : imm a = true) : bw L (n + 1) a = some (a, []) := by
  cases a with
  | agg cs => simp only [imm] at h; simp [bw, bwC, h]
  | tup cs => simp only [imm] at h; simp [bw, bwC, h]
  | fn k a b => simp only [imm, Bool.and_eq_true] at h; simp [bw, bwC, h]
  | _ => first | rfl | simp [imm] at h
theorem bwL_stn {L : Id → Option (Option Rows)} {cs cs' : List AV} {as bs : List AV} {is : List Id} (hz : nzL cs = cs') (hi : immL cs' = true) (k : bwL L as = some (bs, is)) : bwL L (.agg cs :: as) = some (.agg cs' :: bs, is) := by
  have h1 : foldC (bw L 8) cs = some (cs', []) := by
    subst hz
    clear k
    induction cs with
    | nil => rfl
    | cons c cs ih =>
      simp only [nzL, List.map_cons, immL, Bool.and_eq_true] at hi
      have ih := ih hi.2
      have hc : bw L 8 c = some (nz c, []) := by
        cases c with
        | snil => rfl
        | _ => exact bw_imm' (n := 7) hi.1
      simp [foldC, hc, ih, nzL]
  have h2 : bw L 9 (.agg cs) = some (.agg cs', []) := by
    have e0 : bw L 9 (.agg cs) = (bwC (bw L 8) cs).map fun x => (.agg x.1, x.2) := rfl
    rw [e0]
    unfold bwC
    split
    · rename_i himm
      have : nzL cs = cs := by
        clear h1 hz e0
        induction cs with
        | nil => rfl
        | cons c cs ih =>
          simp only [immL, Bool.and_eq_true] at himm
          have hc : nz c = c := by cases c <;> first | rfl | (simp [imm] at himm)
          have := ih himm.2
          simp only [nzL, List.map_cons, hc] at this ⊢
          rw [this]
      rw [← hz, this]; rfl
    · rw [h1]; rfl
  unfold bwL at *
  simp [foldC, h2, k]
end Go.Ab
