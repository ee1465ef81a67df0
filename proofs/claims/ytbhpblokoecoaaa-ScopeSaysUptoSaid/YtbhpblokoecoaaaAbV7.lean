/-
  STEPS: lists whose elements own memory (one row of them may be open), slices that show less than their object has, places told by functions, copies.
-/
import Derived.Test.YtbhpblokoecoaaaAbV4
namespace Go.Ab
open Go

/-! ### Operations -/
theorem app_get {α : Type} {x : α} {q1 r0 : List α} (h : app q1 [x] = some r0) : r0[((q1.length : Nat) : Int).toNat]? = some x := by
  obtain ⟨_, rfl⟩ := app_some h
  simp
theorem idx_lt' {α : Type} {l : List α} {i : Int} {x : α} (h : idx l i = some x) : i.toNat < l.length := by
  have := idx_bounds h; omega
def cutN (n : Nat) (k : Int) : Option Nat := if 0 ≤ k ∧ k ≤ n then some k.toNat else none
theorem cutN_le {n m : Nat} {k : Int} (h : cutN n k = some m) : m ≤ n := by
  unfold cutN at h; split at h
  · simp only [Option.some.injEq] at h; omega
  · cases h
/-- Of a list of which n are seen: is that so? -/
def stk {α : Type} (x : List α × Nat) : Option Unit := if x.2 ≤ x.1.length then some () else none
theorem stk_le {α : Type} {x : List α × Nat} {u : Unit} (h : stk x = some u) : x.2 ≤ x.1.length := by
  unfold stk at h; split at h
  · assumption
  · cases h
section
variable {C : Cx} {f : FuncId} {call : CallT} {S : St} {g : Bool}
variable {d : Nat} {ty : TypeId} {pos : String} {af : Array Edge} {gd : Option (Nat × Bool)} {v v' : AV}
variable {x y z : Operand} {k : IntKind} {a b : Int} {T U : TypeId}
/-- A load out of a row that is told. -/
theorem oLdQ {m row off : Nat} {id : Id} {rows : Rows} {r cs : List AV} (hr : rows[row]? = some r) [ha : Sz C T false m] (hx : un g (S.get C x) = .mp id row off := by first | exact rfl | exact gvv) (hh : S.h id = some (some rows) := by exact rfl) (hm : m = 1 := by exact rfl)
    (hv : r.drop off = v :: cs := by exact rfl) (hu : unpackC [d] 0 [v] = ([v], []) := by exact rfl) : evOp C f call S g ⟨some d, .load T x, ty, pos, af, gd⟩ = some ⟨[(d, v)], [id], []⟩ := by
  subst hm
  refine ld0 (rows := rows) (r := r) (cs := [v]) ha.ag ha.sz hx hh hr ?_ (by rw [hv]; exact hu) rfl
  have := congrArg List.length hv
  simp only [List.length_drop, List.length_cons] at this
  apply Nat.ble_eq_true_of_le; omega
theorem oLdQA {m row off : Nat} {id : Id} {rows : Rows} {r cs cs0 : List AV} (hr : rows[row]? = some r) [ha : Sz C T true m] (hx : un g (S.get C x) = .mp id row off := by first | exact rfl | exact gvv) (hh : S.h id = some (some rows) := by exact rfl)
    (hl : Nat.ble (off + m) r.length = true := by exact rfl) (hv : (r.drop off).take m = cs0 := by exact spine) (hu : unpackC [d] 0 cs0 = (cs, []) := by exact upk) : evOp C f call S g ⟨some d, .load T x, ty, pos, af, gd⟩ = some ⟨[(d, .agg cs)], [id], []⟩ :=
  ld0 (rows := rows) (r := r) ha.ag ha.sz hx hh hr hl (by rw [hv]; exact hu) rfl
/-- The same, of memory that is opened by it. -/
theorem oLdY {m row off : Nat} {id : Id} {rows rows' : Rows} {r r' cs cs0 : List AV} {w : Id × Option Rows} {wr : List (Id × Option Rows)} (hr : rows[row]? = some r) (hs : rows.set row r' = rows') [ha : Sz C T false m] (hx : un g (S.get C x) = .mp id row off := by first | exact rfl | exact gvv) (hh : S.h id = some (some rows) := by exact rfl) (hm : m = 1 := by exact rfl)
    (hl : Nat.ble (off + 1) r.length = true := by exact rfl) (hv : (r.drop off).take 1 = cs0 := by exact spine) (hu : unpackC [d] 0 cs0 = (cs, w :: wr) := by exact upk) (hcv : cs = [v] := by exact rfl) (hq : r.take off ++ cs ++ r.drop (off + 1) = r' := by exact spine) (hf : fresh S.h (w :: wr) = true := by exact rfl) :
    evOp C f call S g ⟨some d, .load T x, ty, pos, af, gd⟩ = some ⟨[(d, v)], [id], (id, some rows') :: w :: wr⟩ := by
  subst hm hq hs
  exact ld1 (rows := rows) (r := r) ha.ag ha.sz hx hh hr hl (by rw [hv]; exact hu) hf (by rw [hcv]; rfl)
theorem oLdYA {m row off : Nat} {id : Id} {rows rows' : Rows} {r r' cs cs0 : List AV} {w : Id × Option Rows} {wr : List (Id × Option Rows)} (hr : rows[row]? = some r) (hs : rows.set row r' = rows') [ha : Sz C T true m] (hx : un g (S.get C x) = .mp id row off := by first | exact rfl | exact gvv) (hh : S.h id = some (some rows) := by exact rfl)
    (hl : Nat.ble (off + m) r.length = true := by exact rfl) (hv : (r.drop off).take m = cs0 := by exact spine) (hu : unpackC [d] 0 cs0 = (cs, w :: wr) := by exact upk) (hq : r.take off ++ cs ++ r.drop (off + m) = r' := by exact spine) (hf : fresh S.h (w :: wr) = true := by exact rfl) :
    evOp C f call S g ⟨some d, .load T x, ty, pos, af, gd⟩ = some ⟨[(d, .agg cs)], [id], (id, some rows') :: w :: wr⟩ := by
  subst hq hs
  exact ld1 (rows := rows) (r := r) ha.ag ha.sz hx hh hr hl (by rw [hv]; exact hu) hf rfl
/-- A store into a row that is told. -/
theorem oStQ {bb : Bool} {m row off : Nat} {ao : Operand} {id : Id} {rows rows' : Rows} {cs r r' : List AV} (hr : rows[row]? = some r) (hs : rows.set row r' = rows') [ha : Sz C T bb m] (hin : tmpIn (C.frz f) ao = false := by exact rfl) (hx : un g (S.get C ao) = .mp id row off := by exact rfl) (hy : un g (S.get C y) = v := by exact gt) (hc : cellsOfV bb v = some cs := by exact rfl) (hcl : cs.length = m := by exact rfl)
    (hh : S.h id = some (some rows) := by exact rfl) (hl : Nat.ble (off + m) r.length = true := by exact rfl) (hq : r.take off ++ cs ++ r.drop (off + m) = r' := by first | exact spine | exact rfl) :
    evOp C f call S g ⟨none, .store T ao y, ty, pos, af, gd⟩ = some ⟨[], [id], [(id, some rows')]⟩ := by
  show evStore C f S g _ T ao (un g (S.get C ao)) (un g (S.get C y)) = _
  rw [hx, hy]
  have hl' : off + m ≤ r.length := Nat.le_of_ble_eq_true hl
  have e := frzStore_none (f := f) hin
  subst hq hs
  simp only [evStore, ha.ag, ha.sz, hc]
  rw [if_neg (by simp [hcl]), hh]
  simp only [hr, Option.bind_some, if_pos hl', e]
  rfl
/-- An element's address. -/
theorem oIxQ {e : TypeId} {m n : Nat} {bb : Bool} {rows : Rows} {r : List AV} {i : Int} {id : Id} (hb : 0 ≤ i ∧ i < n) (hr : rows[i.toNat]? = some r) [hu : Ul C T (.slice e)] [hs : Sz C e bb m] (hx : un g (S.get C x) = .rs id 0 n := by first | exact rfl | exact gvv) (hh : S.h id = some (some rows) := by exact rfl) (hy : un g (S.get C y) = .val (.int k i) := by first | exact rfl | exact gvv) (hl : r.length = m := by exact rfl) :
    evOp C f call S g ⟨some d, .indexAddr T x y, ty, pos, af, gd⟩ = some ⟨[(d, .mp id i.toNat 0)], [id], []⟩ := by
  show evIndexAddr C S _ T (un g (S.get C x)) (intOfV (un g (S.get C y))) = _
  simp only [hx, hy, intOfV, evIndexAddr, hu.ul, hs.sz]
  rw [if_pos hb, hh]
  simp [hr, hl]
theorem idx_b {α : Type} {l : List α} {i : Int} {x : α} {n : Nat} (h : idx l i = some x) (hn : n = l.length := by exact len_ok) : 0 ≤ i ∧ i < n := by subst hn; exact idx_bounds h
theorem idx_bt {α : Type} {l : List α} {i : Int} {x : α} {n : Nat} (h : idx (l.take n) i = some x) : 0 ≤ i ∧ i < n := by
  have := idx_bounds h
  rw [List.length_take] at this
  omega
theorem idx_take' {α : Type} {l : List α} {i : Int} {x : α} {n : Nat} (h : idx (l.take n) i = some x) : l[i.toNat]? = some x := by
  have := idx_nat h
  rw [List.getElem?_take] at this
  split at this
  · exact this
  · cases this
theorem all_open {α : Type} {c : α → List AV} {q : List α} {kk m : Nat} {r : List AV} (hl : ∀ x, (c x).length = m) (hr : r.length = m) : (((q.map c).set kk r).all (·.length == m)) = true := by
  rw [List.all_eq_true]
  intro z hz
  rcases List.mem_or_eq_of_mem_set hz with hz | rfl
  · obtain ⟨w, _, rfl⟩ := List.mem_map.1 hz
    simp [hl]
  · simp [hr]
/-- The last one of a list that is not too long. -/
def lastx {α : Type} (q : List α) (i : Int) : Option α := if i < 4294967296 then idx q i else none
theorem lastx_idx {α : Type} {q : List α} {i : Int} {x : α} (h : lastx q i = some x) : idx q i = some x ∧ i < 4294967296 := by
  unfold lastx at h; split at h
  · exact ⟨h, ‹_›⟩
  · cases h
theorem lastx_nat {α : Type} {q : List α} {i : Int} {x : α} (h : lastx q i = some x) : q[i.toNat]? = some x := idx_nat (lastx_idx h).1
/-- The place that a function tells. -/
theorem oLast {kf : FuncId} {ts : Array TypeId} {off po sz n : Nat} {id id2 : Id} {r : List AV} {rows2 : Rows} {α : Type} {q : List α} {el : α} (hi : lastx q (((n : Nat) : Int) - 1) = some el) (hp : C.path kf = some (po, sz) := by exact rfl) (hx : un g (S.get C x) = .mp id 0 off := by first | exact rfl | exact gvv) (hh : S.h id = some (some [r]) := by exact rfl) (hr : r[off + po]? = some (.rs id2 0 n) := by exact rfl) (hh2 : S.h id2 = some (some rows2) := by exact rfl) (hn : n ≤ rows2.length := by (simp only [List.length_map, List.length_set]; exact lle)) (hsz : (rows2.all (·.length == sz)) = true := by first | exact all_map_len (fun _ => rfl) | exact all_open (fun _ => rfl) rfl) :
    evOp C f call S g ⟨some d, .call ⟨.value (.func kf), ⟨[x]⟩, ts⟩, ty, pos, af, gd⟩ = some ⟨[(d, .mp id2 (((n : Nat) : Int) - 1).toNat 0)], [id, id2], []⟩ := by
  show (match C.path kf with | some p => evLast S _ p ([x].map fun x => un g (S.get C x)) | none => _) = _
  obtain ⟨hi, hmx⟩ := lastx_idx hi
  have hb := idx_bounds hi
  have hpos : 0 < n := by omega
  rw [hp]
  simp only [List.map_cons, List.map_nil, hx, evLast, hh, List.getElem?_cons_zero, Option.bind_some, hr, hh2, Nat.zero_add]
  rw [if_pos (by simp only [Bool.and_eq_true, decide_eq_true_eq]; exact ⟨⟨⟨hpos, by unfold maxRows; omega⟩, hn⟩, hsz⟩)]
  rw [show (((n : Nat) : Int) - 1).toNat = n - 1 by omega]
  rfl
theorem oLastV {kf : FuncId} {ts : Array TypeId} {po sz : Nat} {cells : List AV} {α : Type} {c : α → List AV} {q : List α} {el : α} (hi : lastx q ((q.length : Int) - 1) = some el) (hp : C.path kf = some (po, sz) := by exact rfl) (hx : un g (S.get C x) = .vp cells := by first | exact rfl | exact gvv) (hr : cells[po]? = some (.sl (q.map c)) := by exact rfl) (hsz : ∀ x, (c x).length = sz := by exact fun _ => rfl) :
    evOp C f call S g ⟨some d, .call ⟨.value (.func kf), ⟨[x]⟩, ts⟩, ty, pos, af, gd⟩ = some ⟨[(d, .vp (c el))], [], []⟩ := by
  show (match C.path kf with | some p => evLast S _ p ([x].map fun x => un g (S.get C x)) | none => _) = _
  obtain ⟨hi, hmx⟩ := lastx_idx hi
  have hb := idx_bounds hi
  have hg := idx_nat hi
  rw [hp]
  simp only [List.map_cons, List.map_nil, hx, evLast, hr]
  rw [if_pos (by simp only [Bool.and_eq_true, decide_eq_true_eq, List.length_map]; exact ⟨by unfold maxRows; omega, all_map_len hsz⟩)]
  have e : (q.map c)[(q.map c).length - 1]? = some (c el) := by
    rw [List.length_map, show q.length - 1 = ((q.length : Int) - 1).toNat by omega]
    exact rowM hg
  rw [e]; rfl
/-- Less of a slice is seen. -/
theorem oCut {e : TypeId} {m n n' : Nat} {bb : Bool} {id : Id} {rows : Rows} {hi : Operand} {K : Int} (hc : cutN n K = some n') [hu : Ul C T (.slice e)] [hs : Sz C e bb m] (hm : Nat.blt 0 m = true := by exact rfl) (hx : un g (S.get C x) = .rs id 0 n := by first | exact rfl | exact gvv) (hh : S.h id = some (some rows) := by exact rfl) (hy : un g (S.get C hi) = .val (.int k K) := by first | exact rfl | exact gvv) (hall : (rows.all (·.length == m)) = true := by first | exact all_map_len (fun _ => rfl) | exact all_open (fun _ => rfl) rfl) (hn : n ≤ rows.length := by (simp only [List.length_map, List.length_set]; exact lle)) :
    evOp C f call S g ⟨some d, .slice T x none (some hi) none, ty, pos, af, gd⟩ = some ⟨[(d, .rs id 0 n')], [id], []⟩ := by
  show evSlice C S _ T (un g (S.get C x)) none (some (intOfV (un g (S.get C hi)))) = _
  have hm' : 0 < m := of_decide_eq_true (blt_decide hm)
  unfold cutN at hc
  split at hc
  · rename_i hk
    simp only [Option.some.injEq] at hc; subst hc
    have hb : bounds none (some (some K)) n = some (0, K.toNat) := by
      unfold bounds
      show (if 0 ≤ 0 ∧ 0 ≤ K ∧ K ≤ n then some ((0 : Int).toNat, K.toNat) else none) = _
      rw [if_pos ⟨by omega, hk.1, hk.2⟩]; rfl
    simp only [hx, hy, intOfV, evSlice, hu.ul, hs.sz, hh, hb, Option.bind_some]
    rw [if_pos ⟨by omega, hm', hall⟩]
    simp [put]
  · cases hc
/-- Append where less is seen; of a row that leads to memory of one's own. -/
theorem oAppG {α : Type} {c : α → List AV} {q q' r : List α} {id : Id} {e : TypeId} {m n : Nat} {ys : Rows} (hr : app (q.take n) q' = some r) (hn : n ≤ q.length := by exact lle) [hu : Ul C T (.slice e)] [hu1 : Ul C U (.slice e)] [hok : Ao C e m] (hx : un g (S.get C x) = .rs id 0 n := by exact rfl) (hh : S.h id = some (some (q.map c)) := by exact rfl) (hy : un g (S.get C y) = .sl ys := by exact rfl) (hys : ys = q'.map c := by exact rfl) (hl : ∀ x, (c x).length = m := by exact fun _ => rfl) (hcell : rowCell (q'.map c) = true := by first | exact rowCell_im | exact rfl) (hne : Nat.blt 0 q'.length = true := by exact rfl) (hd : S.h [d] = none := by exact rfl) (hfz : (C.frz f).contains d = false := by exact rfl) :
    evOp C f call S g ⟨some d, .call ⟨.builtin .append, ⟨[x, y]⟩, ⟨[T, U]⟩⟩, ty, pos, af, gd⟩ = some ⟨[(d, .rs [d] 0 r.length)], [id], [(id, none), ([d], some (r.map c))]⟩ := by
  obtain ⟨h1, rfl⟩ := app_some hr
  subst hys
  have hq' : 0 < q'.length := of_decide_eq_true (blt_decide hne)
  have hrows : rowsOf S.h (.rs id 0 n) = some ((q.take n).map c, [id]) := by
    simp only [rowsOf, hh, List.length_map, Nat.zero_add, if_pos hn, List.drop_zero, List.map_take]
  refine app0 hok.ao hu.ul hu1.ul hx hrows (by rw [hy]; rfl) (all_map_len hl) hcell (by simpa [maxRows] using h1) hd hfz ?_
  simp only [appE, appTail, hh]
  rw [if_pos (by
      simp only [Bool.and_eq_true]
      refine ⟨⟨all_map_len hl, by simp⟩, ?_⟩
      cases q' with
      | nil => simp at hq'
      | cons z q' => simp)]
  simp [put, List.map_append]
/-- Of one row that leads to memory of one's own: it stands open behind the others. -/
theorem oAppO {α : Type} {c : α → List AV} {q r : List α} {x' : α} {id id2 : Id} {e : TypeId} {m n : Nat} {row : List AV} (hr : app (q.take n) [x'] = some r) (hn : n ≤ q.length) [hu : Ul C T (.slice e)] [hu1 : Ul C U (.slice e)] [hok : Ao C e m] (hx : un g (S.get C x) = .rs id 0 n := by exact rfl) (hh : S.h id = some (some (q.map c)) := by exact rfl) (hy : un g (S.get C y) = .rs id2 0 1 := by exact rfl) (hh2 : S.h id2 = some (some [row]) := by exact rfl) (hl : ∀ x, (c x).length = m := by exact fun _ => rfl) (hrl : row.length = m := by exact rfl) (hcell : rowCell [row] = true := by exact rfl) (hd : S.h [d] = none := by exact rfl) (hfz : (C.frz f).contains d = false := by exact rfl) :
    evOp C f call S g ⟨some d, .call ⟨.builtin .append, ⟨[x, y]⟩, ⟨[T, U]⟩⟩, ty, pos, af, gd⟩ = some ⟨[(d, .rs [d] 0 r.length)], [id, id2], [(id, none), ([d], some ((r.map c).set (((q.take n).length : Nat) : Int).toNat row))]⟩ := by
  obtain ⟨h1, rfl⟩ := app_some hr
  have hrows : rowsOf S.h (.rs id 0 n) = some ((q.take n).map c, [id]) := by
    simp only [rowsOf, hh, List.length_map, Nat.zero_add, if_pos hn, List.drop_zero, List.map_take]
  have hrows2 : rowsOf S.h (.rs id2 0 1) = some ([row], [id2]) := by
    simp [rowsOf, hh2]
  have e1 : (((q.take n ++ [x']).map c).set (((q.take n).length : Nat) : Int).toNat row) = (q.take n).map c ++ [row] := by
    rw [Int.toNat_natCast, List.map_append, List.set_append_right _ _ (by simp)]
    simp
  rw [e1]
  refine app0 hok.ao hu.ul hu1.ul hx hrows (by rw [hy]; exact hrows2) (by simp [hrl]) hcell (by simpa [maxRows] using h1) hd hfz ?_
  simp only [appE, appTail, hh]
  rw [if_pos (by
      simp only [Bool.and_eq_true]
      exact ⟨⟨all_map_len hl, by simp⟩, by simp⟩)]
  simp [put]
theorem oAppNO {α : Type} {c : α → List AV} {r : List α} {x' : α} {id2 : Id} {e : TypeId} {m : Nat} {row : List AV} (hr : app [] [x'] = some r) [hu : Ul C T (.slice e)] [hu1 : Ul C U (.slice e)] [hok : Ao C e m] (hx : un g (S.get C x) = .snil := by exact rfl) (hy : un g (S.get C y) = .rs id2 0 1 := by exact rfl) (hh2 : S.h id2 = some (some [row]) := by exact rfl) (hrl : row.length = m := by exact rfl) (hcell : rowCell [row] = true := by exact rfl) (hd : S.h [d] = none := by exact rfl) (hfz : (C.frz f).contains d = false := by exact rfl) :
    evOp C f call S g ⟨some d, .call ⟨.builtin .append, ⟨[x, y]⟩, ⟨[T, U]⟩⟩, ty, pos, af, gd⟩ = some ⟨[(d, .rs [d] 0 r.length)], [id2], [([d], some ((r.map c).set ((([] : List α).length : Nat) : Int).toNat row))]⟩ := by
  obtain ⟨h1, rfl⟩ := app_some hr
  have hrows2 : rowsOf S.h (.rs id2 0 1) = some ([row], [id2]) := by
    simp [rowsOf, hh2]
  refine app0 (xs := []) (i1 := []) hok.ao hu.ul hu1.ul hx rfl (by rw [hy]; exact hrows2) (by simp [hrl]) hcell (by show 0 + 1 ≤ maxRows; decide) hd hfz ?_
  simp [appE, appTail, put]
/-- So many zeros behind a slice's elements. -/
def zap {α : Type} (q : List α) (n : Int) (z : α) : Option (List α) := if 0 ≤ n ∧ n ≤ 4294967296 ∧ q.length + n.toNat ≤ 4294967296 then some (q ++ List.replicate n.toNat z) else none
theorem oApZ0 {α : Type} {c : α → List AV} {q r : List α} {zv : α} {zc : List AV} {e : TypeId} {m : Nat} {nn : Int} {rx : AV} {i1 : List Id} {ki : IntKind} {e2 : Eff} (hr : zap q nn zv = some r) (hzc : c zv = zc) (hu : C.P.underlying T = some (.slice e)) (hu1 : C.P.underlying U = some (.int ki)) (hok : appOk C e m = true) (hz : zeroM C e = some zc) (hx : un g (S.get C x) = rx) (hrx : rowsOf S.h rx = some (q.map c, i1)) (hy : un g (S.get C y) = .val (.int k nn)) (hzl : zc.length = m) (hcell : zc.all AV.cell = true) (hd : S.h [d] = none) (hfz : (C.frz f).contains d = false)
    (he : appTail S ⟨some d, .call ⟨.builtin .append, ⟨[x, y]⟩, ⟨[T, U]⟩⟩, ty, pos, af, gd⟩ d m rx (q.map c) (List.replicate nn.toNat zc) i1 [] = some e2) :
    evOp C f call S g ⟨some d, .call ⟨.builtin .append, ⟨[x, y]⟩, ⟨[T, U]⟩⟩, ty, pos, af, gd⟩ = some e2 := by
  show (evAppend C S _ _ ([x, y].map fun x => un g (S.get C x))).bind (frzE C f _) = _
  unfold zap at hr
  split at hr
  · rename_i hb
    unfold appOk at hok
    split at hok
    · rename_i inf hinf
      simp only [Bool.and_eq_true, beq_iff_eq, decide_eq_true_eq] at hok
      obtain ⟨⟨⟨k1, k2⟩, k3⟩, k4⟩ := hok
      subst k1
      have e1 : (#[T, U] : Array TypeId)[0]? = some T := rfl
      have e2 : (#[T, U] : Array TypeId)[1]? = some U := rfl
      simp only [List.map_cons, List.map_nil, evAppend, e1, e2, Option.bind_some, hu1, appendZ, hu, hinf, hz, hx, hrx, hy, intOfV]
      rw [if_pos (by
        simp only [Bool.and_eq_true, decide_eq_true_eq, List.length_map]
        exact ⟨⟨⟨⟨⟨⟨⟨⟨hb.1, hb.2.1⟩, hzl⟩, k2⟩, k3⟩, k4⟩, hb.2.2⟩, hcell⟩, by rw [hd]; rfl⟩)]
      rw [he]; simp only [Option.bind_some, frzE, inFrz, hfz, Bool.false_eq_true, if_false]
    · cases hok
  · cases hr
theorem zap_rows {α : Type} {c : α → List AV} {q r : List α} {zv : α} {nn : Int} (hr : zap q nn zv = some r) : r.length = q.length + nn.toNat ∧ r.map c = q.map c ++ List.replicate nn.toNat (c zv) := by
  unfold zap at hr
  split at hr
  · simp only [Option.some.injEq] at hr; subst hr; simp
  · cases hr
theorem oApZ {α : Type} {c : α → List AV} {q r : List α} {zv : α} {zc : List AV} {id : Id} {e : TypeId} {m n : Nat} {nn : Int} {ki : IntKind} (hr : zap q nn zv = some r) (hzc : c zv = zc) [hu : Ul C T (.slice e)] [hu1 : Ul C U (.int ki)] [hok : Ao C e m] [hz : Zm C e zc] (hx : un g (S.get C x) = .rs id 0 n := by exact rfl) (hh : S.h id = some (some (q.map c)) := by exact rfl) (hlen : n = q.length := by exact len_ok) (hy : un g (S.get C y) = .val (.int k nn) := by exact rfl) (hzl : zc.length = m := by exact rfl) (hl : ∀ x, (c x).length = m := by exact fun _ => rfl) (hcell : zc.all AV.cell = true := by exact rfl) (hd : S.h [d] = none := by exact rfl) (hfz : (C.frz f).contains d = false := by exact rfl) :
    evOp C f call S g ⟨some d, .call ⟨.builtin .append, ⟨[x, y]⟩, ⟨[T, U]⟩⟩, ty, pos, af, gd⟩ = some ⟨[(d, .rs [d] 0 r.length)], [id], [(id, none), ([d], some (r.map c))]⟩ := by
  obtain ⟨e1, e2⟩ := zap_rows (c := c) hr
  subst hlen
  refine oApZ0 hr hzc hu.ul hu1.ul hok.ao hz.zm hx (rows_rs hh) hy hzl hcell hd hfz ?_
  simp only [appTail, hh]
  rw [if_pos (by
      simp only [Bool.and_eq_true]
      refine ⟨⟨all_map_len hl, by simp⟩, ?_⟩
      cases q <;> simp)]
  rw [e2, hzc]
  simp [put, e1]
theorem oApZN {α : Type} {c : α → List AV} {r : List α} {zv : α} {zc : List AV} {e : TypeId} {m : Nat} {nn : Int} {ki : IntKind} (hr : zap [] nn zv = some r) (hzc : c zv = zc) [hu : Ul C T (.slice e)] [hu1 : Ul C U (.int ki)] [hok : Ao C e m] [hz : Zm C e zc] (hx : un g (S.get C x) = .snil := by exact rfl) (hy : un g (S.get C y) = .val (.int k nn) := by exact rfl) (hzl : zc.length = m := by exact rfl) (hcell : zc.all AV.cell = true := by exact rfl) (hd : S.h [d] = none := by exact rfl) (hfz : (C.frz f).contains d = false := by exact rfl) :
    evOp C f call S g ⟨some d, .call ⟨.builtin .append, ⟨[x, y]⟩, ⟨[T, U]⟩⟩, ty, pos, af, gd⟩ = some ⟨[(d, .rs [d] 0 r.length)], [], [([d], some (r.map c))]⟩ := by
  obtain ⟨e1, e2⟩ := zap_rows (c := c) hr
  refine oApZ0 (q := []) (c := c) (i1 := []) hr hzc hu.ul hu1.ul hok.ao hz.zm hx rfl hy hzl hcell hd hfz ?_
  rw [e2, hzc]
  simp [appTail, put, e1]
/-- A literal of functions, at a place that is not known. -/
def idxF (n : Nat) (i : Int) : Option Nat := if 0 ≤ i ∧ i < n then some i.toNat else none
theorem ife {ρ : Type} {p : Bool} {A B : Option ρ} {r : ρ} {G : Prop} (hF : (if p = true then A else B) = some r) (h1 : p = true → A = some r → G) (h2 : p = false → B = some r → G) : G := by
  cases p with
  | true => exact h1 rfl (by simpa using hF)
  | false => exact h2 rfl (by simpa using hF)
theorem oIxF {e : TypeId} {m n j xx : Nat} {bb : Bool} {rows : Rows} {r : List AV} {i : Int} (h : idxF n i = some xx) (hb : (xx == j) = true) [hu : Ul C T (.slice e)] [hs : Sz C e bb m] (hx : un g (S.get C x) = .sl rows := by first | exact rfl | exact gvv) (hr : rows[j]? = some r := by exact rfl) (hy : un g (S.get C y) = .val (.int k i) := by first | exact rfl | exact gvv) (hl : r.length = m := by exact rfl) (hm : Nat.blt 0 m = true := by exact rfl) :
    evOp C f call S g ⟨some d, .indexAddr T x y, ty, pos, af, gd⟩ = some ⟨[(d, .vp r)], [], []⟩ := by
  show evIndexAddr C S _ T (un g (S.get C x)) (intOfV (un g (S.get C y))) = _
  have hm' : 0 < m := of_decide_eq_true (blt_decide hm)
  unfold idxF at h
  split at h
  · rename_i hc
    simp only [Option.some.injEq] at h
    have hj : i.toNat = j := by rw [h]; simpa using hb
    simp only [hx, hy, intOfV, evIndexAddr, hu.ul, hs.sz]
    rw [if_pos hc.1, hj, hr]
    simp only [Option.bind_some]
    rw [if_pos ⟨hl, hm'⟩]; rfl
  · cases h
/-- Numbers laid over a slice's first ones. -/
theorem oCopy {α : Type} {c : α → List AV} {q q' : List α} {id : Id} {e : TypeId} {n : Nat} {ay : AV} {i2 : List Id} [hu : Ul C T (.slice e)] [hs : Sz C e false 1] (hx : un g (S.get C x) = .rs id 0 n := by exact rfl) (hh : S.h id = some (some (q.map c)) := by exact rfl) (hn : n = q.length := by exact len_ok) (hy : un g (S.get C y) = ay := by exact gt) (hr : rowsOf S.h ay = some (q'.map c, i2)) (h1 : ∀ x, oneVal (c x) = true := by exact fun _ => rfl) (hsl : ∀ x, (c x).length = 1 := by exact fun _ => rfl) :
    evOp C f call S g ⟨some d, .call ⟨.builtin .copy, ⟨[x, y]⟩, ⟨[T, U]⟩⟩, ty, pos, af, gd⟩ = some ⟨[(d, goI ((min q'.length q.length : Nat) : Int))], id :: i2, [(id, some ((cpy q q').map c))]⟩ := by
  show evCopy C S _ ⟨[T, U]⟩ ([x, y].map fun x => un g (S.get C x)) = _
  subst hn
  have hu : ((⟨[T, U]⟩ : Array TypeId)[0]?).bind C.P.underlying = some (.slice e) := hu.ul
  simp only [List.map_cons, List.map_nil, hx, hy, evCopy, hu, hs.sz, hr, hh, List.length_map]
  rw [if_pos (by
    simp only [Bool.and_eq_true, decide_eq_true_eq]
    refine ⟨⟨?_, all_map_len hsl⟩, by simp⟩
    simp only [List.all_map, List.all_eq_true, Function.comp]
    exact fun x _ => h1 x)]
  simp [put, cpy, List.map_append, List.map_take, List.map_drop]
end
/-! ### At a function's end -/
section
variable {C : Cx} {S : St} {rv : List ResultVar} {lend : List Nat} {vs outs : List AV} {ids is : List Id} {r : AV}
theorem fin0 (hp : packL S.h S.t lend = some (outs, is) := by exact plk) (hn : nodupB is = true := by exact rfl) : Fin C [] lend (.tup []) outs (.ret, S) := ⟨.inl rfl, [], [], is, rsN, hp, hn, rfl⟩
theorem fin0N (hp : packL S.h S.t lend = some (outs, is) := by exact plk) (hn : nodupB is = true := by exact rfl) : Fin C [] lend (.tup []) outs (.normal, S) := ⟨.inr rfl, [], [], is, rsN, hp, hn, rfl⟩
theorem fin1 (h : ressC C S rv = some ([r], ids) := by exact rsk) (hp : packL S.h S.t lend = some (outs, is) := by exact plk) (hn : nodupB (ids ++ is) = true := by exact rfl) : Fin C rv lend r outs (.ret, S) := ⟨.inl rfl, [r], ids, is, h, hp, hn, rfl⟩
theorem fin1N (h : ressC C S rv = some ([r], ids) := by exact rsk) (hp : packL S.h S.t lend = some (outs, is) := by exact plk) (hn : nodupB (ids ++ is) = true := by exact rfl) : Fin C rv lend r outs (.normal, S) := ⟨.inr rfl, [r], ids, is, h, hp, hn, rfl⟩
theorem finT {a b : AV} (h : ressC C S rv = some (a :: b :: vs, ids) := by exact rsk) (hp : packL S.h S.t lend = some (outs, is) := by exact plk) (hn : nodupB (ids ++ is) = true := by exact rfl) : Fin C rv lend (.tup (a :: b :: vs)) outs (.ret, S) := ⟨.inl rfl, _, ids, is, h, hp, hn, rfl⟩
theorem finTN {a b : AV} (h : ressC C S rv = some (a :: b :: vs, ids) := by exact rsk) (hp : packL S.h S.t lend = some (outs, is) := by exact plk) (hn : nodupB (ids ++ is) = true := by exact rfl) : Fin C rv lend (.tup (a :: b :: vs)) outs (.normal, S) := ⟨.inr rfl, _, ids, is, h, hp, hn, rfl⟩
end
end Go.Ab
