/-
  STEPS (second making): memory of one's own, calls, packing, functions.
-/
import Derived.Test.YtbhpblokoecoaaaAbV2
namespace Go.Ab
open Go
section
variable {α : Type} {c : α → List AV} {q : List α} {p : Id} {j : Nat} {l l0 l' : List AV} {v v' : AV} {wr : List (Id × Option Rows)} {rows : Rows}
theorem upN : unpackC p j [] = ([], []) := rfl
theorem upI (hl : l = v :: l0) (hv : unpackC p j [v] = ([v], [])) (k : unpackC p (j + 1) l0 = (l', wr)) : unpackC p j l = (v :: l', wr) := by
  subst hl
  cases v <;> simp_all [unpackC]
theorem upO {m : Nat} (hl : l = .own (q.map c) m :: l0) (k : unpackC p (j + 1) l0 = (l', wr)) : unpackC p j l = (.rs (j :: p) 0 m :: l', (j :: p, some (q.map c)) :: wr) := by
  subst hl; simp [unpackC, k]
theorem upM (hl : l = .om rows :: l0) (k : unpackC p (j + 1) l0 = (l', wr)) : unpackC p j l = (.mr (j :: p) :: l', (j :: p, some rows) :: wr) := by
  subst hl; simp [unpackC, k]
theorem upk (h : unpackC p j l = (l', wr) := by repeat' (first | exact upN | (apply upI; exact rfl; (first | exact rfl | exact upEr)) | (apply upO; exact rfl) | (apply upL; exact rfl) | (apply upM; exact rfl))) : unpackC p j l = (l', wr) := h
theorem impO {m : Nat} : imp p (.own (q.map c) m) = (.rs p 0 m, [(p, some (q.map c))]) := by simp [imp]
theorem impA (h : unpackC p 0 l = (l', wr)) : imp p (.agg l) = (.agg l', wr) := by simp [imp, h]
theorem impP (h : unpackC p 0 l = (l', wr)) : imp p (.ownp l) = (.mp p 0 0, (p, some [l']) :: wr) := by simp [imp, h]
theorem ilN : impL p j [] = ([], []) := rfl
theorem ilI (hl : l = v :: l0) (hv : impL p j [v] = ([v], [])) (k : impL p (j + 1) l0 = (l', wr)) : impL p j l = (v :: l', wr) := by
  subst hl
  cases v with
  | own rows m => simp [impL] at hv
  | ownp cells => simp [impL] at hv
  | om rows => simp [impL] at hv
  | agg cs =>
    simp only [impL, List.append_nil, Prod.mk.injEq, List.cons.injEq, AV.agg.injEq, and_true] at hv
    simp [impL, k, hv.1, hv.2]
  | tup vs => simp [impL] at hv
  | _ => simp [impL, k]
theorem impT (h : impL p 0 l = (l', wr)) : imp p (.tup l) = (.tup l', wr) := by simp [imp, h]
theorem impk (h : imp p v = (v', wr) := by first | exact (rfl : imp _ (.val _) = (.val _, [])) | exact (rfl : imp _ (.sl _) = (.sl _, [])) | exact impEr | exact impO | exact impL' | exact impM | (apply impA; exact upk) | (apply impP; exact upk) | (apply impT; repeat' (first | exact ilN | (apply ilI; exact rfl; (first | exact rfl | exact ilEr)) | (apply ilO; exact rfl) | (apply ilM; exact rfl) | (apply ilA; exact rfl; exact upk))) | exact rfl) : imp p v = (v', wr) := h
theorem mkN {n : Nat} {vs : List AV} : mkSt n [] vs = ⟨n, fun _ => .junk, fun _ => none⟩ := rfl
theorem mkI {n s : Nat} {t : Nat → AV} {h : Id → Option (Option Rows)} {l : List Nat} {vs : List AV} (hi : imp [s] v = (v, [])) (k : mkSt n l vs = ⟨n, t, h⟩) : mkSt n (s :: l) (v :: vs) = ⟨n, upd t s v, h⟩ := by
  simp [mkSt, k, hi, updH]
theorem mkG {n s : Nat} {t : Nat → AV} {h : Id → Option (Option Rows)} {l : List Nat} {vs : List AV} (hi : imp [s] v = (v', wr)) (k : mkSt n l vs = ⟨n, t, h⟩) : mkSt n (s :: l) (v :: vs) = ⟨n, upd t s v', updH h wr⟩ := by
  simp [mkSt, k, hi]
theorem mkk {n : Nat} {t : Nat → AV} {h : Id → Option (Option Rows)} {l : List Nat} {vs : List AV} (k : mkSt n l vs = ⟨n, t, h⟩ := by repeat' (first | exact mkN | (apply mkI; first | exact rfl | exact impEr) | (apply mkG; exact impk))) : mkSt n l vs = ⟨n, t, h⟩ := k
end
section
variable {C : Cx} {f : FuncId} {call : CallT} {c : Code} {Q : Exit × St → Prop} {n : Nat} {t : Nat → AV} {h : Id → Option (Option Rows)} {l : List Nat} {vs : List AV}
theorem mk (k : W C f call c ⟨n, t, h⟩ Q) (hm : mkSt n l vs = ⟨n, t, h⟩ := by exact mkk) : W C f call c (mkSt n l vs) Q := by rw [hm]; exact k
theorem qmk {e : Exit} (k : Q (e, ⟨n, t, h⟩)) (hm : mkSt n l vs = ⟨n, t, h⟩ := by exact mkk) : Q (e, mkSt n l vs) := by rw [hm]; exact k
end
def cpy {α : Type} (a b : List α) : List α := b.take (min b.length a.length) ++ a.drop (min b.length a.length)
theorem cpy_len {α : Type} (a b : List α) : (cpy a b).length = a.length := by
  unfold cpy
  rw [List.length_append, List.length_take, List.length_drop]; omega
section
variable {L : Id → Option (Option Rows)} {n : Nat} {α : Type} {c : α → List AV} {q : List α} {id : Id} {cs cs' : List AV} {ids is : List Id} {x v : AV}
theorem fl_map [hc : Fl c] (q : List α) : flatR (q.map c) = true := flatR_map c q hc.fl
theorem len_ok {m m' : Nat} (h : m = m' := by first | exact rfl | exact List.length_map _ | (first | (with_reducible assumption) | assumption) | (symm; (first | (with_reducible assumption) | assumption)) | (simp only [List.length_map, List.length_set, cpy_len]; done) | (simp only [List.length_map, List.length_set, cpy_len]; first | (first | (with_reducible assumption) | assumption) | (symm; (first | (with_reducible assumption) | assumption))) | (simp only [List.length_map, List.length_set, cpy_len, *]; done)) : m = m' := h
theorem pk_flat {y : AV × List Id} : ∀ {a : AV}, flat a = true → pk L (n + 1) a = some y → y = (a, []) := by
  intro a hf h
  cases a with
  | agg cs => simp only [flat] at hf; simp [pk, pkC, hf] at h; exact h.symm
  | tup cs => simp only [flat] at hf; simp [pk, pkC, hf] at h; exact h.symm
  | own rs m => simp only [flat] at hf; simp [pk, hf] at h; exact h.symm
  | ownp cs => simp only [flat] at hf; simp [pk, hf] at h; exact h.symm
  | fn k a b =>
    simp only [pk] at h
    split at h
    · simpa using h.symm
    · cases h
  | rs _ _ _ => simp [flat] at hf
  | mp _ _ _ => simp [flat] at hf
  | mr _ => simp [flat] at hf
  | gv _ _ => simp [flat] at hf
  | snil => simp [flat] at hf
  | _ => simp [pk] at h; exact h.symm
theorem foldC_flat : ∀ {cs : List AV} {y : List AV × List Id}, flatL cs = true → foldC (pk L (n + 1)) cs = some y → y = (cs, [])
  | [], y, _, h => by simp [foldC] at h; exact h.symm
  | c :: cs, y, hf, h => by
    simp only [flatL, Bool.and_eq_true] at hf
    simp only [foldC, Option.bind_eq_some_iff, Option.map_eq_some_iff] at h
    obtain ⟨u, hu, v, hv, rfl⟩ := h
    obtain rfl := pk_flat hf.1 hu
    obtain rfl := foldC_flat hf.2 hv
    rfl
theorem pkC_of {y : List AV × List Id} (h : foldC (pk L (n + 1)) cs = some y) : pkC (pk L (n + 1)) cs = some y := by
  unfold pkC
  split
  · rename_i hf; rw [foldC_flat hf h]
  · exact h
theorem pkV {w : Value} (hx : x = .val w := by exact rfl) : pk L (n + 1) x = some (.val w, []) := by rw [hx]; rfl
theorem pkS {r : Rows} (hx : x = .sl r := by exact rfl) : pk L (n + 1) x = some (.sl r, []) := by rw [hx]; rfl
theorem pkP {r : List AV} (hx : x = .vp r := by exact rfl) : pk L (n + 1) x = some (.vp r, []) := by rw [hx]; rfl
theorem pkN (hx : x = .snil := by exact rfl) : pk L (n + 1) x = some (.own [] 0, []) := by rw [hx]; rfl
theorem pkRs {m : Nat} [hc : Fl c] (hx : x = .rs id 0 m := by exact rfl) (hh : L id = some (some (q.map c)) := by exact rfl) (hl : m = q.length := by exact len_ok) : pk L (n + 1) x = some (.own (q.map c) q.length, [id]) := by
  rw [hx, hl]; exact pk_rs hh (by simp) (fl_map q)
theorem pkRg {m : Nat} [hc : Fl c] (hl : m ≤ q.length) (hx : x = .rs id 0 m := by exact rfl) (hh : L id = some (some (q.map c)) := by exact rfl) : pk L (n + 1) x = some (.own (q.map c) m, [id]) := by
  rw [hx]; exact pk_rs hh (by simpa using hl) (fl_map q)
theorem pkO {m : Nat} [hc : Fl c] (hx : x = .own (q.map c) m := by exact rfl) : pk L (n + 1) x = some (.own (q.map c) m, []) := by
  rw [hx]; simp [pk, fl_map]
theorem pkAi (hx : x = .agg cs := by exact rfl) (hf : flatL cs = true := by exact rfl) : pk L (n + 1) x = some (.agg cs, []) := by
  rw [hx]; simp [pk, pkC, hf]
theorem pkA (hx : x = .agg cs) (h : foldC (pk L (n + 1)) cs = some (cs', ids)) : pk L (n + 2) x = some (.agg cs', ids) := by
  rw [hx, show pk L (n + 2) (.agg cs) = (pkC (pk L (n + 1)) cs).map fun x => (.agg x.1, x.2) from rfl, pkC_of h]; rfl
theorem pkMi (hx : x = .mp id 0 0 := by exact rfl) (hh : L id = some (some [cs]) := by exact rfl) (hf : flatL cs = true := by exact rfl) : pk L (n + 1) x = some (.ownp cs, [id]) := by
  rw [hx]; simp [pk, pkC, hh, hf]
theorem pkM (hx : x = .mp id 0 0) (hh : L id = some (some [cs])) (h : foldC (pk L (n + 1)) cs = some (cs', ids)) : pk L (n + 2) x = some (.ownp cs', id :: ids) := by
  have e : pk L (n + 2) (.mp id 0 0) = match L id with
      | some (some [cs]) => if 0 = 0 ∧ 0 = 0 then (pkC (pk L (n + 1)) cs).map fun x => (.ownp x.1, id :: x.2) else none
      | _ => none := rfl
  rw [hx, e, hh]
  simp only [and_self, if_true, pkC_of h]; rfl
theorem pkMF {xx : α} [hc : Fl c] (hx : x = .mp id 0 0 := by exact rfl) (hh : L id = some (some [c xx]) := by exact rfl) : pk L (n + 1) x = some (.ownp (c xx), [id]) := by
  rw [hx]; simp [pk, pkC, hh, hc.fl]
theorem pkMr {rows : Rows} (hx : x = .mr id := by exact rfl) (hh : L id = some (some rows) := by exact rfl) : pk L (n + 1) x = some (.om rows, [id]) := by
  rw [hx]; simp [pk, hh]
theorem pkF {k : Fn} {a b : List AV} (hx : x = .fn k a b := by exact rfl) (hf : (immL a && immL b) = true := by exact rfl) : pk L (n + 1) x = some (.fn k a b, []) := by
  rw [hx]; simp only [Bool.and_eq_true] at hf; simp [pk, hf.1, hf.2]
theorem foN {p : AV → Option (AV × List Id)} (hx : cs = [] := by exact rfl) : foldC p cs = some ([], []) := by rw [hx]; rfl
theorem foC {p : AV → Option (AV × List Id)} {a b : AV} {as bs : List AV} {i1 i2 : List Id} (hx : cs = a :: as) (h : p a = some (b, i1)) (k : foldC p as = some (bs, i2)) : foldC p cs = some (b :: bs, i1 ++ i2) := by subst hx; simp [foldC, h, k]
theorem plN {t : Nat → AV} : packL L t [] = some ([], []) := rfl
theorem plC {t : Nat → AV} {s : Nat} {sl : List Nat} {vs : List AV} (h1 : pk L 9 (t s) = some (v, ids)) (h2 : packL L t sl = some (vs, is)) : packL L t (s :: sl) = some (v :: vs, ids ++ is) := by
  rw [packL_cons, h1, Option.bind_some, h2]; rfl
end
section
variable {α : Type} {c c' : α → List AV} {q : List α} {k : Nat} {x x' : α} {r r' : List AV}
theorem rowM (h : q[k]? = some x) : (q.map c)[k]? = some (c x) := by simp [h]
theorem setM : (q.map c).set k r = (q.map c).set k r := rfl
theorem setO : ((q.map c).set k r).set k r' = (q.map c).set k r' := List.set_set ..
theorem setC : (q.map c).set k (c x) = (q.set k x).map c := by rw [List.map_set]
theorem foldR_open {p : List AV → Option (List AV × List Id)} {ids : List Id} (hp : ∀ y, p (c y) = some (c y, [])) (hr : p r = some (r', ids)) : ∀ {q : List α} {k : Nat} {x : α}, q[k]? = some x →
    foldR p ((q.map c).set k r) = some ((q.map c).set k r', ids)
  | [], k, x, h => by simp at h
  | y :: q, 0, x, h => by
    have key : ∀ q : List α, foldR p (q.map c) = some (q.map c, []) := by
      intro q
      induction q with
      | nil => rfl
      | cons z q ih => simp [foldR, hp, ih]
    simp [foldR, hr, key]
  | y :: q, k + 1, x, h => by
    have ih := foldR_open hp hr (q := q) (k := k) (x := x) (by simpa using h)
    simp only [List.map_cons, List.set_cons_succ, foldR, hp, Option.bind_some, ih, Option.map_some, List.nil_append]
theorem flatR_open (hf : flatL r = false) : ∀ {q : List α} {k : Nat} {x : α}, q[k]? = some x → flatR ((q.map c).set k r) = false
  | [], k, x, h => by simp at h
  | y :: q, 0, x, h => by simp [flatR, hf]
  | y :: q, k + 1, x, h => by
    have ih := flatR_open hf (q := q) (k := k) (x := x) (by simpa using h)
    simp [flatR, ih]
end
section
variable {L : Id → Option (Option Rows)} {n m : Nat} {α : Type} {c c' : α → List AV} {q : List α} {k : Nat} {x x' : α} {r r' : List AV} {id : Id} {ids : List Id} {v : AV}
theorem lle {a b : Nat} (h : a ≤ b := by first | exact Nat.le_refl _ | (first | (with_reducible assumption) | assumption) | (simp only [List.length_set, cpy_len]; first | exact Nat.le_refl _ | (first | (with_reducible assumption) | assumption)) | (simp only [List.length_set, cpy_len]; omega)) : a ≤ b := h
theorem pkRsO [hc : Fl c] (hx : v = .rs id 0 m) (hh : L id = some (some ((q.map c).set k r))) (hf : flatL r = false) (hk : q[k]? = some x) (hm : m ≤ q.length) (hr : foldC (pk L (n + 1)) r = some (r', ids)) (hr' : r' = c x') :
    pk L (n + 2) v = some (.own ((q.set k x').map c) m, id :: ids) := by
  subst hr'
  rw [hx]
  have e : pk L (n + 2) (.rs id 0 m) = match L id with
    | some (some rs) => if 0 = 0 ∧ m ≤ rs.length then (pkR (pk L (n + 1)) rs).map fun x => (.own x.1 m, id :: x.2) else none
    | _ => none := rfl
  rw [e, hh]
  simp only [List.length_set, List.length_map, true_and, if_pos hm]
  have h2 : pkR (pk L (n + 1)) ((q.map c).set k r) = some ((q.map c).set k (c x'), ids) := by
    unfold pkR
    rw [if_neg (by rw [flatR_open hf hk]; simp)]
    exact foldR_open (fun y => by simp [pkC, hc.fl]) (pkC_of hr) hk
  rw [h2, setC]; rfl
theorem pkRsP [hc : Fl c] (hx : v = .rs id 0 m) (hh : L id = some (some ((q.map c).set k r))) (hf : flatL r = false) (hk : q[k]? = some x) (hm : m = q.length) (hr : foldC (pk L (n + 1)) r = some (r', ids)) (hr' : r' = c x') :
    pk L (n + 2) v = some (.own ((q.set k x').map c) (q.set k x').length, id :: ids) := by
  rw [List.length_set, ← hm]
  exact pkRsO hx hh hf hk (by omega) hr hr'
theorem pkRsL {rows rows' : Rows} (hx : v = .rs id 0 m) (hh : L id = some (some rows)) (hm : Nat.ble m rows.length = true) (hf : flatR rows = false) (hr : foldR (pkC (pk L n)) rows = some (rows', ids)) : pk L (n + 1) v = some (.own rows' m, id :: ids) := by
  rw [hx]
  have e : pk L (n + 1) (.rs id 0 m) = match L id with
    | some (some rs) => if 0 = 0 ∧ m ≤ rs.length then (pkR (pk L n) rs).map fun x => (.own x.1 m, id :: x.2) else none
    | _ => none := rfl
  rw [e, hh]
  have hm' : m ≤ rows.length := Nat.le_of_ble_eq_true hm
  simp only [true_and, if_pos hm', pkR, hf, Bool.false_eq_true, if_false, hr, Option.map_some]
theorem prN {p : List AV → Option (List AV × List Id)} {rows : Rows} (e : rows = [] := by exact rfl) : foldR p rows = some ([], []) := by subst e; rfl
theorem prC {p : List AV → Option (List AV × List Id)} {rows rs rs' : Rows} {i1 i2 : List Id} (e : rows = r :: rs) (h1 : p r = some (r', i1)) (h2 : foldR p rs = some (rs', i2)) : foldR p rows = some (r' :: rs', i1 ++ i2) := by
  subst e; simp [foldR, h1, h2]
theorem pkRn [hc : Fl c] (hx : v = .rs id 0 m := by exact rfl) (hh : L id = some (some (q.map c)) := by exact rfl) (hm : m ≤ q.length := by exact lle) : pk L (n + 1) v = some (.own (q.map c) m, [id]) := pkRg hm hx hh
end
section
variable {L : Id → Option (Option Rows)} {n : Nat} {α : Type} {c : α → List AV} {q : List α} {id : Id} {cs cs' : List AV} {ids is : List Id} {x v : AV}
theorem pkk {a : AV} {y : Option (AV × List Id)} (h : pk L n a = y := by repeat' (first | exact pkV | exact pkEr | exact pkNN | exact pkS | exact pkRs | exact pkRn | (apply pkRsP; exact rfl; exact rfl; exact rfl; (first | (with_reducible assumption) | assumption); exact len_ok; rotate_left; exact rfl) | (apply pkRsO; exact rfl; exact rfl; exact rfl; (first | (with_reducible assumption) | assumption); exact lle; rotate_left; exact rfl) | exact pkAi | exact pkP | exact pkN | exact pkO | exact pkMi | exact pkMF | exact pkRl | exact pkOl | exact pkTi | exact pkF | exact pkMr | exact pkOm | exact pkIm | exact foN | (apply foC; exact rfl) | (apply pkA; exact rfl) | (apply pkM; exact rfl; exact rfl) | (apply pkT; exact rfl) | (apply pkRsL; exact rfl; exact rfl; exact rfl; exact rfl) | exact prN | (apply prC; exact rfl) | exact pcF | (apply pcX; exact rfl))) : pk L n a = y := h
theorem plk {t : Nat → AV} {sl : List Nat} {y : Option (List AV × List Id)} (h : packL L t sl = y := by repeat' (first | exact plN | (apply plC; exact pkk))) : packL L t sl = y := h
theorem cutR' {o : Option (Bool × List Nat)} {slots : List Nat} {t : Nat → AV} {vs : List AV} (hk : o = some (false, slots) := by exact rfl) (hp : packL L t slots = some (vs, is) := by exact plk) (hn : nodupB is = true := by exact rfl) : cutC o ⟨n, t, L⟩ = some (mkSt n slots vs) := by
  subst hk
  show (renorm ⟨n, t, L⟩ slots).map _ = _
  rw [renorm_mk, hp]; simp [hn]
theorem ren {slots : List Nat} {t : Nat → AV} {vs : List AV} (hp : packL L t slots = some (vs, is) := by exact plk) (hn : nodupB is = true := by exact rfl) : renorm ⟨n, t, L⟩ slots = some vs := by
  rw [renorm_mk, hp]; simp [hn]
end
section
variable {n : Nat} {t t2 : Nat → AV} {h : Id → Option (Option Rows)} {slots r : List Nat} {l : List (Id × Id)} {hl y : List (Id × Rows)} {α : Type} {c : α → List AV} {q : List α}
def stN (n : Nat) (l : List (Nat × AV)) (h : List (Id × Rows)) : St := ⟨n, updS (fun _ => .junk) l, mkH h⟩
theorem flC0 {r cs : List AV} {a : AV} (e : r = a :: cs) (h1 : flat a = true) (h2 : flatL cs = true) : flatL r = true := by subst e; simp [flatL, h1, h2]
theorem flS0 {rows : Rows} (e : rows = [] := by exact rfl) : flatR rows = true := by subst e; rfl
theorem flS1 {rows rs : Rows} {r : List AV} (e : rows = r :: rs) (h1 : flatL r = true) (h2 : flatR rs = true) : flatR rows = true := by subst e; simp [flatR, h1, h2]
theorem flRk {rows : Rows} (k : flatR rows = true := by (repeat' (first | exact fl_map _ | exact flS0 | (apply flS1; exact rfl) | exact flN0 | (apply flC0; exact rfl) | exact rfl | exact flEr' | exact flO')); first | done | fail) : flatR rows = true := k
theorem mnN : mkT l t [] = updS (fun _ => .junk) [] := rfl
theorem mnC {s : Nat} {v' : AV} {vs : List (Nat × AV)} (he : renAv l (t s) = v') (hr : mkT l t r = updS (fun _ => .junk) vs) : mkT l t (s :: r) = updS (fun _ => .junk) ((s, v') :: vs) := by
  subst he; simp [mkT, hr, updS]
theorem rnF [hc : Fl c] : renRows l (q.map c) = some (q.map c) := by simp [renRows, fl_map]
theorem rnO {cs cs' : List AV} (hf : flatL cs = false := by exact rfl) (h : renAl l cs = some cs' := by first | exact rfl | exact rak) : renRows l [cs] = some [cs'] := by
  simp [renRows, flatR, hf, renRs, h]
theorem rnI {rows : Rows} (hf : flatR rows = true := by first | exact rfl | exact flRk) : renRows l rows = some rows := by simp [renRows, hf]
end
section
variable {l : List (Id × Id)} {α : Type} {c : α → List AV} {q : List α} {k : Nat} {x x' : α} {r r' : List AV}
end
section
variable {n : Nat} {t t2 : Nat → AV} {h : Id → Option (Option Rows)} {slots r : List Nat} {l : List (Id × Id)} {hl y : List (Id × Rows)} {α : Type} {c : α → List AV} {q : List α}
theorem hnN {L : Id → Option (Option Rows)} : heapN L l [] = some [] := rfl
theorem hnC {L : Id → Option (Option Rows)} {r : List (Id × Id)} {o k : Id} {rows rows' : Rows} (h : L o = some (some rows)) (hr : renRows l rows = some rows') (hy : heapN L l r = some y) : heapN L l ((o, k) :: r) = some ((k, rows') :: y) := by
  simp [heapN, h, hr, hy]
theorem hnk {L : Id → Option (Option Rows)} {r : List (Id × Id)} (h : heapN L l r = some y := by repeat' (first | exact hnN | (apply hnC; exact rfl; first | exact rnF | exact rnC rfl | exact rnS (by (first | (with_reducible assumption) | assumption)) | exact rnO | exact rnI))) : heapN L l r = some y := h
theorem mnk {vs : List (Nat × AV)} (h : mkT l t slots = updS (fun _ => .junk) vs := by repeat' (first | exact mnN | (apply mnC; first | exact rfl | exact rnRs))) : mkT l t slots = updS (fun _ => .junk) vs := h
def isSnil : AV → Bool
  | .snil => true
  | _ => false
theorem nsN {y : St} (e : (⟨n, t, h⟩ : St) = y := by exact rfl) : nilL [] ⟨n, t, h⟩ = y := e
theorem nsI {s : Nat} {sl : List Nat} {y : St} (hs : isSnil (t s) = false) (k : nilL sl ⟨n, t, h⟩ = y) : nilL (s :: sl) ⟨n, t, h⟩ = y := by
  have e : nil1 ⟨n, t, h⟩ s = ⟨n, t, h⟩ := by
    simp only [nil1]
    split
    · rename_i h1 _; rw [h1] at hs; cases hs
    · rfl
  rw [nilL, e]; exact k
theorem nsk {y : St} (k : nilL slots ⟨n, t, h⟩ = y := by repeat' (first | with_reducible exact nsN | (apply nsI; first | exact rfl | exact isnEr) | (apply nsC; exact rfl; exact rfl) | exact nsN)) : nilL slots ⟨n, t, h⟩ = y := k
section
variable {keep : Id → Bool} {o : Id} {ol : List Id} {y0 : Option St} {rows rows' : Rows} {ids : List Id} {r r' : List AV} {k : Nat}
theorem clN' {α : Type} {g : α → Id} {y0 : Option St} (e : some (⟨n, t, h⟩ : St) = y0 := by exact rfl) : closeL keep (List.map g []) ⟨n, t, h⟩ = y0 := e
theorem nb_ok (e : (nodupB ids && !ids.contains o) = true) : (nodupB ids && !ids.contains o) = true := e
theorem clF (hh : h o = some (some rows)) (hf : flatR rows = true) (k : closeL keep ol ⟨n, t, h⟩ = y0) : closeL keep (o :: ol) ⟨n, t, h⟩ = y0 := by
  have e : close1 keep ⟨n, t, h⟩ o = some ⟨n, t, h⟩ := by simp only [close1, hh, hf, if_true]
  rw [closeL, e]; exact k
theorem clX (hh : h o = some (some rows)) (hf : flatR rows = false) (hc : foldR (clRow h keep) rows = some (rows', ids)) (hn : (nodupB ids && !ids.contains o) = true) (k : closeL keep ol ⟨n, t, updH h ((o, some rows') :: ids.map fun i => (i, none))⟩ = y0) : closeL keep (o :: ol) ⟨n, t, h⟩ = y0 := by
  have e : close1 keep ⟨n, t, h⟩ o = some ⟨n, t, updH h ((o, some rows') :: ids.map fun i => (i, none))⟩ := by
    simp only [close1, hh, hf, hc, hn, if_true]
    rfl
  rw [closeL, e]; exact k
theorem crX (hf : flatL r = false := by exact rfl) (hc : foldC (clC h keep) r = some (r', ids)) : clRow h keep r = some (r', ids) := by simp [clRow, hf, hc]
theorem foR0 {p : List AV → Option (List AV × List Id)} (e : rows = [] := by exact rfl) : foldR p rows = some ([], []) := by subst e; rfl
theorem foR1 {p : List AV → Option (List AV × List Id)} {rs : Rows} {i1 i2 : List Id} (e : rows = r :: rs) (h1 : p r = some (r', i1)) (h2 : foldR p rs = some (rows', i2)) : foldR p rows = some (r' :: rows', i1 ++ i2) := by
  subst e; simp [foldR, h1, h2]
theorem ccK {i : Id} {off len : Nat} {x : AV} (hx : x = .rs i off len := by exact rfl) (hk : keep i = true := by exact rfl) : clC h keep x = some (.rs i off len, []) := by subst hx; simp [clC, hk]
theorem ccM {i : Id} {row off : Nat} {x : AV} (hx : x = .mp i row off := by exact rfl) (hk : keep i = true := by exact rfl) : clC h keep x = some (.mp i row off, []) := by subst hx; simp [clC, hk]
theorem ccN {x : AV} (hx : x = .snil := by exact rfl) : clC h keep x = some (.own [] 0, []) := by subst hx; rfl
theorem ccF {x : AV} (hf : flat x = true) : clC h keep x = some (x, []) := by
  unfold clC
  split
  · simp [flat] at hf
  · simp [flat] at hf
  · simp [flat] at hf
  · simp [flat] at hf
  · rw [if_pos hf]
end
section
variable {α : Type} {c : α → List AV} {q : List α} {k : Nat} {x x' : α} {r r' : List AV} {ids : List Id} {keep : Id → Bool} {o : Id} {ol : List Id} {y0 : Option St}
end
theorem clk {keep : Id → Bool} {ol : List Id} {y0 : Option St} (k : closeL keep ol ⟨n, t, h⟩ = y0 := by repeat' (first | with_reducible exact clN | with_reducible exact clN' | (apply clF; exact rfl; first | exact fl_map _ | exact rfl | exact flRk) | (apply clT; exact rfl; exact rfl; (first | (with_reducible assumption) | assumption); exact inferInstance) | (apply clX; exact rfl; exact rfl) | exact foR0 | (apply foR1; exact rfl) | exact crF | (apply crX; exact rfl) | exact ccK | exact ccM | exact ccMr | exact ccN | (apply ccQr; exact rfl; exact rfl; exact pkk) | (apply ccP; exact rfl; exact rfl; exact pkk) | (apply ccQ; exact rfl; exact rfl; exact pkk) | (apply ccF; first | exact rfl | exact flEr | exact flO) | exact foN | (apply foC; exact rfl) | exact nb_ok rfl)) : closeL keep ol ⟨n, t, h⟩ = y0 := k
def leadB : AV → Bool
  | .rs _ _ _ => true
  | .mp _ _ _ => true
  | .mr _ => true
  | .agg _ => true
  | _ => false
section
variable {L : Id → Option (Option Rows)} {m j : Nat} {p i : Id} {acc acc' acc2 y l : List (Id × Id)} {a : AV} {as cs as0 : List AV} {S : St} {s : Nat} {slots : List Nat}
theorem cvE (hx : as0 = []) (e : acc = y) : collV L m p j acc as0 = y := by subst hx; cases m <;> exact e
theorem cvS (hx : as0 = a :: as) (hs : leadB a = false) (k : collV L m p (j + 1) acc as = y) : collV L (m + 1) p j acc as0 = y := by
  subst hx
  cases a <;> first | exact k | cases hs
theorem cvR {o n : Nat} (hx : as0 = .rs i o n :: as) (hn : (renI acc i).isSome = false) (hl : acc ++ [(i, j :: p)] = acc') (k : collV L m p (j + 1) acc' as = y) : collV L (m + 1) p j acc as0 = y := by
  subst hx hl
  simp only [collV, hn]
  exact k
theorem cvR' {o n : Nat} (hx : as0 = .rs i o n :: as) (hn : (renI acc i).isSome = true) (k : collV L m p (j + 1) acc as = y) : collV L (m + 1) p j acc as0 = y := by
  subst hx
  simp only [collV, hn]
  exact k
theorem cvM {o n : Nat} (hx : as0 = .mp i o n :: as) (hn : (renI acc i).isSome = false) (hh : L i = some (some [cs])) (hl : acc ++ [(i, j :: p)] = acc') (h1 : collV L m (j :: p) 0 acc' cs = acc2) (k : collV L m p (j + 1) acc2 as = y) : collV L (m + 1) p j acc as0 = y := by
  subst hx hl h1
  simp only [collV, hn, hh]
  exact k
theorem cvA (hx : as0 = .agg cs :: as) (h1 : collV L m (j :: p) 0 acc cs = acc2) (k : collV L m p (j + 1) acc2 as = y) : collV L (m + 1) p j acc as0 = y := by
  subst hx h1
  simp only [collV]
  exact k
theorem nmN (e : acc = l) : List.foldl (fun acc s => collV S.h 40 [s] 0 acc [S.t s]) acc [] = l := e
theorem nmC (h : collV S.h 40 [s] 0 acc [S.t s] = acc') (k : List.foldl (fun acc s => collV S.h 40 [s] 0 acc [S.t s]) acc' slots = l) : List.foldl (fun acc s => collV S.h 40 [s] 0 acc [S.t s]) acc (s :: slots) = l := by
  subst h; exact k
theorem nm0 {sl' : List Nat} (hs : slots = sl') (h : List.foldl (fun acc s => collV S.h 40 [s] 0 acc [S.t s]) [] sl' = l) : names S slots = l := by subst hs; exact h
theorem nmk (h : names S slots = l := by ((with_reducible apply nm0); exact spine); repeat' (first | ((with_reducible apply nmN); exact rfl) | (with_reducible apply nmC) | ((with_reducible apply cvE); (with_reducible exact rfl); exact rfl) | ((with_reducible apply cvS); exact rfl; first | exact rfl | exact leadEr) | ((with_reducible apply cvR); exact rfl; exact rfl; exact spine) | ((with_reducible apply cvR'); exact rfl; exact rfl) | ((with_reducible apply cvMr); exact rfl; exact rfl; exact spine) | ((with_reducible apply cvMr'); exact rfl; exact rfl) | ((with_reducible apply cvM'); exact rfl; exact rfl) | ((with_reducible apply cvM); exact rfl; exact rfl; exact rfl; exact spine) | ((with_reducible apply cvA); exact rfl))) : names S slots = l := h
end
theorem nrm {t0 t1 : Nat → AV} {h0 h1 : Id → Option (Option Rows)} {vs : List (Nat × AV)} (e0 : nilL slots ⟨n, t, h⟩ = ⟨n, t0, h0⟩ := by exact nsk) (hn : names ⟨n, t0, h0⟩ slots = l := by first | exact nmk | exact spine) (e1 : closeL (keepN l) (l.map (·.1)) ⟨n, t0, h0⟩ = some ⟨n, t1, h1⟩ := by exact clk)
    (hd : (nodupB (l.map (·.1)) && nodupB (l.map (·.2))) = true := by exact rfl) (hh : heapN h1 l l = some hl := by exact hnk) (ht : mkT l t1 slots = updS (fun _ => .junk) vs := by exact mnk) :
    norm ⟨n, t, h⟩ slots = some (stN n vs hl) := by
  subst hn
  simp only [norm, normN, e0, e1, Option.bind_some, normL, hd, if_true, hh, Option.map_some, ht, stN]
theorem cutN' {o : Option (Bool × List Nat)} {vs : List (Nat × AV)} (hk : o = some (true, slots) := by exact rfl) (hm : norm ⟨n, t, h⟩ slots = some (stN n vs hl) := by exact nrm) : cutC o ⟨n, t, h⟩ = some (stN n vs hl) := by
  subst hk; exact hm
end
section
variable {C : Cx} {f : FuncId} {call : CallT} {c : Code} {Q : Exit × St → Prop} {n : Nat} {l : List (Nat × AV)} {h : List (Id × Rows)}
theorem stm (k : W C f call c ⟨n, updS (fun _ => .junk) l, mkH h⟩ Q) : W C f call c (stN n l h) Q := k
theorem qst {e : Exit} (k : Q (e, ⟨n, updS (fun _ => .junk) l, mkH h⟩)) : Q (e, stN n l h) := k
end
section
variable {α : Type} {c c' : α → List AV} {q : List α} {as bs : List AV} {L : Id → Option (Option Rows)} {n : Nat}
theorem fzO [hc : Fz c c'] : fz (.own (q.map c) q.length) = .sl (q.map c') := by
  have : fzR (q.map c) = q.map c' := by
    induction q with
    | nil => rfl
    | cons x q ih => simp [fzR, hc.fz, ih]
  simp only [fz, this]
  rw [List.take_of_length_le (by simp)]
theorem fzC {a b : AV} (h : fz a = b) (k : fzL as = bs) : fzL (a :: as) = b :: bs := by simp [fzL, h, k]
theorem fzA (h : fzL as = bs) : fz (.agg as) = .agg bs := by simp [fz, h]
theorem fzT (h : fzL as = bs) : fz (.tup as) = .tup bs := by simp [fz, h]
theorem fzk {a b : AV} (h : fz a = b := by repeat' (first | exact (rfl : fz (.val _) = .val _) | exact fzEr | exact fzO | exact fzOt | exact (rfl : fz (.sl _) = .sl _) | apply fzA | apply fzT | apply fzP | exact (rfl : fzL [] = []) | apply fzC | exact rfl)) : fz a = b := h
end
def app {α : Type} (a b : List α) : Option (List α) := if a.length + b.length ≤ 4294967296 then some (a ++ b) else none
theorem app_some {α : Type} {a b r : List α} (h : app a b = some r) : a.length + b.length ≤ 4294967296 ∧ r = a ++ b := by
  unfold app at h; split at h
  · exact ⟨‹_›, by simpa using h.symm⟩
  · cases h
def mks {α : Type} (n : Int) (z : α) : Option (List α) := if 0 ≤ n ∧ n ≤ 4294967296 then some (List.replicate n.toNat z) else none
theorem rowCell_im {α : Type} {c : α → List AV} {q : List α} [hc : Imm c] : rowCell (q.map c) = true := by simp only [rowCell, List.all_map, List.all_eq_true]; exact fun x _ => hc.ce x
section
variable {C : Cx} {f : FuncId} {call : CallT} {S : St} {g : Bool}
variable {d : Nat} {ty : TypeId} {pos : String} {af : Array Edge} {gd : Option (Nat × Bool)} {v v' : AV}
variable {x y z : Operand} {k : IntKind} {a b : Int} {T U : TypeId}
theorem oAlloc {cs : List AV} [hz : Zm C T cs] (hn : S.h [d] = none := by exact rfl) (hsl : C.zsl f d = [] := by exact rfl) : evOp C f call S g ⟨some d, .alloc T, ty, pos, af, gd⟩ = some ⟨[(d, .mp [d] 0 0)], [], [([d], some [cs])]⟩ := by
  show evAlloc C f S _ T = _
  simp [evAlloc, hz.zm, hn, hsl, zslC]
theorem oAllocZ {cs cs' : List AV} {l : List Nat} [hz : Zm C T cs] (hsl : C.zsl f d = l := by exact rfl) (hc : zslC l cs = cs' := by exact rfl) (hn : S.h [d] = none := by exact rfl) : evOp C f call S g ⟨some d, .alloc T, ty, pos, af, gd⟩ = some ⟨[(d, .mp [d] 0 0)], [], [([d], some [cs'])]⟩ := by
  subst hc
  show evAlloc C f S _ T = _
  simp [evAlloc, hz.zm, hn, hsl]
theorem oBoxM {bb : Bool} {m : Nat} {cs : List AV} [ha : Sz C T bb m] (hin : (C.frz f).contains d = false := by exact rfl) (hx : un g (S.get C x) = v := by exact gt) (hc : cellsOfV bb v = some cs := by exact rfl) (hn : S.h [d] = none := by exact rfl) :
    evOp C f call S g ⟨some d, .box T x, ty, pos, af, gd⟩ = some ⟨[(d, .mp [d] 0 0)], [], [([d], some [cs])]⟩ := by
  show evBox C f S _ T (un g (S.get C x)) = _
  simp only [evBox, ha.ag, hx, hc, inFrz, hin, Bool.false_and, Bool.false_eq_true, if_false]
  rw [if_pos (isNone_of hn)]; rfl
theorem oFAM {i off off' row m : Nat} {bb : Bool} {id : Id} [hf : Fd C T i off m bb] (hx : un g (S.get C x) = .mp id row off' := by first | exact rfl | exact gvv) (h0 : Nat.blt 0 m = true := by exact rfl) :
    evOp C f call S g ⟨some d, .fieldAddr T x i, ty, pos, af, gd⟩ = some ⟨[(d, .mp id row (off' + off))], [], []⟩ := by
  show evFieldAddr C _ T i (un g (S.get C x)) = _
  have h0' : 0 < m := of_decide_eq_true (blt_decide h0)
  simp [evFieldAddr, hf.fd, hx, h0']
theorem ld0 {bb : Bool} {m row off : Nat} {id : Id} {rows : Rows} {r cs : List AV} (ha : isAggC C T = some bb) (hs : sizeC C T = some m) (hx : un g (S.get C x) = .mp id row off) (hh : S.h id = some (some rows)) (hr : rows[row]? = some r) (hl : Nat.ble (off + m) r.length = true)
    (hc : unpackC [d] 0 ((r.drop off).take m) = (cs, [])) (hv : mkV bb cs = some v) : evOp C f call S g ⟨some d, .load T x, ty, pos, af, gd⟩ = some ⟨[(d, v)], [id], []⟩ := by
  show evLoad C S _ T (un g (S.get C x)) = _
  rw [hx]
  have hl' : off + m ≤ r.length := Nat.le_of_ble_eq_true hl
  simp only [evLoad, ha, hs, hh, hr, Option.bind_some, if_pos hl', dstP, hc, hv, List.isEmpty_nil, if_true, Option.map_some]
  rfl
theorem ld1 {bb : Bool} {m row off : Nat} {id : Id} {rows : Rows} {r cs : List AV} {w : Id × Option Rows} {wr : List (Id × Option Rows)} (ha : isAggC C T = some bb) (hs : sizeC C T = some m) (hx : un g (S.get C x) = .mp id row off) (hh : S.h id = some (some rows)) (hr : rows[row]? = some r) (hl : Nat.ble (off + m) r.length = true)
    (hc : unpackC [d] 0 ((r.drop off).take m) = (cs, w :: wr)) (hf : fresh S.h (w :: wr) = true) (hv : mkV bb cs = some v) :
    evOp C f call S g ⟨some d, .load T x, ty, pos, af, gd⟩ = some ⟨[(d, v)], [id], (id, some (rows.set row (r.take off ++ cs ++ r.drop (off + m)))) :: w :: wr⟩ := by
  show evLoad C S _ T (un g (S.get C x)) = _
  rw [hx]
  have hl' : off + m ≤ r.length := Nat.le_of_ble_eq_true hl
  simp only [evLoad, ha, hs, hh, hr, Option.bind_some, if_pos hl', dstP, hc, hv, List.isEmpty_cons, Bool.false_eq_true, if_false, hf, if_true, Option.map_some]
  rfl
theorem oLdM {m row off : Nat} {id : Id} {α : Type} {c : α → List AV} {q : List α} {r : α} {cs : List AV} (hr : q[row]? = some r) [ha : Sz C T false m] (hx : un g (S.get C x) = .mp id row off := by first | exact rfl | exact gvv) (hh : S.h id = some (some (q.map c)) := by exact rfl) (hm : m = 1 := by exact rfl)
    (hv : (c r).drop off = v :: cs := by exact rfl) (hu : unpackC [d] 0 [v] = ([v], []) := by exact rfl) : evOp C f call S g ⟨some d, .load T x, ty, pos, af, gd⟩ = some ⟨[(d, v)], [id], []⟩ := by
  subst hm
  refine ld0 (rows := q.map c) (r := c r) (cs := [v]) ha.ag ha.sz hx hh (by simp [hr]) ?_ (by rw [hv]; exact hu) rfl
  have := congrArg List.length hv
  simp only [List.length_drop, List.length_cons] at this
  apply Nat.ble_eq_true_of_le; omega
theorem oLdR {m off : Nat} {id : Id} {r cs : List AV} [ha : Sz C T false m] (hx : un g (S.get C x) = .mp id 0 off := by first | exact rfl | exact gvv) (hh : S.h id = some (some [r]) := by exact rfl) (hm : m = 1 := by exact rfl)
    (hv : r.drop off = v :: cs := by exact rfl) (hu : unpackC [d] 0 [v] = ([v], []) := by exact rfl) : evOp C f call S g ⟨some d, .load T x, ty, pos, af, gd⟩ = some ⟨[(d, v)], [id], []⟩ := by
  subst hm
  refine ld0 (rows := [r]) (r := r) (cs := [v]) ha.ag ha.sz hx hh rfl ?_ (by rw [hv]; exact hu) rfl
  have := congrArg List.length hv
  simp only [List.length_drop, List.length_cons] at this
  apply Nat.ble_eq_true_of_le; omega
theorem oLdRA {m off : Nat} {id : Id} {r cs cs0 : List AV} [ha : Sz C T true m] (hx : un g (S.get C x) = .mp id 0 off := by first | exact rfl | exact gvv) (hh : S.h id = some (some [r]) := by exact rfl)
    (hl : Nat.ble (off + m) r.length = true := by exact rfl) (hv : (r.drop off).take m = cs0 := by exact spine) (hu : unpackC [d] 0 cs0 = (cs, []) := by exact upk) : evOp C f call S g ⟨some d, .load T x, ty, pos, af, gd⟩ = some ⟨[(d, .agg cs)], [id], []⟩ :=
  ld0 (rows := [r]) (r := r) ha.ag ha.sz hx hh rfl hl (by rw [hv]; exact hu) rfl
theorem oLdX {m off : Nat} {id : Id} {r r' cs cs0 : List AV} {w : Id × Option Rows} {wr : List (Id × Option Rows)} [ha : Sz C T false m] (hx : un g (S.get C x) = .mp id 0 off := by first | exact rfl | exact gvv) (hh : S.h id = some (some [r]) := by exact rfl) (hm : m = 1 := by exact rfl)
    (hl : Nat.ble (off + 1) r.length = true := by exact rfl) (hv : (r.drop off).take 1 = cs0 := by exact spine) (hu : unpackC [d] 0 cs0 = (cs, w :: wr) := by exact upk) (hcv : cs = [v] := by exact rfl) (hq : r.take off ++ cs ++ r.drop (off + 1) = r' := by exact spine) (hf : fresh S.h (w :: wr) = true := by exact rfl) :
    evOp C f call S g ⟨some d, .load T x, ty, pos, af, gd⟩ = some ⟨[(d, v)], [id], (id, some [r']) :: w :: wr⟩ := by
  subst hm hq
  exact ld1 (rows := [r]) (r := r) ha.ag ha.sz hx hh rfl hl (by rw [hv]; exact hu) hf (by rw [hcv]; rfl)
def tmpIn (L : List Nat) : Operand → Bool | .tmp ta => L.contains ta | _ => false
theorem frzStore_none {a : Operand} (hin : tmpIn (C.frz f) a = false) : frzStore C f a = none := by
  cases a with
  | tmp ta => simp only [tmpIn] at hin; unfold frzStore; simp only; rw [if_neg (by rw [hin]; simp)]
  | _ => rfl
theorem oStF {bb : Bool} {m ta : Nat} {id : Id} {cs cs' r : List AV} [ha : Sz C T bb m] (hin : (C.frz f).contains ta = true := by exact rfl) (hx : un true (S.get C (.tmp ta)) = .mp id 0 0 := by exact rfl) (hy : un true (S.get C y) = v := by exact gt) (hc : cellsOfV bb v = some cs := by exact rfl) (hcl : cs.length = m := by exact rfl)
    (hh : S.h id = some (some [r]) := by exact rfl) (hr : r.length = m := by exact rfl) (hz : nzL cs = cs' := by exact spine) (hi : immL cs' = true := by exact rfl) :
    evOp C f call S true ⟨none, .store T (.tmp ta) y, ty, pos, af, gd⟩ = some ⟨[(ta, .vp cs')], [id], [(id, none)]⟩ := by
  show evStore C f S true _ T (.tmp ta) (un true (S.get C (.tmp ta))) (un true (S.get C y)) = _
  rw [hx, hy]
  have e : frzStore C f (.tmp ta) = some ta := by unfold frzStore; simp only; rw [if_pos hin]
  subst hz
  simp [evStore, ha.ag, ha.sz, hc, hcl, hh, hr, e, hi]
theorem oStR {bb : Bool} {m off : Nat} {ao : Operand} {id : Id} {cs r r' : List AV} [ha : Sz C T bb m] (hin : tmpIn (C.frz f) ao = false := by exact rfl) (hx : un g (S.get C ao) = .mp id 0 off := by exact rfl) (hy : un g (S.get C y) = v := by exact gt) (hc : cellsOfV bb v = some cs := by exact rfl) (hcl : cs.length = m := by exact rfl)
    (hh : S.h id = some (some [r]) := by exact rfl) (hl : Nat.ble (off + m) r.length = true := by exact rfl) (hq : r.take off ++ cs ++ r.drop (off + m) = r' := by exact spine) :
    evOp C f call S g ⟨none, .store T ao y, ty, pos, af, gd⟩ = some ⟨[], [id], [(id, some [r'])]⟩ := by
  show evStore C f S g _ T ao (un g (S.get C ao)) (un g (S.get C y)) = _
  rw [hx, hy]
  have hl' : off + m ≤ r.length := Nat.le_of_ble_eq_true hl
  have e := frzStore_none (f := f) hin
  subst hq
  simp only [evStore, ha.ag, ha.sz, hc]
  rw [if_neg (by simp [hcl]), hh]
  simp only [List.getElem?_cons_zero, Option.bind_some, if_pos hl', e]
  rfl
theorem oStL {bb : Bool} {m row off : Nat} {ao : Operand} {id : Id} {cs : List AV} {α : Type} {c : α → List AV} {q : List α} {r : α} (hr : q[row]? = some r) (r' : α) [ha : Sz C T bb m] (hin : tmpIn (C.frz f) ao = false := by exact rfl) (hx : un g (S.get C ao) = .mp id row off := by exact rfl) (hy : un g (S.get C y) = v := by exact gt) (hc : cellsOfV bb v = some cs := by exact rfl) (hcl : cs.length = m := by exact rfl)
    (hh : S.h id = some (some (q.map c)) := by exact rfl) (hl : Nat.ble (off + m) (c r).length = true := by exact rfl) (hq : (c r).take off ++ cs ++ (c r).drop (off + m) = c r' := by exact rfl) :
    evOp C f call S g ⟨none, .store T ao y, ty, pos, af, gd⟩ = some ⟨[], [id], [(id, some ((q.set row r').map c))]⟩ := by
  show evStore C f S g _ T ao (un g (S.get C ao)) (un g (S.get C y)) = _
  rw [hx, hy]
  have hl' : off + m ≤ (c r).length := Nat.le_of_ble_eq_true hl
  have e := frzStore_none (f := f) hin
  have e2 : (q.map c)[row]? = some (c r) := by simp [hr]
  simp only [evStore, ha.ag, ha.sz, hc]
  rw [if_neg (by simp [hcl]), hh]
  simp only [e2, Option.bind_some, if_pos hl', e]
  rw [hq, List.map_set]
  rfl
theorem oIxM {e : TypeId} {m n : Nat} {bb : Bool} {α : Type} {c : α → List AV} {q : List α} {i : Int} {r : α} {id : Id} (hi : idx q i = some r) [hu : Ul C T (.slice e)] [hs : Sz C e bb m] (hx : un g (S.get C x) = .rs id 0 n := by first | exact rfl | exact gvv) (hh : S.h id = some (some (q.map c)) := by exact rfl) (hl : n = q.length := by exact len_ok) (hy : un g (S.get C y) = .val (.int k i) := by first | exact rfl | exact gvv) (hr : (c r).length = m := by exact rfl) :
    evOp C f call S g ⟨some d, .indexAddr T x y, ty, pos, af, gd⟩ = some ⟨[(d, .mp id i.toNat 0)], [id], []⟩ := by
  show evIndexAddr C S _ T (un g (S.get C x)) (intOfV (un g (S.get C y))) = _
  have hb := idx_bounds hi
  have hn := idx_nat hi
  subst hl
  simp only [hx, hy, intOfV, evIndexAddr, hu.ul, hs.sz]
  rw [if_pos hb, hh]
  simp [hn, hr]
section
variable {α : Type} {c : α → List AV} {q q' r : List α} {id id2 : Id} {e : TypeId} {m n n' : Nat} {T U : TypeId}
abbrev appE := @appTail
theorem app00 {rx : AV} {xs ys : Rows} {i1 i2 : List Id} (hok : appOk C e m = true) (hu : C.P.underlying T = some (.slice e)) (hu1 : C.P.underlying U = some (.slice e)) (hx : un g (S.get C x) = rx) (hrx : rowsOf S.h rx = some (xs, i1)) (hy : rowsOf S.h (un g (S.get C y)) = some (ys, i2)) (hl : ys.all (·.length == m) = true) (hcell : rowCell ys = true) (hlen : xs.length + ys.length ≤ maxRows) (hn : S.h [d] = none) {eff : Eff}
    (he : appE S ⟨some d, .call ⟨.builtin .append, ⟨[x, y]⟩, ⟨[T, U]⟩⟩, ty, pos, af, gd⟩ d m rx xs ys i1 i2 = some eff) :
    evAppend C S ⟨some d, .call ⟨.builtin .append, ⟨[x, y]⟩, ⟨[T, U]⟩⟩, ty, pos, af, gd⟩ ⟨[T, U]⟩ ([x, y].map fun x => un g (S.get C x)) = some eff := by
  unfold appOk at hok
  split at hok
  · rename_i inf hinf
    simp only [Bool.and_eq_true, beq_iff_eq, decide_eq_true_eq] at hok
    obtain ⟨⟨⟨k1, k2⟩, k3⟩, k4⟩ := hok
    subst k1
    have e1 : (#[T, U] : Array TypeId)[0]? = some T := rfl
    have e2 : (#[T, U] : Array TypeId)[1]? = some U := rfl
    simp only [List.map_cons, List.map_nil, evAppend, e1, e2, Option.bind_some, hu1, appendC, hu, hinf, hx, hrx, hy]
    rw [if_pos (by
      simp only [Bool.and_eq_true, decide_eq_true_eq]
      exact ⟨⟨⟨⟨⟨⟨hl, k2⟩, k3⟩, k4⟩, hlen⟩, hcell⟩, by rw [hn]; rfl⟩)]
    unfold appE at he
    exact he
  · cases hok
theorem app0 {rx : AV} {xs ys : Rows} {i1 i2 : List Id} (hok : appOk C e m = true) (hu : C.P.underlying T = some (.slice e)) (hu1 : C.P.underlying U = some (.slice e)) (hx : un g (S.get C x) = rx) (hrx : rowsOf S.h rx = some (xs, i1)) (hy : rowsOf S.h (un g (S.get C y)) = some (ys, i2)) (hl : ys.all (·.length == m) = true) (hcell : rowCell ys = true) (hlen : xs.length + ys.length ≤ maxRows) (hn : S.h [d] = none) (hfz : (C.frz f).contains d = false) {eff : Eff}
    (he : appE S ⟨some d, .call ⟨.builtin .append, ⟨[x, y]⟩, ⟨[T, U]⟩⟩, ty, pos, af, gd⟩ d m rx xs ys i1 i2 = some eff) :
    evOp C f call S g ⟨some d, .call ⟨.builtin .append, ⟨[x, y]⟩, ⟨[T, U]⟩⟩, ty, pos, af, gd⟩ = some eff := by
  show (evAppend C S _ _ ([x, y].map fun x => un g (S.get C x))).bind (frzE C f _) = _
  have key : evAppend C S ⟨some d, .call ⟨.builtin .append, ⟨[x, y]⟩, ⟨[T, U]⟩⟩, ty, pos, af, gd⟩ ⟨[T, U]⟩ ([x, y].map fun x => un g (S.get C x)) = some eff := app00 hok hu hu1 hx hrx hy hl hcell hlen hn he
  rw [key]
  simp only [Option.bind_some, frzE, inFrz, hfz, Bool.false_eq_true, if_false]
theorem rows_rs {L : Id → Option (Option Rows)} (hh : L id = some (some (q.map c))) : rowsOf L (.rs id 0 q.length) = some (q.map c, [id]) := by
  show (match L id with
    | some (some rs) => if 0 + q.length ≤ rs.length then some ((rs.drop 0).take q.length, [id]) else none
    | _ => none) = _
  rw [hh]
  simp only
  rw [if_pos (by simp), List.drop_zero, List.take_of_length_le (by simp)]
theorem oApp (hr : app q q' = some r) [hu : Ul C T (.slice e)] [hu1 : Ul C U (.slice e)] [hok : Ao C e m] (hx : un g (S.get C x) = .rs id 0 n := by exact rfl) (hh : S.h id = some (some (q.map c)) := by exact rfl) (hlen : n = q.length := by exact len_ok) (hy : un g (S.get C y) = .sl (q'.map c) := by exact rfl) (hl : ∀ x, (c x).length = m := by exact fun _ => rfl) (hcell : rowCell (q'.map c) = true := by first | exact rowCell_im | exact rfl) (hn : S.h [d] = none := by exact rfl) (hfz : (C.frz f).contains d = false := by exact rfl) :
    evOp C f call S g ⟨some d, .call ⟨.builtin .append, ⟨[x, y]⟩, ⟨[T, U]⟩⟩, ty, pos, af, gd⟩ = some ⟨[(d, .rs [d] 0 r.length)], [id], [(id, none), ([d], some (r.map c))]⟩ := by
  obtain ⟨h1, rfl⟩ := app_some hr
  subst hlen
  refine app0 hok.ao hu.ul hu1.ul hx (rows_rs hh) (by rw [hy]; rfl) (all_map_len hl) hcell (by simpa [maxRows] using h1) hn hfz ?_
  simp only [appE, appTail, hh]
  rw [if_pos (by
      simp only [Bool.and_eq_true]
      refine ⟨⟨all_map_len hl, by simp⟩, ?_⟩
      cases q <;> simp)]
  simp [put, List.map_append]
theorem oAppF [hci : Imm c] (hr : app q q' = some r) [hu : Ul C T (.slice e)] [hu1 : Ul C U (.slice e)] [hok : Ao C e m] (hx : un g (S.get C x) = .rs id 0 n := by exact rfl) (hh : S.h id = some (some (q.map c)) := by exact rfl) (hlen : n = q.length := by exact len_ok) (hy : un g (S.get C y) = .sl (q'.map c) := by exact rfl) (hl : ∀ x, (c x).length = m := by exact fun _ => rfl) (hcell : rowCell (q'.map c) = true := by first | exact rowCell_im | exact rfl) (hn : S.h [d] = none := by exact rfl) (hfz : (C.frz f).contains d = true := by exact rfl) :
    evOp C f call S g ⟨some d, .call ⟨.builtin .append, ⟨[x, y]⟩, ⟨[T, U]⟩⟩, ty, pos, af, gd⟩ = some ⟨[(d, .sl (r.map c))], [id], [(id, none), ([d], none)]⟩ := by
  obtain ⟨h1, rfl⟩ := app_some hr
  subst hlen
  show (evAppend C S _ _ ([x, y].map fun x => un g (S.get C x))).bind (frzE C f _) = _
  have key : evAppend C S ⟨some d, .call ⟨.builtin .append, ⟨[x, y]⟩, ⟨[T, U]⟩⟩, ty, pos, af, gd⟩ ⟨[T, U]⟩ ([x, y].map fun x => un g (S.get C x)) = some ⟨[(d, .rs [d] 0 (q ++ q').length)], [id], [(id, none), ([d], some ((q ++ q').map c))]⟩ := by
    refine app00 hok.ao hu.ul hu1.ul hx (rows_rs hh) (by rw [hy]; rfl) (all_map_len hl) hcell (by simpa [maxRows] using h1) hn ?_
    simp only [appE, appTail, hh]
    rw [if_pos (by
        simp only [Bool.and_eq_true]
        refine ⟨⟨all_map_len hl, by simp⟩, ?_⟩
        cases q <;> simp)]
    simp [put, List.map_append]
  have hi : immR ((q ++ q').map c) = true := by simp only [immR, List.all_map, List.all_eq_true]; exact fun x _ => hci.im x
  rw [key]
  simp only [Option.bind_some, frzE, inFrz, hfz, if_true, hi, and_self, put]
theorem oAppN (hr : app [] q' = some r) [hu : Ul C T (.slice e)] [hu1 : Ul C U (.slice e)] [hok : Ao C e m] (hx : un g (S.get C x) = .snil := by exact rfl) (hy : un g (S.get C y) = .sl (q'.map c) := by exact rfl) (hl : ∀ x, (c x).length = m := by exact fun _ => rfl) (hcell : rowCell (q'.map c) = true := by first | exact rowCell_im | exact rfl) (hn : S.h [d] = none := by exact rfl) (hfz : (C.frz f).contains d = false := by exact rfl) :
    evOp C f call S g ⟨some d, .call ⟨.builtin .append, ⟨[x, y]⟩, ⟨[T, U]⟩⟩, ty, pos, af, gd⟩ = some ⟨[(d, .rs [d] 0 r.length)], [], [([d], some (r.map c))]⟩ := by
  obtain ⟨h1, h2⟩ := app_some hr
  simp only [List.nil_append] at h2
  subst h2
  refine app0 (xs := []) (i1 := []) (i2 := []) hok.ao hu.ul hu1.ul hx rfl (by rw [hy]; rfl) (all_map_len hl) hcell (by simpa [maxRows] using h1) hn hfz ?_
  simp [appE, appTail, put]
end
theorem oMake {e : TypeId} {m : Nat} {α : Type} {c : α → List AV} {zv : α} {zc : List AV} {nn : Int} {r : List α} (hr : mks nn zv = some r) (hzc : c zv = zc) [hu : Ul C T (.slice e)] [hok : Ao C e m] [hz : Zm C e zc] (hx : un g (S.get C x) = .val (.int k nn) := by exact rfl) (hy : un g (S.get C y) = .val (.int k nn) := by exact rfl) (hzl : zc.length = m := by exact rfl) (hn : S.h [d] = none := by exact rfl) :
    evOp C f call S g ⟨some d, .makeSlice T x y, ty, pos, af, gd⟩ = some ⟨[(d, .rs [d] 0 r.length)], [], [([d], some (r.map c))]⟩ := by
  show evMake C S _ T (un g (S.get C x)) (un g (S.get C y)) = _
  unfold mks at hr
  split at hr
  · rename_i hp
    obtain rfl : List.replicate nn.toNat zv = r := by simpa using hr
    have hok := hok.ao
    unfold appOk at hok
    split at hok
    · rename_i inf hinf
      simp only [Bool.and_eq_true, beq_iff_eq, decide_eq_true_eq] at hok
      obtain ⟨⟨⟨k1, k2⟩, k3⟩, k4⟩ := hok
      simp only [hx, hy, evMake, hu.ul, intOfV, hz.zm, hinf]
      rw [if_pos (by
        simp only [Bool.and_eq_true, decide_eq_true_eq]
        exact ⟨⟨⟨⟨by omega, by omega⟩, k3⟩, by omega⟩, by rw [hn]; rfl⟩)]
      simp [put, hzc]
    · cases hok
  · cases hr
theorem buildRows_of {e : TypeId} {bb : Bool} {m len : Nat} {zc : List AV} {ps : List (Nat × AV)} {rows : Rows} (hu : C.P.underlying T = some (.slice e)) (hz : zeroC C e = some zc) (ha : isAggC C e = some bb) (hs : sizeC C e = some m) (h0 : (decide (0 < m) && decide (m = zc.length) && decide (len * m ≤ 1000)) = true) (hf : fillRows m bb (List.replicate len zc) ps = some rows) : buildRows C T len ps = some rows := by
  simp only [buildRows, hu, hz, ha, hs, h0, if_true, hf]
theorem oBSF {e : TypeId} {bb : Bool} {m len : Nat} {zc : List AV} {p : List (Nat × Operand)} {ps : List (Nat × AV)} {rows rows' : Rows} [hu : Ul C T (.slice e)] [hz : Zc C e zc] [ha : Sz C e bb m] (hin : (C.frz f).contains d = true := by exact rfl) (h0 : (decide (0 < m) && decide (m = zc.length) && decide (len * m ≤ 1000)) = true := by exact rfl)
    (hq : (p.map fun p => (p.1, un g (S.get C p.2))) = ps := by exact pss) (hf : fillRows m bb (List.replicate len zc) ps = some rows := by exact rfl) (hzz : rows.map nzL = rows' := by exact spine) (hi : immR rows' = true := by exact rfl) :
    evOp C f call S g ⟨some d, .buildSlice T len ⟨p⟩, ty, pos, af, gd⟩ = some ⟨[(d, .sl rows')], [], []⟩ := by
  show evBuildSlice C f S _ T len (p.map fun p => (p.1, un g (S.get C p.2))) = _
  rw [hq]
  have hb := buildRows_of hu.ul hz.zc ha.ag ha.sz h0 hf
  unfold evBuildSlice
  rw [if_neg (by simp [buildOpen, hb, hzz, hi])]
  simp only [evBuildSlice0, hu.ul, hz.zc, ha.ag, ha.sz, h0, if_true, hf, inFrz, hin, hzz, hi, Bool.and_self]
  rfl
theorem oBSM {e : TypeId} {bb : Bool} {m len : Nat} {zc : List AV} {p : List (Nat × Operand)} {ps : List (Nat × AV)} {rows rows' : Rows} [hu : Ul C T (.slice e)] [hz : Zc C e zc] [ha : Sz C e bb m] (hin : (C.frz f).contains d = false := by exact rfl) (h0 : (decide (0 < m) && decide (m = zc.length) && decide (len * m ≤ 1000)) = true := by exact rfl)
    (hq : (p.map fun p => (p.1, un g (S.get C p.2))) = ps := by exact pss) (hf : fillRows m bb (List.replicate len zc) ps = some rows := by exact rfl) (hs : rows = rows' := by exact spine) (hn : S.h [d] = none := by exact rfl) :
    evOp C f call S g ⟨some d, .buildSlice T len ⟨p⟩, ty, pos, af, gd⟩ = some ⟨[(d, .rs [d] 0 len)], [], [([d], some rows')]⟩ := by
  show evBuildSlice C f S _ T len (p.map fun p => (p.1, un g (S.get C p.2))) = _
  subst hs
  rw [hq]
  unfold evBuildSlice
  rw [if_neg (by simp [buildOpen, inFrz]; intro h; simp [h] at hin)]
  simp only [evBuildSlice0, hu.ul, hz.zc, ha.ag, ha.sz, h0, if_true, hf, inFrz, hin, Bool.false_and, Bool.false_eq_true, if_false]
  rw [if_pos (isNone_of hn)]; rfl
section
variable {L : Id → Option (Option Rows)} {n m : Nat} {α : Type} {c c' : α → List AV} {q : List α} {id : Id} {as bs cs cs' : List AV} {is i2 : List Id} {x u : AV}
theorem bw_imm {a : AV} (h : imm a = true) : bw L (n + 1) a = some (a, []) := by
  cases a with
  | agg cs => simp only [imm] at h; simp [bw, bwC, h]
  | tup cs => simp only [imm] at h; simp [bw, bwC, h]
  | fn k a b => simp only [imm, Bool.and_eq_true] at h; simp [bw, bwC, h]
  | _ => first | rfl | simp [imm] at h
theorem bwV {w : Value} (hx : x = .val w := by exact rfl) : bw L (n + 1) x = some (.val w, []) := by rw [hx]; rfl
theorem bwS {r : Rows} (hx : x = .sl r := by exact rfl) : bw L (n + 1) x = some (.sl r, []) := by rw [hx]; rfl
theorem bwI (hx : x = u := by exact gt) (hi : imm u = true := by exact rfl) : bw L (n + 1) x = some (u, []) := by rw [hx]; exact bw_imm hi
theorem bwRs [hc : Imm c] (hx : x = .rs id 0 m := by exact rfl) (hh : L id = some (some (q.map c)) := by exact rfl) (hl : m = q.length := by exact len_ok) : bw L (n + 1) x = some (.sl (q.map c), [id]) := by
  subst hx hl
  have hi' : immR (q.map c) = true := by simp only [immR, List.all_map, List.all_eq_true]; exact fun x _ => hc.im x
  have e : ((q.map c).drop 0).take q.length = q.map c := by rw [List.drop_zero, List.take_of_length_le (by simp)]
  have e0 : bw L (n + 1) (.rs id 0 q.length) = match L id with
    | some (some rs) => if 0 + q.length ≤ rs.length then (bwR (bw L n) ((rs.drop 0).take q.length)).map fun x => (.sl x.1, id :: x.2) else none
    | _ => none := rfl
  rw [e0, hh]
  simp only
  rw [if_pos (by simp), e]
  simp [bwR, hi']
theorem bwM (hx : x = .mp id 0 0 := by exact rfl) (hh : L id = some (some [cs]) := by exact rfl) (hi : immL cs = true := by exact rfl) : bw L (n + 1) x = some (.vp cs, [id]) := by
  subst hx
  have e0 : bw L (n + 1) (.mp id 0 0) = match L id with
    | some (some rs) => match rs[0]? with
      | some r => if 0 ≤ r.length then (bwC (bw L n) (r.drop 0)).map fun x => (.vp x.1, id :: x.2) else none
      | none => none
    | _ => none := rfl
  rw [e0, hh]
  simp [bwC, hi]
theorem bwMo (hx : x = .mp id 0 0) (hh : L id = some (some [cs])) (hi : immL cs = false) (h : foldC (bw L n) cs = some (cs', is)) : bw L (n + 1) x = some (.vp cs', id :: is) := by
  subst hx
  have e0 : bw L (n + 1) (.mp id 0 0) = match L id with
    | some (some rs) => match rs[0]? with
      | some r => if 0 ≤ r.length then (bwC (bw L n) (r.drop 0)).map fun x => (.vp x.1, id :: x.2) else none
      | none => none
    | _ => none := rfl
  rw [e0, hh]
  simp [bwC, hi, h]
theorem bwOm {rows : Rows} (hx : x = .om rows := by exact rfl) : bw L (n + 1) x = some (.im rows, []) := by subst hx; rfl
theorem bwA (hx : x = .agg cs) (hi : immL cs = false) (h : foldC (bw L n) cs = some (cs', is)) : bw L (n + 1) x = some (.agg cs', is) := by
  subst hx; simp [bw, bwC, hi, h]
theorem bwO [hc : Imm c] (hx : x = .own (q.map c) q.length := by exact rfl) : bw L (n + 1) x = some (.sl (q.map c), []) := by
  have hi' : immR (q.map c) = true := by simp only [immR, List.all_map, List.all_eq_true]; exact fun x _ => hc.im x
  subst hx
  simp only [bw]
  rw [List.take_of_length_le (by simp)]
  simp [bwR, hi']
end
class Bw {α : Type} (c : α → List AV) (c' : outParam (α → List AV)) : Prop where
  bw : ∀ L n x, foldC (bw L (n + 2)) (c x) = some (c' x, [])
  ni : ∀ x, immL (c x) = false
section
variable {L : Id → Option (Option Rows)} {n m : Nat} {α : Type} {c c' : α → List AV} {q : List α} {k : Nat} {x x' : α} {r r' : List AV} {id : Id} {ids : List Id} {v : AV}
theorem bwC_of [hb : Bw c c'] (x : α) : bwC (bw L (n + 2)) (c x) = some (c' x, []) := by simp [bwC, hb.ni, hb.bw]
theorem foldR_bw [hb : Bw c c'] : ∀ q : List α, foldR (bwC (bw L (n + 2))) (q.map c) = some (q.map c', [])
  | [] => rfl
  | x :: q => by simp [foldR, bwC_of (c := c) (c' := c') x, foldR_bw q]
theorem bwR_of [hb : Bw c c'] (q : List α) : bwR (bw L (n + 2)) (q.map c) = some (q.map c', []) := by
  unfold bwR
  cases q with
  | nil => simp [immR]
  | cons x q => rw [if_neg (by simp [immR, hb.ni])]; exact foldR_bw _
theorem bwRsT [hb : Bw c c'] (hx : v = .rs id 0 m := by exact rfl) (hh : L id = some (some (q.map c)) := by exact rfl) (hm : m ≤ q.length := by exact lle) : bw L (n + 3) v = some (.sl ((q.take m).map c'), [id]) := by
  subst hx
  have e : bw L (n + 3) (.rs id 0 m) = match L id with
    | some (some rs) => if 0 + m ≤ rs.length then (bwR (bw L (n + 2)) ((rs.drop 0).take m)).map fun x => (.sl x.1, id :: x.2) else none
    | _ => none := rfl
  rw [e, hh]
  simp only [List.length_map, Nat.zero_add, if_pos hm, List.drop_zero]
  rw [← List.map_take, bwR_of]; rfl
theorem bwOt [hb : Bw c c'] (hx : v = .own (q.map c) m := by exact rfl) : bw L (n + 3) v = some (.sl ((q.take m).map c'), []) := by
  subst hx
  have e : bw L (n + 3) (.own (q.map c) m) = (bwR (bw L (n + 2)) ((q.map c).take m)).map fun x => (.sl x.1, x.2) := rfl
  rw [e, ← List.map_take, bwR_of]; rfl
end
section
variable {α : Type} {c c' : α → List AV} {q : List α} {L : Id → Option (Option Rows)} {n : Nat} {id : Id} {as bs cs cs' : List AV} {x : AV} {is i2 : List Id}
theorem bwk {y : Option (AV × List Id)} (h : bw L n x = y := by repeat' (first | exact bwV | exact bwEr | exact bwS | exact bwRs | exact bwRsN | exact bwRsTi | exact bwRsT | (apply bwRsO; exact rfl; exact rfl; exact rfl; (first | (with_reducible assumption) | assumption); exact len_ok; exact inferInstance; rotate_left; exact rfl) | (apply bwRsOT; exact rfl; exact rfl; exact rfl; (first | (with_reducible assumption) | assumption); exact lle; exact inferInstance; rotate_left; exact rfl) | exact bwI | exact bwP | exact bwN | exact bwM | exact bwRl | exact bwO | exact bwOn | exact bwOti | exact bwOt | exact bwOl | exact bwMr | exact bwOm | exact bwIm | exact foN | (apply foC; exact rfl) | (apply bwA; exact rfl; exact rfl) | (apply bwMo; exact rfl; exact rfl; exact rfl))) : bw L n x = y := h
theorem foC0 {p : AV → Option (AV × List Id)} {cs as bs : List AV} {a b : AV} (hx : cs = a :: as) (h : p a = some (b, [])) (k : foldC p as = some (bs, [])) : foldC p cs = some (b :: bs, []) := by subst hx; simp [foldC, h, k]
theorem bwck {cs cs' : List AV} (h : foldC (bw L n) cs = some (cs', []) := by repeat' (first | exact foN | (apply foC0; exact rfl) | exact bwV | exact bwEr | exact bwS | exact bwP | exact bwO | exact bwOti | exact bwOm | exact bwIm)) : foldC (bw L n) cs = some (cs', []) := h
theorem blN (h : as = [] := by exact rfl) : bwL L as = some ([], []) := by subst h; rfl
theorem blC {a b : AV} {z : List Id} (ha : cs = a :: as) (h1 : bw L 9 a = some (b, is)) (h2 : bwL L as = some (bs, i2)) (hz : is ++ i2 = z) : bwL L cs = some (b :: bs, z) := by
  subst ha hz; unfold bwL at *; simp [foldC, h1, h2]
theorem blk {y : Option (List AV × List Id)} (h : bwL L as = y := by repeat' (first | exact blN | (apply blC; exact rfl; exact bwk) | exact rfl)) : bwL L as = y := h
theorem tkN {ms : List Nat} (h : as = [] := by exact rfl) : takeL L ms as = some ([], [], [], []) := by subst h; cases ms <;> rfl
section
variable {ms : List Nat} {a b b' : AV} {i s t z : List Id}
theorem tk1 {u : List Id} (ha : cs = a :: as) (h : pk L 9 a = some (b, i)) (k : takeL L ms as = some (bs, s, t, z)) (hu : i ++ t = u) : takeL L (1 :: ms) cs = some (b :: bs, s, u, z) := by
  subst ha hu; simp [takeL, k, h]
theorem tkb {u : List Id} (ha : cs = a :: as) (h : bw L 9 a = some (b, i)) (k : takeL L ms as = some (bs, s, t, z)) (hu : i ++ s = u) : takeL L (0 :: ms) cs = some (b :: bs, u, t, z) := by
  subst ha hu; simp [takeL, k, h]
end
theorem tkk {ms : List Nat} {y : Option (List AV × List Id × List Id × List Id)} (h : takeL L ms as = y := by repeat' (first | exact tkN | (apply tk1; exact rfl; exact pkk) | (apply tkb; exact rfl; exact bwk) | (apply tk2; exact rfl; exact pkk; exact fzk) | (apply tke; exact rfl; exact bwk) | exact rfl)) : takeL L ms as = y := h
end
section
variable {fo : Operand} {ts : Array TypeId} {kf : FuncId} {as bs cs args : List AV} {seen : List Id} {r : AV} {wr : List (Id × Option Rows)} {xs : Array Operand}
theorem oCall (hc : call kf args = some (r, [])) (hfo : un g (S.get C fo) = .fn (.func kf) as bs := by exact rfl) (hb : bwL S.h (as ++ (xs.toList.map fun x => un g (S.get C x)) ++ bs) = some (args, seen) := by exact blk) (hm : (seen.isEmpty || mine r) = true := by first | exact rfl | exact mik) (hz : (C.frz f).contains d = false := by exact rfl) (hi : imp [d] r = (v', wr) := by exact impk) (hf : fresh S.h wr = true := by exact rfl) (ht : takes C fo = false := by exact rfl) (hpt : pathOf C fo = none := by exact rfl) :
    evOp C f call S g ⟨some d, .call ⟨.value fo, xs, ts⟩, ty, pos, af, gd⟩ = some ⟨[(d, v')], seen, wr⟩ := by
  show (match pathOf C fo with | some p => evLast S _ p (xs.toList.map fun x => un g (S.get C x)) | none => if takes C fo then _ else callC C f call S _ (un g (S.get C fo)) (xs.toList.map fun x => un g (S.get C x))) = _
  rw [hpt]
  simp only
  rw [ht]
  simp only [Bool.false_eq_true, if_false]
  rw [hfo]
  simp only [callC, hb, hc, inFrz, hz, Bool.false_eq_true, if_false]
  rw [if_neg (by
    cases seen with
    | nil => simp
    | cons a l => simp at hm; simp [hm]), hi]
  simp only [hf, if_true]
  rfl
theorem oCallZ (hc : call kf args = some (r, [])) (hfo : un g (S.get C fo) = .fn (.func kf) as bs := by exact rfl) (hb : bwL S.h (as ++ (xs.toList.map fun x => un g (S.get C x)) ++ bs) = some (args, seen) := by exact blk) (hm : (seen.isEmpty || mine r) = true := by first | exact rfl | exact mik) (hz : (C.frz f).contains d = true := by exact rfl) (hv : fz r = v := by exact fzk) (hi : imp [d] v = (v', wr) := by exact impk) (hf : fresh S.h wr = true := by exact rfl) (ht : takes C fo = false := by exact rfl) (hpt : pathOf C fo = none := by exact rfl) :
    evOp C f call S g ⟨some d, .call ⟨.value fo, xs, ts⟩, ty, pos, af, gd⟩ = some ⟨[(d, v')], seen, wr⟩ := by
  show (match pathOf C fo with | some p => evLast S _ p (xs.toList.map fun x => un g (S.get C x)) | none => if takes C fo then _ else callC C f call S _ (un g (S.get C fo)) (xs.toList.map fun x => un g (S.get C x))) = _
  rw [hpt]
  simp only
  rw [ht]
  simp only [Bool.false_eq_true, if_false]
  rw [hfo]
  simp only [callC, hb, hc, inFrz, hz, if_true, hv]
  rw [if_neg (by
    cases seen with
    | nil => simp
    | cons a l => simp at hm; simp [hm]), hi]
  simp only [hf, if_true]
  rfl
theorem callT0 {ms lend : List Nat} {outs : List AV} {tk fzn : List Id} {back : List (Id × Option Rows)} {wr1 : List (Id × Option Rows)} (hm : C.modes kf = ms) (hm0 : ms.isEmpty = false) (hle : C.lend kf = lend) (ht : takeL S.h ms (xs.toList.map fun x => un g (S.get C x)) = some (args, seen, tk, fzn))
    (hc : call kf args = some (r, outs)) (hv : (if inFrz C f (some d) then fz r else r) = v) (hb : relayL S.h (xs.toList.map fun x => un g (S.get C x)) lend outs = some back)
    (h1 : (nodupB (tk ++ fzn) && disj seen (tk ++ fzn)) = true) (h2 : (seen.isEmpty || mine r && outs.all mine) = true) (h3 : (nodupB (back.map (·.1)) && (back.all fun x => tk.contains x.1)) = true)
    (hi : imp [d] v = (v', wr1)) (hf : fresh S.h wr1 = true) (hw : wr1 ++ (back ++ (tk ++ fzn).map fun i => (i, none)) = wr) (hpt : C.path kf = none) :
    evOp C f call S g ⟨some d, .call ⟨.value (.func kf), xs, ts⟩, ty, pos, af, gd⟩ = some ⟨[(d, v')], seen, wr⟩ := by
  show (match C.path kf with | some p => evLast S _ p (xs.toList.map fun x => un g (S.get C x)) | none => if takes C (.func kf) then callT C f call S _ kf (xs.toList.map fun x => un g (S.get C x)) else _) = _
  rw [hpt]
  simp only
  have e0 : takes C (.func kf) = true := by simp [takes, hm, hm0]
  subst hw hm hle hv
  rw [e0, if_pos rfl]
  unfold callT
  simp only [ht, hc, hb, hi]
  simp only [Bool.and_eq_true] at h1 h3
  rw [if_pos (by simp only [Bool.and_eq_true]; exact ⟨⟨⟨⟨⟨h1.1, h1.2⟩, h2⟩, h3.1⟩, h3.2⟩, hf⟩)]
  rfl
end
end
end Go.Ab
