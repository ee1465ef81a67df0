/-
  WHAT AN ABSTRACT STATE SAYS OF A FRAME AND A WORLD; and how one step carries it on.
-/
import Derived.Test.YtbhpblokoecoaaaAbRel
import Derived.Laws.Append
import Derived.Laws.Cells
import Derived.Laws.Rows
import Derived.Laws.World
namespace Go.Ab
open Go
theorem add_none (b o n : Nat) : (⟨b, o, none⟩ : Addr).add n = ⟨b, o + n, none⟩ := by
  unfold Addr.add; split <;> simp_all
def over (c : Array Value) (p : Nat) (vs : List Value) : Array Value := ⟨c.toList.take p ++ vs ++ c.toList.drop (p + vs.length)⟩
def setB (w : World) (b : Nat) (o : Obj) : World := { w with heap := w.heap.setIfInBounds b o }
theorem over_size (c : Array Value) (p : Nat) (vs : List Value) (h : p + vs.length ≤ c.size) : (over c p vs).size = c.size := by
  have : c.toList.length = c.size := by simp
  simp only [over, List.size_toArray, List.length_append, List.length_take, List.length_drop]; omega
theorem over_nil (c : Array Value) (p : Nat) : over c p [] = c := by
  apply Array.ext'
  simp [over]
theorem over_get (c : Array Value) (p k : Nat) (vs : List Value) (h : p + vs.length ≤ c.size) :
    (over c p vs)[k]? = if p ≤ k ∧ k < p + vs.length then vs[k - p]? else c[k]? := by
  have hl : c.toList.length = c.size := by simp
  have e : (over c p vs)[k]? = (c.toList.take p ++ vs ++ c.toList.drop (p + vs.length))[k]? := by simp [over]
  rw [e]
  have e2 : c[k]? = c.toList[k]? := by simp
  by_cases h1 : k < p
  · rw [if_neg (by omega), List.append_assoc, List.getElem?_append_left (by simp; omega), List.getElem?_take_of_lt h1, e2]
  · by_cases h2 : k < p + vs.length
    · rw [if_pos ⟨by omega, h2⟩, List.getElem?_append_left (by simp; omega), List.getElem?_append_right (by simp; omega)]
      simp only [List.length_take]
      congr 1; omega
    · rw [if_neg (by omega), List.getElem?_append_right (by simp; omega), List.getElem?_drop, e2]
      simp only [List.length_append, List.length_take]
      congr 1; omega
theorem setB_heap {w : World} {b : Nat} {o : Obj} (h : b < w.heap.size) (k : Nat) : (setB w b o).heap[k]? = if k = b then some o else w.heap[k]? := by
  simp only [setB, Array.getElem?_setIfInBounds]
  by_cases hk : k = b
  · subst hk; simp [h]
  · rw [if_neg (fun e => hk e.symm), if_neg hk]
theorem setB_same {w : World} {b : Nat} {o : Obj} (h : w.heap[b]? = some o) : setB w b o = w := by
  have hb : b < w.heap.size := by
    rcases Nat.lt_or_ge b w.heap.size with h' | h'
    · exact h'
    · simp [Array.getElem?_eq_none h'] at h
  have e : w.heap.setIfInBounds b o = w.heap := by
    apply Array.ext_getElem?
    intro k
    rw [Array.getElem?_setIfInBounds]
    split
    · subst_vars; simp_all
    · rfl
  simp [setB, e]
theorem lt_of_heap {w : World} {b : Nat} {o : Obj} (h : w.heap[b]? = some o) : b < w.heap.size := by
  rcases Nat.lt_or_ge b w.heap.size with h' | h'
  · exact h'
  · simp [Array.getElem?_eq_none h'] at h
theorem setCell_eq {w : World} {b o : Nat} {c : Array Value} {e : TypeId} {fr : Nat × Nat} (h : w.heap[b]? = some (.cells c e fr)) (v : Value) :
    w.setCell ⟨b, o, none⟩ v = setB w b (.cells (c.setIfInBounds o v) e fr) := by
  have hb := lt_of_heap h
  have e1 : (w.setCell ⟨b, o, none⟩ v).heap = (setB w b (.cells (c.setIfInBounds o v) e fr)).heap := by
    apply Array.ext_getElem?
    intro k
    rw [setB_heap hb]
    simp only [World.setCell, Array.getElem?_modify]
    by_cases hk : b = k
    · subst hk; simp [h]
    · rw [if_neg hk, if_neg (fun e => hk e.symm)]
  unfold setB at e1 ⊢
  unfold World.setCell at e1 ⊢
  simp only at e1
  rw [e1]
def plainV (v : Value) : Bool := match v with | .agg _ | .tuple _ => false | _ => true
theorem run_storeCells (P : Program) (b o : Nat) (e : TypeId) : ∀ (vs : List Value) (i : Nat) (w : World) (c : Array Value), w.heap[b]? = some (.cells c e (0, 0)) → o + i + vs.length ≤ c.size →
    (∀ v ∈ vs, plainV v = true) → (storeCells ⟨b, o, none⟩ vs i).run P w = .ok () (setB w b (.cells (over c (o + i) vs) e (0, 0))) := by
  intro vs
  induction vs with
  | nil => intro i w c h _ _; rw [over_nil, setB_same h]; rfl
  | cons v vs ih =>
    intro i w c h hl hp
    have hv := hp v (List.mem_cons_self ..)
    have hb := lt_of_heap h
    have hc : w.cell? ⟨b, o + i, none⟩ = some (c[o + i]'(by simp at hl; omega)) := by
      rw [cell_of_row w b (o + i) c e (0, 0) h, Array.getElem?_eq_getElem]
    have hf : w.frozen? ⟨b, o + i, none⟩ = false := frozen_of_row w b (o + i) c e h
    have hst : (store ⟨b, o + i, none⟩ v).run P w = .ok () (setB w b (.cells (c.setIfInBounds (o + i) v) e (0, 0))) := by
      rw [← setCell_eq h]
      unfold Go.store
      cases v <;> simp_all [Sem.run, plainV]
    have hg : (setB w b (.cells (c.setIfInBounds (o + i) v) e (0, 0))).heap[b]? = some (.cells (c.setIfInBounds (o + i) v) e (0, 0)) := by rw [setB_heap hb, if_pos rfl]
    have := ih (i + 1) _ _ hg (by simp at hl ⊢; omega) (fun v hv => hp v (List.mem_cons_of_mem _ hv))
    have e0 : storeCells ⟨b, o, none⟩ (v :: vs) i = (do store ((⟨b, o, none⟩ : Addr).add i) v; storeCells ⟨b, o, none⟩ vs (i + 1)) := rfl
    rw [e0, Sem.run_bind, add_none, hst, Result.andThen_ok, this]
    congr 1
    have e2 : over (c.setIfInBounds (o + i) v) (o + (i + 1)) vs = over c (o + i) (v :: vs) := by
      apply Array.ext_getElem?
      intro k
      rw [over_get _ _ _ _ (by simp at hl ⊢; omega), over_get _ _ _ _ (by simp at hl ⊢; omega), Array.getElem?_setIfInBounds]
      simp only [List.length_cons]
      by_cases h1 : k = o + i
      · subst h1
        simp only [List.length_cons] at hl
        rw [if_neg (by omega), if_pos rfl, if_pos (by omega), if_pos (by omega)]; simp
      · by_cases h2 : o + i < k ∧ k < o + i + (vs.length + 1)
        · rw [if_pos (by omega), if_pos (by omega), show k - (o + i) = (k - (o + (i + 1))) + 1 by omega, List.getElem?_cons_succ]
        · rw [if_neg (by omega), if_neg (by omega), if_neg (by omega)]
    rw [e2]
    unfold setB
    simp [Array.setIfInBounds_setIfInBounds]
structure Env where
  w0 : World
  F0 : Nat → Prop
  I0 : Nat → Prop
  m : Nat
  le : m ≤ w0.heap.size
structure Kept (w0 w : World) (F0 : Nat → Prop) : Prop where
  size : w0.heap.size ≤ w.heap.size
  blk : ∀ b, b < w0.heap.size → ¬ F0 b → w.heap[b]? = w0.heap[b]?
  os : w.os = w0.os
  out : w.output = w0.output
  frz : ∀ a, a.block < w0.heap.size → w.frozen? a = w0.frozen? a
  szs : ∀ b n, Blk w0 b n → Blk w b n
theorem Kept.refl (w : World) (F : Nat → Prop) : Kept w w F := ⟨Nat.le_refl _, fun _ _ _ => rfl, rfl, rfl, fun _ _ => rfl, fun _ _ h => h⟩
def Im (E : Env) (w : World) (F : Id → List Nat) (b : Nat) : Prop := (E.I0 b ∨ E.F0 b ∨ E.w0.heap.size ≤ b) ∧ b < w.heap.size ∧ ∀ id, b ∉ F id
def OR (w : World) (I : Nat → Prop) (β : Id → Option Loc) (id : Id) (rows : Rows) (fp : List Nat) : Prop :=
  (β id = some .nil ∧ rows = [] ∧ fp = []) ∨
  (∃ b, β id = some (.map b) ∧ fp = [b] ∧ MB w b rows) ∨
  ∃ b o sz n vs fps, β id = some (.blk b o sz n) ∧ fp = b :: fps ∧ Blk w b n ∧ (rows ≠ [] ∧ ∀ r ∈ rows, r.length = sz) ∧ o + rows.length * sz ≤ n ∧ Cl w b o vs ∧ RL w I β fps vs rows.flatten
theorem OR.mono {w : World} {I : Nat → Prop} {β : Id → Option Loc} {id : Id} {rows : Rows} {fp : List Nat} (h : OR w I β id rows fp) {w' : World} {I' : Nat → Prop} {β' : Id → Option Loc}
    (hI : ∀ b, I b → I' b) (hw : ∀ b, (I b ∨ b ∈ fp) → w'.heap[b]? = w.heap[b]?) (hβ : ∀ i l, β i = some l → β' i = some l) : OR w' I' β' id rows fp := by
  rcases h with ⟨h1, h2, h3⟩ | ⟨b, h1, rfl, h3⟩ | ⟨b, o, sz, n, vs, fps, h1, rfl, h3, h4, h5, h6, h7⟩
  · exact .inl ⟨hβ _ _ h1, h2, h3⟩
  · exact .inr (.inl ⟨b, hβ _ _ h1, rfl, h3.mono (hw _ (.inr (List.mem_cons_self ..)))⟩)
  · exact .inr (.inr ⟨b, o, sz, n, vs, fps, hβ _ _ h1, rfl, h3.mono (hw _ (.inr (List.mem_cons_self ..))), h4, h5, h6.mono (hw _ (.inr (List.mem_cons_self ..))),
      h7.mono hI (fun x hx => hw x (hx.imp _root_.id fun h => List.mem_cons_of_mem _ h)) hβ⟩)
def mkD (D : Nat) : Deferred := { target := .collected D, args := #[] }
def Dfs (w : World) (I : Nat → Prop) (ds : List Deferred) : Prop := ∃ Ds : List Nat, ds = Ds.map mkD ∧ Ds.Nodup ∧ ∀ D ∈ Ds, w.heap[D]? = some (.deferred (some [])) ∧ I D
theorem Dfs.nil {w : World} {I : Nat → Prop} : Dfs w I [] := ⟨[], rfl, List.nodup_nil, by simp⟩
theorem Dfs.mono {w w' : World} {I I' : Nat → Prop} {ds : List Deferred} (h : Dfs w I ds) (hI : ∀ b, I b → I' b) (hw : ∀ b, I b → w'.heap[b]? = w.heap[b]?) : Dfs w' I' ds := by
  obtain ⟨Ds, h1, h2, h3⟩ := h
  exact ⟨Ds, h1, h2, fun D hD => ⟨(hw D (h3 D hD).2).trans (h3 D hD).1, hI D (h3 D hD).2⟩⟩
structure SR (C : Cx) (E : Env) (w : World) (S : St) (a : Act) (β : Id → Option Loc) (F : Id → List Nat) : Prop where
  n : a.tmps.size = S.n
  df : Dfs w (fun b => Im E w F b ∧ E.m ≤ b) a.defers
  slot : ∀ t, R w (Im E w F) β [] (a.tmps.getD t undef) (S.t t)
  obj : ∀ id rows, S.h id = some (some rows) → OR w (Im E w F) β id rows (F id)
  dead : ∀ id, (∀ rows, S.h id ≠ some (some rows)) → F id = []
  nd : ∀ id, (F id).Nodup
  dj : ∀ i j b, b ∈ F i → b ∈ F j → i = j
  dom : ∀ id, S.h id = none → β id = none
  lt : ∀ id b, b ∈ F id → b < w.heap.size ∧ (E.F0 b ∨ E.w0.heap.size ≤ b)
  kept : Kept E.w0 w E.F0
  glob : ∀ g cs, C.glob g = some cs → R w (Im E w F) β [] (.pointer (some ⟨g, 0, none⟩)) (.vp cs)
theorem put_defers (a : Act) (d : Option Tmp) (v : Value) : (a.put d v).defers = a.defers := by cases d <;> rfl
theorem blk_old {w w' : World} (hold : ∀ b, b < w.heap.size → w'.heap[b]? = w.heap[b]?) : ∀ b n, Blk w b n → Blk w' b n := fun b n hB => by
  refine hB.mono (hold b ?_)
  obtain ⟨c, e, hc, _⟩ := hB
  rcases Nat.lt_or_ge b w.heap.size with h | h
  · exact h
  · rw [Array.getElem?_eq_none h] at hc; cases hc
theorem SR.stepW {C : Cx} {E : Env} {w : World} {S : St} {a : Act} {β : Id → Option Loc} {F : Id → List Nat} (h : SR C E w S a β F)
    {w' : World} {S' : St} {a' : Act} {β' : Id → Option Loc} {F' : Id → List Nat} (ch : Id → Prop)
    (hn : a'.tmps.size = S'.n)
    (hsz : w.heap.size ≤ w'.heap.size) (hos : w'.os = w.os) (hout : w'.output = w.output) (hfrz : ∀ x, x.block < w.heap.size → w'.frozen? x = w.frozen? x)
    (hw : ∀ b, b < w.heap.size → (∀ id, ch id → b ∉ F id) → w'.heap[b]? = w.heap[b]?)
    (hβ : ∀ i l, β i = some l → β' i = some l)
    (hF : ∀ id b, b ∈ F' id → (∃ i, b ∈ F i) ∨ (w.heap.size ≤ b ∧ b < w'.heap.size))
    (hsame : ∀ id, ¬ ch id → F' id = F id ∧ S'.h id = S.h id)
    (hobj : (∀ b, Im E w F b → Im E w' F' b) → ∀ id, ch id → ∀ rows, S'.h id = some (some rows) → OR w' (Im E w' F') β' id rows (F' id))
    (hdead : ∀ id, ch id → (∀ rows, S'.h id ≠ some (some rows)) → F' id = [])
    (hnd : ∀ id, ch id → (F' id).Nodup)
    (hdj : ∀ i j b, ch i → b ∈ F' i → b ∈ F' j → i = j)
    (hdom : ∀ id, S'.h id = none → β' id = none)
    (hslot : (∀ b, Im E w F b → Im E w' F' b) → ∀ t, (a'.tmps.getD t undef = a.tmps.getD t undef ∧ S'.t t = S.t t) ∨ R w' (Im E w' F') β' [] (a'.tmps.getD t undef) (S'.t t))
    (hdf : a'.defers = a.defers := by first | rfl | exact put_defers ..)
    (hbs : ∀ b n, Blk w b n → Blk w' b n := by exact fun _ _ h => h) :
    SR C E w' S' a' β' F' := by
  have hI : ∀ b, Im E w F b → Im E w' F' b := fun b ⟨h1, h2, h3⟩ => ⟨h1, Nat.lt_of_lt_of_le h2 hsz, fun id hm => by
    rcases hF id b hm with ⟨i, hi⟩ | ⟨hge, _⟩
    · exact h3 i hi
    · omega⟩
  have hIw : ∀ b, Im E w F b → w'.heap[b]? = w.heap[b]? := fun b hb => hw b hb.2.1 fun id _ => hb.2.2 id
  refine { n := hn, df := hdf ▸ h.df.mono (fun b hb => ⟨hI b hb.1, hb.2⟩) (fun b hb => hIw b hb.1), slot := ?_, obj := ?_, dead := ?_, nd := ?_, dj := ?_, dom := hdom, lt := ?_, kept := ?_, glob := ?_ }
  · intro t
    rcases hslot hI t with ⟨h1, h2⟩ | h1
    · rw [h1, h2]
      exact (h.slot t).mono hI (fun b hb => hb.elim (hIw b) (fun hb => by cases hb)) hβ
    · exact h1
  · intro id rows hr
    by_cases hc : ch id
    · exact hobj hI id hc rows hr
    · obtain ⟨e1, e2⟩ := hsame id hc
      rw [e1]
      rw [e2] at hr
      refine (h.obj id rows hr).mono hI (fun b hb => hb.elim (hIw b) fun hb => ?_) hβ
      exact hw b (h.lt id b hb).1 fun j hj hm => hc (by rw [h.dj id j b hb hm]; exact hj)
  · intro id hd
    by_cases hc : ch id
    · exact hdead id hc hd
    · obtain ⟨e1, e2⟩ := hsame id hc
      rw [e1]
      exact h.dead id (by rw [← e2]; exact hd)
  · intro id
    by_cases hc : ch id
    · exact hnd id hc
    · rw [(hsame id hc).1]; exact h.nd id
  · intro i j b hi hj
    by_cases hc : ch i
    · exact hdj i j b hc hi hj
    · by_cases hc' : ch j
      · exact (hdj j i b hc' hj hi).symm
      · rw [(hsame i hc).1] at hi
        rw [(hsame j hc').1] at hj
        exact h.dj i j b hi hj
  · intro id b hb
    rcases hF id b hb with ⟨i, hi⟩ | ⟨h1, h2⟩
    · exact ⟨Nat.lt_of_lt_of_le (h.lt i b hi).1 hsz, (h.lt i b hi).2⟩
    · exact ⟨h2, .inr (Nat.le_trans h.kept.size h1)⟩
  · refine ⟨Nat.le_trans h.kept.size hsz, fun b hb hf => ?_, hos.trans h.kept.os, hout.trans h.kept.out, fun x hx => (hfrz x (Nat.lt_of_lt_of_le hx h.kept.size)).trans (h.kept.frz x hx), fun b n hB => hbs b n (h.kept.szs b n hB)⟩
    rw [hw b (Nat.lt_of_lt_of_le hb h.kept.size) fun id _ hm => ?_]
    · exact h.kept.blk b hb hf
    · rcases (h.lt id b hm).2 with h' | h'
      · exact hf h'
      · omega
  · intro g cs hg
    exact (h.glob g cs hg).mono hI (fun b hb => hb.elim (hIw b) (fun hb => by cases hb)) hβ
theorem SR.step {C : Cx} {E : Env} {w : World} {S : St} {a : Act} {β : Id → Option Loc} {F : Id → List Nat} (h : SR C E w S a β F)
    {w' : World} {S' : St} {a' : Act} {β' : Id → Option Loc} {F' : Id → List Nat} (ch : Id → Prop)
    (hn : a'.tmps.size = S'.n)
    (hsz : w.heap.size ≤ w'.heap.size) (hos : w'.os = w.os) (hout : w'.output = w.output) (hfrz : ∀ x, w'.frozen? x = w.frozen? x)
    (hw : ∀ b, b < w.heap.size → (∀ id, ch id → b ∉ F id) → w'.heap[b]? = w.heap[b]?)
    (hβ : ∀ i l, β i = some l → β' i = some l)
    (hF : ∀ id b, b ∈ F' id → (∃ i, b ∈ F i) ∨ (w.heap.size ≤ b ∧ b < w'.heap.size))
    (hsame : ∀ id, ¬ ch id → F' id = F id ∧ S'.h id = S.h id)
    (hobj : (∀ b, Im E w F b → Im E w' F' b) → ∀ id, ch id → ∀ rows, S'.h id = some (some rows) → OR w' (Im E w' F') β' id rows (F' id))
    (hdead : ∀ id, ch id → (∀ rows, S'.h id ≠ some (some rows)) → F' id = [])
    (hnd : ∀ id, ch id → (F' id).Nodup)
    (hdj : ∀ i j b, ch i → b ∈ F' i → b ∈ F' j → i = j)
    (hdom : ∀ id, S'.h id = none → β' id = none)
    (hslot : (∀ b, Im E w F b → Im E w' F' b) → ∀ t, (a'.tmps.getD t undef = a.tmps.getD t undef ∧ S'.t t = S.t t) ∨ R w' (Im E w' F') β' [] (a'.tmps.getD t undef) (S'.t t))
    (hdf : a'.defers = a.defers := by first | rfl | exact put_defers ..)
    (hbs : ∀ b n, Blk w b n → Blk w' b n := by exact fun _ _ h => h) :
    SR C E w' S' a' β' F' := by
  exact h.stepW ch hn hsz hos hout (fun x _ => hfrz x) hw hβ hF hsame hobj hdead hnd hdj hdom hslot hdf hbs
end Go.Ab
