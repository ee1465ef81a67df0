/-
  WHAT IS LAID ANEW, LOADED, STORED.
-/
import Derived.Test.YtbhpblokoecoaaaAbOps3
namespace Go.Ab
open Go
section
variable {C : Cx} {E : Env} {w : World} {S : St} {a : Act} {β : Id → Option Loc} {F : Id → List Nat}
variable {next : Act → World → Prop} {Q : Exit → Act → World → Prop}
theorem ofVal_sound {I : Nat → Prop} {v : Value} {x : AV} (h : ofVal v = some x) : R w I β [] v x := by
  unfold ofVal at h
  split at h
  · simp at h; subst h; exact .val ‹_›
  · split at h
    · simp at h; subst h; exact .snil
    · cases h
theorem ofMem_sound {I : Nat → Prop} {v : Value} {x : AV} (h : ofMem v = some x) : R w I β [] v x := by
  unfold ofMem at h
  split at h
  · simp at h; subst h; exact .val ‹_›
  · split at h
    · simp at h; subst h; exact .own0
    · cases h
theorem ofVals_sound {I : Nat → Prop} : ∀ {vs : List Value} {xs : List AV}, ofVals vs = some xs → RL w I β [] vs xs
  | [], xs, h => by simp [ofVals] at h; subst h; exact .nil
  | v :: vs, xs, h => by
    simp only [ofVals] at h
    split at h
    · rename_i x hx
      simp only [Option.map_eq_some_iff] at h
      obtain ⟨ys, hy, rfl⟩ := h
      exact R.cons (f1 := []) (f2 := []) (ofVal_sound hx) (ofVals_sound hy)
    · cases h
theorem ofMems_sound {I : Nat → Prop} : ∀ {vs : List Value} {xs : List AV}, ofMems vs = some xs → RL w I β [] vs xs
  | [], xs, h => by simp [ofMems] at h; subst h; exact .nil
  | v :: vs, xs, h => by
    simp only [ofMems] at h
    split at h
    · rename_i x hx
      simp only [Option.map_eq_some_iff] at h
      obtain ⟨ys, hy, rfl⟩ := h
      exact R.cons (f1 := []) (f2 := []) (ofMem_sound hx) (ofMems_sound hy)
    · cases h
theorem zeroC_inv {t : TypeId} {cs : List AV} (h : zeroC C t = some cs) : ∃ v, (∀ w : World, (zeroValue t).run C.P w = .ok v w) ∧ ofVals v.cells.toList = some cs := by
  unfold zeroC at h
  split at h
  · rename_i v hv
    refine ⟨v, fun w => ?_, h⟩
    simp only [Option.bind_eq_some_iff] at hv
    obtain ⟨i, hi, hz⟩ := hv
    simp [zeroValue, typeInfo, hi, hz]
  · cases h
theorem zeroM_inv {t : TypeId} {cs : List AV} (h : zeroM C t = some cs) : ∃ v, (∀ w : World, (zeroValue t).run C.P w = .ok v w) ∧ ofMems v.cells.toList = some cs := by
  unfold zeroM at h
  split at h
  · rename_i v hv
    refine ⟨v, fun w => ?_, h⟩
    simp only [Option.bind_eq_some_iff] at hv
    obtain ⟨i, hi, hz⟩ := hv
    simp [zeroValue, typeInfo, hi, hz]
  · cases h
theorem get_toList {c : Array Value} {k : Nat} {u : Value} (h : c.toList[k]? = some u) : c[k]? = some u := by simpa using h
theorem run_newVar (P : Program) (w : World) (t : TypeId) (v : Value) : (newVar t v).run P w = .ok ⟨w.heap.size, 0, none⟩ (w.alloc (.cells v.cells t)) := by
  simp [newVar, newRow]
theorem fresh_of {id : Id} (h : (S.h id).isNone = true) : S.h id = none := by simpa using h
theorem zslL_ok {I : Nat → Prop} {l : List Nat} : ∀ {cs : List AV} {j : Nat} {f : List Nat} {vs : List Value}, RL w I β f vs cs → RL w I β f vs (zslL l j cs)
  | [], _, _, _, h => h
  | c :: cs, j, f, vs, h => by
    obtain ⟨f1, f2, v, vs', rfl, rfl, h1, h2⟩ := h.cons_inv
    refine R.cons ?_ (zslL_ok h2)
    split
    · split
      · cases h1 with
        | own0 => exact .sl0
        | own h0 => exact absurd rfl h0
        | own1 h0 => exact absurd rfl h0
      · exact h1
    · split
      · cases h1 with
        | snil => exact .sl0
      · exact h1
    · exact h1
theorem zslC_ok {I : Nat → Prop} {l : List Nat} {cs : List AV} {f : List Nat} {vs : List Value} (h : RL w I β f vs cs) : RL w I β f vs (zslC l cs) := by
  unfold zslC
  split
  · exact h
  · exact zslL_ok h
theorem zslD_ok {I : Nat → Prop} {f0 : FuncId} {o : Oper} {cs : List AV} {f : List Nat} {vs : List Value} (h : RL w I β f vs cs) : RL w I β f vs (zslD C f0 o cs) := by
  unfold zslD
  split
  · exact zslC_ok h
  · exact h
theorem ok_alloc (h : SR C E w S a β F) {o : Oper} {f : FuncId} {t : TypeId} (ho : o.op = .alloc t) {e : Eff} (he : evAlloc C f S o t = some e) (hd : inB S e)
    (hn : ∀ a' w', Nx C E (S.app e) a' w' → next a' w') : o.wp C.P a w next Q := by
  unfold evAlloc at he
  split at he
  · rename_i cs d hz hdst
    split at he
    · rename_i hf
      simp at he; subst he
      obtain ⟨v, hv, hm⟩ := zeroM_inv hz
      have hl := zslC_ok (l := C.zsl f d) (ofMems_sound (w := w) (I := Im E w F) (β := β) hm)
      generalize zslC (C.zsl f d) cs = cs at *
      have hlen := hl.length
      refine wp_val (v := .pointer (some ⟨w.heap.size, 0, none⟩)) (w' := w.alloc (.cells v.cells t)) ?_ (hn _ _ ?_)
      · simp only [execOp, ho]
        refine run_v ?_
        simp [Instr.alloc, hv w, run_newVar]
      · refine h.new o d hdst [d] v.cells t [cs] cs.length v.cells.toList (fresh_of hf) (by simp) (by simp) (by simp at hlen ⊢; omega) (fun k u hu => get_toList hu) (by simpa using hl) ?_ [] hd
        intro I' β' hb
        have := R.mp (w := w.alloc (.cells v.cells t)) (I := I') (row := 0) (off := 0) hb
        simpa using this
    · cases he
  · cases he
theorem ok_box (h : SR C E w S a β F) {o : Oper} {f : FuncId} {t : TypeId} {x : Operand} (ho : o.op = .box t x) {e : Eff} (he : evBox C f S o t (un true (S.get C x)) = some e) (hd : inB S e)
    (hn : ∀ a' w', Nx C E (S.app e) a' w' → next a' w') : o.wp C.P a w next Q := by
  have hx := h.getU x
  generalize un true (S.get C x) = xv at *
  unfold evBox at he
  split at he
  · rename_i b d hb hdst
    split at he
    · rename_i cs hcs
      obtain ⟨vs, hv, hl, hp⟩ := cellsOfV_sound hx hcs
      have hlen := hl.length
      have hrun : (execOp a.eval o).run C.P w = .ok (.value (.pointer (some ⟨w.heap.size, 0, none⟩))) (w.alloc (.cells ⟨vs⟩ t)) := by
        simp only [execOp, ho]
        refine run_v ?_
        simp [Instr.box, run_newVar, hv]
      split at he
      · -- frozen as it is made: the new block is one that nobody writes
        rename_i hfz
        simp only [Bool.and_eq_true] at hfz
        have hl := RL.imm_noB hl.nz hfz.2
        have := ret_inv he; subst this
        refine wp_val hrun (hn _ _ ?_)
        have hold : ∀ b, b < w.heap.size → (w.alloc (.cells ⟨vs⟩ t)).heap[b]? = w.heap[b]? := fun b hb => heap_alloc_old _ _ _ hb
        have hnew : (w.alloc (.cells ⟨vs⟩ t)).heap[w.heap.size]? = some (.cells ⟨vs⟩ t) := heap_alloc_new _ _
        have h1 : SR C E (w.alloc (.cells ⟨vs⟩ t)) S a β F := by
          refine h.step (fun _ => False) h.n (by simp) rfl rfl (fun x => ?_) (fun b hb _ => hold b hb) (fun _ _ h => h) (fun id b hb => .inl ⟨id, hb⟩) (fun _ _ => ⟨rfl, rfl⟩)
            (fun _ _ h => h.elim) (fun _ h => h.elim) (fun _ h => h.elim) (fun _ _ _ h => h.elim) h.dom (fun _ t => .inl ⟨rfl, rfl⟩) (hbs := blk_old hold)
          by_cases hx : x.block = w.heap.size
          · have e2 : w.heap[x.block]? = none := by rw [hx]; simp
            simp only [World.frozen?, hx, hnew]
            simp
          · rw [World.frozen?_alloc_old _ _ _ hx]
        refine ⟨β, F, h1.val o [] ?_ hd⟩
        have hI : Im E (w.alloc (.cells ⟨vs⟩ t)) F w.heap.size := ⟨.inr (.inr h.kept.size), by simp, fun id hm => absurd (h.lt id _ hm).1 (Nat.lt_irrefl _)⟩
        refine .vp hI (fun k u hu => ?_) (hl.mono (fun b hb => ⟨hb.1, Nat.lt_of_lt_of_le hb.2.1 (by simp), hb.2.2⟩) (fun b hb => hb.elim (fun hb => hold b hb.2.1) (fun hb => by cases hb)) (fun _ _ h => h))
        rw [Nat.zero_add, cell_of_row _ _ _ ⟨vs⟩ t (0, 0) hnew]
        simpa using hu
      · split at he
        · rename_i hf
          simp at he; subst he
          refine wp_val hrun (hn _ _ ?_)
          refine h.new o d hdst [d] ⟨vs⟩ t [cs] cs.length vs (fresh_of hf) (by simp) (by simp) (by simp; omega) (fun k u hu => by simpa using hu) (by simpa using hl) ?_ [] hd
          intro I' β' hb
          have := R.mp (w := w.alloc (.cells ⟨vs⟩ t)) (I := I') (row := 0) (off := 0) hb
          simpa using this
        · cases he
    · cases he
  · cases he
theorem over_cons (c : Array Value) (p : Nat) (v : Value) (vs : List Value) (hl : p + (vs.length + 1) ≤ c.size) : over (c.setIfInBounds p v) (p + 1) vs = over c p (v :: vs) := by
  apply Array.ext_getElem?
  intro k
  rw [over_get _ _ _ _ (by simp; omega), over_get _ _ _ _ (by simp; omega), Array.getElem?_setIfInBounds]
  simp only [List.length_cons]
  by_cases h1 : k = p
  · subst h1
    rw [if_neg (by omega), if_pos rfl, if_pos (by omega), if_pos (by omega)]; simp
  · by_cases h2 : p < k ∧ k < p + (vs.length + 1)
    · rw [if_pos (by omega), if_pos (by omega), show k - p = (k - (p + 1)) + 1 by omega, List.getElem?_cons_succ]
    · rw [if_neg (by omega), if_neg (by omega), if_neg (by omega)]
theorem foldl_over (off : Nat) : ∀ (vs : List Value) (k : Nat) (c : Array Value), off + k + vs.length ≤ c.size →
    (vs.zipIdx k).foldl (fun cs x => cs.setIfInBounds (off + x.2) x.1) c = over c (off + k) vs
  | [], k, c, _ => by simp [over_nil]
  | v :: vs, k, c, h => by
    simp only [List.zipIdx_cons, List.foldl_cons]
    rw [foldl_over off vs (k + 1) _ (by simp at h ⊢; omega), ← over_cons c (off + k) v vs (by simp at h; omega)]
    rfl
theorem fill_step (c : Array Value) (off : Nat) (v : Value) (vs : List Value) (hv : v.cells = ⟨vs⟩) (h : off + vs.length ≤ c.size) :
    v.cells.zipIdx.foldl (fun cs (x : Value × Nat) => cs.setIfInBounds (off + x.2) x.1) c = over c off vs := by
  rw [hv, ← Array.foldl_toList, Array.toList_zipIdx]
  simpa using foldl_over off vs 0 c (by omega)
theorem over_toList (c : Array Value) (p : Nat) (vs : List Value) : (over c p vs).toList = c.toList.take p ++ vs ++ c.toList.drop (p + vs.length) := rfl
theorem RL.over {I : Nat → Prop} {cells : List AV} {vs us : List Value} {cs : List AV} (h : RL w I β [] vs cells) (hc : RL w I β [] us cs) (off : Nat) (hl : off + cs.length ≤ cells.length) :
    RL w I β [] (vs.take off ++ us ++ vs.drop (off + us.length)) (cells.take off ++ cs ++ cells.drop (off + cs.length)) := by
  obtain ⟨f1, f2, f3, e0, h1, _, h3⟩ := h.split3 off cs.length hl
  have hf := RL.fnil (I := fun _ => True) e0 rfl
  rw [hf.1] at h1
  rw [hf.2.2, ← hc.length] at h3
  have := (h1.append hc).append h3
  simpa [hc.length] using this
theorem fillC_sound {I : Nat → Prop} {place : List (Nat × Nat × Bool)} {pl : Nat → Option (Nat × Nat)} (hp : ∀ (i : Nat) x, place[i]? = some x → pl i = some (x.1, x.2.1)) :
    ∀ {parts : List (Nat × AV)} {vps : List (Nat × Value)} {cells cs : List AV} {c : Array Value}, fillC place cells parts = some cs → RL w I β [] c.toList cells →
      (vps.length = parts.length ∧ ∀ (k : Nat) p, parts[k]? = some p → ∃ q, vps[k]? = some q ∧ q.1 = p.1 ∧ R w I β [] q.2 p.2) →
      ∃ c', Instr.fill pl c vps = some c' ∧ RL w I β [] c'.toList cs
  | [], vps, cells, cs, c, h, hc, hv => by
    simp [fillC] at h; subst h
    have : vps = [] := List.length_eq_zero_iff.1 (by simpa using hv.1)
    subst this
    exact ⟨c, rfl, hc⟩
  | (i, x) :: parts, [], cells, cs, c, h, hc, hv => by simp at hv
  | (i, x) :: parts, (j, v) :: vps, cells, cs, c, h, hc, hv => by
    simp only [fillC] at h
    split at h
    · cases h
    · rename_i off n b hpl
      split at h
      · cases h
      · rename_i ys hys
        split at h
        · rename_i hfit
          obtain ⟨q, hq, hqi, hqr⟩ := hv.2 0 (i, x) rfl
          simp at hq; subst hq
          simp at hqi; subst hqi
          obtain ⟨vs, hvc, hl, _⟩ := cellsOfV_sound hqr hys
          have hlen := hl.length
          have hcl := hc.length
          simp only [Array.length_toList] at hcl
          have hov := RL.over hc hl off (by omega)
          rw [hlen, hfit.1] at hov
          have hfit2 : off + vs.length ≤ c.size := by omega
          obtain ⟨c', h1, h2⟩ := fillC_sound hp (vps := vps) (c := over c off vs) h (by rw [over_toList, hlen, hfit.1]; exact hov) ⟨by simpa using hv.1, fun k p hk => by
            obtain ⟨q, h3, h4⟩ := hv.2 (k + 1) p (by simpa using hk)
            exact ⟨q, by simpa using h3, h4⟩⟩
          refine ⟨c', ?_, h2⟩
          simp only [Instr.fill]
          rw [hp _ _ hpl]
          simp only
          have hsz : v.cells.size = n := by rw [hvc]; simpa [hlen] using hfit.1
          rw [if_neg (show ¬ ((decide (v.cells.size ≠ n) || decide (off + v.cells.size > c.size)) = true) from by simp only [Bool.or_eq_true, decide_eq_true_eq]; omega)]
          rw [fill_step c off v vs hvc hfit2]
          exact h1
        · cases h
theorem parts_rel (h : SR C E w S a β F) (parts : List (Nat × Operand)) :
    (parts.map fun p => (p.1, a.eval p.2)).length = (parts.map fun p => (p.1, un true (S.get C p.2))).length ∧ ∀ (k : Nat) p, (parts.map fun p => (p.1, un true (S.get C p.2)))[k]? = some p →
      ∃ q, (parts.map fun p => (p.1, a.eval p.2))[k]? = some q ∧ q.1 = p.1 ∧ R w (Im E w F) β [] q.2 p.2 := by
  refine ⟨by simp, fun k p hk => ?_⟩
  simp only [List.getElem?_map, Option.map_eq_some_iff] at hk ⊢
  obtain ⟨z, hz, rfl⟩ := hk
  exact ⟨_, ⟨z, hz, rfl⟩, rfl, h.getU z.2⟩
theorem placesL_run : ∀ {fields : List Field} {pl : List (Nat × Nat × Bool)}, placesL C fields = some pl →
    (fields.mapM (m := Sem) fun f => do pure (f.offset, ← sizeOf f.type)).run C.P w = .ok (pl.map fun x => (x.1, x.2.1)) w
  | [], pl, h => by simp [placesL] at h; subst h; rfl
  | f :: l, pl, h => by
    simp only [placesL] at h
    split at h
    · rename_i n b r h1 h2 h3
      simp at h; subst h
      rw [List.mapM_cons, Sem.run_bind, Sem.run_bind, run_size h1]
      simp only [Result.andThen_ok, Sem.run_pure]
      rw [Sem.run_bind, placesL_run h3]
      rfl
    · cases h
theorem ok_build (h : SR C E w S a β F) {o : Oper} {f : FuncId} {t : TypeId} {parts : Array (Nat × Operand)} (ho : o.op = .build t parts) {e : Eff}
    (he : evBuild C f o t (parts.toList.map fun p => (p.1, un true (S.get C p.2))) = some e) (hd : inB S e) (hn : ∀ a' w', Nx C E (S.app e) a' w' → next a' w') : o.wp C.P a w next Q := by
  unfold evBuild at he
  split at he
  · rename_i z pl hz hpl
    split at he
    · rename_i cs hcs
      have := ret_inv he; subst this
      obtain ⟨zv, hzv, hzl⟩ := zeroC_inv hz
      unfold placesC at hpl
      split at hpl
      · rename_i fields hu
        have hps := placesL_run (w := w) hpl
        obtain ⟨c', h1, h2⟩ := fillC_sound (w := w) (β := β) (I := Im E w F) (place := pl) (pl := fun i => (pl.map fun x => (x.1, x.2.1)).toArray[i]?) (fun i x hx => by simp [hx]) hcs
          (c := zv.cells) (zslD_ok (ofVals_sound hzl)) (parts_rel h parts.toList)
        refine ok_val h (s := Instr.build t (parts.map fun (i, x) => (i, a.eval x))) (v := .agg c') hd (by simp [execOp, ho]) ?_ ?_ hn
        · unfold Instr.build
          rw [Sem.run_bind, hzv w, Result.andThen_ok, Sem.run_bind, run_und hu, Result.andThen_ok]
          simp only
          have hm : (fields.mapM (m := Sem) fun f => do pure (f.offset, ← sizeOf f.type)).run C.P w = .ok ((pl.map fun x => (x.1, x.2.1)).toArray) w := by
            rw [Array.mapM_eq_mapM_toList, Sem.run_map, hps]; rfl
          rw [Sem.run_bind, hm, Result.andThen_ok]
          have e2 : (parts.map fun (x : Nat × Operand) => (x.1, a.eval x.2)).toList = parts.toList.map fun p => (p.1, a.eval p.2) := by simp
          have e3 : (Array.map (fun x => match x with | (i, x) => (i, a.eval x)) parts).toList = parts.toList.map fun p => (p.1, a.eval p.2) := by simp
          rw [e3, h1]; rfl
        · exact h2
      · cases hpl
    · cases he
  · cases he
end
end Go.Ab
