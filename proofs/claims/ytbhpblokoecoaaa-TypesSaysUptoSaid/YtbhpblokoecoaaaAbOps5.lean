/-
  ROWS LAID ANEW; LOADS; STORES.
-/
import Derived.Test.YtbhpblokoecoaaaAbOps4
import Derived.IntWalk
import Derived.Lib.ConvBytes
import Derived.Laws.AppendOwn
namespace Go.Ab
open Go
section
variable {C : Cx} {E : Env} {w : World} {S : St} {a : Act} {β : Id → Option Loc} {F : Id → List Nat}
variable {next : Act → World → Prop} {Q : Exit → Act → World → Prop}
theorem RL.flatten {I : Nat → Prop} {zs : List Value} {z : List AV} (h : RL w I β [] zs z) : ∀ n : Nat, RL w I β [] (List.replicate n zs).flatten (List.replicate n z).flatten
  | 0 => .nil
  | n + 1 => by
    rw [List.replicate_succ, List.replicate_succ, List.flatten_cons, List.flatten_cons]
    exact h.append (RL.flatten h n)
theorem made_rows (z : Array Value) : ∀ n : Nat, 0 < z.size → ((Array.range (n * z.size)).map (z[· % z.size]!)).toList = (List.replicate n z.toList).flatten := by
  intro n h0
  induction n with
  | zero => simp
  | succ n ih =>
    simp only [Array.toList_map, Array.toList_range] at ih ⊢
    rw [Nat.add_mul, Nat.one_mul, List.range_add, List.map_append, ih]
    have e : List.replicate (n + 1) z.toList = List.replicate n z.toList ++ [z.toList] := List.replicate_succ'
    rw [e, List.flatten_append]
    congr 1
    rw [List.map_map]
    apply List.ext_getElem?
    intro k
    simp only [List.flatten_cons, List.flatten_nil, List.append_nil, List.getElem?_map]
    rcases Nat.lt_or_ge k z.size with hk | hk
    · rw [List.getElem?_range hk]
      have : (n * z.size + k) % z.size = k := by rw [Nat.mul_comm, Nat.mul_add_mod]; exact Nat.mod_eq_of_lt hk
      simp [this, hk]
    · rw [List.getElem?_eq_none (by simpa using hk)]
      simp [hk]
theorem replicate_len {z : List AV} (n : Nat) : ∀ r ∈ List.replicate n z, r.length = z.length := by
  intro r hr
  rw [(List.mem_replicate.1 hr).2]
theorem fillRows_sound {I : Nat → Prop} {n : Nat} {b : Bool} (hn0 : 0 < n) : ∀ {parts : List (Nat × AV)} {vps : List (Nat × Value)} {rows rows' : Rows} {c : Array Value}, fillRows n b rows parts = some rows' →
      (∀ r ∈ rows, r.length = n) → RL w I β [] c.toList rows.flatten →
      (vps.length = parts.length ∧ ∀ (k : Nat) p, parts[k]? = some p → ∃ q, vps[k]? = some q ∧ q.1 = p.1 ∧ R w I β [] q.2 p.2) →
      ∃ c', Instr.fill (fun i => some (i * n, n)) c vps = some c' ∧ (∀ r ∈ rows', r.length = n) ∧ rows'.length = rows.length ∧ RL w I β [] c'.toList rows'.flatten
  | [], vps, rows, rows', c, h, hs, hc, hv => by
    simp [fillRows] at h; subst h
    have : vps = [] := List.length_eq_zero_iff.1 (by simpa using hv.1)
    subst this
    exact ⟨c, rfl, hs, rfl, hc⟩
  | (i, x) :: parts, [], rows, rows', c, h, hs, hc, hv => by simp at hv
  | (i, x) :: parts, (j, v) :: vps, rows, rows', c, h, hs, hc, hv => by
    simp only [fillRows] at h
    split at h
    · cases h
    · rename_i ys hys
      split at h
      · rename_i hfit
        obtain ⟨q, hq, hqi, hqr⟩ := hv.2 0 (i, x) rfl
        simp at hq; subst hq
        simp at hqi; subst hqi
        obtain ⟨vs, hvc, hl, _⟩ := cellsOfV_sound hqr hys
        have hlen := hl.length
        have hcl := hc.length
        simp only [Array.length_toList] at hcl
        have hfl := flat_len hs
        have hr : rows[j]? = some rows[j] := List.getElem?_eq_getElem hfit.2
        have hrl : rows[j].length = n := hs _ (List.getElem_mem hfit.2)
        obtain ⟨g1, _, g3⟩ := flat_part (off := 0) (n := n) hr hs (by omega)
        have g3 := g3 ys
        rw [Nat.add_zero] at g1 g3
        have e1 : rows[j].take 0 ++ ys ++ rows[j].drop (0 + n) = ys := by simp [hrl]
        rw [e1] at g3
        have hov := RL.over hc hl (j * n) (by omega)
        rw [hlen, hfit.1, ← g3] at hov
        have hs' : ∀ r ∈ rows.set j ys, r.length = n := fun r hr => by
          rcases List.mem_or_eq_of_mem_set hr with hm | rfl
          · exact hs r hm
          · exact hfit.1
        have hfit2 : j * n + vs.length ≤ c.size := by omega
        obtain ⟨c', h1, h2, h3, h4⟩ := fillRows_sound hn0 (vps := vps) (c := over c (j * n) vs) h hs' (by rw [over_toList, hlen, hfit.1]; exact hov) ⟨by simpa using hv.1, fun k p hk => by
          obtain ⟨q, h3, h4⟩ := hv.2 (k + 1) p (by simpa using hk)
          exact ⟨q, by simpa using h3, h4⟩⟩
        refine ⟨c', ?_, h2, by simpa using h3, h4⟩
        simp only [Instr.fill]
        have hsz : v.cells.size = n := by rw [hvc]; simpa [hlen] using hfit.1
        rw [if_neg (show ¬ ((decide (v.cells.size ≠ n) || decide (j * n + v.cells.size > c.size)) = true) from by simp only [Bool.or_eq_true, decide_eq_true_eq]; omega)]
        rw [fill_step c (j * n) v vs hvc hfit2]
        exact h1
      · cases h
theorem SR.idle (h : SR C E w S a β F) (c : Array Value) (e : TypeId) : SR C E (w.alloc (.cells c e)) S a β F ∧ Im E (w.alloc (.cells c e)) F w.heap.size ∧ (∀ b, Im E w F b → Im E (w.alloc (.cells c e)) F b) ∧
    (∀ b, b < w.heap.size → (w.alloc (.cells c e)).heap[b]? = w.heap[b]?) := by
  have hold : ∀ b, b < w.heap.size → (w.alloc (.cells c e)).heap[b]? = w.heap[b]? := fun b hb => heap_alloc_old _ _ _ hb
  have hnew : (w.alloc (.cells c e)).heap[w.heap.size]? = some (.cells c e) := heap_alloc_new _ _
  refine ⟨?_, ⟨.inr (.inr h.kept.size), by simp, fun id hm => absurd (h.lt id _ hm).1 (Nat.lt_irrefl _)⟩, fun b hb => ⟨hb.1, Nat.lt_of_lt_of_le hb.2.1 (by simp), hb.2.2⟩, hold⟩
  refine h.step (fun _ => False) h.n (by simp) rfl rfl (fun x => ?_) (fun b hb _ => hold b hb) (fun _ _ h => h) (fun id b hb => .inl ⟨id, hb⟩) (fun _ _ => ⟨rfl, rfl⟩)
    (fun _ _ h => h.elim) (fun _ h => h.elim) (fun _ h => h.elim) (fun _ _ _ h => h.elim) h.dom (fun _ t => .inl ⟨rfl, rfl⟩) (hbs := blk_old hold)
  by_cases hx : x.block = w.heap.size
  · have e2 : w.heap[x.block]? = none := by rw [hx]; simp
    simp only [World.frozen?, hx, hnew]
    simp
  · rw [World.frozen?_alloc_old _ _ _ hx]
theorem cells_new (c : Array Value) (e : TypeId) : Cl (w.alloc (.cells c e)) w.heap.size 0 c.toList := fun k u hu => by
  rw [Nat.zero_add, cell_of_row _ _ _ c e (0, 0) (heap_alloc_new _ _)]
  simpa using hu
theorem bytesTo_inv {src dst : TypeId} (h : bytesTo C src dst = true) : ∃ u e, C.P.underlying src = some u ∧ C.P.underlying dst = some (.slice e) ∧ C.P.underlying e = some (.int .u8) := by
  unfold bytesTo at h
  split at h
  · rename_i u e h1 h2
    split at h
    · exact ⟨u, e, h1, h2, ‹_›⟩
    · cases h
  · cases h
theorem ok_conv (h : SR C E w S a β F) {o : Oper} {s t : TypeId} {x : Operand} (ho : o.op = .convert s t x) {e : Eff}
    (he : evConv C o s t (un true (S.get C x)) = some e) (hd : inB S e) (hn : ∀ a' w', Nx C E (S.app e) a' w' → next a' w') : o.wp C.P a w next Q := by
  unfold evConv at he
  split at he
  · rename_i hb
    obtain ⟨u, el, h1, h2, h3⟩ := bytesTo_inv hb
    have hx := h.getU x
    unfold evBytes at he
    split at he
    · rename_i sv hsv
      rw [hsv] at hx
      have := ret_inv he; subst this
      have hrun : (execOp a.eval o).run C.P w = .ok (.value (.slice (some ⟨w.heap.size, 0, none⟩) sv.size (grownCap w sv.size 0 el))) (Lib.bytesWorld w el sv) := by
        simp only [execOp, ho]
        refine run_v ?_
        rw [hx.val_inv.2]
        exact Lib.run_convert_string_bytes w s t el sv h1 h2 h3
      have hold : ∀ b, b < w.heap.size → (Lib.bytesWorld w el sv).heap[b]? = w.heap[b]? := fun b hb => Lib.bytesWorld_at_old w el sv b hb
      have hsz : (Lib.bytesWorld w el sv).heap.size = w.heap.size + 1 := Lib.bytesWorld_size w el sv
      have hI : Im E (Lib.bytesWorld w el sv) F w.heap.size := ⟨.inr (.inr h.kept.size), by omega, fun id hm => absurd (h.lt id _ hm).1 (Nat.lt_irrefl _)⟩
      have hS : SR C E (Lib.bytesWorld w el sv) S a β F := by
        refine h.stepW (fun _ => False) h.n (by omega) rfl rfl (fun y hy => ?_) (fun b hb _ => hold b hb) (fun _ _ h => h) (fun id b hb => .inl ⟨id, hb⟩) (fun _ _ => ⟨rfl, rfl⟩)
          (fun _ _ h => h.elim) (fun _ h => h.elim) (fun _ h => h.elim) (fun _ _ _ h => h.elim) h.dom (fun _ t => .inl ⟨rfl, rfl⟩) (hbs := blk_old hold)
        simp only [World.frozen?, hold y.block hy]
      refine wp_val hrun (hn _ _ ⟨β, F, hS.val o [] ?_ hd⟩)
      have hlen : sv.size = (byteRows sv).length := by simp [byteRows]
      have hcl : Cl (Lib.bytesWorld w el sv) w.heap.size 0 (sv.data.toList.map fun b => Value.int .u8 b.toNat) := fun k v hk => by
        rw [Nat.zero_add]
        have hk' : k < sv.size := by
          have := (List.getElem?_eq_some_iff.1 hk).1
          simpa using this
        rw [Lib.bytesWorld_cell w el sv k hk', ← hk, List.getElem?_map]
        have hk2 : k < sv.data.toList.length := by simpa using hk'
        rw [List.getElem?_eq_getElem hk2]
        simp [List.getD, List.getElem?_eq_getElem hk2]
      have hcap : (byteRows sv).length ≤ grownCap w sv.size 0 el := by rw [← hlen]; exact grownCap_ge w sv.size 0 el
      rw [hlen] at hcap ⊢
      refine R.sl (sz := 1) (fun r hr => ?_) hI hcl hcap ?_
      · obtain ⟨b, _, rfl⟩ := List.mem_map.1 hr; rfl
      · have : ∀ l : List UInt8, RL (Lib.bytesWorld w el sv) (Im E (Lib.bytesWorld w el sv) F) noB [] (l.map fun b => Value.int .u8 b.toNat) (l.map fun b => [AV.val (.int .u8 b.toNat)]).flatten := fun l => by
          induction l with
          | nil => exact .nil
          | cons b l ih => exact .cons (f1 := []) (f2 := []) (.val rfl) ih
        exact this _
    · cases he
  · exact ok_conv0 h ho he hd hn
theorem buildRows_run (h : SR C E w S a β F) {o : Oper} {t : TypeId} {len : Nat} {parts : Array (Nat × Operand)} (ho : o.op = .buildSlice t len parts) {rows : Rows}
    (hrows : buildRows C t len (parts.toList.map fun p => (p.1, un true (S.get C p.2))) = some rows) : ∃ (c' : Array Value) (el : TypeId) (n : Nat), (∀ r ∈ rows, r.length = n) ∧ rows.length = len ∧ RL w (Im E w F) β [] c'.toList rows.flatten ∧
      (execOp a.eval o).run C.P w = .ok (.value (.slice (some ⟨w.heap.size, 0, none⟩) len len)) (w.alloc (.cells c' el)) := by
  unfold buildRows at hrows
  split at hrows
  · rename_i el hu
    split at hrows
    · rename_i z b n hz hb hs
      split at hrows
      · rename_i hc
        simp only [Bool.and_eq_true, decide_eq_true_eq] at hc
        obtain ⟨⟨hn0, hnz⟩, hle⟩ := hc
        obtain ⟨zv, hzv, hzl⟩ := zeroC_inv hz
        have hzr := ofVals_sound (w := w) (I := Im E w F) (β := β) hzl
        have hzlen := hzr.length
        have hzs : zv.cells.size = n := by simpa [hnz] using hzlen
        have hmade := made_rows zv.cells len (by omega)
        rw [hzs] at hmade
        obtain ⟨c', h1, h2, h3, h4⟩ := fillRows_sound (w := w) (β := β) (I := Im E w F) hn0 hrows (by rw [hnz]; exact replicate_len len) (c := (Array.range (len * n)).map (zv.cells[· % n]!)) (by rw [hmade]; exact RL.flatten hzr len) (parts_rel h parts.toList)
        rw [List.length_replicate] at h3
        refine ⟨c', el, n, h2, h3, h4, ?_⟩
        simp only [execOp, ho]
        refine run_v ?_
        unfold Instr.buildSlice
        rw [Sem.run_bind, run_und hu, Result.andThen_ok]
        simp only
        rw [Sem.run_bind, run_size hs, Result.andThen_ok, if_neg (by omega)]
        have e3 : (Array.map (fun x => match x with | (i, x) => (i, a.eval x)) parts).toList = parts.toList.map fun p => (p.1, a.eval p.2) := by simp
        by_cases h0 : len * n = 0
        · have e4 : (Array.range (len * n)).map ((#[] : Array Value)[· % (#[] : Array Value).size]!) = (Array.range (len * n)).map (zv.cells[· % n]!) := by rw [h0]; simp
          rw [if_pos h0, Sem.run_bind, Sem.run_pure, Result.andThen_ok, e3, e4, h1]
          simp [newRow]
        · rw [if_neg h0, Sem.run_bind, hzv w, Result.andThen_ok, Sem.run_bind, Sem.run_pure, Result.andThen_ok, e3, hzs, h1]
          simp [newRow]
      · cases hrows
    · cases hrows
  · cases hrows
theorem ok_buildSlice0 (h : SR C E w S a β F) {o : Oper} {f : FuncId} {t : TypeId} {len : Nat} {parts : Array (Nat × Operand)} (ho : o.op = .buildSlice t len parts) {e : Eff}
    (he : evBuildSlice0 C f S o t len (parts.toList.map fun p => (p.1, un true (S.get C p.2))) = some e) (hd : inB S e) (hn : ∀ a' w', Nx C E (S.app e) a' w' → next a' w') : o.wp C.P a w next Q := by
  unfold evBuildSlice0 at he
  split at he
  · rename_i el d hu hdst
    split at he
    · rename_i z b n hz hb hs
      split at he
      · rename_i hc
        simp only [Bool.and_eq_true, decide_eq_true_eq] at hc
        obtain ⟨⟨hn0, hnz⟩, hle⟩ := hc
        split at he
        · rename_i rows hrows
          obtain ⟨zv, hzv, hzl⟩ := zeroC_inv hz
          have hzr := ofVals_sound (w := w) (I := Im E w F) (β := β) hzl
          have hzlen := hzr.length
          have hzs : zv.cells.size = n := by simpa [hnz] using hzlen
          have hmade := made_rows zv.cells len (by omega)
          rw [hzs] at hmade
          obtain ⟨c', h1, h2, h3, h4⟩ := fillRows_sound (w := w) (β := β) (I := Im E w F) hn0 hrows (by rw [hnz]; exact replicate_len len) (c := (Array.range (len * n)).map (zv.cells[· % n]!)) (by rw [hmade]; exact RL.flatten hzr len) (parts_rel h parts.toList)
          rw [List.length_replicate] at h3
          have hfl := flat_len h2
          have hcl := h4.length
          simp only [Array.length_toList] at hcl
          have hrun : (execOp a.eval o).run C.P w = .ok (.value (.slice (some ⟨w.heap.size, 0, none⟩) len len)) (w.alloc (.cells c' el)) := by
            simp only [execOp, ho]
            refine run_v ?_
            unfold Instr.buildSlice
            rw [Sem.run_bind, run_und hu, Result.andThen_ok]
            simp only
            rw [Sem.run_bind, run_size hs, Result.andThen_ok, if_neg (by omega)]
            have e3 : (Array.map (fun x => match x with | (i, x) => (i, a.eval x)) parts).toList = parts.toList.map fun p => (p.1, a.eval p.2) := by simp
            by_cases h0 : len * n = 0
            · have e4 : (Array.range (len * n)).map ((#[] : Array Value)[· % (#[] : Array Value).size]!) = (Array.range (len * n)).map (zv.cells[· % n]!) := by rw [h0]; simp
              rw [if_pos h0, Sem.run_bind, Sem.run_pure, Result.andThen_ok, e3, e4, h1]
              simp [newRow]
            · rw [if_neg h0, Sem.run_bind, hzv w, Result.andThen_ok, Sem.run_bind, Sem.run_pure, Result.andThen_ok, e3, hzs, h1]
              simp [newRow]
          split at he
          · rename_i hfz
            simp only [Bool.and_eq_true] at hfz
            have h4 := RL.imm_noB (nzL_flatten rows ▸ RL.nz h4) (immR_flatten _ hfz.2)
            have h2' : ∀ r ∈ rows.map nzL, r.length = n := fun r hr => by
              obtain ⟨r0, hr0, rfl⟩ := List.mem_map.1 hr
              simpa [nzL] using h2 r0 hr0
            have h3' : (rows.map nzL).length = len := by simpa using h3
            have := ret_inv he; subst this
            refine wp_val hrun (hn _ _ ?_)
            obtain ⟨hS, hI, hII, hold⟩ := h.idle c' el
            refine ⟨β, F, hS.val o [] ?_ hd⟩
            have h4' := h4.mono (w' := w.alloc (.cells c' el)) (β' := noB) hII (fun b hb => hb.elim (fun hb => hold b hb.2.1) (fun hb => by cases hb)) (fun _ _ h => h)
            have := R.sl (β := β) (cap := len) h2' hI (cells_new c' el) (by omega) h4'
            rwa [h3'] at this
          · split at he
            · rename_i hf
              simp at he; subst he
              refine wp_val hrun (hn _ _ ?_)
              by_cases hne : rows = []
              · subst hne
                have : len = 0 := by simpa using h3.symm
                subst this
                obtain ⟨hS, _⟩ := h.idle c' el
                exact hS.newNil o d hdst [d] (fresh_of hf) [] hd
              refine h.new o d hdst [d] c' el rows n c'.toList (fresh_of hf) hne h2 (by rw [h3]; rw [h3] at hfl; omega) (fun k u hu => get_toList hu) h4 ?_ [] hd
              intro I' β' hb'
              have := R.rs (w := w.alloc (.cells c' el)) (I := I') (off := 0) (len := len) (cap := len) hb' (by rw [h3] at hfl; simp; omega) (Nat.le_refl _)
              simpa using this
            · cases he
        · cases he
      · cases he
    · cases he
  · cases he
theorem ok_make (h : SR C E w S a β F) {o : Oper} {t : TypeId} {x y : Operand} (ho : o.op = .makeSlice t x y) {e : Eff}
    (he : evMake C S o t (un true (S.get C x)) (un true (S.get C y)) = some e) (hd : inB S e) (hn : ∀ a' w', Nx C E (S.app e) a' w' → next a' w') : o.wp C.P a w next Q := by
  have hx := h.getU x
  have hy := h.getU y
  unfold evMake at he
  split at he
  · rename_i el d l c hu hdst hl hc
    obtain ⟨k, hk⟩ := asInt_inv hx hl
    obtain ⟨k', hk'⟩ := asInt_inv hy hc
    split at he
    · rename_i z i hz hi
      split at he
      · rename_i hcond
        simp only [Bool.and_eq_true, decide_eq_true_eq] at hcond
        obtain ⟨⟨⟨⟨hz0, hzs⟩, hby⟩, h0, hlc, hcm, hl0c⟩, hf⟩ := hcond
        simp at he; subst he
        obtain ⟨zv, hzv, hzl⟩ := zeroM_inv hz
        have hzr := ofMems_sound (w := w) (I := Im E w F) (β := β) hzl
        have hzlen := hzr.length
        have hzs' : zv.cells.size = z.length := by simpa using hzlen
        have hmade := made_rows zv.cells c.toNat (by omega)
        let C' : Array Value := (Array.range (c.toNat * z.length)).map (zv.cells[· % zv.cells.size]!)
        have hC' : C'.toList = (List.replicate c.toNat zv.cells.toList).flatten := by rw [← hmade]; simp only [C', hzs']
        have hrun : (execOp a.eval o).run C.P w = .ok (.value (.slice (some ⟨w.heap.size, 0, none⟩) l.toNat c.toNat)) (w.alloc (.cells C' el)) := by
          simp only [execOp, ho]
          refine run_v ?_
          rw [hk, hk']
          have hw1 : IntKind.i64.wrap l = l := IntWalk.i64_in l (by omega)
          have hw2 : IntKind.i64.wrap c = c := IntWalk.i64_in c (by omega)
          have hb1 : ¬ ((i.bytes : Int) * c > 2 ^ 48) := by
            have : (i.bytes : Int) * c ≤ 4096 * 4294967296 := Int.mul_le_mul (by omega) (by omega) (by omega) (by omega)
            omega
          have hl0 : ¬ (l < 0) := by omega
          have hlc' : ¬ (l > c) := by omega
          have hc0 : ¬ (c < 0) := by omega
          have hsz : (sizeOf el).run C.P w = .ok z.length w := run_size (by simp [sizeC, hi, hzs])
          unfold Instr.makeSlice
          rw [Sem.run_bind, run_und hu, Result.andThen_ok]
          simp only [asInt, asIntOf]
          simp only [Sem.run_bind, Sem.run_pure, Result.andThen_ok, hw1, hw2]
          have hti : (typeInfo el).run C.P w = .ok i w := by simp [typeInfo, hi]
          rw [hti, Result.andThen_ok]
          rw [if_neg (by simp only [Bool.or_eq_true, decide_eq_true_eq]; omega), Sem.run_bind, run_askRoom, Result.andThen_ok, Sem.run_bind, hsz, Result.andThen_ok]
          by_cases h0 : c.toNat * z.length = 0
          · have e4 : (Array.range (c.toNat * z.length)).map ((#[] : Array Value)[· % (#[] : Array Value).size]!) = C' := by
              show _ = (Array.range (c.toNat * z.length)).map (zv.cells[· % zv.cells.size]!)
              rw [h0]; simp
            rw [if_pos h0, Sem.run_bind, Sem.run_pure, Result.andThen_ok, e4]
            simp [newRow]
          · rw [if_neg h0, Sem.run_bind, hzv w, Result.andThen_ok, Sem.run_bind, Sem.run_pure, Result.andThen_ok]
            simp [newRow, C']
        refine wp_val hrun (hn _ _ ?_)
        have hrl : RL w (Im E w F) β [] ((List.replicate l.toNat zv.cells.toList).flatten) ((List.replicate l.toNat z).flatten) := RL.flatten hzr _
        have hsize : C'.size = c.toNat * z.length := by simp [C']
        rcases hl0c with hl0c | hl0c
        case inr =>
          have e1 : l.toNat = 0 := by omega
          have e2 : c.toNat = 0 := by omega
          rw [e1, e2]
          rw [e1] at hd
          obtain ⟨hS, _⟩ := h.idle C' el
          exact hS.newNil o d hdst [d] (fresh_of hf) [] hd
        refine h.new o d hdst [d] C' el (List.replicate l.toNat z) z.length ((List.replicate l.toNat zv.cells.toList).flatten) (fresh_of hf) (by rw [show l.toNat = l.toNat - 1 + 1 by omega, List.replicate_succ]; simp) (replicate_len _) ?_ ?_ hrl ?_ [] hd
        · rw [hsize, List.length_replicate]; exact Nat.mul_le_mul_right _ (by omega)
        · intro k u hu'
          refine get_toList ?_
          rw [hC', show c.toNat = l.toNat + (c.toNat - l.toNat) by omega, ← List.replicate_append_replicate, List.flatten_append]
          have hlt : k < ((List.replicate l.toNat zv.cells.toList).flatten).length := by
            rcases Nat.lt_or_ge k ((List.replicate l.toNat zv.cells.toList).flatten).length with h' | h'
            · exact h'
            · rw [List.getElem?_eq_none h'] at hu'; cases hu'
          rw [List.getElem?_append_left hlt]; exact hu'
        · intro I' β' hb'
          have := R.rs (w := w.alloc (.cells C' el)) (I := I') (off := 0) (len := l.toNat) (cap := c.toNat) hb' (by rw [hsize]; simp) (by omega)
          simpa using this
      · cases he
    · cases he
  · cases he
theorem unpackC_sound {I : Nat → Prop} (p : Id) : ∀ {cs : List AV} {j : Nat} {f : List Nat} {vs : List Value} {β : Id → Option Loc}, RL w I β f vs cs → f.Nodup → (∀ x ∈ (unpackC p j cs).2, β x.1 = none) →
    ∃ (β' : Id → Option Loc) (G : Id → List Nat), (∀ i l, β i = some l → β' i = some l) ∧ (∀ i, (∀ x ∈ (unpackC p j cs).2, x.1 ≠ i) → β' i = β i ∧ G i = []) ∧ RL w I β' [] vs (unpackC p j cs).1 ∧
      (∀ x ∈ (unpackC p j cs).2, ∃ rows, x.2 = some rows ∧ OR w I β' x.1 rows (G x.1)) ∧ (∀ i, (G i).Nodup ∧ ∀ b ∈ G i, b ∈ f) ∧ (∀ i i' b, b ∈ G i → b ∈ G i' → i = i') ∧
      (∀ x ∈ (unpackC p j cs).2, ∃ k, j ≤ k ∧ x.1 = k :: p) := by
  intro cs
  induction cs with
  | nil =>
    intro j f vs β h _ _
    obtain ⟨rfl, rfl⟩ := h.nil_inv
    exact ⟨β, fun _ => [], fun _ _ h => h, fun _ _ => ⟨rfl, rfl⟩, .nil, (fun x hx => by cases hx), (fun i => ⟨List.nodup_nil, (fun b hb => by cases hb)⟩), (fun i i' b hb => by cases hb), (fun x hx => by cases hx)⟩
  | cons c cs ih =>
    intro j f vs β h hnd hfr
    obtain ⟨f1, f2, v, vs', rfl, rfl, h1, h2⟩ := RL.cons_inv h
    have hnd2 : f2.Nodup := (List.nodup_append.1 hnd).2.1
    have hnd1 : f1.Nodup := (List.nodup_append.1 hnd).1
    have hdisj : ∀ b, b ∈ f1 → b ∈ f2 → False := fun b hb hb' => (List.nodup_append.1 hnd).2.2 b hb b hb' rfl
    -- the rest first
    have hrest : ∀ x ∈ (unpackC p (j + 1) cs).2, β x.1 = none := fun x hx => hfr x (by cases c <;> simp_all [unpackC])
    obtain ⟨β1, G1, k1, k2, k3, k4, k5, k6, k7⟩ := ih h2 hnd2 hrest
    have plain : (unpackC p j (c :: cs)).1 = c :: (unpackC p (j + 1) cs).1 → (unpackC p j (c :: cs)).2 = (unpackC p (j + 1) cs).2 → f1 = [] → ∃ (β' : Id → Option Loc) (G : Id → List Nat), (∀ i l, β i = some l → β' i = some l) ∧ (∀ i, (∀ x ∈ (unpackC p j (c :: cs)).2, x.1 ≠ i) → β' i = β i ∧ G i = []) ∧ RL w I β' [] (v :: vs') (unpackC p j (c :: cs)).1 ∧
      (∀ x ∈ (unpackC p j (c :: cs)).2, ∃ rows, x.2 = some rows ∧ OR w I β' x.1 rows (G x.1)) ∧ (∀ i, (G i).Nodup ∧ ∀ b ∈ G i, b ∈ f1 ++ f2) ∧ (∀ i i' b, b ∈ G i → b ∈ G i' → i = i') ∧
      (∀ x ∈ (unpackC p j (c :: cs)).2, ∃ k, j ≤ k ∧ x.1 = k :: p) := by
      intro e1 e2 hf
      rw [e1, e2]
      subst hf
      refine ⟨β1, G1, k1, k2, R.cons (f1 := []) (f2 := []) (h1.mono (fun _ h => h) (fun _ _ => rfl) k1) k3, k4, fun i => ⟨(k5 i).1, fun b hb => by simpa using (k5 i).2 b hb⟩, k6, fun x hx => ?_⟩
      obtain ⟨k, hk, e⟩ := k7 x hx
      exact ⟨k, by omega, e⟩
    have junked : (unpackC p j (c :: cs)).1 = .junk :: (unpackC p (j + 1) cs).1 → (unpackC p j (c :: cs)).2 = (unpackC p (j + 1) cs).2 → ∃ (β' : Id → Option Loc) (G : Id → List Nat), (∀ i l, β i = some l → β' i = some l) ∧ (∀ i, (∀ x ∈ (unpackC p j (c :: cs)).2, x.1 ≠ i) → β' i = β i ∧ G i = []) ∧ RL w I β' [] (v :: vs') (unpackC p j (c :: cs)).1 ∧
      (∀ x ∈ (unpackC p j (c :: cs)).2, ∃ rows, x.2 = some rows ∧ OR w I β' x.1 rows (G x.1)) ∧ (∀ i, (G i).Nodup ∧ ∀ b ∈ G i, b ∈ f1 ++ f2) ∧ (∀ i i' b, b ∈ G i → b ∈ G i' → i = i') ∧
      (∀ x ∈ (unpackC p j (c :: cs)).2, ∃ k, j ≤ k ∧ x.1 = k :: p) := by
      intro e1 e2
      rw [e1, e2]
      refine ⟨β1, G1, k1, k2, R.cons (f1 := []) (f2 := []) .junk k3, k4, fun i => ⟨(k5 i).1, fun b hb => List.mem_append.2 (.inr ((k5 i).2 b hb))⟩, k6, fun x hx => ?_⟩
      obtain ⟨k, hk, e⟩ := k7 x hx
      exact ⟨k, by omega, e⟩
    -- one that is owned: its name is new
    have owned : ∀ (a : AV) (rows : Rows), unpackC p j (c :: cs) = (a :: (unpackC p (j + 1) cs).1, (j :: p, some rows) :: (unpackC p (j + 1) cs).2) →
        (∃ l, (∀ β2 : Id → Option Loc, (∀ i l, β i = some l → β2 i = some l) → β2 (j :: p) = some l → R w I β2 [] v a ∧ OR w I β2 (j :: p) rows f1)) → ∃ (β' : Id → Option Loc) (G : Id → List Nat), (∀ i l, β i = some l → β' i = some l) ∧ (∀ i, (∀ x ∈ (unpackC p j (c :: cs)).2, x.1 ≠ i) → β' i = β i ∧ G i = []) ∧ RL w I β' [] (v :: vs') (unpackC p j (c :: cs)).1 ∧
      (∀ x ∈ (unpackC p j (c :: cs)).2, ∃ rows, x.2 = some rows ∧ OR w I β' x.1 rows (G x.1)) ∧ (∀ i, (G i).Nodup ∧ ∀ b ∈ G i, b ∈ f1 ++ f2) ∧ (∀ i i' b, b ∈ G i → b ∈ G i' → i = i') ∧
      (∀ x ∈ (unpackC p j (c :: cs)).2, ∃ k, j ≤ k ∧ x.1 = k :: p) := by
      intro a rows e ⟨l, hl⟩
      rw [e] at hfr ⊢
      simp only at hfr ⊢
      have hnew : β (j :: p) = none := hfr _ (List.mem_cons_self ..)
      have hnot : ∀ x ∈ (unpackC p (j + 1) cs).2, x.1 ≠ j :: p := fun x hx heq => by
        obtain ⟨k, hk, e⟩ := k7 x hx
        rw [heq] at e
        simp at e; omega
      have hβ1 : β1 (j :: p) = none := by rw [(k2 _ hnot).1]; exact hnew
      have up : ∀ i l', β1 i = some l' → upd β1 (j :: p) (some l) i = some l' := fun i l' hl' => by
        by_cases hi : i = j :: p
        · subst hi; rw [hβ1] at hl'; cases hl'
        · simpa [upd, hi] using hl'
      obtain ⟨r1, r2⟩ := hl (upd β1 (j :: p) (some l)) (fun i l' h => up i l' (k1 i l' h)) (by simp [upd])
      refine ⟨upd β1 (j :: p) (some l), upd G1 (j :: p) f1, fun i l' h => up i l' (k1 i l' h), ?_, R.cons (f1 := []) (f2 := []) r1 (k3.mono (fun _ h => h) (fun _ _ => rfl) up), ?_, ?_, ?_, ?_⟩
      · intro i hi
        have hne : i ≠ j :: p := fun e => hi (j :: p, some rows) (List.mem_cons_self ..) e.symm
        have := k2 i fun x hx => hi x (List.mem_cons_of_mem _ hx)
        simpa [upd, hne] using this
      · intro x hx
        cases hx with
        | head => exact ⟨rows, rfl, by simpa [upd] using r2⟩
        | tail _ hx =>
          obtain ⟨rows', h3, h4⟩ := k4 x hx
          refine ⟨rows', h3, ?_⟩
          have hne := hnot x hx
          have := h4.mono (w' := w) (I' := I) (fun _ h => h) (fun _ _ => rfl) up
          simpa [upd, hne] using this
      · intro i
        by_cases hi : i = j :: p
        · subst hi
          simp only [upd, if_true]
          exact ⟨hnd1, fun b hb => List.mem_append.2 (.inl hb)⟩
        · simp only [upd, hi, if_false]
          exact ⟨(k5 i).1, fun b hb => List.mem_append.2 (.inr ((k5 i).2 b hb))⟩
      · intro i i' b hb hb'
        by_cases hi : i = j :: p <;> by_cases hi' : i' = j :: p
        · rw [hi, hi']
        · subst hi
          simp only [upd, if_true] at hb
          simp only [upd, hi', if_false] at hb'
          exact (hdisj b hb ((k5 i').2 b hb')).elim
        · subst hi'
          simp only [upd, if_true] at hb'
          simp only [upd, hi, if_false] at hb
          exact (hdisj b hb' ((k5 i).2 b hb)).elim
        · simp only [upd, hi, if_false] at hb
          simp only [upd, hi', if_false] at hb'
          exact k6 i i' b hb hb'
      · intro x hx
        cases hx with
        | head => exact ⟨j, Nat.le_refl _, rfl⟩
        | tail _ hx =>
          obtain ⟨k, hk, e⟩ := k7 x hx
          exact ⟨k, by omega, e⟩
    cases c with
    | own rows len =>
      refine owned (.rs (j :: p) 0 len) rows rfl ?_
      cases h1 with
      | own0 => exact ⟨.nil, fun β2 _ hb => ⟨.rs0 hb rfl, .inl ⟨hb, rfl, rfl⟩⟩⟩
      | @own _ b o sz cap n _ fps vs2 _ g0 g1 g2 g3 g4 g5 g6 =>
        refine ⟨.blk b o sz n, fun β2 hup hb => ⟨?_, .inr (.inr ⟨b, o, sz, n, vs2, fps, hb, rfl, g2, ⟨g0, g1⟩, g3.2, g5, g6.mono (fun _ h => h) (fun _ _ => rfl) hup⟩)⟩⟩
        have := R.rs (w := w) (I := I) (off := 0) (len := len) (cap := cap) hb (by simpa using g3.1) g4.1
        simpa using this
      | @own1 _ a b o sz n fps vs2 _ g0 g1 g2 g3 g5 g6 =>
        exact ⟨.blk b o sz n, fun β2 hup hb => ⟨.rs0 hb rfl, .inr (.inr ⟨b, o, sz, n, vs2, fps, hb, rfl, g2, ⟨g0, g1⟩, g3, g5, g6.mono (fun _ h => h) (fun _ _ => rfl) hup⟩)⟩⟩
    | ownp cells =>
      refine owned (.mp (j :: p) 0 0) [cells] rfl ?_
      cases h1 with
      | @ownp _ b o n fps vs2 _ g2 g3 g5 g6 =>
        refine ⟨.blk b o cells.length n, fun β2 hup hb => ⟨?_, .inr (.inr ⟨b, o, cells.length, n, vs2, fps, hb, rfl, g2, ⟨by simp, by simp⟩, by simpa using g3, g5, by simpa using g6.mono (fun _ h => h) (fun _ _ => rfl) hup⟩)⟩⟩
        have := R.mp (w := w) (I := I) (row := 0) (off := 0) hb
        simpa using this
    | om rows =>
      refine owned (.mr (j :: p)) rows rfl ?_
      cases h1 with
      | @om _ b _ g => exact ⟨.map b, fun β2 hup hb => ⟨.mr hb, .inr (.inl ⟨b, hb, rfl, g⟩)⟩⟩
    | agg l => exact junked rfl rfl
    | tup l => exact junked rfl rfl
    | _ => exact plain rfl rfl (by cases h1 <;> rfl)
end
end Go.Ab
