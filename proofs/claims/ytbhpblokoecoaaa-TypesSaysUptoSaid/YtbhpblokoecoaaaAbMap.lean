/-
  OPERATIONS ON MAPS: made, looked up, written.
-/
import Derived.Test.YtbhpblokoecoaaaAbTake
import Derived.MapKept
namespace Go.Ab
open Go
def ent (e : MapEntry) : List AV := [.val e.key, .val e.val]
section
variable {P : Program} {w : World} {kt et t : TypeId} {kind : TypeDesc} {kv vv z : Value}
theorem run_checkKey {b : Bool} (hk : P.underlying kt = some kind) (hs : simpleKey kind = true) : (Instr.checkKey b 10000 kt kv).run P w = .ok () w := by
  show (Instr.checkKey b (9999 + 1) kt kv).run P w = _
  unfold Instr.checkKey
  rw [Sem.run_bind, run_und (C := ⟨P, fun _ => none, fun _ => none, fun _ => [], fun _ => [], fun _ _ => false, fun _ => [], fun _ _ => [], fun _ _ => [], fun _ _ => none, fun _ _ => none, fun _ _ => none, fun _ => none, fun _ _ => [], fun _ => none⟩) hk, Result.andThen_ok]
  cases kind <;> first | (cases hs; done) | rfl
theorem findM_now : ∀ {es : List MapEntry} {r : Option Value} (i : Nat), findM kind kv (es.map ent) = some r → ∃ j, Instr.findNow kind kv es i = some (r.map fun v => (j, v))
  | [], r, i, h => by
    simp only [List.map_nil, findM, Option.some.injEq] at h; subst h
    exact ⟨0, rfl⟩
  | e :: es, r, i, h => by
    simp only [List.map_cons, ent, findM] at h
    unfold Instr.findNow
    split at h
    · rename_i hs
      simp only [Option.some.injEq] at h; subst h
      exact ⟨i, by rw [hs]; rfl⟩
    · rename_i hs
      obtain ⟨j, hj⟩ := findM_now (i + 1) h
      exact ⟨j, by rw [hs]; exact hj⟩
    · cases h
theorem ba_eq : ∀ {a b : ByteArray}, (a == b) = true → a = b
  | ⟨x⟩, ⟨y⟩, h => by
    have h' : (x == y) = true := h
    rw [eq_of_beq h']
theorem ba_rfl (a : ByteArray) : (a == a) = true := by
  cases a with
  | mk x =>
    show (x == x) = true
    simp
theorem run_gm {b : Nat} {es : Array MapEntry} {clock : Nat} (hb : w.heap[b]? = some (.map es clock)) : (getObj b).run P w = .ok (.map es clock) w := by simp [getObj, Sem.run, hb]
theorem run_sm {b : Nat} {es : Array MapEntry} {clock : Nat} (o : Obj) (hb : w.heap[b]? = some (.map es clock)) : (setObj b o).run P w = .ok () (setB w b o) := by simp [setObj, Sem.run, hb, setB]
theorem same_stays {k e : Value} (h : Instr.sameNow kind k e = some true) : Instr.sameBits 10000 e k = true := by
  unfold Instr.sameNow at h
  split at h
  · split at h
    · rename_i a k' b hk
      simp only [Option.some.injEq] at h
      show (_ && _) = true
      have := eq_of_beq h
      subst hk this
      simp
    · cases h
  · simp only [Option.some.injEq] at h
    have := ba_eq h
    subst this
    exact ba_rfl _
  · simp only [Option.some.injEq] at h
    have := eq_of_beq h
    subst this
    show (_ == _) = true
    simp
  · cases h
theorem putM_now : ∀ {es : List MapEntry} {rows' : Rows} (i : Nat), putM kind kv vv (es.map ent) = some rows' →
    (∃ j v, ∃ hj : j < es.length, Instr.findNow kind kv es i = some (some (i + j, v)) ∧ Instr.sameNow kind kv es[j].key = some true ∧ rows' = (es.modify j fun e => { e with key := kv, val := vv }).map ent) ∨
    (Instr.findNow kind kv es i = some none ∧ rows' = es.map ent ++ [[.val kv, .val vv]])
  | [], rows', i, h => by
    simp only [List.map_nil, putM, Option.some.injEq] at h; subst h
    exact .inr ⟨rfl, rfl⟩
  | e :: es, rows', i, h => by
    simp only [List.map_cons, ent, putM] at h
    unfold Instr.findNow
    split at h
    · rename_i hs
      simp only [Option.some.injEq] at h; subst h
      exact .inl ⟨0, e.val, by simp, by rw [hs]; rfl, hs, by simp [ent]⟩
    · rename_i hs
      obtain ⟨y, hy, rfl⟩ := Option.map_eq_some_iff.1 h
      rw [hs]
      rcases putM_now (i + 1) hy with ⟨j, v, hj, h1, h2, rfl⟩ | ⟨h1, rfl⟩
      · refine .inl ⟨j + 1, v, by simpa using hj, ?_, by simpa using h2, by simp [ent]⟩
        rw [show i + (j + 1) = i + 1 + j by omega]; exact h1
      · exact .inr ⟨h1, by simp [ent]⟩
    · cases h
end
section
variable {C : Cx} {E : Env} {w : World} {S : St} {a : Act} {β : Id → Option Loc} {F : Id → List Nat}
variable {next : Act → World → Prop} {Q : Exit → Act → World → Prop}
theorem scZero_inv {t : TypeId} {z : Value} (h : scZero C t = some z) : (∀ w : World, (zeroValue t).run C.P w = .ok z w) ∧ isSc z = true := by
  unfold scZero at h
  split at h
  · rename_i v hv
    split at h
    · rename_i hs
      simp only [Option.some.injEq] at h; subst h
      refine ⟨fun w => ?_, hs⟩
      simp only [Option.bind_eq_some_iff] at hv
      obtain ⟨i, hi, hz⟩ := hv
      simp [zeroValue, typeInfo, hi, hz]
    · cases h
  · cases h
theorem mapT_inv {t : TypeId} {kind : TypeDesc} {z : Value} (h : mapT C t = some (kind, z)) : ∃ kt et, C.P.underlying t = some (.map kt et) ∧ C.P.underlying kt = some kind ∧ simpleKey kind = true ∧ (∀ w : World, (zeroValue et).run C.P w = .ok z w) ∧ isSc z = true := by
  unfold mapT at h
  split at h
  · rename_i kt et hu
    split at h
    · rename_i kind' z' hk hz
      split at h
      · rename_i hs
        simp only [Option.some.injEq, Prod.mk.injEq] at h
        obtain ⟨rfl, rfl⟩ := h
        obtain ⟨h1, h2⟩ := scZero_inv hz
        exact ⟨kt, et, hu, hk, hs, h1, h2⟩
      · cases h
    · cases h
  · cases h
theorem frozen_map {w : World} {b : Nat} {es es' : Array MapEntry} {c c' : Nat} (h : w.heap[b]? = some (.map es c)) (x : Addr) : (setB w b (.map es' c')).frozen? x = w.frozen? x := by
  have hb := lt_of_heap h
  unfold World.frozen?
  rw [setB_heap hb]
  by_cases hx : x.block = b
  · rw [if_pos hx, hx, h]
  · rw [if_neg hx]
theorem ok_makeMap (h : SR C E w S a β F) {o : Oper} {t : TypeId} {r : Option Operand} (ho : o.op = .makeMap t r) {e : Eff} (he : evMakeMap C S o t r = some e) (hd : inB S e)
    (hn : ∀ a' w', Nx C E (S.app e) a' w' → next a' w') : o.wp C.P a w next Q := by
  unfold evMakeMap at he
  split at he
  · rename_i d hm hdst
    split at he
    · rename_i hc
      simp only [Bool.and_eq_true, Option.isNone_iff_eq_none] at hc
      obtain ⟨rfl, hf⟩ := hc
      simp only [Option.some.injEq] at he; subst he
      have hfr : S.h [d] = none := hf
      have hd' : d < S.n := by simpa [inB, put, hdst] using hd
      refine wp_val (v := .map (some w.heap.size)) (w' := w.alloc (.map #[] 0)) ?_ (hn _ _ ?_)
      · simp only [execOp, ho]
        refine run_v ?_
        rfl
      · have e1 : S.app (put o (.mr [d]) [] [([d], some [])]) = ⟨S.n, upd S.t d (.mr [d]), upd S.h [d] (some (some []))⟩ := by simp [St.app, put, hdst, updS, updH]
        rw [e1]
        have hold : ∀ b, b < w.heap.size → (w.alloc (.map #[] 0)).heap[b]? = w.heap[b]? := fun b hb => heap_alloc_old _ _ _ hb
        have hnew : (w.alloc (.map #[] 0)).heap[w.heap.size]? = some (.map #[] 0) := heap_alloc_new _ _
        refine h.moved hdst (kill := [d]) (l := .map w.heap.size) (rows' := []) (G := [w.heap.size]) hfr (.inl rfl) (by simp [upd]) (fun i hi _ => by simp [upd, hi]) (fun hk => absurd rfl hk) (by simp) rfl rfl (fun x => ?_) (fun b hb _ => hold b hb) (blk_old hold) (by simp) (fun b hb => ?_) (fun I' β' _ _ hb => ?_) (fun I' β' hb => .mr hb) hd'
        · by_cases hx : x.block = w.heap.size
          · have e2 : w.heap[x.block]? = none := by rw [hx]; simp
            simp only [World.frozen?, hx, hnew]
            simp
          · rw [World.frozen?_alloc_old _ _ _ hx]
        · obtain rfl := List.mem_singleton.1 hb
          exact .inr ⟨Nat.le_refl _, by simp⟩
        · exact .inr (.inl ⟨_, hb, rfl, #[], 0, hnew, rfl, fun e he => by simp at he⟩)
    · cases he
  · cases he
theorem mapRows_sound (h : SR C E w S a β F) {x : AV} {v : Value} {rows : Rows} {ids : List Id} (hx : R w (Im E w F) β [] v x) (hr : mapRows S.h x = some (rows, ids)) :
    (v = .map none ∧ rows = []) ∨ ∃ b, v = .map (some b) ∧ MB w b rows := by
  unfold mapRows at hr
  split at hr
  · rename_i id
    split at hr
    · rename_i rows' hid
      simp only [Option.some.injEq, Prod.mk.injEq] at hr
      obtain ⟨rfl, rfl⟩ := hr
      obtain ⟨_, b, hb, rfl⟩ := hx.mr_inv
      rcases h.obj id _ hid with ⟨h1, _⟩ | ⟨b2, h1, _, hm⟩ | ⟨_, _, _, _, _, _, h1, _⟩
      · rw [h1] at hb; cases hb
      · rw [h1] at hb; cases hb; exact .inr ⟨_, rfl, hm⟩
      · rw [h1] at hb; cases hb
    · cases hr
  · simp only [Option.some.injEq, Prod.mk.injEq] at hr
    obtain ⟨rfl, rfl⟩ := hr
    obtain ⟨_, b, rfl, _, hm⟩ := hx.im_inv
    exact .inr ⟨b, rfl, hm⟩
  · simp only [Option.some.injEq, Prod.mk.injEq] at hr
    obtain ⟨rfl, rfl⟩ := hr
    obtain ⟨_, rfl⟩ := hx.val_inv
    exact .inl ⟨rfl, rfl⟩
  · cases hr
theorem findM_sc {kind : TypeDesc} {kv v : Value} : ∀ {es : List MapEntry}, (∀ e ∈ es, isSc e.key = true ∧ isSc e.val = true) → findM kind kv (es.map ent) = some (some v) → isSc v = true
  | [], _, h => by simp [findM] at h
  | e :: es, hs, h => by
    simp only [List.map_cons, ent, findM] at h
    split at h
    · simp only [Option.some.injEq] at h; subst h
      exact (hs e (List.mem_cons_self ..)).2
    · exact findM_sc (fun e he => hs e (List.mem_cons_of_mem _ he)) h
    · cases h
theorem ok_lookup (h : SR C E w S a β F) {o : Oper} {t : TypeId} {x k : Operand} {ok : Bool} (ho : o.op = .lookup t x k ok) {e : Eff}
    (he : evLookup C S o t (un true (S.get C x)) (un true (S.get C k)) ok = some e) (hd : inB S e) (hn : ∀ a' w', Nx C E (S.app e) a' w' → next a' w') : o.wp C.P a w next Q := by
  have hx := h.getU x
  have hk := h.getU k
  generalize un true (S.get C x) = xv at *
  generalize un true (S.get C k) = kx at *
  have hex : execOp a.eval o = (do pure (Next.value (← Instr.lookup t (a.eval x) (a.eval k) ok))) := by simp [execOp, ho]
  unfold evLookup at he
  split at he
  · rename_i kind z rows ids kv hm hr
    obtain ⟨r, hf, rfl⟩ := Option.map_eq_some_iff.1 he
    obtain ⟨kt, et, hu, hkt, hs, hz, hzs⟩ := mapT_inv hm
    obtain ⟨_, hkv⟩ := hk.val_inv
    have hK : ∀ es : Array MapEntry, findM kind kv (es.toList.map ent) = some r → (do
        Instr.checkKey es.isEmpty 10000 kt (a.eval k)
        let y ← Instr.findKey kt (a.eval k) es.toList
        match y with
        | some (_, v) => do
          let x ← pure (v, true)
          pure (if ok = true then Value.tuple #[x.1, Value.bool x.2] else x.1)
        | none => do
          let z ← zeroValue et
          let x ← pure (z, false)
          pure (if ok = true then Value.tuple #[x.1, Value.bool x.2] else x.1) : Sem Value).run C.P w = .ok (if ok then .tuple #[r.getD z, .bool r.isSome] else r.getD z) w := by
      intro es hf
      obtain ⟨j, hj⟩ := findM_now 0 hf
      rw [Sem.run_bind, run_checkKey hkt hs, Result.andThen_ok]
      have hfk : (Instr.findKey kt (a.eval k) es.toList).run C.P w = .ok (r.map fun v => (j, v)) w := by
        unfold Instr.findKey
        rw [Sem.run_bind, run_und hkt, Result.andThen_ok, hkv, hj]
        rfl
      rw [Sem.run_bind, hfk, Result.andThen_ok]
      cases r with
      | some v => rfl
      | none =>
        simp only [Option.map_none, Option.getD_none, Option.isSome_none]
        rw [Sem.run_bind, hz w, Result.andThen_ok]
        rfl
    have hrun : (Instr.lookup t (a.eval x) (a.eval k) ok).run C.P w = .ok (if ok then .tuple #[r.getD z, .bool r.isSome] else r.getD z) w ∧ isSc (r.getD z) = true := by
      unfold Instr.lookup
      rw [Sem.run_bind, run_und hu, Result.andThen_ok]
      rcases mapRows_sound h hx hr with ⟨hv, rfl⟩ | ⟨b, hv, es, clock, hb, rfl, hsc⟩
      · refine ⟨?_, ?_⟩
        · rw [hv]
          exact hK #[] hf
        · simp only [findM, Option.some.injEq] at hf
          subst hf; exact hzs
      · refine ⟨?_, ?_⟩
        · rw [hv]
          simp only
          rw [Sem.run_bind, run_gm hb, Result.andThen_ok]
          exact hK es hf
        · cases r with
          | none => exact hzs
          | some v => exact findM_sc hsc hf
    obtain ⟨hrun, hsr⟩ := hrun
    refine ok_val h hd hex hrun ?_ hn
    cases ok with
    | false => exact .val hsr
    | true => exact .tup (.cons (f1 := []) (f2 := []) (.val hsr) (.cons (f1 := []) (f2 := []) (.val rfl) .nil))
  · cases he
theorem ok_mapUpdate (h : SR C E w S a β F) {o : Oper} {t : TypeId} {x k v : Operand} (ho : o.op = .mapUpdate t x k v ∨ o.op = .insert t x k v) {e : Eff}
    (he : evMapUpdate C S o t (un true (S.get C x)) (un true (S.get C k)) (un true (S.get C v)) = some e) (hd : inB S e) (hn : ∀ a' w', Nx C E (S.app e) a' w' → next a' w') : o.wp C.P a w next Q := by
  have hx := h.getU x
  have hk := h.getU k
  have hv := h.getU v
  generalize un true (S.get C x) = xv at *
  generalize un true (S.get C k) = kx at *
  generalize un true (S.get C v) = vx at *
  have hex : execOp a.eval o = (do Instr.mapUpdate t (a.eval x) (a.eval k) (a.eval v); pure Next.skip) := by rcases ho with ho | ho <;> simp [execOp, ho]
  unfold evMapUpdate at he
  split at he
  · rename_i kind z id kv vv hm
    split at he
    · rename_i rows hid
      split at he
      · rename_i hc
        simp only [Bool.and_eq_true, Option.isNone_iff_eq_none] at hc
        obtain ⟨⟨hk1, hv1⟩, hdst⟩ := hc
        obtain ⟨rows', hp, rfl⟩ := Option.map_eq_some_iff.1 he
        obtain ⟨kt, et, hu, hkt, hs, _, _⟩ := mapT_inv hm
        obtain ⟨_, hkv⟩ := hk.val_inv
        obtain ⟨_, hvv⟩ := hv.val_inv
        obtain ⟨_, b, hβ, hxv⟩ := hx.mr_inv
        have hor := h.obj id rows hid
        obtain ⟨hF, es, clock, hb, rfl, hsc⟩ : F id = [b] ∧ MB w b rows := by
          rcases hor with ⟨h1, _⟩ | ⟨b2, h1, h2, hm⟩ | ⟨_, _, _, _, _, _, h1, _⟩
          · rw [h1] at hβ; cases hβ
          · rw [h1] at hβ; cases hβ; exact ⟨h2, hm⟩
          · rw [h1] at hβ; cases hβ
        have hbl := lt_of_heap hb
        have key : ∃ es' : Array MapEntry, ∃ c' : Nat, (Instr.mapUpdate t (a.eval x) (a.eval k) (a.eval v)).run C.P w = .ok () (setB w b (.map es' c')) ∧ rows' = es'.toList.map ent ∧ ∀ e ∈ es'.toList, isSc e.key = true ∧ isSc e.val = true := by
          have pre : ∀ {r : Option (Nat × Value)}, Instr.findNow kind kv es.toList 0 = some r → (Instr.mapUpdate t (a.eval x) (a.eval k) (a.eval v)).run C.P w = (match r with
              | some (i, _) => (do
                let key ← Instr.keyThatStays (((es[i]?).map MapEntry.key).getD kv) kv
                setObj b (.map (es.modify i fun e => { e with key, val := vv }) clock) : Sem Unit)
              | none => setObj b (.map (es.push { key := kv, val := vv, born := clock }) (clock + 1))).run C.P w := by
            intro r hr
            unfold Instr.mapUpdate
            rw [Sem.run_bind, run_und hu, Result.andThen_ok]
            simp only [hxv, hkv, hvv]
            rw [Sem.run_bind, run_gm hb, Result.andThen_ok]
            simp only
            rw [Sem.run_bind, run_checkKey hkt hs, Result.andThen_ok, Sem.run_bind]
            have hfk : (Instr.findKey kt kv es.toList).run C.P w = .ok r w := by
              unfold Instr.findKey
              rw [Sem.run_bind, run_und hkt, Result.andThen_ok, hr]
              rfl
            rw [hfk, Result.andThen_ok]
            cases r with
            | none => rfl
            | some y => rfl
          rcases putM_now (kind := kind) (kv := kv) (vv := vv) 0 hp with ⟨j, v0, hj, h1, h2, rfl⟩ | ⟨h1, rfl⟩
          · have hj' : j < es.size := by simpa using hj
            refine ⟨es.modify j fun e => { e with key := kv, val := vv }, clock, ?_, by simp [Array.toList_modify], fun e he => ?_⟩
            · rw [pre h1]
              simp only [Nat.zero_add]
              have e1 : ((es[j]?).map MapEntry.key).getD kv = es.toList[j].key := by simp [hj']
              rw [e1, Sem.run_bind]
              have e2 : (Instr.keyThatStays es.toList[j].key kv).run C.P w = .ok kv w := by
                unfold Instr.keyThatStays
                rw [if_pos (same_stays h2)]; rfl
              rw [e2, Result.andThen_ok, run_sm _ hb]
            · rw [Array.toList_modify] at he
              obtain ⟨i, hi, rfl⟩ := List.getElem_of_mem he
              rw [List.getElem_modify]
              split
              · exact ⟨hk1, hv1⟩
              · exact hsc _ (List.getElem_mem _)
          · refine ⟨es.push { key := kv, val := vv, born := clock }, clock + 1, ?_, by simp [ent], fun e he => ?_⟩
            · rw [pre h1]
              simp only
              rw [run_sm _ hb]
            · simp only [Array.toList_push, List.mem_append, List.mem_singleton] at he
              rcases he with he | rfl
              · exact hsc e he
              · exact ⟨hk1, hv1⟩
        obtain ⟨es', c', hrun, rfl, hsc'⟩ := key
        have hheap : ∀ k, (setB w b (.map es' c')).heap[k]? = if k = b then some (.map es' c') else w.heap[k]? := setB_heap hbl
        refine wp_skp (w' := setB w b (.map es' c')) (by rw [hex]; exact run_u hrun) (hn _ _ ⟨β, F, ?_⟩)
        have e1 : S.app (put o .junk [id] [(id, some (es'.toList.map ent))]) = ⟨S.n, S.t, upd S.h id (some (some (es'.toList.map ent)))⟩ := by simp [St.app, put, hdst, updS, updH]
        have e2 : a.put o.dst undef = a := by rw [hdst]; rfl
        rw [e1, e2]
        refine h.step (· = id) h.n (by simp [setB]) rfl rfl (fun x => frozen_map hb x) (fun bb _ hbb => ?_) (fun _ _ h => h) (fun i bb hbb => .inl ⟨i, hbb⟩) (fun i hi => ⟨rfl, by simp [upd, hi]⟩) (fun hI i hi rows2 hr2 => ?_) (fun i hi hno => ?_) (fun i _ => h.nd i) (fun i j bb _ h1 h2 => h.dj i j bb h1 h2) (fun i hi => ?_) (fun _ t => .inl ⟨rfl, rfl⟩) (hdf := rfl) (hbs := ?_)
        · rw [hheap, if_neg]
          intro e; subst e
          exact hbb id rfl (by rw [hF]; exact List.mem_singleton.2 rfl)
        · subst hi
          simp only [upd, if_true, Option.some.injEq] at hr2
          subst hr2
          exact .inr (.inl ⟨b, hβ, hF, es', c', by rw [hheap, if_pos rfl], rfl, hsc'⟩)
        · subst hi
          exact absurd (by simp [upd]) (hno (es'.toList.map ent))
        · refine h.dom i ?_
          by_cases hii : i = id
          · subst hii; simp [upd] at hi
          · simpa [upd, hii] using hi
        · intro bb n hB
          obtain ⟨c2, e2, hc2, hn2⟩ := hB
          refine ⟨c2, e2, ?_, hn2⟩
          rw [hheap, if_neg]
          · exact hc2
          · intro e; subst e; rw [hb] at hc2; cases hc2
      · cases he
    · cases he
  · cases he
end
end Go.Ab
