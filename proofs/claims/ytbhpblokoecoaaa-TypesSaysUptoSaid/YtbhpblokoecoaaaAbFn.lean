/-
  FUNCTIONS: what the abstract machine answers is true.
-/
import Derived.Test.YtbhpblokoecoaaaAbCode
import Derived.Laws.Sem
import Derived.RangeFuncLeaves
namespace Go.Ab
open Go
def res1 (tmps : Array Value) (r : ResultVar) : Sem Value := match r with
  | .tmp t => pure (tmps.getD t undef)
  | .cell a t => do loadVar t (← asAddr (tmps.getD a undef))
section
variable {C : Cx} {E : Env} {w : World} {S : St} {a : Act} {β : Id → Option Loc} {F : Id → List Nat}
variable {f : FuncId} {call : FuncId → List AV → Option (AV × List AV)}
theorem ressC_sound (h : SR C E w S a β F) : ∀ {l : List ResultVar} {x}, ressC C S l = some x →
    ∃ vs fp rest, (l.mapM (res1 a.tmps)).run C.P w = .ok vs w ∧ RL w (Im E w F) noB fp vs x.1 ∧ (fp ++ rest).Perm (x.2.flatMap F)
  | [], x, hx => by
    simp [ressC] at hx; subst hx
    exact ⟨[], [], [], rfl, .nil, by simp⟩
  | r :: l, x, hx => by
    simp only [ressC, Option.bind_eq_some_iff, Option.map_eq_some_iff] at hx
    obtain ⟨y, hy, z, hz, rfl⟩ := hx
    obtain ⟨v, fp1, r1, e1, g1, g2⟩ := resC_sound h hy
    obtain ⟨vs, fp2, r2, e2, g3, g4⟩ := ressC_sound h hz
    refine ⟨v :: vs, fp1 ++ fp2, r1 ++ r2, ?_, .cons g1 g3, ?_⟩
    · rw [List.mapM_cons, Sem.run_bind]
      have : (res1 a.tmps r).run C.P w = .ok v w := by cases r <;> exact e1
      rw [this, Result.andThen_ok, Sem.run_bind, e2, Result.andThen_ok]
      rfl
    · have := perm_mid (f1 := []) (f2 := []) (by simpa using g2) (by simpa using g4)
      simpa [List.flatMap_append] using this
theorem results_run {fn : Func} {tmps : Array Value} {vs : List Value} {P : Program} (h : (fn.results.toList.mapM (res1 tmps)).run P w = .ok vs w) : (results fn tmps).run P w = .ok (match vs with | [v] => v | _ => .tuple ⟨vs⟩) w := by
  have e : results fn tmps = (do let vs ← fn.results.mapM (res1 tmps); pure (if h : vs.size = 1 then vs[0] else .tuple vs) : Sem Value) := by
    unfold results
    congr 1
  rw [e, Array.mapM_eq_mapM_toList, Sem.run_bind]
  have : (List.toArray <$> fn.results.toList.mapM (res1 tmps) : Sem (Array Value)).run P w = .ok ⟨vs⟩ w := by
    rw [map_eq_pure_bind, Sem.run_bind, h, Result.andThen_ok]; rfl
  rw [this, Result.andThen_ok]
  match vs with
  | [] => rfl
  | [v] => rfl
  | v :: u :: vs => simp
theorem finish_sound (h : SR C E w S a β F) {fn : Func} {lend : List Nat} {args : List AV} {r : AV × List AV} (hx : finish C fn lend args S = some r) :
    ∃ v, (results fn a.tmps).run C.P w = .ok v w ∧ ∃ (I' : Nat → Prop) (fr : List Nat), RL w I' noB fr (v :: lend.map (a.tmps.getD · undef)) (r.1 :: r.2) ∧ fr.Nodup ∧ (∀ b ∈ fr, b < w.heap.size ∧ (E.F0 b ∨ E.w0.heap.size ≤ b)) ∧
      (∀ b, I' b → (E.I0 b ∨ E.F0 b ∨ E.w0.heap.size ≤ b) ∧ b < w.heap.size ∧ b ∉ fr) := by
  unfold finish at hx
  split at hx
  · rename_i rs i1 outs i2 hr ho
    split at hx
    · rename_i hnd
      simp only [Option.some.injEq] at hx; subst hx
      obtain ⟨vs, fp, rest, e1, g1, g2⟩ := ressC_sound h hr
      obtain ⟨fp2, rest2, g3, g4⟩ := packL_sound h ho
      have hall : ((fp ++ fp2) ++ (rest ++ rest2)).Perm ((i1 ++ i2).flatMap F) := by
        have := perm_mid (f1 := []) (f2 := []) (by simpa using g2) (by simpa using g4)
        simpa [List.flatMap_append] using this
      have hmem : ∀ b ∈ fp ++ fp2, ∃ id, b ∈ F id := fun b hb => by
        obtain ⟨id, _, hid⟩ := List.mem_flatMap.1 (perm_mem hall hb)
        exact ⟨id, hid⟩
      refine ⟨_, results_run e1, Im E w F, fp ++ fp2, .cons ?_ g3, perm_nodup hall (flatF_nodup h (nodupB_spec hnd)), fun b hb => ?_, fun b hb => ⟨hb.1, hb.2.1, fun hm => ?_⟩⟩
      · have hl := g1.length
        simp only at g1 hl ⊢
        match rs, vs, g1, hl with
        | [], [], g1, _ => exact .tup g1
        | [r], [v], g1, _ =>
          obtain ⟨f1, f2, v', vs', rfl, e, k1, k2⟩ := RL.cons_inv g1
          simp only [List.cons.injEq] at e
          obtain ⟨rfl, rfl⟩ := e
          obtain ⟨rfl, _⟩ := k2.nil_inv
          simpa using k1
        | r :: r' :: rs, v :: v' :: vs, g1, _ => exact .tup g1
        | [], v :: vs, _, hl => simp at hl
        | [r], [], _, hl => simp at hl
        | [r], v :: v' :: vs, _, hl => simp at hl
        | r :: r' :: rs, [], _, hl => simp at hl
        | r :: r' :: rs, [v], _, hl => simp at hl
      · obtain ⟨id, hid⟩ := hmem b hb
        exact h.lt id b hid
      · obtain ⟨id, hid⟩ := hmem b hm
        exact hb.2.2 id hid
    · cases hx
  · cases hx
theorem leaves_marks {fn : Func} {lend : List Nat} {args : List AV} {r : AV × List AV} (hx : finish C fn lend args S = some r) (hm : E.w0.heap.size ≤ E.m) {R : Ending → World → Prop} (h : SR C E w S a β F) {ds : List Deferred} (hds : a.defers = ds)
    (hR : ∀ w' v, Kept E.w0 w' E.F0 → (results fn a.tmps).run C.P w' = .ok v w' → (∃ (I' : Nat → Prop) (fr : List Nat), RL w' I' noB fr (v :: lend.map (a.tmps.getD · undef)) (r.1 :: r.2) ∧ fr.Nodup ∧ (∀ b ∈ fr, b < w'.heap.size ∧ (E.F0 b ∨ E.w0.heap.size ≤ b)) ∧
      (∀ b, I' b → (E.I0 b ∨ E.F0 b ∨ E.w0.heap.size ≤ b) ∧ b < w'.heap.size ∧ b ∉ fr)) → R (.returned v) w') : LeavesInM Fence.wide 0 C.P fn a.tmps R ds .returning w := by
  induction ds generalizing w a with
  | nil =>
    obtain ⟨v, e1, h1⟩ := finish_sound h hx
    exact ⟨v, e1, hR w v h.kept e1 h1⟩
  | cons d ds ih =>
    obtain ⟨Ds, e1, e2, e3⟩ := h.df
    rw [hds] at e1
    cases Ds with
    | nil => cases e1
    | cons D Ds =>
      simp only [List.map_cons, List.cons.injEq] at e1
      obtain ⟨rfl, rfl⟩ := e1
      obtain ⟨hD, hI, hle⟩ := e3 D (List.mem_cons_self ..)
      have hnd := List.nodup_cons.1 e2
      refine ⟨by simp, .inl ⟨D, _, rfl, run_takeDeferred hD, ?_⟩⟩
      refine ih (a := ⟨a.tmps, Ds.map mkD⟩) (h.putOdd hD rfl (Nat.le_trans hm hle) rfl ⟨Ds, rfl, hnd.2, fun D' hD' => ?_⟩) rfl hR
      have hne : D' ≠ D := fun e => hnd.1 (e ▸ hD')
      obtain ⟨k1, k2⟩ := e3 D' (List.mem_cons_of_mem _ hD')
      exact ⟨(World.putObj_heap_other hne).trans k1, k2⟩
structure Good (C : Cx) : Prop where
  count : NC C
  wide : C.P.follows .mixedOrders = true
  live : ∀ f i, (C.live f i).Nodup
  cut : CutOk C
  free : ∀ (f : FuncId) (fn : Func) (c : Code), C.ext f = none → C.P.funcs[f]? = some fn → fn.body = some c → okC C f c = true
  ext : ∀ f g args r, C.ext f = some g → g args = some r → Sound C f args r
  iter : ∀ k it, C.iter k = some it → IterSound C k it := by intro k it h; cases h
theorem ok_body (hG : Good C) (hcall : ∀ k as r, call k as = some r → Sound C k as r) {lp : LpT} (hlp : LpOk lp) {args : List AV} {r : AV × List AV} (h : evBody C call lp f args = some r) : Sound C f args r := by
  unfold evBody at h
  split at h
  · rename_i g hg; exact hG.ext f g args r hg h
  · rename_i hext
    split at h
    · rename_i fn hf
      split at h
      · rename_i c hb
        split at h
        · rename_i hlen
          obtain ⟨⟨x, S'⟩, h1, h2⟩ := Option.bind_eq_some_iff.1 h
          intro w I0 fp vs hargs hnd hI hfp hglob
          refine .inl ⟨fn, c, hf, hb, ?_⟩
          refine (callsIn_wide (n := 0)).1 (callsIn_of_wp_marks hf hb trivial ?_)
          have hvl := hargs.length
          have hget : (List.range args.length).map ((⟨vs⟩ ++ Array.replicate (fn.ntmps - (⟨vs⟩ : Array Value).size) undef : Array Value).getD · undef) = vs := by
            apply List.ext_getElem?
            intro k
            rw [List.getElem?_map]
            rcases Nat.lt_or_ge k args.length with hk | hk
            · rw [List.getElem?_range hk]
              simp only [Option.map_some]
              rw [Array.getD_eq_getD_getElem?, Array.getElem?_append_left (by simpa [hvl] using hk)]
              have : k < vs.length := by omega
              simp [this]
            · rw [List.getElem?_eq_none (by simpa using hk), List.getElem?_eq_none (by omega)]
              rfl
          let E : Env := ⟨w, (· ∈ fp), I0, w.heap.size, Nat.le_refl _⟩
          have henter : Nx C E (mkSt fn.ntmps (List.range args.length) args) { tmps := ⟨vs⟩ ++ Array.replicate (fn.ntmps - (⟨vs⟩ : Array Value).size) undef, defers := [] } w := by
            refine SR.enter (I := I0) (f := fp) ?_ Dfs.nil ?_ List.nodup_range hnd (fun b hb => ⟨.inl hb, hI b hb⟩) (fun b hb => ⟨hfp b hb, .inl hb⟩) (Kept.refl w _) hglob
            · simp [hvl]; omega
            · rw [hget]; exact hargs
          have hfin : ∀ a' w', finish C fn (C.lend f) args S' = some r → Nx C E S' a' w' → KL (C.lend f) (fun j => vs.getD j undef) a' → LeavesInM Fence.wide 0 C.P fn a'.tmps (fun e w' => ∃ v, e = .returned v ∧ Res w fp I0 (lentV (C.lend f) vs) r v w') a'.defers .returning w' := by
            rintro a' w' hx ⟨β, F, hS⟩ hk
            refine leaves_marks (lend := C.lend f) (args := args) (r := r) hx (Nat.le_refl _) hS rfl fun w2 v hk2 e1 ⟨I', fr, g1, g2, g3, g4⟩ => ?_
            have e2 : (C.lend f).map (a'.tmps.getD · undef) = lentV (C.lend f) vs := List.map_congr_left fun j hj => hk j hj
            rw [e2] at g1
            exact ⟨v, rfl, hk2, I', fr, g1, g2, g3, g4⟩
          refine ok_code hG.count hG.wide hG.live hG.cut hcall hG.iter hlp c none E (C.lend f) (fun j => vs.getD j undef) _ x S' _ _ _ (.inl rfl) (by have := hG.free f fn c hext hf hb; unfold okC at this; rw [Bool.and_eq_true] at this; exact this.1) (by have := hG.free f fn c hext hf hb; unfold okC at this; rw [Bool.and_eq_true] at this; exact this.2) h1 henter (fun j _ => ?_) fun a' w' hx hk => ?_
          · show (⟨vs⟩ ++ Array.replicate (fn.ntmps - (⟨vs⟩ : Array Value).size) undef : Array Value).getD j undef = vs.getD j undef
            rw [Array.getD_eq_getD_getElem?, List.getD_eq_getElem?_getD]
            rcases Nat.lt_or_ge j vs.length with hj | hj
            · rw [Array.getElem?_append_left (by simpa using hj)]; simp
            · rw [Array.getElem?_append_right (by simpa using hj), List.getElem?_eq_none hj, Array.getElem?_replicate]
              split <;> rfl
          cases x with
          | normal => exact hfin a' w' h2 hx hk
          | ret => exact hfin a' w' h2 hx hk
          | _ => simp at h2
        · cases h
      · cases h
    · cases h
theorem evLoop_up {α : Type} {g : α → Option (Exit × St)} {rn : St → Option α} : ∀ {m : Nat} {tvs : α} {x : Exit × St} (k : Nat), evLoop g rn m tvs = some x → evLoop g rn (m + k) tvs = some x
  | 0, _, _, _, h => by simp [evLoop] at h
  | m + 1, tvs, x, k, h => by
    rw [Nat.add_right_comm]
    simp only [evLoop, Option.bind_eq_some_iff] at h ⊢
    obtain ⟨y, h1, h2⟩ := h
    refine ⟨y, h1, ?_⟩
    obtain ⟨e, S1⟩ := y
    cases e with
    | normal =>
      simp only [Option.bind_eq_some_iff] at h2 ⊢
      obtain ⟨t, h3, h4⟩ := h2
      exact ⟨t, h3, evLoop_up k h4⟩
    | _ => exact h2
theorem evLoop_det {α : Type} {g : α → Option (Exit × St)} {rn : St → Option α} {m m' : Nat} {tvs : α} {x y : Exit × St} (h1 : evLoop g rn m tvs = some x) (h2 : evLoop g rn m' tvs = some y) : x = y := by
  have e1 := evLoop_up m' h1
  have e2 := evLoop_up m h2
  rw [Nat.add_comm] at e2
  rw [e1] at e2
  exact Option.some.inj e2
open Classical in
noncomputable def lpD (α : Type) (g : α → Option (Exit × St)) (rn : St → Option α) (tvs : α) : Option (Exit × St) :=
  if h : ∃ x m, evLoop g rn m tvs = some x then some (Classical.choose h) else none
theorem lpD_of {α : Type} {g : α → Option (Exit × St)} {rn : St → Option α} {m : Nat} {tvs : α} {x : Exit × St} (h : evLoop g rn m tvs = some x) : lpD α g rn tvs = some x := by
  unfold lpD
  have hx : ∃ x m, evLoop g rn m tvs = some x := ⟨x, m, h⟩
  rw [dif_pos hx]
  obtain ⟨m', h'⟩ := Classical.choose_spec hx
  rw [evLoop_det h' h]
theorem lpD_ok : LpOk lpD := fun _ g rn tvs x h => by
  unfold lpD at h
  split at h
  · rename_i hx
    simp only [Option.some.injEq] at h; subst h
    exact Classical.choose_spec hx
  · cases h
theorem lpD_unfolds {α : Type} (g : α → Option (Exit × St)) (rn : St → Option α) (tvs : α) : lpD α g rn tvs = (g tvs).bind fun x => match x.1 with | .normal => (rn x.2).bind (lpD α g rn) | _ => some x := by
  apply Option.ext
  intro x
  constructor
  · intro h
    obtain ⟨m, h⟩ := lpD_ok _ _ _ _ _ h
    cases m with
    | zero => simp [evLoop] at h
    | succ m =>
      simp only [evLoop, Option.bind_eq_some_iff] at h ⊢
      obtain ⟨y, h1, h2⟩ := h
      refine ⟨y, h1, ?_⟩
      obtain ⟨e, S1⟩ := y
      cases e with
      | normal =>
        simp only [Option.bind_eq_some_iff] at h2 ⊢
        obtain ⟨t, h3, h4⟩ := h2
        exact ⟨t, h3, lpD_of h4⟩
      | _ => exact h2
  · intro h
    simp only [Option.bind_eq_some_iff] at h
    obtain ⟨y, h1, h2⟩ := h
    obtain ⟨e, S1⟩ := y
    cases e with
    | normal =>
      simp only [Option.bind_eq_some_iff] at h2
      obtain ⟨t, h3, h4⟩ := h2
      obtain ⟨m, h4⟩ := lpD_ok _ _ _ _ _ h4
      refine lpD_of (m := m + 1) ?_
      simp only [evLoop, h1, Option.bind_some, h3, h4]
    | _ =>
      refine lpD_of (m := 1) ?_
      simp only [evLoop, h1, Option.bind_some]
      exact h2
noncomputable def den (C : Cx) : Nat → FuncId → List AV → Option (AV × List AV)
  | 0, _, _ => none
  | n + 1, f, args => evBody C (den C n) lpD f args
theorem ok_den (hG : Good C) : ∀ (n : Nat) (f : FuncId) (args : List AV) (r : AV × List AV), den C n f args = some r → Sound C f args r
  | 0, _, _, _, h => by simp [den] at h
  | n + 1, f, args, r, h => ok_body hG (ok_den hG n) lpD_ok h
end
end Go.Ab
