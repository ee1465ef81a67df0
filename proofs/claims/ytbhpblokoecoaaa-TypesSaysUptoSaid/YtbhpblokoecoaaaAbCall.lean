/-
  CALLS.
-/
import Derived.Test.YtbhpblokoecoaaaAbEnter
namespace Go.Ab
open Go
def Does (P : Program) (f : FuncId) (args : Array Value) (w : World) (Post : Value → World → Prop) : Prop :=
  (∃ fn c, P.funcs[f]? = some fn ∧ fn.body = some c ∧ Calls P f args w fun e w' => ∃ v, e = .returned v ∧ Post v w') ∨
  (∃ v w', (callFunc f args).run P w = .ok (.value v) w' ∧ Post v w')
def lentV (lend : List Nat) (vs : List Value) : List Value := lend.map fun j => vs.getD j undef
structure Res (w : World) (fp : List Nat) (I0 : Nat → Prop) (ls : List Value) (r : AV × List AV) (v : Value) (w' : World) : Prop where
  kept : Kept w w' (· ∈ fp)
  ex : ∃ (I' : Nat → Prop) (fr : List Nat), RL w' I' noB fr (v :: ls) (r.1 :: r.2) ∧ fr.Nodup ∧ (∀ b ∈ fr, b < w'.heap.size ∧ (b ∈ fp ∨ w.heap.size ≤ b)) ∧ (∀ b, I' b → (I0 b ∨ b ∈ fp ∨ w.heap.size ≤ b) ∧ b < w'.heap.size ∧ b ∉ fr)
def Sound (C : Cx) (f : FuncId) (args : List AV) (r : AV × List AV) : Prop :=
  ∀ (w : World) (I0 : Nat → Prop) (fp : List Nat) (vs : List Value), RL w I0 noB fp vs args → fp.Nodup → (∀ b, I0 b → b < w.heap.size ∧ b ∉ fp) → (∀ b ∈ fp, b < w.heap.size) →
    (∀ g cs, C.glob g = some cs → R w I0 noB [] (.pointer (some ⟨g, 0, none⟩)) (.vp cs)) → Does C.P f ⟨vs⟩ w (Res w fp I0 (lentV (C.lend f) vs) r)
def NoCount (P : Program) : Prop := ∀ (f : FuncId) (fn : Func), P.funcs[f]? = some fn → (fn.name == "runtime.NumGoroutine") = false
section
variable {C : Cx} {E : Env} {w : World} {S : St} {a : Act} {β : Id → Option Loc} {F : Id → List Nat}
variable {next : Act → World → Prop} {Q : Exit → Act → World → Prop}
theorem run_callFunc {P : Program} (hN : NoCount P) {f : FuncId} {fn : Func} {c : Code} (hf : P.funcs[f]? = some fn) (hb : fn.body = some c) (args : Array Value) : (callFunc f args).run P w = .ok (.enter f args) w := by
  have : ¬ fn.name = "runtime.NumGoroutine" := by simpa using hN f fn hf
  simp [callFunc, hf, hb, this]
theorem SR.imported (h : SR C E w S a β F) {o : Oper} {d : Nat} (hdst : o.dst = some d) {w' : World} {fr : List Nat} {v : Value} {r : AV} (hk : Kept w w' (fun _ => False))
    (hr : R w' (fun b => Im E w F b ∨ (w.heap.size ≤ b ∧ b < w'.heap.size ∧ b ∉ fr)) noB fr v r) (hnd : fr.Nodup) (hfr : ∀ b ∈ fr, w.heap.size ≤ b ∧ b < w'.heap.size)
    (hfresh : fresh S.h (imp [d] r).2 = true) (rd : List Id) (hd : inB S (put o (imp [d] r).1 rd (imp [d] r).2)) :
    Nx C E (S.app (put o (imp [d] r).1 rd (imp [d] r).2)) (a.put o.dst v) w' := by
  have hfr0 := fresh_all hfresh
  obtain ⟨β', G, a1, a2, a3, a4, a5, a6, a7⟩ := imp_sound (β := β) [d] (hr.mono (fun _ h => h) (fun _ _ => rfl) noB_up) hnd (fun x hx => h.dom _ (hfr0 x hx))
  have hF0 : ∀ x ∈ (imp [d] r).2, F x.1 = [] := fun x hx => h.dead _ (by rw [hfr0 x hx]; simp)
  have hGfr : ∀ i b, b ∈ G i → w.heap.size ≤ b ∧ b < w'.heap.size := fun i b hb => hfr b ((a5 i).2 b hb)
  refine ⟨β', fun i => F i ++ G i, ?_⟩
  have hup : (∀ b, Im E w F b → Im E w' (fun i => F i ++ G i) b) → ∀ b, (Im E w F b ∨ (w.heap.size ≤ b ∧ b < w'.heap.size ∧ b ∉ fr)) → Im E w' (fun i => F i ++ G i) b := fun hI b hb => by
    rcases hb with hb | ⟨h1, h2, h3⟩
    · exact hI b hb
    · refine ⟨.inr (.inr (Nat.le_trans h.kept.size h1)), h2, fun id hm => ?_⟩
      rcases List.mem_append.1 hm with hm | hm
      · have := (h.lt id b hm).1; omega
      · exact h3 ((a5 id).2 b hm)
  have hh : (S.app (put o (imp [d] r).1 rd (imp [d] r).2)).h = updH S.h (imp [d] r).2 := rfl
  refine h.stepW (fun id => ∃ x ∈ (imp [d] r).2, x.1 = id) (by rw [put_size]; exact h.n) hk.size hk.os hk.out hk.frz (fun b hb _ => hk.blk b hb id) a1 ?_ ?_ ?_ ?_ ?_ ?_ ?_ ?_ (hbs := hk.szs)
  · intro id b hb
    rcases List.mem_append.1 hb with hb | hb
    · exact .inl ⟨id, hb⟩
    · exact .inr (hGfr id b hb)
  · intro id hid
    have hno : ∀ x ∈ (imp [d] r).2, x.1 ≠ id := fun x hx e => hid ⟨x, hx, e⟩
    refine ⟨by simp [(a2 id hno).2], ?_⟩
    rw [hh]
    rcases updH_cases S.h (imp [d] r).2 id with ⟨x, hx, e, _⟩ | ⟨_, e⟩
    · exact absurd e (hno x hx)
    · exact e
  · rintro hI id ⟨x, hx, rfl⟩ rows hrows
    rw [hh] at hrows
    rcases updH_cases S.h (imp [d] r).2 x.1 with ⟨y, hy, e, e'⟩ | ⟨hno, _⟩
    · rw [e'] at hrows
      obtain ⟨rows', e2, h2⟩ := a4 y hy
      rw [e2] at hrows
      simp at hrows; subst hrows
      rw [← e]
      simp only [hF0 y hy, List.nil_append]
      exact h2.mono (hup hI) (fun _ _ => rfl) (fun _ _ h => h)
    · exact absurd rfl (hno x hx)
  · rintro id ⟨x, hx, rfl⟩ hno
    rw [hh] at hno
    rcases updH_cases S.h (imp [d] r).2 x.1 with ⟨y, hy, e, e'⟩ | ⟨hn, _⟩
    · obtain ⟨rows', e2, h2⟩ := a4 y hy
      exact absurd (by rw [e', e2]) (hno rows')
    · exact absurd rfl (hn x hx)
  · rintro id ⟨x, hx, rfl⟩
    simp only [hF0 x hx, List.nil_append]
    exact (a5 _).1
  · rintro i j b ⟨x, hx, rfl⟩ hb hb'
    simp only [hF0 x hx, List.nil_append] at hb
    rcases List.mem_append.1 hb' with hb' | hb'
    · have := (h.lt j b hb').1
      have := (hGfr _ b hb).1
      omega
    · exact a6 _ _ b hb hb'
  · intro id hid
    rw [hh] at hid
    rcases updH_cases S.h (imp [d] r).2 id with ⟨x, hx, e, e'⟩ | ⟨hno, e⟩
    · rw [e'] at hid; cases hid
    · rw [(a2 id hno).1]; exact h.dom id (by rw [← e]; exact hid)
  · intro hI t
    have hd' : d < a.tmps.size := by rw [h.n]; simpa [inB, put, hdst] using hd
    rw [hdst, put_get a d t v hd']
    by_cases ht : t = d
    · subst ht
      rw [if_pos rfl]
      refine .inr ?_
      have := a3.mono (w' := w') (hup hI) (fun _ _ => rfl) (fun _ _ h => h)
      simpa [St.app, put, hdst, updS, upd] using this
    · rw [if_neg ht]
      refine .inl ⟨rfl, ?_⟩
      simp [St.app, put, hdst, updS, upd, ht]
theorem ok_call (hN : NoCount C.P) (h : SR C E w S a β F) {o : Oper} {c : Call} {fo : Operand} (ho : o.op = .call c) (hc : c.callee = .value fo) {f : FuncId} {call : FuncId → List AV → Option (AV × List AV)}
    (hcall : ∀ k as r, call k as = some r → Sound C k as r) {e : Eff}
    (he : callC C f call S o (un true (S.get C fo)) (c.args.toList.map fun x => un true (S.get C x)) = some e) (hd : inB S e) (hn : ∀ a' w', Nx C E (S.app e) a' w' → next a' w') : o.wp C.P a w next Q := by
  have hfo := h.getU fo
  have hargs := RL.ofMap h c.args.toList
  unfold callC at he
  split at he
  · rename_i k first caps hfn
    rw [hfn] at hfo
    obtain ⟨_, vs1, cs1, hfv, h1, h2⟩ := hfo.fn_inv
    split at he
    · rename_i as seen d hbw hdst
      split at he
      · rename_i r hcl
        have hs := hcall _ _ _ hcl
        have hall : RL w (Im E w F) β [] (vs1 ++ c.args.toList.map a.eval ++ cs1) (first ++ (c.args.toList.map fun x => un true (S.get C x)) ++ caps) := (h1.append hargs).append h2
        have hbs := (bfoldC_sound (F := F) (bw_sound h.obj 9) hbw hall).2 (fun b => Im E w F b ∨ ∃ id ∈ seen, b ∈ F id) (fun b hb => .inl hb) (fun b hb => by cases hb) (fun id hid b hb => .inr ⟨id, hid, hb⟩)
        have hdo := hs w _ [] _ hbs List.nodup_nil (fun b hb => ⟨hb.elim (fun hb => hb.2.1) (fun ⟨id, _, hb⟩ => (h.lt id b hb).1), by simp⟩) (fun b hb => by cases hb)
          (fun g cs hg => (h.glob g cs hg).imm_to rfl fun b hb => .inl hb)
        have hexec : (execOp a.eval o).run C.P w = (callFunc k ⟨vs1 ++ c.args.toList.map a.eval ++ cs1⟩).run C.P w := by
          have e1 : (#[] ++ (⟨vs1⟩ : Array Value) ++ c.args.map a.eval ++ ⟨cs1⟩ : Array Value) = ⟨vs1 ++ c.args.toList.map a.eval ++ cs1⟩ := by apply Array.ext'; simp
          have e2 : ((⟨vs1⟩ : Array Value) ++ c.args.map a.eval ++ ⟨cs1⟩ : Array Value) = ⟨vs1 ++ c.args.toList.map a.eval ++ cs1⟩ := by apply Array.ext'; simp
          have e3 : resolve a.eval c o.type = (pure { target := .fn (.func k) ⟨cs1⟩, args := ⟨vs1⟩ ++ c.args.map a.eval } : Sem Deferred) := by
            simp [resolve, hc, hfv, Deferred.ofValue]
          have e4 : execOp a.eval o = (do let d ← resolve a.eval c o.type; invoke d.target d.args : Sem Next) := by simp [execOp, ho]
          rw [e4, e3, Sem.run_bind, Sem.run_pure, Result.andThen_ok]
          simp only [invoke, e2]
        -- what holds of a value that has come back
        have hback : ∀ {ls : List Value} v w', Res w [] (fun b => Im E w F b ∨ ∃ id ∈ seen, b ∈ F id) ls (r, []) v w' → next (a.put o.dst v) w' := fun v w' hres => by
          obtain ⟨I', fr, g1, g2, g3, g4⟩ := hres.ex
          replace g1 : R w' I' noB fr v r := by
            obtain ⟨f1, f2, v1, vs1', rfl, e1, k1, k2⟩ := RL.cons_inv g1
            obtain ⟨rfl, rfl⟩ := k2.nil_inv
            simp only [List.cons.injEq] at e1
            obtain ⟨rfl, _⟩ := e1
            simpa using k1
          have hk : Kept w w' (fun _ => False) := ⟨hres.kept.size, fun b hb _ => hres.kept.blk b hb (by simp), hres.kept.os, hres.kept.out, hres.kept.frz, hres.kept.szs⟩
          generalize hr' : (if inFrz C f o.dst = true then fz r else r) = r' at he
          split at he
          · simp at he
          · rename_i hm
            split at he
            · rename_i hf
              simp only [Option.some.injEq] at he
              subst he
              have base : R w' (fun b => Im E w F b ∨ (w.heap.size ≤ b ∧ b < w'.heap.size ∧ b ∉ fr)) noB fr v r := by
                by_cases hse : seen = []
                · subst hse
                  refine g1.mono (fun b hb => ?_) (fun _ _ => rfl) (fun _ _ h => h)
                  obtain ⟨k1, k2, k3⟩ := g4 b hb
                  rcases k1 with (k1 | ⟨_, k1, _⟩) | k1 | k1
                  · exact .inl k1
                  · cases k1
                  · cases k1
                  · exact .inr ⟨k1, k2, k3⟩
                · have : mine r = true := by
                    cases hmr : mine r
                    · exact absurd (by cases seen <;> simp_all) hm
                    · rfl
                  exact g1.mine this _
              have hfr' : ∀ b ∈ fr, w.heap.size ≤ b ∧ b < w'.heap.size := fun b hb => by
                obtain ⟨k1, k2⟩ := g3 b hb
                rcases k2 with k2 | k2
                · cases k2
                · exact ⟨k2, k1⟩
              refine hn _ _ ?_
              by_cases hz : inFrz C f o.dst = true
              · rw [if_pos hz] at hr'; subst hr'
                refine h.imported hdst hk (fr := []) ?_ List.nodup_nil (fun b hb => by cases hb) hf seen hd
                exact base.fz (fun b hb => hb.imp id fun ⟨k1, k2, _⟩ => ⟨k1, k2, by simp⟩) (fun b hb => .inr ⟨(hfr' b hb).1, (hfr' b hb).2, by simp⟩)
              · rw [if_neg hz] at hr'; subst hr'
                exact h.imported hdst hk base g2 hfr' hf seen hd
            · simp at he
        unfold Oper.wp
        rw [hexec]
        rcases hdo with ⟨fn, code, k1, k2, k3⟩ | ⟨v, w', k1, k2⟩
        · rw [run_callFunc hN k1 k2]
          simp only [Oper.upon]
          refine k3.mono fun e' w' hh => ?_
          obtain ⟨v, rfl, hres⟩ := hh
          exact hback v w' hres
        · rw [k1]
          exact hback v w' k2
      · cases he
    · cases he
  · cases he
end
end Go.Ab
