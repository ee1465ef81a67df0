/-
  STORES AS OPERATIONS; append.
-/
import Derived.Test.YtbhpblokoecoaaaAbOps6
import Derived.Deep.AppendSrc
namespace Go.Ab
open Go
section
variable {C : Cx} {E : Env} {w : World} {S : St} {a : Act} {β : Id → Option Loc} {F : Id → List Nat}
variable {next : Act → World → Prop} {Q : Exit → Act → World → Prop}
theorem SR.slotAnew (h : SR C E w S a β F) (t : Nat) {x : AV} (hx : R w (Im E w F) β [] (a.tmps.getD t undef) x) : SR C E w ⟨S.n, upd S.t t x, S.h⟩ a β F := by
  refine h.step (fun _ => False) h.n (Nat.le_refl _) rfl rfl (fun _ => rfl) (fun _ _ _ => rfl) (fun _ _ h => h) (fun id b hb => .inl ⟨id, hb⟩) (fun _ _ => ⟨rfl, rfl⟩)
    (fun _ _ h => h.elim) (fun _ h => h.elim) (fun _ h => h.elim) (fun _ _ _ h => h.elim) h.dom ?_
  intro _ u
  by_cases hu : u = t
  · subst hu; exact .inr (by simpa [upd] using hx)
  · exact .inl ⟨rfl, by simp [upd, hu]⟩
theorem ok_store (h : SR C E w S a β F) {o : Oper} {f : FuncId} {t : TypeId} {ao x : Operand} (ho : o.op = .store t ao x) {e : Eff}
    (he : evStore C f S true o t ao (un true (S.get C ao)) (un true (S.get C x)) = some e) (hd : inB S e) (hn : ∀ a' w', Nx C E (S.app e) a' w' → next a' w') : o.wp C.P a w next Q := by
  have ha := h.getU ao
  have hx := h.getU x
  generalize hav : un true (S.get C ao) = av at *
  generalize un true (S.get C x) = xv at *
  unfold evStore at he
  split at he
  · rename_i b n hb hs
    split at he
    · rename_i id row off cs hcs
      split at he
      · cases he
      · rename_i hcn
        have hcn : cs.length = n := by simpa using hcn
        split at he
        · rename_i rows hid
          simp only [Option.bind_eq_some_iff] at he
          obtain ⟨r, hr, he⟩ := he
          split at he
          · rename_i hfit
            obtain ⟨_, bk, p, sz, m, hβ, hv⟩ := ha.mp_inv
            obtain ⟨us, hvc, hus, hpl⟩ := cellsOfV_sound hx hcs
            have hul := hus.length
            obtain ⟨w', hrun, hS, hfz⟩ := h.stored hid hβ hr hfit hcn hus hpl
            have hst : (execOp a.eval o).run C.P w = .ok .skip w' := by
              simp only [execOp, ho]
              refine run_u ?_
              have hsz : (a.eval x).cells.size = n := by rw [hvc]; simp; omega
              simp only [Instr.storeAt, hv, Instr.sureAddr]
              rw [Sem.run_bind, Sem.run_pure, Result.andThen_ok]
              unfold storeVar
              rw [Sem.run_bind, run_size hs, Result.andThen_ok]
              simp only [hsz, ne_eq, not_true_eq_false, if_false]
              rw [hvc]
              exact hrun
            split at he
            · rename_i ta hta
              split at he
              · rename_i hcond
                simp only [Bool.and_eq_true, decide_eq_true_eq] at hcond
                obtain ⟨⟨⟨⟨⟨⟨c1, c2⟩, c3⟩, c4⟩, c5⟩, _⟩, c7⟩ := hcond
                simp at he; subst he
                have hdst : o.dst = none := by simpa using c7
                rcases hfz ([] : Rows) with hfz | hfz
                · obtain ⟨F', hS', hI, hcl, hl⟩ := hfz c3 c4 c1 c2
                  refine wp_skp hst (hn _ _ ⟨β, F', ?_⟩)
                  have hao : ao = .tmp ta := by
                    unfold frzStore at hta
                    split at hta
                    · split at hta
                      · simp at hta; rw [hta]
                      · cases hta
                    · cases hta
                  have hreal : a.tmps.getD ta undef = .pointer (some ⟨bk, p + row * sz + off, none⟩) := by rw [← hv, hao]; rfl
                  have := hS'.slotAnew ta (x := .vp (nzL cs)) (by rw [hreal]; exact .vp hI hcl (RL.imm_noB (RL.nz hl) c5))
                  simpa [St.app, updS, updH, Act.put, hdst] using this
                · subst hfz; simp at hr
              · cases he
            · split at he
              · rename_i hdn
                simp at he; subst he
                have hdst : o.dst = none := by simpa using hdn
                obtain ⟨F', hS'⟩ := hS
                refine wp_skp hst (hn _ _ ⟨β, F', ?_⟩)
                simpa [St.app, put, updS, Act.put, hdst] using hS'
              · cases he
          · cases he
        · cases he
    · cases he
  · cases he
theorem rows_sound (h : SR C E w S a β F) {v : Value} {x : AV} {xs : Rows} {ids : List Id} {sz : Nat} (hx : R w (Im E w F) β [] v x) (hr : rowsOf S.h x = some (xs, ids)) (hsz : ∀ r ∈ xs, r.length = sz) :
    ∃ ba n cap vs f, v = .slice ba n cap ∧ n = xs.length ∧ RL w (Im E w F) β f vs xs.flatten ∧ vs.length = n * sz ∧ (n = 0 ∨ ∃ b o, ba = some ⟨b, o, none⟩ ∧ Cl w b o vs) := by
  unfold rowsOf at hr
  split at hr
  · simp at hr
    obtain ⟨rfl, rfl⟩ := hr
    rcases hx.sl_inv.2 with ⟨ba, cap, rfl, hv⟩ | ⟨b, o, sz', cap, vs, _, _, hcl, hl, _, hv⟩
    · exact ⟨ba, 0, cap, [], [], hv, rfl, .nil, by simp, .inl rfl⟩
    · exact ⟨_, _, cap, vs, [], hv, rfl, R.up hl, by rw [hl.length, flat_len hsz], .inr ⟨b, o, rfl, hcl⟩⟩
  · simp at hr
    obtain ⟨rfl, rfl⟩ := hr
    obtain ⟨_, ba, hv⟩ := hx.snil_inv
    exact ⟨ba, 0, 0, [], [], hv, rfl, .nil, by simp, .inl rfl⟩
  · rename_i id off len
    split at hr
    · rename_i rows hid
      split at hr
      · rename_i hle
        simp at hr
        obtain ⟨rfl, rfl⟩ := hr
        rcases hx.rs_inv.2 with ⟨ba, l, rfl, hv, _⟩ | ⟨b, o, sz', m, cap, hβ, hfit, hlc, hv⟩
        · exact ⟨ba, 0, 0, [], [], hv, by simp, by simpa using R.nil, by simp, .inl rfl⟩
        · rcases Nat.eq_zero_or_pos len with h0 | h0
          · subst h0
            exact ⟨_, 0, cap, [], [], hv, by simp, by simpa using R.nil, by simp, .inl rfl⟩
          · obtain ⟨vs, fps, hfp, _, ⟨hne, hrows⟩, _, hcl, hl⟩ := (h.obj id rows hid).at hβ
            have hszn : sz' = sz := by
              have hlt : off < rows.length := by omega
              have hm : rows[off] ∈ (rows.drop off).take len := by
                rw [List.mem_iff_getElem?]
                exact ⟨0, by rw [List.getElem?_take_of_lt h0, List.getElem?_drop]; simp⟩
              have hm2 : rows[off] ∈ rows := List.getElem_mem hlt
              rw [← hrows _ hm2, hsz _ hm]
            subst hszn
            have hfl := flat_len hrows
            have e1 : ((rows.drop off).take len).flatten = (rows.flatten.drop (off * sz')).take (len * sz') := by
              have := flat_drop (l := off) (r := off + len) hrows
              rw [List.take_drop, this, List.take_drop, Nat.add_mul]
            have hle1 : off * sz' + len * sz' ≤ rows.flatten.length := by rw [hfl, ← Nat.add_mul]; exact Nat.mul_le_mul_right _ hle
            obtain ⟨f1, f2, f3, e0, _, h2, _⟩ := hl.split3 (off * sz') (len * sz') hle1
            rw [← e1] at h2
            have hlen := h2.length
            refine ⟨_, len, cap, _, f2, hv, by simp; omega, h2, ?_, .inr ⟨b, o + off * sz', rfl, (hcl.drop _).take _⟩⟩
            rw [hlen, flat_len hsz]; congr 1; simp; omega
      · cases hr
    · cases hr
  · cases hr
theorem src_of {t e' : TypeId} {sz n cap : Nat} {ba : Option Addr} {vs : List Value} (hk : C.P.underlying t = some (.slice e')) (hl : vs.length = n * sz) (hc : n = 0 ∨ ∃ b o, ba = some ⟨b, o, none⟩ ∧ Cl w b o vs)
    (hp : ∀ u ∈ vs, plainV u = true) : Src C.P sz t (.slice ba n cap) n vs w := by
  have h1 : ∀ u ∈ vs, u.oneCell' = true := fun u hu => by
    have := hp u hu
    cases u <;> simp_all [plainV, Value.oneCell']
  rcases hc with rfl | ⟨b, o, rfl, hcl⟩
  · have : vs = [] := List.length_eq_zero_iff.1 (by simpa using hl)
    subst this
    have hz : ∀ w' : World, (Builtin.firstCells sz 0 (.slice ba 0 cap)).run C.P w' = .ok #[] w' := fun w' => by
      cases ba with
      | none => exact run_firstCells_none w' _ _ _ _
      | some p => simp [Builtin.firstCells, loadCells, loadCellsFrom]
    exact ⟨.inl ⟨e', hk⟩, fun _ => rfl, hz w, hz w.drew, by simp, h1⟩
  · exact Src.ofSlice w hk ⟨b, o, none⟩ n cap vs hl (fun j u hj => by rw [add_none]; exact hcl j u hj) h1
theorem plain_cells {I : Nat → Prop} {as : List AV} : ∀ {f : List Nat} {vs : List Value}, RL w I β f vs as → as.all AV.cell = true → f = [] ∧ ∀ u ∈ vs, plainV u = true := by
  induction as with
  | nil => intro f vs h _; obtain ⟨rfl, rfl⟩ := h.nil_inv; exact ⟨rfl, fun u hu => by cases hu⟩
  | cons c as ih =>
    intro f vs h hc
    simp only [List.all_cons, Bool.and_eq_true] at hc
    obtain ⟨f1, f2, v, vs', rfl, rfl, h1, h2⟩ := RL.cons_inv h
    obtain ⟨e2, p2⟩ := ih h2 hc.2
    refine ⟨by rw [h1.fp_cell hc.1, e2]; rfl, fun u hu => ?_⟩
    cases hu with
    | head =>
      obtain ⟨p1, p3, _⟩ := h1.plain hc.1
      cases v <;> simp_all [plainV]
    | tail _ hm => exact p2 u hm
theorem rowCell_flat {rows : Rows} (h : rowCell rows = true) : rows.flatten.all AV.cell = true := by
  rw [List.all_eq_true]
  intro c hc
  obtain ⟨r, hr, hm⟩ := List.mem_flatten.1 hc
  exact List.all_eq_true.1 (List.all_eq_true.1 h r hr) c hm
theorem frozen_new {w : World} (c : Array Value) (e : TypeId) (x : Addr) : (w.alloc (.cells c e)).frozen? x = w.frozen? x := by
  have hnew : (w.alloc (.cells c e)).heap[w.heap.size]? = some (.cells c e) := heap_alloc_new _ _
  by_cases hx : x.block = w.heap.size
  · have e2 : w.heap[x.block]? = none := by rw [hx]; simp
    simp only [World.frozen?, hx, hnew]
    simp
  · rw [World.frozen?_alloc_old _ _ _ hx]
theorem SR.moved (h : SR C E w S a β F) {o : Oper} {d : Nat} (hdst : o.dst = some d) {kill : Id} (hfresh : S.h [d] = none) (hkill : kill = [d] ∨ ∃ rows, S.h kill = some (some rows)) {w' : World} {h' : Id → Option (Option Rows)} {rows' : Rows} {G : List Nat} {l : Loc} {v : Value} {x : AV}
    (hh1 : h' [d] = some (some rows')) (hh2 : ∀ i, i ≠ [d] → i ≠ kill → h' i = S.h i) (hh3 : kill ≠ [d] → h' kill = some none)
    (hsz : w.heap.size ≤ w'.heap.size) (hos : w'.os = w.os) (hout : w'.output = w.output) (hfrz : ∀ y, w'.frozen? y = w.frozen? y) (hw : ∀ b, b < w.heap.size → b ∉ F kill → w'.heap[b]? = w.heap[b]?) (hbs : ∀ b n, Blk w b n → Blk w' b n)
    (hG : G.Nodup) (hGF : ∀ b ∈ G, b ∈ F kill ∨ (w.heap.size ≤ b ∧ b < w'.heap.size))
    (hOR : ∀ (I' : Nat → Prop) (β' : Id → Option Loc), (∀ b, Im E w F b → I' b) → (∀ i l, β i = some l → β' i = some l) → β' [d] = some l → OR w' I' β' [d] rows' G)
    (hx : ∀ (I' : Nat → Prop) (β' : Id → Option Loc), β' [d] = some l → R w' I' β' [] v x) (hd : d < S.n) : Nx C E ⟨S.n, upd S.t d x, h'⟩ (a.put o.dst v) w' := by
  have hβ0 : β [d] = none := h.dom _ hfresh
  have hF0 : F [d] = [] := h.dead _ (by rw [hfresh]; simp)
  let F' : Id → List Nat := fun i => if i = [d] then G else if i = kill then [] else F i
  have hF'd : F' [d] = G := by simp [F']
  have hF'k : kill ≠ [d] → F' kill = [] := fun hk => by simp [F', hk]
  have hF'o : ∀ i, i ≠ [d] → i ≠ kill → F' i = F i := fun i h1 h2 => by simp [F', h1, h2]
  have hβ : ∀ i l', β i = some l' → upd β [d] (some l) i = some l' := fun i l' hl => by
    by_cases hi : i = [d]
    · subst hi; rw [hβ0] at hl; cases hl
    · simpa [upd, hi] using hl
  refine ⟨upd β [d] (some l), F', ?_⟩
  refine h.step (fun i => i = [d] ∨ i = kill) (by rw [put_size]; exact h.n) hsz hos hout hfrz (fun b hb hk => hw b hb (hk kill (.inr rfl))) hβ ?_ ?_ ?_ ?_ ?_ ?_ ?_ ?_ (hbs := hbs)
  · intro i b hb
    by_cases h1 : i = [d]
    · subst h1
      rw [hF'd] at hb
      rcases hGF b hb with hm | hm
      · exact .inl ⟨kill, hm⟩
      · exact .inr hm
    · by_cases h2 : i = kill
      · subst h2; rw [hF'k h1] at hb; cases hb
      · rw [hF'o i h1 h2] at hb; exact .inl ⟨i, hb⟩
  · intro i hi
    have h1 : i ≠ [d] := fun e => hi (.inl e)
    have h2 : i ≠ kill := fun e => hi (.inr e)
    exact ⟨hF'o i h1 h2, hh2 i h1 h2⟩
  · intro hI i hi rows2 hr
    by_cases h1 : i = [d]
    · subst h1
      have hr' : h' [d] = some (some rows2) := hr
      rw [hh1] at hr'
      simp at hr'; subst hr'
      rw [hF'd]
      exact hOR _ _ hI hβ (by simp [upd])
    · have h2 : i = kill := hi.resolve_left h1
      subst h2
      have hr' : h' i = some (some rows2) := hr
      rw [hh3 h1] at hr'
      simp at hr'
  · intro i hi hno
    by_cases h1 : i = [d]
    · subst h1; exact absurd hh1 (hno _)
    · have h2 : i = kill := hi.resolve_left h1
      subst h2; exact hF'k h1
  · intro i hi
    by_cases h1 : i = [d]
    · subst h1; rw [hF'd]; exact hG
    · have h2 : i = kill := hi.resolve_left h1
      subst h2; rw [hF'k h1]; exact List.nodup_nil
  · intro i j b hi hbi hbj
    have aux : ∀ j, j ≠ [d] → b ∈ F' j → b ∈ G → False := fun j hj hbj hbG => by
      by_cases h2 : j = kill
      · subst h2; rw [hF'k hj] at hbj; cases hbj
      · rw [hF'o j hj h2] at hbj
        rcases hGF b hbG with hm | hm
        · exact h2 (h.dj j kill b hbj hm)
        · have := (h.lt j b hbj).1; omega
    by_cases h1 : i = [d]
    · subst h1
      by_cases h2 : j = [d]
      · exact h2.symm
      · rw [hF'd] at hbi
        exact (aux j h2 hbj hbi).elim
    · have h2 : i = kill := hi.resolve_left h1
      subst h2
      rw [hF'k h1] at hbi; cases hbi
  · intro i hi
    have hi' : h' i = none := hi
    by_cases h1 : i = [d]
    · subst h1; rw [hh1] at hi'; cases hi'
    · by_cases h2 : i = kill
      · subst h2; rw [hh3 h1] at hi'; cases hi'
      · rw [hh2 i h1 h2] at hi'
        simp [upd, h1, h.dom i hi']
  · intro _ u
    rw [hdst, put_get a d u v (by rw [h.n]; exact hd)]
    by_cases hu : u = d
    · subst hu
      rw [if_pos rfl]
      exact .inr (by simpa [upd] using hx _ (upd β [u] (some l)) (by simp [upd]))
    · rw [if_neg hu]
      exact .inl ⟨rfl, by simp [upd, hu]⟩
theorem SR.drew (h : SR C E w S a β F) : SR C E w.drew S a β F :=
  h.step (fun _ => False) h.n (Nat.le_refl _) rfl rfl (fun _ => rfl) (fun _ _ _ => rfl) (fun _ _ h => h) (fun id b hb => .inl ⟨id, hb⟩) (fun _ _ => ⟨rfl, rfl⟩)
    (fun _ _ h => h.elim) (fun _ h => h.elim) (fun _ h => h.elim) (fun _ _ _ h => h.elim) h.dom (fun _ _ => .inl ⟨rfl, rfl⟩)
structure AppRun (P : Program) (w : World) (t t2 ty el : TypeId) (i : TypeInfo) (zv : Value) (yv : Value) (ny : Nat) (vy : List Value) : Prop where
  idle : ny = 0 → ∀ bx, (Builtin.append_ #[t, t2] ty #[.slice bx 0 0, yv]).run P w = .ok (.slice bx 0 0) w
  room : ∀ b p len cap w', len + ny ≤ cap → (storeCells ⟨b, p + len * i.size, none⟩ vy).run P w = .ok () w' → (Builtin.append_ #[t, t2] ty #[.slice (some ⟨b, p, none⟩) len cap, yv]).run P w = .ok (.slice (some ⟨b, p, none⟩) (len + ny) cap) w'
  grow : ∀ (bx : Option Addr) (n cap : Nat) (vs : List Value), (Builtin.firstCells i.size n (.slice bx n cap)).run P w.drew = .ok vs.toArray w.drew → cap < n + ny → ((n + ny : Nat) : Int) ≤ 9223372036854775807 → Builtin.nextslicecap (n + ny) cap * i.bytes ≤ 281474976710656 →
    (Builtin.append_ #[t, t2] ty #[.slice bx n cap, yv]).run P w = .ok (.slice (some ⟨w.heap.size, 0, none⟩) (n + ny) (grownCap w (n + ny) cap el)) (w.drew.alloc (.cells ((vs ++ vy).toArray ++ Builtin.zeroCells zv.cells (grownCap w (n + ny) cap el - (n + ny))) el))
theorem app_core (h : SR C E w S a β F) {o : Oper} {t t2 el : TypeId} {d : Nat} {i : TypeInfo} {zv yv : Value} {x : Operand} {xv : AV} {xs ys : Rows} {i1 i2 : List Id} {vy : List Value} {ny : Nat} {e : Eff}
    (hdst : o.dst = some d) (hzsz : zv.cells.size = i.size) (hby : i.bytes ≤ 4096) (hmax : xs.length + ys.length ≤ maxRows) (hfr : (S.h [d]).isNone = true) (hysz : ∀ r ∈ ys, r.length = i.size)
    (hx : R w (Im E w F) β [] (a.eval x) xv) (hxr : rowsOf S.h xv = some (xs, i1)) (hny : ny = ys.length) (hly : RL w (Im E w F) β [] vy ys.flatten) (hvyl : vy.length = ny * i.size) (hply : ∀ u ∈ vy, plainV u = true)
    (hexec : ∀ {v : Value} {w' : World}, (Builtin.append_ #[t, t2] o.type #[a.eval x, yv]).run C.P w = .ok v w' → (execOp a.eval o).run C.P w = .ok (.value v) w') (happ : AppRun C.P w t t2 o.type el i zv yv ny vy)
    (he : appTail S o d i.size xv xs ys i1 i2 = some e) (hd : inB S e) (hn : ∀ a' w', Nx C E (S.app e) a' w' → next a' w') : o.wp C.P a w next Q := by
  unfold appTail at he
  -- the arm that grows
  have grow : ∀ (kill : Id) (h' : Id → Option (Option Rows)) (bx : Option Addr) (n cap : Nat) (vs : List Value) (f : List Nat), a.eval x = .slice bx n cap → n = xs.length → cap < n + ny → vs.length = n * i.size → (n = 0 ∨ ∃ b o, bx = some ⟨b, o, none⟩ ∧ Cl w b o vs) →
      RL w (Im E w F) β f vs xs.flatten → (∀ r ∈ xs, r.length = i.size) → f.Nodup → (∀ b ∈ f, b ∈ F kill) → (kill = [d] ∨ ∃ rows, S.h kill = some (some rows)) →
      h' [d] = some (some (xs ++ ys)) → (∀ j, j ≠ [d] → j ≠ kill → h' j = S.h j) → (kill ≠ [d] → h' kill = some none) → e = { sw := [(d, .rs [d] 0 (xs.length + ys.length))], rd := i1 ++ i2, wr := e.wr } → (S.app e).h = h' → o.wp C.P a w next Q := by
    intro kill h' bx n cap vs f hv hn' hgrow hvl hcl hl hxsz hfn hfF hk hh1 hh2 hh3 hee hhe
    have hold : (Builtin.firstCells i.size n (.slice bx n cap)).run C.P w.drew = .ok vs.toArray w.drew := by
      rcases hcl with h0 | ⟨b', o', rfl, hcl⟩
      · subst h0
        have : vs = [] := List.length_eq_zero_iff.1 (by simpa using hvl)
        subst this
        cases bx with
        | none => exact run_firstCells_none w.drew _ _ _ _
        | some p => simp [Builtin.firstCells, loadCells, loadCellsFrom]
      · exact run_firstCells_some w.drew i.size n ⟨b', o', none⟩ n cap vs hvl (fun j u hj => by rw [add_none]; exact hcl j u hj)
    have hmx : n + ny ≤ 4294967296 := by unfold maxRows at hmax; omega
    have hbb : (n + ny) * i.bytes ≤ 140737488355328 := Nat.le_trans (Nat.mul_le_mul hmx hby) (by decide)
    have hrun := (congrArg (fun z => (Builtin.append_ #[t, t2] o.type #[z, yv]).run C.P w) hv).trans (happ.grow bx n cap vs hold hgrow (by omega) (growslice_fits hgrow hbb))
    refine wp_val (hexec hrun) (hn _ _ ?_)
    generalize hcells : (vs ++ vy).toArray ++ Builtin.zeroCells zv.cells (grownCap w (n + ny) cap el - (n + ny)) = CC
    have hcap : n + ny ≤ grownCap w (n + ny) cap el := by unfold grownCap Question.cut; simp
    have hSd := h.drew
    have hlen : (vs ++ vy).length = (n + ny) * i.size := by rw [List.length_append, hvl, hvyl, Nat.add_mul]
    have hCC : CC.size = (n + ny) * i.size + (grownCap w (n + ny) cap el - (n + ny)) * zv.cells.size := by
      rw [← hcells, Array.size_append, List.size_toArray, hlen]; simp [Builtin.zeroCells]
    have hne : xs ++ ys ≠ [] := fun e0 => by
      have h0 := congrArg List.length e0
      rw [List.length_append] at h0
      simp only [List.length_nil] at h0
      omega
    have hall : ∀ r ∈ xs ++ ys, r.length = i.size := fun r hr => (List.mem_append.1 hr).elim (hxsz r) (hysz r)
    have hnew : (w.drew.alloc (.cells CC el)).heap[w.heap.size]? = some (.cells CC el) := heap_alloc_new _ _
    have hold' : ∀ b, b < w.heap.size → (w.drew.alloc (.cells CC el)).heap[b]? = w.heap[b]? := fun b hb => heap_alloc_old _ _ _ hb
    have hmul : (n + ny) * i.size + (grownCap w (n + ny) cap el - (n + ny)) * i.size = grownCap w (n + ny) cap el * i.size := by rw [← Nat.add_mul]; congr 1; omega
    rw [hzsz, hmul] at hCC
    have hmv := h.moved (w' := w.drew.alloc (.cells CC el)) (h' := h') (rows' := xs ++ ys) (G := w.heap.size :: f) (l := .blk w.heap.size 0 i.size CC.size)
      (v := .slice (some ⟨w.heap.size, 0, none⟩) (n + ny) (grownCap w (n + ny) cap el)) (x := .rs [d] 0 (xs.length + ys.length)) hdst (fresh_of hfr) hk hh1 hh2 hh3 (by simp) rfl rfl (fun y => by rw [frozen_new]; rfl)
      (fun b hb _ => hold' b hb) (blk_old hold') (List.nodup_cons.2 ⟨fun hm => by
        rcases hk with hk | ⟨rows, hk⟩
        · have := hfF _ hm
          rw [hk, h.dead [d] (by rw [fresh_of hfr]; simp)] at this; cases this
        · exact absurd (h.lt kill _ (hfF _ hm)).1 (Nat.lt_irrefl _), hfn⟩) (fun b hb => by
        cases hb with
        | head => exact .inr ⟨Nat.le_refl _, by simp⟩
        | tail _ hm => exact .inl (hfF b hm)) (fun I' β' hI hβ hd' => .inr (.inr ⟨w.heap.size, 0, i.size, CC.size, vs ++ vy, f, hd', rfl, ⟨CC, el, hnew, rfl⟩, ⟨hne, hall⟩, by rw [hCC, Nat.zero_add]; exact Nat.mul_le_mul_right _ (by rw [List.length_append]; omega), ?_, ?_⟩)) ?_ ?_
    · have e1 : S.app e = ⟨S.n, upd S.t d (.rs [d] 0 (xs.length + ys.length)), h'⟩ := by
        rw [← hhe, hee]; rfl
      rw [e1]; exact hmv
    · intro k u hu
      rw [Nat.zero_add, cell_of_row _ _ _ CC el (0, 0) hnew, ← hcells]
      have hlt : k < (vs ++ vy).length := by
        rcases Nat.lt_or_ge k (vs ++ vy).length with h' | h'
        · exact h'
        · rw [List.getElem?_eq_none h'] at hu; cases hu
      rw [Array.getElem?_append_left (by simpa using hlt)]
      simpa using hu
    · rw [List.flatten_append]
      have l1 := hl.mono (w' := w.drew.alloc (.cells CC el)) (β' := β') hI (fun b hb => hold' b (hb.elim (fun hb => hb.2.1) fun hb => by
        have hm := hfF b hb
        rcases hk with hk | ⟨rows, hk⟩
        · rw [hk, h.dead [d] (by rw [fresh_of hfr]; simp)] at hm; cases hm
        · exact (h.lt kill b hm).1)) hβ
      have l2 := hly.mono (w' := w.drew.alloc (.cells CC el)) (β' := β') hI (fun b hb => hold' b (hb.elim (fun hb => hb.2.1) fun hb => by cases hb)) hβ
      have := RL.append l1 l2
      rwa [List.append_nil] at this
    · intro I' β' hd'
      have := R.rs (w := w.drew.alloc (.cells CC el)) (I := I') (off := 0) (len := n + ny) (cap := grownCap w (n + ny) cap el) hd' (by rw [hCC]; simp) hcap
      rw [show xs.length + ys.length = n + ny by omega]
      simpa using this
    · have : inB S e := hd
      rw [hee] at this
      simpa [inB] using this
  -- nothing is there, nothing comes
  have idle : ∀ (kill : Id) (h' : Id → Option (Option Rows)) (bx : Option Addr), a.eval x = .slice bx 0 0 → xs = [] → ys = [] → (kill = [d] ∨ ∃ rows, S.h kill = some (some rows)) →
      h' [d] = some (some (xs ++ ys)) → (∀ j, j ≠ [d] → j ≠ kill → h' j = S.h j) → (kill ≠ [d] → h' kill = some none) → e = { sw := [(d, .rs [d] 0 (xs.length + ys.length))], rd := i1 ++ i2, wr := e.wr } → (S.app e).h = h' → o.wp C.P a w next Q := by
    intro kill h' bx hv hx0 hy0 hk hh1 hh2 hh3 hee hhe
    subst hx0 hy0
    have hn0 : ny = 0 := by simpa using hny
    have hrun : (Builtin.append_ #[t, t2] o.type #[a.eval x, yv]).run C.P w = .ok (.slice bx 0 0) w := by rw [hv]; exact happ.idle hn0 bx
    refine wp_val (hexec hrun) (hn _ _ ?_)
    have hmv := h.moved (w' := w) (h' := h') (rows' := []) (G := []) (l := .nil) (v := .slice bx 0 0) (x := .rs [d] 0 0) hdst (fresh_of hfr) hk hh1 hh2 hh3 (Nat.le_refl _) rfl rfl (fun _ => rfl) (fun _ _ _ => rfl) (fun _ _ h => h)
      List.nodup_nil (fun b hb => by cases hb) (fun I' β' _ _ hd' => .inl ⟨hd', rfl, rfl⟩) (fun I' β' hd' => .rs0 hd' rfl) (by
        have : inB S e := hd
        rw [hee] at this
        simpa [inB] using this)
    have e1 : S.app e = ⟨S.n, upd S.t d (.rs [d] 0 0), h'⟩ := by
      rw [← hhe, hee]; rfl
    rw [e1]; exact hmv
  split at he
  · rename_i id off len
    split at he
    · rename_i rows hid
      split at he
      · rename_i hc2
        simp only [Bool.and_eq_true, Bool.or_eq_true, decide_eq_true_eq] at hc2
        obtain ⟨⟨hrows, hoff⟩, hemp⟩ := hc2
        have hrows := all_len hrows
        subst hoff
        simp at he
        have hne1 : [d] ≠ id := fun e0 => by rw [← e0, fresh_of hfr] at hid; cases hid
        have hh1 : (S.app e).h [d] = some (some (xs ++ ys)) := by rw [← he]; simp [St.app, put, hdst, updH, upd, hne1]
        have hh2 : ∀ j, j ≠ [d] → j ≠ id → (S.app e).h j = S.h j := fun j h1 h2 => by rw [← he]; simp [St.app, put, hdst, updH, upd, h1, h2]
        have hh3 : id ≠ [d] → (S.app e).h id = some none := fun _ => by rw [← he]; simp [St.app, put, hdst, updH, upd]
        have hee : e = { sw := [(d, .rs [d] 0 (xs.length + ys.length))], rd := i1 ++ i2, wr := e.wr } := by rw [← he]; simp [put, hdst]
        have hxr' := hxr
        simp only [rowsOf, hid] at hxr'
        split at hxr'
        · rename_i hle
          simp only [List.drop_zero, Option.some.injEq, Prod.mk.injEq] at hxr'
          obtain ⟨hxs, _⟩ := hxr'
          have hxsz : ∀ r ∈ xs, r.length = i.size := fun r hr => hrows r (by rw [← hxs] at hr; exact List.mem_of_mem_take hr)
          have hxl : xs.length = len := by rw [← hxs]; simp; omega
          rcases hx.rs_inv.2 with ⟨bx, l, hl0, hv, _⟩ | ⟨b, p, sz', m, cap, hβ, hfit, hlc, hv⟩
          · have hxs0 : xs = [] := List.length_eq_zero_iff.1 (by omega)
            by_cases hy0 : ys = []
            · exact idle id _ bx hv hxs0 hy0 (.inr ⟨rows, hid⟩) hh1 hh2 hh3 hee rfl
            · have : 0 < ys.length := List.length_pos_iff.2 hy0
              exact grow id _ bx 0 0 [] [] hv (by rw [hxs0]; rfl) (by omega) (by simp) (.inl rfl) (by rw [hxs0]; exact .nil) hxsz List.nodup_nil (fun b hb => by cases hb) (.inr ⟨rows, hid⟩) hh1 hh2 hh3 hee rfl
          · obtain ⟨vs, fps, hfp, hB, ⟨hne, hrows'⟩, hszm, hcl, hl⟩ := (h.obj id rows hid).at hβ
            have hszn : sz' = i.size := by
              obtain ⟨r0, hr0⟩ := List.exists_mem_of_ne_nil _ hne
              rw [← hrows' r0 hr0, hrows r0 hr0]
            subst hszn
            have hfl := flat_len hrows
            have hle1 : len * i.size ≤ rows.flatten.length := by rw [hfl]; exact Nat.mul_le_mul_right _ (by omega)
            obtain ⟨f1, f2, f3, e0, _, l2, _⟩ := hl.split3 0 (len * i.size) (by omega)
            simp only [List.drop_zero] at l2
            have exs : xs.flatten = rows.flatten.take (len * i.size) := by
              have := flat_drop (l := 0) (r := len) hrows
              simpa [hxs] using this
            rw [← exs] at l2
            have hnd := h.nd id
            rw [hfp, e0] at hnd
            have hnd' := (List.nodup_cons.1 hnd).2
            have hbn := (List.nodup_cons.1 hnd).1
            have hf2 : f2.Nodup := (List.nodup_append.1 (List.nodup_append.1 hnd').2.1).1
            have hf2F : ∀ b' ∈ f2, b' ∈ F id := fun b' hb' => by
              rw [hfp, e0]
              exact List.mem_cons_of_mem _ (List.mem_append.2 (.inr (List.mem_append.2 (.inl hb'))))
            have hvl2 : (vs.take (len * i.size)).length = len * i.size := by rw [l2.length, exs, List.length_take, Nat.min_eq_left hle1]
            simp only [Nat.zero_mul, Nat.add_zero, Nat.zero_add] at hfit hv
            rcases Nat.lt_or_ge cap (len + ny) with hg | hg
            · exact grow id _ _ len cap (vs.take (len * i.size)) f2 hv hxl.symm hg hvl2 (.inr ⟨b, p, rfl, hcl.take _⟩) l2 hxsz hf2 hf2F (.inr ⟨rows, hid⟩) hh1 hh2 hh3 hee rfl
            · -- there is room
              obtain ⟨cc, ce, hcc, hcm⟩ := hB
              have hbl := lt_of_heap hcc
              have hroom : p + len * i.size + vy.length ≤ cc.size := by
                rw [hvyl, hcm, Nat.add_assoc, ← Nat.add_mul]
                exact Nat.le_trans (Nat.add_le_add_left (Nat.mul_le_mul_right _ hg) _) hfit
              have hst := run_storeCells C.P b (p + len * i.size) ce vy 0 w cc hcc (by omega) hply
              rw [Nat.add_zero] at hst
              generalize hw' : setB w b (.cells (over cc (p + len * i.size) vy) ce (0, 0)) = w' at hst
              have hheap : ∀ k, w'.heap[k]? = if k = b then some (.cells (over cc (p + len * i.size) vy) ce (0, 0)) else w.heap[k]? := fun k => by rw [← hw']; exact setB_heap hbl k
              have hnew : w'.heap[b]? = some (.cells (over cc (p + len * i.size) vy) ce (0, 0)) := by rw [hheap, if_pos rfl]
              have hrun : (Builtin.append_ #[t, t2] o.type #[a.eval x, yv]).run C.P w = .ok (.slice (some ⟨b, p, none⟩) (len + ny) cap) w' := by rw [hv]; exact happ.room b p len cap w' hg hst
              refine wp_val (hexec hrun) (hn _ _ ?_)
              by_cases hne2 : xs ++ ys = []
              · rw [hne2] at hemp
                simp at hemp
                exact absurd hemp hne
              have hmv := h.moved (w' := w') (h' := (S.app e).h) (rows' := xs ++ ys) (G := b :: f2) (l := .blk b p i.size m)
                (v := .slice (some ⟨b, p, none⟩) (len + ny) cap) (x := .rs [d] 0 (xs.length + ys.length)) hdst (fresh_of hfr) (.inr ⟨rows, hid⟩) hh1 hh2 hh3 (by rw [← hw']; simp [setB]) (by rw [← hw']; rfl) (by rw [← hw']; rfl)
                (fun y => by
                  simp only [World.frozen?, hheap]
                  by_cases hy : y.block = b
                  · rw [if_pos hy, hy, hcc]
                  · rw [if_neg hy])
                (fun b' _ hb' => by rw [hheap, if_neg (fun e1 => hb' (by rw [hfp, e1]; exact List.mem_cons_self ..))])
                (fun k n hB => by
                  by_cases hk : k = b
                  · subst hk
                    obtain ⟨c2, e2, hc2, hn2⟩ := hB
                    rw [hcc] at hc2
                    simp only [Option.some.injEq, Obj.cells.injEq] at hc2
                    obtain ⟨rfl, _⟩ := hc2
                    exact ⟨_, _, hnew, by rw [over_size _ _ _ hroom]; exact hn2⟩
                  · exact hB.mono (by rw [hheap, if_neg hk]))
                (List.nodup_cons.2 ⟨fun hm => hbn (List.mem_append.2 (.inr (List.mem_append.2 (.inl hm)))), hf2⟩)
                (fun b' hb' => .inl (by
                  cases hb' with
                  | head => rw [hfp]; exact List.mem_cons_self ..
                  | tail _ hm => exact hf2F b' hm))
                (fun I' β' hI hβ' hd' => .inr (.inr ⟨b, p, i.size, m, vs.take (len * i.size) ++ vy, f2, hd', rfl, ⟨_, _, hnew, by rw [over_size _ _ _ hroom]; exact hcm⟩, ⟨hne2, fun r hr => (List.mem_append.1 hr).elim (hxsz r) (hysz r)⟩, ?_, ?_, ?_⟩)) ?_ ?_
              · have e1 : S.app e = ⟨S.n, upd S.t d (.rs [d] 0 (xs.length + ys.length)), (S.app e).h⟩ := by
                  conv => lhs; rw [hee]
                  rfl
                rw [e1]; exact hmv
              · rw [List.length_append]
                exact Nat.le_trans (Nat.add_le_add_left (Nat.mul_le_mul_right _ (by omega)) _) hfit
              · intro k u hu
                rw [cell_of_row _ _ _ _ _ _ hnew, over_get _ _ _ _ hroom]
                by_cases h1 : k < len * i.size
                · rw [if_neg (by omega)]
                  rw [List.getElem?_append_left (by omega), List.getElem?_take_of_lt h1] at hu
                  have := hcl k u hu
                  rwa [cell_of_row _ _ _ _ _ _ hcc] at this
                · rw [List.getElem?_append_right (by omega), hvl2] at hu
                  have hk2 : k - len * i.size < vy.length := by
                    rcases Nat.lt_or_ge (k - len * i.size) vy.length with h' | h'
                    · exact h'
                    · rw [List.getElem?_eq_none h'] at hu; cases hu
                  rw [if_pos (by omega), show p + k - (p + len * i.size) = k - len * i.size by omega]
                  exact hu
              · rw [List.flatten_append]
                have hk2 : ∀ b', Im E w F b' ∨ b' ∈ f2 → w'.heap[b']? = w.heap[b']? := fun b' hb' => by
                  rw [hheap, if_neg]
                  intro e1; subst e1
                  rcases hb' with hb' | hb'
                  · exact hb'.2.2 id (by rw [hfp]; exact List.mem_cons_self ..)
                  · exact hbn (List.mem_append.2 (.inr (List.mem_append.2 (.inl hb'))))
                have l1' := l2.mono (w' := w') (β' := β') hI hk2 hβ'
                have l2' := hly.mono (w' := w') (β' := β') hI (fun b' hb' => hk2 b' (hb'.elim .inl fun hb' => by cases hb')) hβ'
                have := RL.append l1' l2'
                rwa [List.append_nil] at this
              · intro I' β' hd'
                have := R.rs (w := w') (I := I') (off := 0) (len := xs.length + ys.length) (cap := cap) hd' (by simpa using hfit) (by omega)
                rw [show len + ny = xs.length + ys.length by omega]
                simpa using this
              · have : inB S e := hd
                rw [hee] at this
                simpa [inB] using this
        · cases hxr'
      · cases he
    · cases he
  · simp at he
    obtain ⟨_, bx, hv⟩ := hx.snil_inv
    simp [rowsOf] at hxr
    obtain ⟨rfl, rfl⟩ := hxr
    have hh1 : (S.app e).h [d] = some (some ([] ++ ys)) := by rw [← he]; simp [St.app, put, hdst, updH, upd]
    have hh2 : ∀ j, j ≠ [d] → j ≠ [d] → (S.app e).h j = S.h j := fun j h1 _ => by rw [← he]; simp [St.app, put, hdst, updH, upd, h1]
    have hee : e = { sw := [(d, .rs [d] 0 (([] : Rows).length + ys.length))], rd := [] ++ i2, wr := e.wr } := by rw [← he]; simp [put, hdst]
    by_cases hy0 : ys = []
    · exact idle [d] _ bx hv rfl hy0 (.inl rfl) hh1 hh2 (fun h => absurd rfl h) hee rfl
    · have : 0 < ys.length := List.length_pos_iff.2 hy0
      exact grow [d] _ bx 0 0 [] [] hv rfl (by omega) (by simp) (.inl rfl) .nil (fun r hr => by cases hr) List.nodup_nil (fun b hb => by cases hb) (.inl rfl) hh1 hh2 (fun h => absurd rfl h) hee rfl
  · cases he
theorem AppRun.ofSrc {t t2 ty el : TypeId} {i : TypeInfo} {zv yv : Value} {ny : Nat} {vy : List Value} (hu : C.P.underlying t = some (.slice el)) (hi : C.P.info? el = some i) (hzv : i.zero = some zv) (hsrc : Src C.P i.size t2 yv ny vy w) : AppRun C.P w t t2 ty el i zv yv ny vy where
  idle := fun hn bx => by
    subst hn
    have hvy0 : vy = [] := List.length_eq_zero_iff.1 (by simpa using hsrc.newsLen)
    subst hvy0
    rcases hsrc.kind with ⟨e', hk'⟩ | hk' <;>
      (cases bx <;> simp [Builtin.append_, run_und hu, run_und (C := C) hk', sizeOf, typeInfo, hi, hsrc.len, hsrc.cells, storeCells])
  room := fun b p len cap w' hg hst => by
    rcases hsrc.kind with ⟨e', hk'⟩ | hk' <;>
      simp [Builtin.append_, run_und hu, run_und (C := C) hk', sizeOf, typeInfo, hi, hsrc.len, hsrc.cells, hg, add_none, hst]
  grow := fun bx n cap vs hold hg h63 hfit => run_append_grow_src (P := C.P) w t t2 ty el i zv hu hi hzv bx n cap vs hold yv ny vy hsrc hg h63 hfit
theorem AppRun.zeros {t t2 ty el : TypeId} {i : TypeInfo} {zv : Value} {k kk : IntKind} {N : Int} (hu : C.P.underlying t = some (.slice el)) (hk : C.P.underlying t2 = some (.int k)) (hi : C.P.info? el = some i) (hzv : i.zero = some zv) (hzsz : zv.cells.size = i.size) (h0 : 0 < i.size) (hby : i.bytes ≤ 4096) (hN : 0 ≤ N ∧ N ≤ 4294967296) :
    AppRun C.P w t t2 ty el i zv (.int kk N) N.toNat (Builtin.zeroCells zv.cells N.toNat).toList := by
  have hw1 : IntKind.i64.wrap N = N := IntWalk.i64_in N (by omega)
  have hb1 : ¬ (N * (i.bytes : Int) > 2 ^ 48) := by
    have : N * (i.bytes : Int) ≤ 4294967296 * 4096 := Int.mul_le_mul (by omega) (by omega) (by omega) (by omega)
    omega
  have hl0 : ¬ (N < 0) := by omega
  have happ : ∀ w' : World, (if N.toNat * i.size = 0 then pure #[] else do pure (Builtin.zeroCells (← zeroValue el).cells N.toNat) : Sem (Array Value)).run C.P w' = .ok (Builtin.zeroCells zv.cells N.toNat) w' := fun w' => by
    by_cases hz : N.toNat * i.size = 0
    · rw [if_pos hz]
      have : N.toNat = 0 := by
        rcases Nat.mul_eq_zero.1 hz with h | h
        · exact h
        · omega
      rw [this]; simp [Builtin.zeroCells]
    · rw [if_neg hz]
      simp [zeroValue, typeInfo, hi, hzv]
  have hz2 : (underlying t2).run C.P w = .ok (.int k) w := run_und hk
  refine ⟨fun hn bx => ?_, fun b p len cap w' hg hst => ?_, fun bx n cap vs hold hg h63 hfit => ?_⟩
  · have hN0 : N = 0 := by omega
    subst hN0
    cases bx <;> simp [Builtin.append_, run_und hu, run_und (C := C) hk, sizeOf, typeInfo, hi, asInt, asIntOf, storeCells, hw1, Builtin.zeroCells]
  · have hb2 : ¬ (281474976710656 < N * (i.bytes : Int)) := by omega
    by_cases hz : N.toNat * i.size = 0
    · have hn0 : N.toNat = 0 := by
        rcases Nat.mul_eq_zero.1 hz with h | h
        · exact h
        · omega
      rw [hn0] at hst hg
      have hst' : w' = w := by
        simpa [Builtin.zeroCells, storeCells] using hst.symm
      subst hst'
      have hN0 : N = 0 := by omega
      subst hN0
      simp [Builtin.append_, run_und hu, run_und (C := C) hk, sizeOf, typeInfo, hi, asInt, asIntOf, hw1, storeCells]
      omega
    · simp [Builtin.append_, run_und hu, run_und (C := C) hk, sizeOf, typeInfo, zeroValue, hi, hzv, asInt, asIntOf, hw1, hl0, hb2, hg, hz, add_none, hst]
  · have hn : ¬ (n + N.toNat ≤ cap) := by omega
    have h63' : ¬ (9223372036854775807 < ((n : Int) + (N.toNat : Int))) := by omega
    have h48' : ¬ (281474976710656 < Builtin.nextslicecap (n + N.toNat) cap * i.bytes) := by omega
    have hb2 : ¬ (281474976710656 < N * (i.bytes : Int)) := by omega
    have h63'' : ¬ (9223372036854775807 < (n : Int) + max N 0) := by omega
    by_cases hz : N.toNat * i.size = 0
    · have hn0 : N.toNat = 0 := by
        rcases Nat.mul_eq_zero.1 hz with h | h
        · exact h
        · omega
      have hN0 : N = 0 := by omega
      subst hN0
      have hn' : ¬ (n ≤ cap) := by simpa using hn
      have h48a : ¬ (281474976710656 < Builtin.nextslicecap n cap * i.bytes) := by simpa using h48'
      have h63a : ¬ (9223372036854775807 < (n : Int)) := by omega
      simp [Builtin.append_, run_und hu, run_und (C := C) hk, sizeOf, typeInfo, zeroValue, hi, hzv, asInt, asIntOf, hw1, hn', Question.forced, hold, newRow, grownCap, Builtin.zeroCells, h48a, h63a]
    · simp [Builtin.append_, run_und hu, run_und (C := C) hk, sizeOf, typeInfo, zeroValue, hi, hzv, asInt, asIntOf, hw1, hl0, hb2, hn, h63', h63'', h48', Question.forced, hold, newRow, grownCap, hz]
      congr 2
      apply Array.ext'
      simp [List.append_assoc]
theorem ok_appendZ (h : SR C E w S a β F) {o : Oper} {c : Call} (ho : o.op = .call c) (hb : c.callee = .builtin .append) {xv yv : AV} {t : TypeId} {k : IntKind} (hargs : (c.args.toList.map fun x => un true (S.get C x)) = [xv, yv]) (ht : c.argTypes[0]? = some t) (hu2 : (c.argTypes[1]?).bind C.P.underlying = some (.int k)) {e : Eff}
    (he : appendZ C S o t xv yv = some e) (hd : inB S e) (hn : ∀ a' w', Nx C E (S.app e) a' w' → next a' w') : o.wp C.P a w next Q := by
  match hal : c.args.toList, hargs with
  | [x, y], hargs =>
    simp at hargs
    obtain ⟨hxv, hyv⟩ := hargs
    have hx := h.getU x
    have hy := h.getU y
    rw [hxv] at hx
    rw [hyv] at hy
    simp only [Option.bind_eq_some_iff] at hu2
    obtain ⟨t2, ht2, hu2⟩ := hu2
    unfold appendZ at he
    split at he
    · rename_i el d N hu hdst hN
      obtain ⟨kk, hyval⟩ := asInt_inv hy hN
      split at he
      · rename_i i z xs i1 hi hz hxr
        split at he
        · rename_i hcond
          simp only [Bool.and_eq_true, decide_eq_true_eq] at hcond
          obtain ⟨⟨⟨⟨⟨⟨⟨hNb, hzl⟩, hsz0⟩, hby⟩, hzf⟩, hmax⟩, hzc⟩, hfr⟩ := hcond
          obtain ⟨zv, hzv, hzsz⟩ : ∃ zv, i.zero = some zv ∧ zv.cells.size = i.size := by
            unfold zeroFits at hzf
            split at hzf
            · rename_i z hz'; exact ⟨z, hz', by simpa using hzf⟩
            · cases hzf
          have hzm : ofMems zv.cells.toList = some z := by
            unfold zeroM at hz
            rw [hi] at hz
            simp only [Option.bind_some, hzv] at hz
            exact hz
          have hzr := ofMems_sound (w := w) (I := Im E w F) (β := β) hzm
          have hmade := made_rows zv.cells N.toNat (by omega)
          have hcells : (Builtin.zeroCells zv.cells N.toNat).toList = (List.replicate N.toNat zv.cells.toList).flatten := hmade
          have hly : RL w (Im E w F) β [] (Builtin.zeroCells zv.cells N.toNat).toList (List.replicate N.toNat z).flatten := by
            rw [hcells]; exact RL.flatten hzr _
          have hrc : rowCell (List.replicate N.toNat z) = true := by
            unfold rowCell
            rw [List.all_eq_true]
            intro r hr
            rw [(List.mem_replicate.1 hr).2]; exact hzc
          obtain ⟨_, hply⟩ := plain_cells hly (rowCell_flat hrc)
          refine app_core h hdst hzsz hby (by simpa using hmax) hfr (fun r hr => by rw [(List.mem_replicate.1 hr).2]; exact hzl) hx hxr (ny := N.toNat) (by simp) hly (by simp [Builtin.zeroCells, hzsz]) hply (el := el) (t := t) (t2 := t2) (yv := a.eval y) (fun hr => ?_) ?_ he hd hn
          · rw [resolve_builtin ho hb]
            refine run_v ?_
            have e1 : c.args.map a.eval = #[a.eval x, a.eval y] := by rw [map_args hal]; rfl
            rw [e1]
            have e2 : ∀ args, Builtin.append_ c.argTypes o.type args = Builtin.append_ #[t, t2] o.type args := fun args => by
              unfold Builtin.append_
              simp [ht, ht2]
            show (Builtin.append_ c.argTypes o.type #[a.eval x, a.eval y]).run C.P w = _
            rw [e2]; exact hr
          · rw [hyval]
            exact AppRun.zeros hu hu2 hi hzv hzsz hsz0 hby hNb
        · cases he
      · cases he
    · cases he
theorem ok_append (h : SR C E w S a β F) {o : Oper} {c : Call} (ho : o.op = .call c) (hb : c.callee = .builtin .append) {e : Eff}
    (he : evAppend C S o c.argTypes (c.args.toList.map fun x => un true (S.get C x)) = some e) (hd : inB S e) (hn : ∀ a' w', Nx C E (S.app e) a' w' → next a' w') : o.wp C.P a w next Q := by
  unfold evAppend at he
  split at he
  · rename_i xv yv t t2e hargs ht hu2
    match hal : c.args.toList, hargs with
    | [x, y], hargs =>
      simp at hargs
      obtain ⟨hxv, hyv⟩ := hargs
      have hx := h.getU x
      have hy := h.getU y
      rw [hxv] at hx
      rw [hyv] at hy
      simp only [Option.bind_eq_some_iff] at hu2
      obtain ⟨t2, ht2, hu2⟩ := hu2
      unfold appendC at he
      split at he
      · rename_i el d hu hdst
        split at he
        · rename_i i xs i1 ys i2 hi hxr hyr
          split at he
          · rename_i hcond
            simp only [Bool.and_eq_true, decide_eq_true_eq] at hcond
            obtain ⟨⟨⟨⟨⟨⟨hysz, hsz0⟩, hby⟩, hz⟩, hmax⟩, hrc⟩, hfr⟩ := hcond
            have hysz := all_len hysz
            obtain ⟨zv, hzv, hzsz⟩ : ∃ zv, i.zero = some zv ∧ zv.cells.size = i.size := by
              unfold zeroFits at hz
              split at hz
              · rename_i z hz'; exact ⟨z, hz', by simpa using hz⟩
              · cases hz
            obtain ⟨bay, ny, capy, vy, fy, hvy, hny, hly, hvyl, hcy⟩ := rows_sound h hy hyr hysz
            obtain ⟨hfy, hply⟩ := plain_cells hly (rowCell_flat hrc)
            subst hfy
            have hsrc := src_of (w := w) (cap := capy) hu2 hvyl hcy hply
            have hrunb : ∀ {v : Value} {w' : World}, (Builtin.append_ c.argTypes o.type #[a.eval x, a.eval y]).run C.P w = .ok v w' → (execOp a.eval o).run C.P w = .ok (.value v) w' := fun hr => by
              rw [resolve_builtin ho hb]
              refine run_v ?_
              have : c.args.map a.eval = #[a.eval x, a.eval y] := by rw [map_args hal]; rfl
              rw [this]; exact hr
            have happ : ∀ args, Builtin.append_ c.argTypes o.type args = Builtin.append_ #[t, t2] o.type args := fun args => by
              unfold Builtin.append_
              simp [ht, ht2]
            exact app_core h hdst hzsz hby hmax hfr hysz hx hxr hny hly hvyl hply (el := el) (t := t) (t2 := t2) (yv := a.eval y) (fun hr => hrunb (by rw [happ]; exact hr)) (AppRun.ofSrc hu hi hzv (by rw [hvy]; exact hsrc)) he hd hn
          · cases he
        · cases he
      · cases he
  · rename_i xv yv t k hargs ht hu2
    exact ok_appendZ h ho hb hargs ht hu2 he hd hn
  · cases he
theorem R.imm_of_noβ {I : Nat → Prop} {f : List Nat} {v : Value} {a : AV} (h : R w I β f v a) (hi : imm a = true) : f = [] := h.imm_fp hi
theorem immL_flatten : ∀ {rows : Rows}, immR rows = true → immL rows.flatten = true
  | [], _ => rfl
  | r :: rows, h => by
    simp only [immR, List.all_cons, Bool.and_eq_true] at h
    have ih := immL_flatten (rows := rows) (by simpa [immR] using h.2)
    have : ∀ {a b : List AV}, immL a = true → immL b = true → immL (a ++ b) = true := by
      intro a b ha hb
      induction a with
      | nil => exact hb
      | cons c a ih2 => simp only [immL, Bool.and_eq_true, List.cons_append] at ha ⊢; exact ⟨ha.1, ih2 ha.2⟩
    simpa using this h.1 ih
theorem SR.freeze (h : SR C E w S a β F) {id : Id} {rows : Rows} {d : Nat} (hid : S.h id = some (some rows)) (hi : immR rows = true) (hs : S.t d = .rs id 0 rows.length) : ∃ F', SR C E w ⟨S.n, upd S.t d (.sl rows), upd S.h id (some none)⟩ a β F' := by
  have hobj := h.obj id rows hid
  let F' : Id → List Nat := fun i => if i = id then [] else F i
  have hsub : ∀ i b, b ∈ F' i → b ∈ F i := fun i b hb => by
    by_cases e : i = id
    · simp [F', e] at hb
    · simpa [F', e] using hb
  have hI : ∀ b, Im E w F b → Im E w F' b := fun b hb => ⟨hb.1, hb.2.1, fun i hm => hb.2.2 i (hsub i b hm)⟩
  have hup : ∀ {β' : Id → Option Loc} {f : List Nat} {v : Value} {x : AV}, R w (Im E w F) β' f v x → R w (Im E w F') β' f v x := fun hr => hr.mono hI (fun _ _ => rfl) (fun _ _ h => h)
  refine ⟨F', ?_⟩
  refine { n := h.n, df := h.df.mono (fun b hb => ⟨hI b hb.1, hb.2⟩) (fun _ _ => rfl), slot := fun t => ?_, obj := fun i r hr => ?_, dead := fun i hi' => ?_, nd := fun i => ?_, dj := fun i j b hb hb' => h.dj i j b (hsub i b hb) (hsub j b hb'), dom := fun i hi' => ?_, lt := fun i b hb => h.lt i b (hsub i b hb), kept := h.kept, glob := fun g cs hg => hup (h.glob g cs hg) }
  · by_cases e : t = d
    · subst e
      have hv := h.slot t
      rw [hs] at hv
      simp only [upd, if_true]
      obtain ⟨_, hv2⟩ := hv.rs_inv
      clear hv
      rcases hv2 with ⟨ad, l, h1, hv, hb⟩ | ⟨b, o, sz, n, cap, hb, hfit, hle, hv⟩
      · have : rows = [] := List.length_eq_zero_iff.1 h1
        subst this
        rw [hv]; exact .sl0
      · rcases hobj with ⟨h1, _, _⟩ | ⟨b', h1, _⟩ | ⟨b', o', sz', n', vs, fps, hb', hfp, hB, ⟨hne, hrows⟩, hfit', hcl, hl⟩
        · rw [h1] at hb; cases hb
        · rw [h1] at hb; cases hb
        · rw [hb'] at hb
          simp only [Option.some.injEq, Loc.blk.injEq] at hb
          obtain ⟨rfl, rfl, rfl, rfl⟩ := hb
          have hl0 : RL w (Im E w F) noB fps vs rows.flatten := R.imm_noB hl (by simpa [imm] using immL_flatten hi)
          have hf0 : fps = [] := R.imm_fp hl (by simpa [imm] using immL_flatten hi)
          subst hf0
          have hbF : b' ∈ F id := by rw [hfp]; exact List.mem_cons_self ..
          have hIb : Im E w F' b' := ⟨(h.lt id b' hbF).2.elim (fun h => .inr (.inl h)) (fun h => .inr (.inr h)), (h.lt id b' hbF).1, fun i hm => by
            by_cases e : i = id
            · simp [F', e] at hm
            · exact e (h.dj i id b' (hsub i b' hm) hbF)⟩
          rw [hv, Nat.zero_mul, Nat.add_zero]
          exact .sl hrows hIb hcl hle (hup hl0)
    · simp only [upd, if_neg e]
      exact hup (h.slot t)
  · by_cases e : i = id
    · subst e; simp [upd] at hr
    · simp only [upd, if_neg e] at hr
      have := (h.obj i r hr).mono (w' := w) (I' := Im E w F') (β' := β) hI (fun _ _ => rfl) (fun _ _ h => h)
      simpa [F', e] using this
  · by_cases e : i = id
    · simp [F', e]
    · simp only [F', if_neg e]
      refine h.dead i fun r hr => hi' r ?_
      simp [upd, e, hr]
  · by_cases e : i = id
    · simp [F', e]
    · simpa [F', e] using h.nd i
  · by_cases e : i = id
    · subst e; simp [upd] at hi'
    · simp only [upd, if_neg e] at hi'; exact h.dom i hi'
theorem upd_upd {α β' : Type} [DecidableEq α] (f : α → β') (k : α) (u v : β') : upd (upd f k u) k v = upd f k v := by
  funext j; by_cases e : j = k <;> simp [upd, e]
theorem upd_comm {α β' : Type} [DecidableEq α] (f : α → β') {k l : α} (hne : k ≠ l) (u v : β') : upd (upd f k u) l v = upd (upd f l v) k u := by
  funext j
  by_cases e : j = k
  · subst e; simp [upd, hne]
  · by_cases e2 : j = l
    · subst e2; simp [upd, e]
    · simp [upd, e, e2]
theorem evAppend_shape {o : Oper} {ts : Array TypeId} {xs : List AV} {e : Eff} (h : evAppend C S o ts xs = some e) : ∃ d rows rd, o.dst = some d ∧ S.h [d] = none ∧ ((∃ id, (∃ r, S.h id = some (some r)) ∧ e = put o (.rs [d] 0 rows.length) rd [(id, none), ([d], some rows)]) ∨ e = put o (.rs [d] 0 rows.length) rd [([d], some rows)]) := by
  have tail : ∀ {d m : Nat} {x : AV} {xs ys : Rows} {i1 i2 : List Id}, o.dst = some d → (S.h [d]).isNone = true → appTail S o d m x xs ys i1 i2 = some e → ∃ d rows rd, o.dst = some d ∧ S.h [d] = none ∧ ((∃ id, (∃ r, S.h id = some (some r)) ∧ e = put o (.rs [d] 0 rows.length) rd [(id, none), ([d], some rows)]) ∨ e = put o (.rs [d] 0 rows.length) rd [([d], some rows)]) := by
    intro d m x xs ys i1 i2 hd hn h
    unfold appTail at h
    split at h
    · split at h
      · rename_i hid
        split at h
        · simp only [Option.some.injEq] at h; subst h
          exact ⟨d, xs ++ ys, _, hd, fresh_of hn, .inl ⟨_, ⟨_, hid⟩, by rw [List.length_append]⟩⟩
        · cases h
      · cases h
    · simp only [Option.some.injEq] at h; subst h
      exact ⟨d, xs ++ ys, _, hd, fresh_of hn, .inr (by rw [List.length_append])⟩
    · cases h
  unfold evAppend at h
  split at h
  · unfold appendC at h
    split at h
    · rename_i hd
      split at h
      · split at h
        · rename_i hc
          simp only [Bool.and_eq_true] at hc
          exact tail hd hc.2 h
        · cases h
      · cases h
    · cases h
  · unfold appendZ at h
    split at h
    · rename_i hd _
      split at h
      · split at h
        · rename_i hc
          simp only [Bool.and_eq_true] at hc
          exact tail hd hc.2 h
        · cases h
      · cases h
    · cases h
  · cases h
theorem ok_appendF (h : SR C E w S a β F) {o : Oper} {f : FuncId} {c : Call} (ho : o.op = .call c) (hb : c.callee = .builtin .append) {e : Eff}
    (he : (evAppend C S o c.argTypes (c.args.toList.map fun x => un true (S.get C x))).bind (frzE C f o) = some e) (hd : inB S e) (hn : ∀ a' w', Nx C E (S.app e) a' w' → next a' w') : o.wp C.P a w next Q := by
  simp only [Option.bind_eq_some_iff] at he
  obtain ⟨e1, h1, h2⟩ := he
  obtain ⟨d, rows, rd, hdst, hnone, hsh⟩ := evAppend_shape h1
  unfold frzE at h2
  split at h2
  · rcases hsh with ⟨id, ⟨r, hid⟩, rfl⟩ | rfl
    · simp only [hdst, put] at h2
      split at h2
      · rename_i hc
        simp only [Option.some.injEq] at h2; subst h2
        refine ok_append h ho hb h1 (by simpa [inB, put, hdst] using hd) fun a' w' ⟨β', F', hS⟩ => hn a' w' ?_
        have hne : id ≠ [d] := fun e => by rw [e, hnone] at hid; cases hid
        obtain ⟨F2, hS2⟩ := hS.freeze (id := [d]) (rows := rows) (d := d) (by simp [St.app, put, hdst, updH, upd, hne.symm]) hc.2 (by simp [St.app, put, hdst, updS, upd])
        refine ⟨β', F2, ?_⟩
        simp only [St.app, put, hdst, updS, updH] at hS2 ⊢
        rw [upd_upd, upd_comm _ hne, upd_upd] at hS2
        exact hS2
      · cases h2
    · simp only [hdst, put] at h2
      split at h2
      · rename_i hc
        simp only [Option.some.injEq] at h2; subst h2
        refine ok_append h ho hb h1 (by simpa [inB, put, hdst] using hd) fun a' w' ⟨β', F', hS⟩ => hn a' w' ?_
        obtain ⟨F2, hS2⟩ := hS.freeze (id := [d]) (rows := rows) (d := d) (by simp [St.app, put, hdst, updH, upd]) hc.2 (by simp [St.app, put, hdst, updS, upd])
        refine ⟨β', F2, ?_⟩
        simp only [St.app, put, hdst, updS, updH] at hS2 ⊢
        rw [upd_upd, upd_upd] at hS2
        exact hS2
      · cases h2
  · simp only [Option.some.injEq] at h2; subst h2
    exact ok_append h ho hb h1 hd hn
end
end Go.Ab
