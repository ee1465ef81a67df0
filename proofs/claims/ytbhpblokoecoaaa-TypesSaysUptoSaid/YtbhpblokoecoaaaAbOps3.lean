/-
  MORE OPERATIONS: what is indexed, sliced, laid anew, loaded.
-/
import Derived.Test.YtbhpblokoecoaaaAbOps2
namespace Go.Ab
open Go
section
variable {C : Cx} {E : Env} {w : World} {S : St} {a : Act} {β : Id → Option Loc} {F : Id → List Nat}
variable {next : Act → World → Prop} {Q : Exit → Act → World → Prop}
theorem RL.fnil {I : Nat → Prop} {f1 f2 f3 : List Nat} {x : List Nat} (h : x = f1 ++ (f2 ++ f3)) (hx : x = []) : f1 = [] ∧ f2 = [] ∧ f3 = [] := by
  have _ := I
  rw [hx] at h
  have := List.append_eq_nil_iff.1 h.symm
  exact ⟨this.1, List.append_eq_nil_iff.1 this.2⟩
theorem run_indexAt {t e : TypeId} {k : IntKind} {i : Int} {b p len cap n : Nat} (hu : C.P.underlying t = some (.slice e)) (hn : sizeC C e = some n) (h0 : 0 ≤ i) (h1 : i < len) :
    (Instr.indexAt t (.slice (some ⟨b, p, none⟩) len cap) (.int k i)).run C.P w = .ok (.pointer (some ⟨b, p + i.toNat * n, none⟩)) w := by
  simp [Instr.indexAt, asIntOf, run_und hu, run_size hn, h0, h1, add_none]
theorem run_indexAtA {t e : TypeId} {k : IntKind} {i : Int} {b p len n : Nat} (hu : C.P.underlying t = some (.array len e)) (hn : sizeC C e = some n) (h0 : 0 ≤ i) (h1 : i < len) :
    (Instr.indexAt t (.pointer (some ⟨b, p, none⟩)) (.int k i)).run C.P w = .ok (.pointer (some ⟨b, p + i.toNat * n, none⟩)) w := by
  simp [Instr.indexAt, asIntOf, Instr.sureAddr, run_und hu, run_size hn, h0, h1, add_none]
theorem ok_indexAddr (h : SR C E w S a β F) {o : Oper} {t : TypeId} {x i : Operand} (ho : o.op = .indexAddr t x i) {e : Eff}
    (he : evIndexAddr C S o t (un true (S.get C x)) (intOfV (un true (S.get C i))) = some e) (hd : inB S e) (hn : ∀ a' w', Nx C E (S.app e) a' w' → next a' w') : o.wp C.P a w next Q := by
  have hx := h.getU x
  have hi := h.getU i
  generalize un true (S.get C x) = xv at *
  generalize hiv : intOfV (un true (S.get C i)) = iv at he
  have hex : execOp a.eval o = (do pure (Next.value (← Instr.indexAt t (a.eval x) (a.eval i)))) := by simp [execOp, ho]
  unfold evIndexAddr at he
  split at he
  · rename_i el i' hu
    obtain ⟨k, hk⟩ := asInt_inv hi hiv
    split at he
    · rename_i n rows hs
      split at he
      · rename_i h0
        simp only [Option.bind_eq_some_iff] at he
        obtain ⟨r, hr, he⟩ := he
        split at he
        · rename_i hrn
          have := ret_inv he; subst this
          obtain ⟨_, hh⟩ := hx.sl_inv
          rcases hh with ⟨_, _, rfl, _⟩ | ⟨b, p, sz, cap, vs, hrows, hI, hcl, hl, hcap, hv⟩
          · simp at hr
          · have _ := hcap
            have hlt : i'.toNat < rows.length := (rows_split hr).2
            have hszn : sz = n := by rw [← hrows r (List.mem_of_getElem? hr)]; exact hrn.1
            subst hszn
            obtain ⟨g1, g2, _⟩ := flat_part (off := 0) (n := sz) hr hrows (by omega)
            obtain ⟨f1, f2, f3, e0, _, h2, _⟩ := hl.split3 (i'.toNat * sz) sz (by omega)
            have hf := RL.fnil (I := fun _ => True) e0 rfl
            rw [hf.2.1] at h2
            have e4 : (rows.flatten.drop (i'.toNat * sz)).take sz = r := by
              have := g2
              simp only [Nat.add_zero, List.drop_zero] at this
              rw [this, List.take_of_length_le (by omega)]
            rw [e4] at h2
            exact ok_val h (v := .pointer (some ⟨b, p + i'.toNat * sz, none⟩)) hd hex (by rw [hv, hk]; exact run_indexAt hu hs h0 (by omega)) (.vp hI ((hcl.drop _).take _) h2) hn
        · cases he
      · cases he
    · rename_i n id off len hs
      split at he
      · rename_i h0
        split at he
        · rename_i rows hh
          simp only [Option.bind_eq_some_iff] at he
          obtain ⟨r, hr, he⟩ := he
          split at he
          · rename_i hrn
            simp at he; subst he
            obtain ⟨_, hh'⟩ := hx.rs_inv
            rcases hh' with ⟨_, l, h1, _, _⟩ | ⟨b, p, sz, n', cap, hb, hfit, hle, hv⟩
            · omega
            · rcases h.obj id rows hh with ⟨h1, _, _⟩ | ⟨_, h1, _⟩ | ⟨b', o', sz', n'', vs, fps, hb', _, _, ⟨_, hrows⟩, _, _, _⟩
              · rw [h1] at hb; cases hb
              · rw [h1] at hb; cases hb
              · rw [hb'] at hb
                simp at hb
                obtain ⟨rfl, rfl, rfl, rfl⟩ := hb
                have hszn : sz' = n := by rw [← hrows r (List.mem_of_getElem? hr)]; exact hrn
                subst hszn
                refine ok_val h (v := .pointer (some ⟨b', o' + off * sz' + i'.toNat * sz', none⟩)) hd hex (by rw [hv, hk]; exact run_indexAt hu hs h0.1 (by omega)) ?_ hn
                have := R.mp (w := w) (I := Im E w F) (row := off + i'.toNat) (off := 0) hb'
                rwa [Nat.add_mul, Nat.add_zero, ← Nat.add_assoc] at this
          · cases he
        · cases he
      · cases he
    · cases he
  · rename_i len el i' hu
    obtain ⟨k, hk⟩ := asInt_inv hi hiv
    split at he
    · rename_i n cells hs
      split at he
      · rename_i h0
        have := ret_inv he; subst this
        obtain ⟨_, b, p, vs, hv, hI, hcl, hl⟩ := hx.vp_inv
        obtain ⟨f1, f2, f3, e0, _, _, h3⟩ := hl.split3 (i'.toNat * n) 0 (by omega)
        have hf := RL.fnil (I := fun _ => True) e0 rfl
        rw [hf.2.2] at h3
        exact ok_val h hd hex (by rw [hv, hk]; exact run_indexAtA hu hs h0.1 h0.2.1) (.vp hI (hcl.drop _) (by simpa using h3)) hn
      · cases he
    · rename_i n id row off hs
      split at he
      · rename_i h0
        have := ret_inv he; subst this
        obtain ⟨_, b, p, sz, n', hb, hv⟩ := hx.mp_inv
        refine ok_val h hd hex (by rw [hv, hk]; exact run_indexAtA hu hs h0.1 h0.2) ?_ hn
        rw [Nat.add_assoc (p + row * sz)]
        exact .mp hb
      · cases he
    · cases he
  · cases he
theorem ok_index (h : SR C E w S a β F) {o : Oper} {t : TypeId} {x i : Operand} (ho : o.op = .index t x i) {e : Eff}
    (he : evIndex C o t (un true (S.get C x)) (intOfV (un true (S.get C i))) = some e) (hd : inB S e) (hn : ∀ a' w', Nx C E (S.app e) a' w' → next a' w') : o.wp C.P a w next Q := by
  have hx := h.getU x
  have hi := h.getU i
  generalize un true (S.get C x) = xv at *
  generalize hiv : intOfV (un true (S.get C i)) = iv at he
  have hex : execOp a.eval o = (do pure (Next.value (← Instr.index t (a.eval x) (a.eval i)))) := by simp [execOp, ho]
  unfold evIndex at he
  split at he
  · rename_i i' s hu
    obtain ⟨k, hk⟩ := asInt_inv hi hiv
    split at he
    · rename_i h0
      simp only [Option.bind_eq_some_iff] at he
      obtain ⟨b, hb, he⟩ := he
      have := ret_inv he; subst this
      obtain ⟨_, hv⟩ := hx.val_inv
      refine ok_val h hd hex ?_ (.val rfl) hn
      rw [hv, hk]
      unfold Instr.index
      simp only [asIntOf]
      rw [Sem.run_bind, Sem.run_pure, Result.andThen_ok]
      simp only
      rw [Sem.run_bind, run_und hu, Result.andThen_ok]
      simp only [h0, if_true, hb]
      rfl
    · cases he
  · rename_i len el i' cells hu
    obtain ⟨k, hk⟩ := asInt_inv hi hiv
    split at he
    · rename_i n b hs hb
      split at he
      · rename_i h0
        simp only [Option.map_eq_some_iff] at he
        obtain ⟨y, hy, rfl⟩ := he
        obtain ⟨vs, hv, hl⟩ := hx.agg_inv
        have hlen : i'.toNat * n + n ≤ cells.length := by have := h0.2.2; rw [Nat.add_mul] at this; omega
        obtain ⟨f1, f2, f3, e0, _, h2, _⟩ := hl.split3 (i'.toNat * n) n hlen
        have hf := RL.fnil (I := fun _ => True) e0 rfl
        rw [hf.2.1] at h2
        obtain ⟨u, hr, hu1, hu2⟩ := mkV_sound h2 hy
        refine ok_val h (v := u) hd hex ?_ hr hn
        rw [hv, hk]
        have hpart : (part el ⟨vs⟩ (i'.toNat * n)).run C.P w = .ok u w := by
          unfold part
          rw [Sem.run_bind, run_isA hb, Result.andThen_ok]
          cases b
          · have hu2 := hu2 rfl
            have : (⟨vs⟩ : Array Value)[i'.toNat * n]? = some u := by
              have h3 : ((vs.drop (i'.toNat * n)).take n)[0]? = some u := by rw [hu2]; rfl
              rw [List.getElem?_take] at h3
              split at h3
              · simpa using h3
              · cases h3
            simp only [Bool.false_eq_true, if_false]
            rw [this]; rfl
          · have hu1 := hu1 rfl
            subst hu1
            simp only [if_true]
            rw [Sem.run_bind, run_size hs, Result.andThen_ok]
            have e3 : (⟨vs⟩ : Array Value).extract (i'.toNat * n) (i'.toNat * n + n) = ⟨(vs.drop (i'.toNat * n)).take n⟩ := by
              apply Array.ext'
              simp
            rw [e3]; rfl
        unfold Instr.index
        simp only [asIntOf]
        rw [Sem.run_bind, Sem.run_pure, Result.andThen_ok]
        simp only
        rw [Sem.run_bind, run_und hu, Result.andThen_ok]
        simp only
        rw [if_pos ⟨h0.1, h0.2.1⟩, Sem.run_bind, run_size hs, Result.andThen_ok]
        exact hpart
      · cases he
    · cases he
  · cases he
theorem lenS_inv {v : Value} {x : AV} {n : Nat} {f : List Nat} {I : Nat → Prop} (h : R w I β f v x) (hl : lenS x = some n) : ∃ a cap, v = .slice a n cap := by
  unfold lenS at hl
  split at hl
  · simp at hl; subst hl
    rcases h.sl_inv.2 with ⟨a, cap, rfl, hv⟩ | ⟨b, o, sz, cap, vs, _, _, _, _, _, hv⟩
    · exact ⟨_, _, hv⟩
    · exact ⟨_, _, hv⟩
  · simp at hl; subst hl
    rcases h.rs_inv.2 with ⟨a, l, h1, hv, _⟩ | ⟨b, o, sz, m, cap, _, _, _, hv⟩
    · exact ⟨_, _, by rw [h1]; exact hv⟩
    · exact ⟨_, _, hv⟩
  · simp at hl; subst hl
    obtain ⟨_, a, hv⟩ := h.snil_inv
    exact ⟨_, _, hv⟩
  · cases hl
theorem resolve_builtin {o : Oper} {c : Call} {b : Builtin} (ho : o.op = .call c) (hb : c.callee = .builtin b) :
    (execOp a.eval o).run C.P w = (builtin b c.argTypes o.type (c.args.map fun | .const _ => true | _ => false) (c.args.map a.eval)).run C.P w := by
  simp only [execOp, ho, resolve, hb]
  rfl
theorem map_args {xs : Array Operand} {l : List Operand} (h : xs.toList = l) : xs.map a.eval = ⟨l.map a.eval⟩ := by
  apply Array.ext'; simp [h]
theorem ok_len (h : SR C E w S a β F) {o : Oper} {c : Call} (ho : o.op = .call c) (hb : c.callee = .builtin .len) {e : Eff}
    (he : evLen C o c.argTypes (c.args.toList.map fun x => un true (S.get C x)) = some e) (hd : inB S e) (hn : ∀ a' w', Nx C E (S.app e) a' w' → next a' w') : o.wp C.P a w next Q := by
  unfold evLen at he
  split at he
  · rename_i xv hxs
    match hl : c.args.toList, hxs with
    | [x], hxs =>
      simp at hxs
      have hx := h.getU x
      rw [hxs] at hx
      have ha : c.args.map a.eval = #[a.eval x] := by rw [map_args hl]; rfl
      split at he
      · rename_i d hu
        simp only [Option.bind_eq_some_iff] at hu
        obtain ⟨t, ht, hu⟩ := hu
        split at he
        · rename_i n hln
          have := ret_inv he; subst this
          refine wp_val (v := .int .i64 n) (w' := w) ?_ (hn _ _ ⟨β, F, h.val o [] (.val rfl) hd⟩)
          rw [resolve_builtin ho hb]
          refine run_v ?_
          rw [ha]
          unfold lenC at hln
          split at hln
          · simp at hln; subst hln
            rw [hx.val_inv.2]
            simp [Builtin.len_, ht, run_und hu, goInt]
          · obtain ⟨b, cap, hv⟩ := lenS_inv hx hln
            rw [hv]
            simp [Builtin.len_, ht, run_und hu, goInt]
          · cases hln
        · cases he
      · cases he
  · cases he
theorem ok_pureB (h : SR C E w S a β F) {o : Oper} {c : Call} {b : Builtin} (ho : o.op = .call c) (hb : c.callee = .builtin b) (s : Array Value → Sem Value)
    (hs : ∀ consts args, builtin b c.argTypes o.type consts args = (do pure (Next.value (← s args)))) {vs : List Value} (hv : toVals (c.args.toList.map fun x => un true (S.get C x)) = some vs) {e : Eff}
    (he : retV o (pureRun C.P (s ⟨vs⟩)) = some e) (hd : inB S e) (hn : ∀ a' w', Nx C E (S.app e) a' w' → next a' w') : o.wp C.P a w next Q := by
  obtain ⟨u, h1, h2, rfl⟩ := retV_inv he
  refine wp_val (v := u) (w' := w) ?_ (hn _ _ ⟨β, F, h.val o [] (.val h2) hd⟩)
  rw [resolve_builtin ho hb, hs]
  refine run_v ?_
  have tl : ∀ {l : List Operand} {zs : List Value}, toVals (l.map fun x => un true (S.get C x)) = some zs → l.map a.eval = zs := by
    intro l
    induction l with
    | nil => intro zs hz; simp [toVals] at hz; subst hz; rfl
    | cons x l ih =>
      intro zs hz
      have hx := h.getU x
      simp only [List.map_cons] at hz
      generalize un true (S.get C x) = xv at *
      cases xv with
      | val z =>
        simp only [toVals, Option.map_eq_some_iff] at hz
        obtain ⟨zs', h5, rfl⟩ := hz
        rw [List.map_cons, hx.val_inv.2, ih h5]
      | _ => simp [toVals] at hz
  have e1 : c.args.map a.eval = ⟨vs⟩ := by rw [map_args rfl, tl hv]
  rw [e1]
  exact pureRun_run h1
theorem bounds_inv {lo hi : Option (Option Int)} {len l r : Nat} (h : bounds lo hi len = some (l, r)) :
    l ≤ r ∧ r ≤ len ∧ (lo = none ∧ l = 0 ∨ lo = some (some (l : Int))) ∧ (hi = none ∧ r = len ∨ hi = some (some (r : Int))) := by
  unfold bounds at h
  split at h
  · rename_i l' r' h1 h2
    split at h
    · rename_i hc
      simp at h
      obtain ⟨rfl, rfl⟩ := h
      refine ⟨by omega, by omega, ?_, ?_⟩
      · cases lo with
        | none => simp at h1; left; exact ⟨rfl, by omega⟩
        | some x => simp at h1; right; rw [h1]; congr 2; omega
      · cases hi with
        | none => simp at h2; left; exact ⟨rfl, by omega⟩
        | some x => simp at h2; right; rw [h2]; congr 2; omega
    · cases h
  · cases h
theorem run_bounds {isS : Bool} {len cap : Nat} {lo hi : Option Operand} {l r : Nat} (h : SR C E w S a β F) (hc : len ≤ cap)
    (hb : bounds (lo.map fun y => intOfV (un true (S.get C y))) (hi.map fun y => intOfV (un true (S.get C y))) len = some (l, r)) :
    (Instr.sliceBounds isS len cap (lo.map a.eval) (hi.map a.eval) none).run C.P w = .ok (l, r, cap) w := by
  obtain ⟨h1, h2, h3, h4⟩ := bounds_inv hb
  have hlo : lo = none ∧ l = 0 ∨ ∃ k, lo.map a.eval = some (.int k l) := by
    rcases h3 with ⟨h3, h5⟩ | h3
    · cases lo with
      | none => exact .inl ⟨rfl, h5⟩
      | some x => simp at h3
    · cases lo with
      | none => simp at h3
      | some x =>
        simp at h3
        obtain ⟨k, hk⟩ := asInt_inv (h.getU x) h3
        exact .inr ⟨k, by simp [hk]⟩
  have hhi : hi = none ∧ r = len ∨ ∃ k, hi.map a.eval = some (.int k r) := by
    rcases h4 with ⟨h4, h5⟩ | h4
    · cases hi with
      | none => exact .inl ⟨rfl, h5⟩
      | some x => simp at h4
    · cases hi with
      | none => simp at h4
      | some x =>
        simp at h4
        obtain ⟨k, hk⟩ := asInt_inv (h.getU x) h4
        exact .inr ⟨k, by simp [hk]⟩
  rcases hlo with ⟨rfl, rfl⟩ | ⟨k, hk⟩ <;> rcases hhi with ⟨rfl, rfl⟩ | ⟨k', hk'⟩
  · simp [Instr.sliceBounds]
  · rw [hk']; simp [Instr.sliceBounds, Instr.sliceBound, asIntOf, show r ≤ cap by omega]
  · rw [hk]; simp [Instr.sliceBounds, Instr.sliceBound, asIntOf, h1]
  · rw [hk, hk']; simp [Instr.sliceBounds, Instr.sliceBound, asIntOf, h1, show r ≤ cap by omega]
theorem flat_drop {α : Type} {sz l r : Nat} : ∀ {rows : List (List α)}, (∀ x ∈ rows, x.length = sz) → ((rows.take r).drop l).flatten = (rows.flatten.take (r * sz)).drop (l * sz) := by
  intro rows hs
  have e1 : (rows.take r).flatten = rows.flatten.take (r * sz) := by
    rcases Nat.lt_or_ge r rows.length with hr | hr
    · have e : rows.flatten = (rows.take r).flatten ++ (rows.drop r).flatten := by rw [← List.flatten_append, List.take_append_drop]
      have hl : (rows.take r).flatten.length = r * sz := by
        rw [flat_len (sz := sz) fun x hx => hs x (List.mem_of_mem_take hx), List.length_take]; congr 1; omega
      rw [e, List.take_left' hl]
    · rw [List.take_of_length_le hr, List.take_of_length_le]
      rw [flat_len hs]; exact Nat.mul_le_mul_right _ hr
  have hs' : ∀ x ∈ rows.take r, x.length = sz := fun x hx => hs x (List.mem_of_mem_take hx)
  rw [← e1]
  generalize rows.take r = ys at *
  rcases Nat.lt_or_ge l ys.length with hr | hr
  · have e : ys.flatten = (ys.take l).flatten ++ (ys.drop l).flatten := by rw [← List.flatten_append, List.take_append_drop]
    have hl : (ys.take l).flatten.length = l * sz := by
      rw [flat_len (sz := sz) fun x hx => hs' x (List.mem_of_mem_take hx), List.length_take]; congr 1; omega
    rw [e, List.drop_left' hl]
  · rw [List.drop_of_length_le hr, List.drop_of_length_le]
    · rfl
    · rw [flat_len hs']; exact Nat.mul_le_mul_right _ hr
theorem all_len {rows : Rows} {sz : Nat} (h : rows.all (·.length == sz) = true) : ∀ r ∈ rows, r.length = sz := by
  intro r hr
  have := List.all_eq_true.1 h r hr
  simpa using this
theorem run_sliceAt_slice {t e : TypeId} {b : Option Addr} {len cap l r sz : Nat} {lo hi : Option Operand} (hu : C.P.underlying t = some (.slice e)) (hs : sizeC C e = some sz)
    (hb : (Instr.sliceBounds true len cap (lo.map a.eval) (hi.map a.eval) none).run C.P w = .ok (l, r, cap) w) :
    (Instr.sliceAt t (.slice b len cap) (lo.map a.eval) (hi.map a.eval) none).run C.P w = .ok (.slice (if cap = l then b else b.map (·.add (l * sz))) (r - l) (cap - l)) w := by
  simp [Instr.sliceAt, Instr.slice, run_und hu, hb, run_size hs]
theorem ok_slice (h : SR C E w S a β F) {o : Oper} {t : TypeId} {x : Operand} {lo hi : Option Operand} (ho : o.op = .slice t x lo hi none) {e : Eff}
    (he : evSlice C S o t (un true (S.get C x)) (lo.map fun y => intOfV (un true (S.get C y))) (hi.map fun y => intOfV (un true (S.get C y))) = some e) (hd : inB S e)
    (hn : ∀ a' w', Nx C E (S.app e) a' w' → next a' w') : o.wp C.P a w next Q := by
  have hx := h.getU x
  generalize un true (S.get C x) = xv at *
  have hex : execOp a.eval o = (do pure (Next.value (← Instr.sliceAt t (a.eval x) (lo.map a.eval) (hi.map a.eval) none))) := by simp [execOp, ho]
  unfold evSlice at he
  split at he
  · rename_i el hu
    split at he
    · rename_i rows sz hs
      simp only [Option.bind_eq_some_iff] at he
      obtain ⟨⟨l, r⟩, hb, he⟩ := he
      obtain ⟨b1, b2, _, _⟩ := bounds_inv hb
      split at he
      · rename_i hc
        have := ret_inv he; subst this
        rcases hx.sl_inv.2 with ⟨a0, cap, rfl, hv⟩ | ⟨b, p, sz', cap, vs, hrows, hI, hcl, hl, hcap, hv⟩
        · simp at b2; subst b2
          have : l = 0 := by omega
          subst this
          refine ok_val h hd hex (by rw [hv]; exact run_sliceAt_slice hu hs (run_bounds h (by simp) hb)) ?_ hn
          simpa using R.sl0
        · have hrun := run_sliceAt_slice (b := some ⟨b, p, none⟩) hu hs (run_bounds h hcap hb)
          rcases Nat.eq_zero_or_pos (r - l) with h0 | h0
          · refine ok_val h hd hex (by rw [hv]; exact hrun) ?_ hn
            have e0 : (rows.take r).drop l = [] := List.drop_of_length_le (by simp; omega)
            rw [h0, e0]
            exact .sl0
          · have hszn : sz' = sz := by
              have hne : 0 < rows.length := by omega
              have hm : rows[0] ∈ rows := List.getElem_mem hne
              rw [← hrows _ hm]; exact all_len hc.2 _ hm
            subst hszn
            have hne : cap ≠ l := by omega
            rw [if_neg hne] at hrun
            simp only [Option.map_some, add_none] at hrun
            refine ok_val h hd hex (by rw [hv]; exact hrun) ?_ hn
            have hlen : ((rows.take r).drop l).length = r - l := by simp; omega
            rw [← hlen]
            refine .sl (fun x hx => hrows x (List.mem_of_mem_take (List.mem_of_mem_drop hx))) hI (vs := (vs.take (r * sz')).drop (l * sz')) ((hcl.take _).drop _) (by omega) ?_
            rw [flat_drop hrows]
            have hfl := flat_len hrows
            have hle : r * sz' ≤ rows.length * sz' := Nat.mul_le_mul_right _ b2
            have hle2 : l * sz' ≤ r * sz' := Nat.mul_le_mul_right _ b1
            obtain ⟨f1, f2, f3, e0, _, h2, _⟩ := hl.split3 (l * sz') (r * sz' - l * sz') (by omega)
            have hf := RL.fnil (I := fun _ => True) e0 rfl
            rw [hf.2.1, List.take_drop, List.take_drop, show l * sz' + (r * sz' - l * sz') = r * sz' by omega] at h2
            exact h2
      · cases he
    · rename_i id off len sz hs
      split at he
      · rename_i rows hh
        simp only [Option.bind_eq_some_iff] at he
        obtain ⟨⟨l, r⟩, hb, he⟩ := he
        obtain ⟨b1, b2, _, _⟩ := bounds_inv hb
        split at he
        · rename_i hc
          simp at he; subst he
          rcases hx.rs_inv.2 with ⟨a0, lc, rfl, hv, hβ⟩ | ⟨b, p, sz', n', cap, hβ, hfit, hle, hv⟩
          · have : r = 0 := by omega
            subst this
            have : l = 0 := by omega
            subst this
            refine ok_val h hd hex (by rw [hv]; exact run_sliceAt_slice hu hs (run_bounds h (Nat.le_refl _) hb)) ?_ hn
            simpa using R.rs0 hβ.1 hβ.2
          · have hrun := run_sliceAt_slice (b := some ⟨b, p + off * sz', none⟩) hu hs (run_bounds h hle hb)
            refine ok_val h hd hex (by rw [hv]; exact hrun) ?_ hn
            by_cases hcl : cap = l
            · have : r - l = 0 := by omega
              rw [if_pos hcl, this, hcl, Nat.sub_self]
              exact .rs0 hβ rfl
            · rw [if_neg hcl]
              simp only [Option.map_some, add_none]
              have hzz : l * sz = l * sz' := by
                rcases Nat.eq_zero_or_pos l with h0 | h0
                · subst h0; simp
                · rcases h.obj id rows hh with ⟨h1, _, _⟩ | ⟨_, h1, _⟩ | ⟨b', o', sz'', n'', vs, fps, hb', _, _, ⟨_, hrows⟩, _, _, _⟩
                  · rw [h1] at hβ; cases hβ
                  · rw [h1] at hβ; cases hβ
                  · rw [hb'] at hβ
                    simp at hβ
                    have hne : 0 < rows.length := by omega
                    have hm : rows[0] ∈ rows := List.getElem_mem hne
                    have h3 : sz'' = sz := by rw [← hrows _ hm]; exact all_len hc.2.2 _ hm
                    rw [← h3, hβ.2.2.1]
              have := R.rs (w := w) (I := Im E w F) (len := r - l) (cap := cap - l) (off := off + l) hβ (by rw [show off + l + (cap - l) = off + cap by omega]; exact hfit) (by omega)
              rwa [Nat.add_mul, ← Nat.add_assoc, ← hzz] at this
        · cases he
      · cases he
    · cases he
  · rename_i hu
    split at he
    · rename_i s
      simp only [Option.bind_eq_some_iff] at he
      obtain ⟨⟨l, r⟩, hb, he⟩ := he
      have := ret_inv he; subst this
      refine ok_val h (v := .string (s.extract l r)) hd hex ?_ (.val rfl) hn
      rw [hx.val_inv.2]
      have hrun := run_bounds (isS := false) (cap := s.size) h (Nat.le_refl _) hb
      simp [Instr.sliceAt, Instr.slice, run_und hu, hrun]
    · cases he
  · cases he
end
end Go.Ab
