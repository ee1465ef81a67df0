/-
  LOADS AND STORES.
-/
import Derived.Test.YtbhpblokoecoaaaAbOps5
namespace Go.Ab
open Go
theorem updH_cases (h : Id → Option (Option Rows)) : ∀ (l : List (Id × Option Rows)) (i : Id), (∃ x ∈ l, x.1 = i ∧ updH h l i = some x.2) ∨ ((∀ x ∈ l, x.1 ≠ i) ∧ updH h l i = h i)
  | [], i => .inr ⟨(fun x hx => by cases hx), rfl⟩
  | (j, r) :: l, i => by
    by_cases hi : i = j
    · subst hi
      exact .inl ⟨(i, r), List.mem_cons_self .., rfl, by simp [updH, upd]⟩
    · rcases updH_cases h l i with ⟨x, hx, h1, h2⟩ | ⟨h1, h2⟩
      · exact .inl ⟨x, List.mem_cons_of_mem _ hx, h1, by simp [updH, upd, hi, h2]⟩
      · refine .inr ⟨fun x hx => ?_, by simp [updH, upd, hi, h2]⟩
        cases hx with
        | head => exact fun e => hi e.symm
        | tail _ hx => exact h1 x hx
theorem fresh_all {L : Id → Option (Option Rows)} {l : List (Id × Option Rows)} (h : fresh L l = true) : ∀ x ∈ l, L x.1 = none := fun x hx => by
  have := List.all_eq_true.1 h x hx
  simpa using this
section
variable {C : Cx} {E : Env} {w : World} {S : St} {a : Act} {β : Id → Option Loc} {F : Id → List Nat}
variable {next : Act → World → Prop} {Q : Exit → Act → World → Prop}
theorem OR.at {I : Nat → Prop} {id : Id} {rows : Rows} {fp : List Nat} (h : OR w I β id rows fp) {b o sz m : Nat} (hb : β id = some (.blk b o sz m)) :
    ∃ vs fps, fp = b :: fps ∧ Blk w b m ∧ (rows ≠ [] ∧ ∀ r ∈ rows, r.length = sz) ∧ o + rows.length * sz ≤ m ∧ Cl w b o vs ∧ RL w I β fps vs rows.flatten := by
  rcases h with ⟨h1, _, _⟩ | ⟨_, h1, _⟩ | ⟨b', o', sz', n', vs, fps, h1, h2, h3, h4, h5, h6, h7⟩
  · rw [h1] at hb; cases hb
  · rw [h1] at hb; cases hb
  · rw [h1] at hb
    simp at hb
    obtain ⟨rfl, rfl, rfl, rfl⟩ := hb
    exact ⟨vs, fps, h2, h3, h4, h5, h6, h7⟩
theorem SR.unpacked (h : SR C E w S a β F) {id : Id} {rows : Rows} {row off n : Nat} {r : List AV} {b o sz m : Nat} {p : Id} (hid : S.h id = some (some rows)) (hb : β id = some (.blk b o sz m))
    (hr : rows[row]? = some r) (hfit : off + n ≤ r.length) (hf : fresh S.h (unpackC p 0 ((r.drop off).take n)).2 = true) :
    ∃ β' F' vs, SR C E w ⟨S.n, S.t, updH S.h ((id, some (rows.set row (r.take off ++ (unpackC p 0 ((r.drop off).take n)).1 ++ r.drop (off + n)))) :: (unpackC p 0 ((r.drop off).take n)).2)⟩ a β' F' ∧
      Cl w b (o + (row * sz + off)) vs ∧ vs.length = n ∧ RL w (Im E w F') β' [] vs (unpackC p 0 ((r.drop off).take n)).1 ∧ ((unpackC p 0 ((r.drop off).take n)).2 = [] → RL w (Im E w F) β [] vs (unpackC p 0 ((r.drop off).take n)).1) := by
  obtain ⟨vs, fps, hfp, hB, ⟨hne, hrows⟩, hsz, hcl, hl⟩ := (h.obj id rows hid).at hb
  obtain ⟨g1, g2, g3⟩ := flat_part hr hrows hfit
  have hrl : r.length = sz := hrows r (List.mem_of_getElem? hr)
  obtain ⟨f1, f2, f3, rfl, l1, l2, l3⟩ := hl.split3 (row * sz + off) n g1
  rw [g2] at l2
  have hnd := h.nd id
  rw [hfp] at hnd
  have hnd' := (List.nodup_cons.1 hnd).2
  have hbn := (List.nodup_cons.1 hnd).1
  have hnd2 : f2.Nodup := (List.nodup_append.1 (List.nodup_append.1 hnd').2.1).1
  have hfr := fresh_all hf
  generalize hu : unpackC p 0 ((r.drop off).take n) = u at *
  have hsound := unpackC_sound (I := Im E w F) p (cs := (r.drop off).take n) (j := 0) l2 hnd2 (by rw [hu]; exact fun x hx => h.dom _ (hfr x hx))
  rw [hu] at hsound
  obtain ⟨β', G, k1, k2, k3, k4, k5, k6, _⟩ := hsound
  have hlen2 : ((r.drop off).take n).length = n := by simp; omega
  have hul : u.1.length = n := by rw [← k3.length, l2.length, hlen2]
  have hvl : ((vs.drop (row * sz + off)).take n).length = n := by rw [l2.length, hlen2]
  have hidn : ∀ x ∈ u.2, x.1 ≠ id := fun x hx e => by rw [← e, hfr x hx] at hid; cases hid
  let F' : Id → List Nat := fun i => if i = id then b :: (f1 ++ f3) else if (u.2.any fun x => decide (x.1 = i)) = true then G i else F i
  have hany : ∀ i, (u.2.any fun x => decide (x.1 = i)) = true ↔ ∃ x ∈ u.2, x.1 = i := fun i => by simp
  have hF'id : F' id = b :: (f1 ++ f3) := by simp [F']
  have hF'new : ∀ x ∈ u.2, F' x.1 = G x.1 := fun x hx => by
    have h1 := hidn x hx
    have h2 := (hany x.1).2 ⟨x, hx, rfl⟩
    simp only [F', h1, if_false, h2, if_true]
  have hF'old : ∀ i, i ≠ id → (∀ x ∈ u.2, x.1 ≠ i) → F' i = F i := fun i h1 h2 => by
    have h3 : ¬ ((u.2.any fun x => decide (x.1 = i)) = true) := fun hh => by obtain ⟨x, hx, e⟩ := (hany i).1 hh; exact h2 x hx e
    simp only [F', h1, if_false, h3]
    simp
  have hG : ∀ i bb, bb ∈ G i → bb ∈ F id := fun i bb hbb => by
    rw [hfp]
    exact List.mem_cons_of_mem _ (List.mem_append.2 (.inr (List.mem_append.2 (.inl ((k5 i).2 bb hbb)))))
  have hGd : ∀ i bb, bb ∈ G i → bb ∈ F' id → False := fun i bb hbb hbb' => by
    have h2 := (k5 i).2 bb hbb
    rw [hF'id] at hbb'
    cases hbb' with
    | head => exact hbn (List.mem_append.2 (.inr (List.mem_append.2 (.inl h2))))
    | tail _ hm =>
      rcases List.mem_append.1 hm with hm | hm
      · exact (List.nodup_append.1 hnd').2.2 bb hm bb (List.mem_append.2 (.inl h2)) rfl
      · exact (List.nodup_append.1 (List.nodup_append.1 hnd').2.1).2.2 bb h2 bb hm rfl
  have hF'sub : ∀ bb, bb ∈ F' id → bb ∈ F id := fun bb hbb => by
    rw [hF'id] at hbb
    rw [hfp]
    cases hbb with
    | head => exact List.mem_cons_self ..
    | tail _ hm =>
      refine List.mem_cons_of_mem _ ?_
      rcases List.mem_append.1 hm with hm | hm
      · exact List.mem_append.2 (.inl hm)
      · exact List.mem_append.2 (.inr (List.mem_append.2 (.inr hm)))
  -- a name that has turned: which?
  have hch : ∀ i, (i = id ∨ ∃ x ∈ u.2, x.1 = i) → i = id ∨ ((∃ x ∈ u.2, x.1 = i) ∧ F' i = G i) := fun i hi => by
    rcases hi with hi | ⟨x, hx, rfl⟩
    · exact .inl hi
    · exact .inr ⟨⟨x, hx, rfl⟩, hF'new x hx⟩
  have hI : ∀ bb, Im E w F bb → Im E w F' bb := fun bb ⟨h1, h2, h3⟩ => ⟨h1, h2, fun i hm => by
    by_cases hi : i = id
    · subst hi; exact h3 i (hF'sub bb hm)
    · by_cases hi' : ∃ x ∈ u.2, x.1 = i
      · obtain ⟨x, hx, rfl⟩ := hi'
        rw [hF'new x hx] at hm
        exact h3 id (hG _ bb hm)
      · rw [hF'old i hi (fun x hx e => hi' ⟨x, hx, e⟩)] at hm
        exact h3 i hm⟩
  refine ⟨β', F', (vs.drop (row * sz + off)).take n, ?_, ?_, hvl, k3.mono hI (fun _ _ => rfl) (fun _ _ h => h), fun hnil => ?_⟩
  · refine h.step (fun i => i = id ∨ ∃ x ∈ u.2, x.1 = i) h.n (Nat.le_refl _) rfl rfl (fun _ => rfl) (fun _ _ _ => rfl) k1 ?_ ?_ ?_ ?_ ?_ ?_ ?_ (fun _ t => .inl ⟨rfl, rfl⟩)
    · intro i bb hm
      by_cases hi : i = id
      · subst hi; exact .inl ⟨i, hF'sub bb hm⟩
      · by_cases hi' : ∃ x ∈ u.2, x.1 = i
        · obtain ⟨x, hx, rfl⟩ := hi'
          rw [hF'new x hx] at hm
          exact .inl ⟨id, hG _ bb hm⟩
        · rw [hF'old i hi (fun x hx e => hi' ⟨x, hx, e⟩)] at hm
          exact .inl ⟨i, hm⟩
    · intro i hi
      have h1 : i ≠ id := fun e => hi (.inl e)
      have h2 : ∀ x ∈ u.2, x.1 ≠ i := fun x hx e => hi (.inr ⟨x, hx, e⟩)
      refine ⟨hF'old i h1 h2, ?_⟩
      rcases updH_cases S.h u.2 i with ⟨x, hx, e, _⟩ | ⟨_, e⟩
      · exact absurd e (h2 x hx)
      · simp [updH, upd, h1, e]
    · intro _ i hi rows' hrows'
      rcases hch i hi with rfl | ⟨⟨x, hx, rfl⟩, hFi⟩
      · simp only [updH, upd, ↓reduceIte, Option.some.injEq] at hrows'
        subst hrows'
        rw [hF'id]
        have hset : ∀ x ∈ rows.set row (r.take off ++ u.1 ++ r.drop (off + n)), x.length = sz := fun x hx => by
          rcases List.mem_or_eq_of_mem_set hx with hm | rfl
          · exact hrows x hm
          · simp [hul]; omega
        refine .inr (.inr ⟨b, o, sz, m, vs, f1 ++ f3, k1 _ _ hb, rfl, hB, ⟨by simpa using hne, hset⟩, by simpa using hsz, hcl, ?_⟩)
        rw [g3 u.1]
        have e1 : vs = vs.take (row * sz + off) ++ (vs.drop (row * sz + off)).take n ++ vs.drop (row * sz + off + n) := by
          rw [List.append_assoc, show vs.drop (row * sz + off + n) = (vs.drop (row * sz + off)).drop n by simp, List.take_append_drop, List.take_append_drop]
        have l1' := l1.mono (w' := w) (β' := β') hI (fun _ _ => rfl) k1
        have l3' := l3.mono (w' := w) (β' := β') hI (fun _ _ => rfl) k1
        have k3' := k3.mono (w' := w) (β' := β') hI (fun _ _ => rfl) (fun _ _ h => h)
        have := RL.append (RL.append l1' k3') l3'
        rw [List.append_nil] at this
        rw [← e1] at this
        exact this
      · have hne := hidn x hx
        rcases updH_cases S.h u.2 x.1 with ⟨y, hy, e, e2⟩ | ⟨e, _⟩
        · simp [updH, upd, hne, e2] at hrows'
          obtain ⟨rows2, e3, h4⟩ := k4 y hy
          rw [hrows'] at e3
          simp at e3; subst e3
          rw [hFi, ← e]
          exact h4.mono hI (fun _ _ => rfl) (fun _ _ h => h)
        · exact absurd rfl (e x hx)
    · intro i hi hno
      rcases hch i hi with rfl | ⟨⟨x, hx, rfl⟩, hFi⟩
      · exact absurd (by first | (simp [updH, upd]; done) | (simp [updH, upd]; rfl)) (hno _)
      · have hne := hidn x hx
        rcases updH_cases S.h u.2 x.1 with ⟨y, hy, e, e2⟩ | ⟨e, _⟩
        · obtain ⟨rows2, e3, _⟩ := k4 y hy
          exact absurd (by simp [updH, upd, hne, e2, e3]) (hno rows2)
        · exact absurd rfl (e x hx)
    · intro i hi
      rcases hch i hi with rfl | ⟨_, hFi⟩
      · rw [hF'id]
        refine List.nodup_cons.2 ⟨fun hm => hbn ?_, List.nodup_append.2 ⟨(List.nodup_append.1 hnd').1, (List.nodup_append.1 (List.nodup_append.1 hnd').2.1).2.1, fun x hx y hy => (List.nodup_append.1 hnd').2.2 x hx y (List.mem_append.2 (.inr hy))⟩⟩
        rcases List.mem_append.1 hm with hm | hm
        · exact List.mem_append.2 (.inl hm)
        · exact List.mem_append.2 (.inr (List.mem_append.2 (.inr hm)))
      · rw [hFi]; exact (k5 i).1
    · intro i j bb hi hbi hbj
      have place : ∀ i, bb ∈ F' i → (i = id) ∨ ((∃ x ∈ u.2, x.1 = i) ∧ bb ∈ G i) ∨ (i ≠ id ∧ bb ∈ F i) := fun i hm => by
        by_cases h1 : i = id
        · exact .inl h1
        · by_cases h2 : ∃ x ∈ u.2, x.1 = i
          · obtain ⟨x, hx, rfl⟩ := h2
            exact .inr (.inl ⟨⟨x, hx, rfl⟩, by rw [← hF'new x hx]; exact hm⟩)
          · exact .inr (.inr ⟨h1, by rw [← hF'old i h1 (fun x hx e => h2 ⟨x, hx, e⟩)]; exact hm⟩)
      rcases place i hbi with rfl | ⟨_, gi⟩ | ⟨hi1, gi⟩ <;> rcases place j hbj with rfl | ⟨_, gj⟩ | ⟨hj1, gj⟩
      · rfl
      · exact (hGd j bb gj hbi).elim
      · exact absurd (h.dj j i bb gj (hF'sub bb hbi)) hj1
      · exact (hGd i bb gi hbj).elim
      · exact k6 i j bb gi gj
      · exact absurd (h.dj j id bb gj (hG i bb gi)) hj1
      · exact absurd (h.dj i j bb gi (hF'sub bb hbj)) hi1
      · exact absurd (h.dj i id bb gi (hG j bb gj)) hi1
      · exact h.dj i j bb gi gj
    · intro i hi
      by_cases h1 : i = id
      · subst h1; simp [updH, upd] at hi
      · rcases updH_cases S.h u.2 i with ⟨x, hx, e, e2⟩ | ⟨e, e2⟩
        · simp [updH, upd, h1, e2] at hi
        · simp [updH, upd, h1, e2] at hi
          rw [(k2 i e).1]; exact h.dom i hi
  · exact (hcl.drop _).take _
  · exact k3.mono (fun _ h => h) (fun _ _ => rfl) (fun i l hl => by rw [← (k2 i (fun x hx => by rw [hnil] at hx; cases hx)).1]; exact hl)
theorem ok_load (h : SR C E w S a β F) {o : Oper} {t : TypeId} {x : Operand} (ho : o.op = .load t x) {e : Eff}
    (he : evLoad C S o t (un true (S.get C x)) = some e) (hd : inB S e) (hn : ∀ a' w', Nx C E (S.app e) a' w' → next a' w') : o.wp C.P a w next Q := by
  have hx := h.getU x
  generalize un true (S.get C x) = xv at *
  have hex : execOp a.eval o = (do pure (Next.value (← Instr.loadAt t (a.eval x)))) := by simp [execOp, ho]
  have hat : ∀ {b p : Nat} {v : Value} {w : World}, (loadVar t ⟨b, p, none⟩).run C.P w = .ok v w → (Instr.loadAt t (.pointer (some ⟨b, p, none⟩))).run C.P w = .ok v w := fun hr => by
    simp [Instr.loadAt, Instr.sureAddr, hr]
  unfold evLoad at he
  split at he
  · rename_i b n hb hs
    split at he
    · rename_i cells
      split at he
      · rename_i hle
        simp only [Option.map_eq_some_iff] at he
        obtain ⟨y, hy, rfl⟩ := he
        obtain ⟨_, bk, p, vs, hv, hI, hcl, hl⟩ := hx.vp_inv
        obtain ⟨f1, f2, f3, e0, _, h2, _⟩ := hl.split3 0 n (by omega)
        have hf := RL.fnil (I := fun _ => True) e0 rfl
        rw [hf.2.1] at h2
        simp only [List.drop_zero] at h2
        obtain ⟨u, hr, hu1, hu2⟩ := mkV_sound h2 hy
        have hlen := h2.length
        refine ok_val h (v := u) hd hex ?_ hr.up hn
        rw [hv]
        exact hat (run_loadV hb hs (hcl.take n) (by rw [hlen]; simp; omega) hu1 hu2)
      · cases he
    · rename_i id row off
      split at he
      · rename_i rows hid
        simp only [Option.bind_eq_some_iff] at he
        obtain ⟨r, hr, he⟩ := he
        split at he
        · rename_i hfit
          obtain ⟨_, bk, p, sz, m, hβ, hv⟩ := hx.mp_inv
          split at he
          · rename_i hemp
            simp only [Option.map_eq_some_iff] at he
            obtain ⟨y, hy, rfl⟩ := he
            have hemp' := List.isEmpty_iff.1 hemp
            obtain ⟨β', F', vs, _, hcl, hvl, _, hrl⟩ := h.unpacked (p := dstP o) hid hβ hr hfit (by rw [hemp']; rfl)
            obtain ⟨u, hr', hu1, hu2⟩ := mkV_sound (hrl hemp') hy
            refine ok_val h (v := u) hd hex ?_ hr' hn
            rw [hv, Nat.add_assoc]
            exact hat (run_loadV hb hs hcl hvl hu1 hu2)
          · split at he
            · rename_i hf
              simp only [Option.map_eq_some_iff] at he
              obtain ⟨y, hy, rfl⟩ := he
              obtain ⟨β', F', vs, hS, hcl, hvl, hrl, _⟩ := h.unpacked (p := dstP o) hid hβ hr hfit hf
              obtain ⟨u, hr', hu1, hu2⟩ := mkV_sound hrl hy
              refine wp_val (v := u) (w' := w) ?_ (hn _ _ ⟨β', F', ?_⟩)
              · rw [hex]
                refine run_v ?_
                rw [hv, Nat.add_assoc]
                exact hat (run_loadV hb hs hcl hvl hu1 hu2)
              · exact hS.val o [] hr' hd
            · cases he
        · cases he
      · cases he
    · cases he
  · cases he
theorem SR.stored (h : SR C E w S a β F) {id : Id} {rows : Rows} {row off n : Nat} {r cs : List AV} {us : List Value} {b o sz m : Nat} (hid : S.h id = some (some rows)) (hb : β id = some (.blk b o sz m))
    (hr : rows[row]? = some r) (hfit : off + n ≤ r.length) (hcs : cs.length = n) (hus : RL w (Im E w F) β [] us cs) (hpl : ∀ u ∈ us, plainV u = true) :
    ∃ w', (storeCells ⟨b, o + row * sz + off, none⟩ us).run C.P w = .ok () w' ∧ (∃ F', SR C E w' ⟨S.n, S.t, updH S.h [(id, some (rows.set row (r.take off ++ cs ++ r.drop (off + n))))]⟩ a β F') ∧
      (∀ rows', (rows.length = 1 → row = 0 → off = 0 → n = r.length → ∃ F', SR C E w' ⟨S.n, S.t, updH S.h [(id, none)]⟩ a β F' ∧ Im E w' F' b ∧ Cl w' b (o + row * sz + off) us ∧ RL w' (Im E w' F') β [] us cs) ∨ rows' = rows) := by
  obtain ⟨vs, fps, hfp, hB, ⟨hne, hrows⟩, hsz, hcl, hl⟩ := (h.obj id rows hid).at hb
  obtain ⟨g1, g2, g3⟩ := flat_part hr hrows hfit
  have hrl : r.length = sz := hrows r (List.mem_of_getElem? hr)
  obtain ⟨f1, f2, f3, rfl, l1, l2, l3⟩ := hl.split3 (row * sz + off) n g1
  obtain ⟨c, e, hc, hm⟩ := hB
  have hul := hus.length
  have hfl := flat_len hrows
  have hvl := hl.length
  have hroom : o + row * sz + off + us.length ≤ c.size := by omega
  have hrun := run_storeCells C.P b (o + row * sz + off) e us 0 w c hc (by omega) hpl
  rw [Nat.add_zero] at hrun
  have hbl := lt_of_heap hc
  generalize hw' : setB w b (.cells (over c (o + row * sz + off) us) e (0, 0)) = w' at hrun
  have hheap : ∀ k, w'.heap[k]? = if k = b then some (.cells (over c (o + row * sz + off) us) e (0, 0)) else w.heap[k]? := fun k => by rw [← hw']; exact setB_heap hbl k
  have hsize : w'.heap.size = w.heap.size := by rw [← hw']; simp [setB]
  have hos : w'.os = w.os := by rw [← hw']; rfl
  have hout : w'.output = w.output := by rw [← hw']; rfl
  have hfrz : ∀ x, w'.frozen? x = w.frozen? x := fun x => by
    simp only [World.frozen?, hheap]
    by_cases hx : x.block = b
    · rw [if_pos hx, hx, hc]
    · rw [if_neg hx]
  have hnew : w'.heap[b]? = some (.cells (over c (o + row * sz + off) us) e (0, 0)) := by rw [hheap, if_pos rfl]
  have hnd := h.nd id
  rw [hfp] at hnd
  have hbn := (List.nodup_cons.1 hnd).1
  have hnd' := (List.nodup_cons.1 hnd).2
  have hoth : ∀ k, k < w.heap.size → (∀ i, i = id → k ∉ F i) → w'.heap[k]? = w.heap[k]? := fun k _ hk => by
    rw [hheap, if_neg (fun e => hk id rfl (by rw [hfp, e]; exact List.mem_cons_self ..))]
  have hbs : ∀ k n, Blk w k n → Blk w' k n := fun k n hB => by
    by_cases hk : k = b
    · subst hk
      obtain ⟨c2, e2, hc2, hn2⟩ := hB
      rw [hc] at hc2
      simp only [Option.some.injEq, Obj.cells.injEq] at hc2
      obtain ⟨rfl, _⟩ := hc2
      exact ⟨_, _, hnew, by rw [over_size _ _ _ hroom]; exact hn2⟩
    · exact hB.mono (by rw [hheap, if_neg hk])
  have hclu : Cl w' b (o + row * sz + off) us := fun k u hu => by
    rw [cell_of_row _ _ _ _ _ _ hnew, over_get _ _ _ _ hroom]
    have hk : k < us.length := by
      rcases Nat.lt_or_ge k us.length with h' | h'
      · exact h'
      · rw [List.getElem?_eq_none h'] at hu; cases hu
    rw [if_pos (by omega), show o + row * sz + off + k - (o + row * sz + off) = k by omega]; exact hu
  refine ⟨w', hrun, ?_, fun rows' => .inl ?_⟩
  · let F' : Id → List Nat := fun i => if i = id then b :: (f1 ++ f3) else F i
    have hF'id : F' id = b :: (f1 ++ f3) := by simp [F']
    have hF'old : ∀ i, i ≠ id → F' i = F i := fun i hi => by simp [F', hi]
    have hF'sub : ∀ bb, bb ∈ F' id → bb ∈ F id := fun bb hbb => by
      rw [hF'id] at hbb
      rw [hfp]
      cases hbb with
      | head => exact List.mem_cons_self ..
      | tail _ hm =>
        refine List.mem_cons_of_mem _ ?_
        rcases List.mem_append.1 hm with hm | hm
        · exact List.mem_append.2 (.inl hm)
        · exact List.mem_append.2 (.inr (List.mem_append.2 (.inr hm)))
    refine ⟨F', h.step (· = id) h.n (by omega) hos hout hfrz hoth (fun _ _ h => h) ?_ ?_ ?_ ?_ ?_ ?_ ?_ (fun _ t => .inl ⟨rfl, rfl⟩) (hbs := hbs)⟩
    · intro i bb hm
      by_cases hi : i = id
      · subst hi; exact .inl ⟨i, hF'sub bb hm⟩
      · rw [hF'old i hi] at hm; exact .inl ⟨i, hm⟩
    · intro i hi; exact ⟨hF'old i hi, by simp [updH, upd, hi]⟩
    · intro hI i hi rows' hrows'
      subst hi
      simp only [updH, upd, ↓reduceIte, Option.some.injEq] at hrows'
      subst hrows'
      rw [hF'id]
      have hset : ∀ x ∈ rows.set row (r.take off ++ cs ++ r.drop (off + n)), x.length = sz := fun x hx => by
        rcases List.mem_or_eq_of_mem_set hx with hm | rfl
        · exact hrows x hm
        · simp [hcs]; omega
      have hkeep : ∀ bb, Im E w F bb ∨ bb ∈ f1 ++ f3 → w'.heap[bb]? = w.heap[bb]? := fun bb hbb => by
        rw [hheap, if_neg]
        intro e; subst e
        rcases hbb with hbb | hbb
        · exact hbb.2.2 i (by rw [hfp]; exact List.mem_cons_self ..)
        · refine hbn ?_
          rcases List.mem_append.1 hbb with hm | hm
          · exact List.mem_append.2 (.inl hm)
          · exact List.mem_append.2 (.inr (List.mem_append.2 (.inr hm)))
      refine .inr (.inr ⟨b, o, sz, m, vs.take (row * sz + off) ++ us ++ vs.drop (row * sz + off + n), f1 ++ f3, hb, rfl, ⟨_, _, hnew, by rw [over_size _ _ _ hroom]; exact hm⟩, ⟨by simpa using hne, hset⟩, by simpa using hsz, ?_, ?_⟩)
      · intro k u hu
        rw [cell_of_row _ _ _ _ _ _ hnew, over_get _ _ _ _ hroom]
        have hold : ∀ u, vs[k]? = some u → c[o + k]? = some u := fun u hu => by
          have := hcl k u hu
          rwa [cell_of_row _ _ _ _ _ _ hc] at this
        have htl : (vs.take (row * sz + off)).length = row * sz + off := by simp; omega
        by_cases h1 : k < row * sz + off
        · rw [if_neg (by omega)]
          rw [List.append_assoc, List.getElem?_append_left (by omega), List.getElem?_take_of_lt h1] at hu
          exact hold u hu
        · by_cases h2 : k < row * sz + off + n
          · rw [if_pos (by omega)]
            rw [List.append_assoc, List.getElem?_append_right (by omega), List.getElem?_append_left (by omega), htl] at hu
            rwa [show o + k - (o + row * sz + off) = k - (row * sz + off) by omega]
          · rw [if_neg (by omega)]
            rw [List.getElem?_append_right (by simp; omega), List.getElem?_drop] at hu
            refine hold u ?_
            rw [← hu]
            congr 1
            simp; omega
      · rw [g3 cs]
        have l1' := l1.mono (w' := w') (β' := β) hI (fun bb hbb => hkeep bb (hbb.imp _root_.id fun hm => List.mem_append.2 (.inl hm))) (fun _ _ h => h)
        have l3' := l3.mono (w' := w') (β' := β) hI (fun bb hbb => hkeep bb (hbb.imp _root_.id fun hm => List.mem_append.2 (.inr hm))) (fun _ _ h => h)
        have u' := hus.mono (w' := w') (β' := β) hI (fun bb hbb => hkeep bb (hbb.elim .inl fun hm => by cases hm)) (fun _ _ h => h)
        have := RL.append (RL.append l1' u') l3'
        rwa [List.append_nil] at this
    · intro i hi hno
      subst hi
      exact absurd (by first | (simp [updH, upd]; done) | (simp [updH, upd]; rfl)) (hno _)
    · intro i hi
      subst hi
      rw [hF'id]
      refine List.nodup_cons.2 ⟨fun hm => hbn ?_, List.nodup_append.2 ⟨(List.nodup_append.1 hnd').1, (List.nodup_append.1 (List.nodup_append.1 hnd').2.1).2.1, fun x hx y hy => (List.nodup_append.1 hnd').2.2 x hx y (List.mem_append.2 (.inr hy))⟩⟩
      rcases List.mem_append.1 hm with hm | hm
      · exact List.mem_append.2 (.inl hm)
      · exact List.mem_append.2 (.inr (List.mem_append.2 (.inr hm)))
    · intro i j bb hi hbi hbj
      subst hi
      by_cases hj : j = i
      · exact hj.symm
      · rw [hF'old j hj] at hbj
        exact h.dj i j bb (hF'sub bb hbi) hbj
    · intro i hi
      by_cases h1 : i = id
      · subst h1; simp [updH, upd] at hi
      · simp [updH, upd, h1] at hi; exact h.dom i hi
  · intro hr1 hrow hoff hnr
    -- the whole of a variable has been written, and nobody writes it any more
    subst hrow hoff
    let F' : Id → List Nat := fun i => if i = id then [] else F i
    have hF'id : F' id = [] := by simp [F']
    have hF'old : ∀ i, i ≠ id → F' i = F i := fun i hi => by simp [F', hi]
    have hS := h.step (w' := w') (S' := ⟨S.n, S.t, updH S.h [(id, none)]⟩) (a' := a) (β' := β) (F' := F') (· = id) h.n (by omega) hos hout hfrz hoth (fun _ _ h => h)
      (fun i bb hm => by
        by_cases hi : i = id
        · subst hi; rw [hF'id] at hm; cases hm
        · rw [hF'old i hi] at hm; exact .inl ⟨i, hm⟩)
      (fun i hi => ⟨hF'old i hi, by simp [updH, upd, hi]⟩)
      (fun _ i hi rows' hrows' => by subst hi; simp [updH, upd] at hrows')
      (fun i hi _ => by subst hi; exact hF'id)
      (fun i hi => by subst hi; rw [hF'id]; exact List.nodup_nil)
      (fun i j bb hi hbi _ => by subst hi; rw [hF'id] at hbi; cases hbi)
      (fun i hi => by
        by_cases h1 : i = id
        · subst h1; simp [updH, upd] at hi
        · simp [updH, upd, h1] at hi; exact h.dom i hi)
      (fun _ t => .inl ⟨rfl, rfl⟩) (hbs := hbs)
    have hIm : Im E w' F' b := by
      have h1 := h.lt id b (by rw [hfp]; exact List.mem_cons_self ..)
      refine ⟨.inr h1.2, by omega, fun i hm => ?_⟩
      by_cases hi : i = id
      · subst hi; rw [hF'id] at hm; cases hm
      · rw [hF'old i hi] at hm
        exact hi (h.dj i id b hm (by rw [hfp]; exact List.mem_cons_self ..))
    have hI : ∀ bb, Im E w F bb → Im E w' F' bb := fun bb ⟨h1, h2, h3⟩ => ⟨h1, by omega, fun i hm => by
      by_cases hi : i = id
      · subst hi; rw [hF'id] at hm; cases hm
      · rw [hF'old i hi] at hm; exact h3 i hm⟩
    refine ⟨F', hS, hIm, hclu, hus.mono hI (fun bb hbb => ?_) (fun _ _ h => h)⟩
    rcases hbb with hbb | hbb
    · rw [hheap, if_neg]
      intro e; subst e
      exact hbb.2.2 id (by rw [hfp]; exact List.mem_cons_self ..)
    · cases hbb
end
end Go.Ab
