/-
  A PLACE TOLD BY A FUNCTION; COPIES.
-/
import Derived.Test.YtbhpblokoecoaaaAbCall
import Derived.Laws.CopyRow
import Derived.Laws.IdiomCopy
namespace Go.Ab
open Go
def PathSound (P : Program) (k : FuncId) (p : Nat × Nat) : Prop :=
  ∀ (w : World) (b o b2 o2 len cap : Nat), w.cell? ⟨b, o + p.1, none⟩ = some (.slice (some ⟨b2, o2, none⟩) len cap) → 0 < len → len ≤ maxRows → len ≤ cap →
    Does P k #[.pointer (some ⟨b, o, none⟩)] w fun v w' => (∃ n, w' = w.drewN n) ∧ v = .pointer (some ⟨b2, o2 + (len - 1) * p.2, none⟩)
structure NC (C : Cx) : Prop where
  no : NoCount C.P
  path : ∀ k p, C.path k = some p → PathSound C.P k p
section
variable {C : Cx} {E : Env} {w : World} {S : St} {a : Act} {β : Id → Option Loc} {F : Id → List Nat}
variable {next : Act → World → Prop} {Q : Exit → Act → World → Prop}
theorem flat_at {α : Type} : ∀ {rows : List (List α)} {row sz k : Nat} {r : List α} {x : α}, rows[row]? = some r → (∀ r ∈ rows, r.length = sz) → r[k]? = some x → rows.flatten[row * sz + k]? = some x
  | [], row, sz, k, r, x, h, _, _ => by simp at h
  | q :: rows, 0, sz, k, r, x, h, hs, hk => by
    simp only [List.getElem?_cons_zero, Option.some.injEq] at h; subst h
    rw [List.flatten_cons, Nat.zero_mul, Nat.zero_add, List.getElem?_append_left]
    · exact hk
    · rcases Nat.lt_or_ge k q.length with h' | h'
      · exact h'
      · rw [List.getElem?_eq_none h'] at hk; cases hk
  | q :: rows, row + 1, sz, k, r, x, h, hs, hk => by
    simp only [List.getElem?_cons_succ] at h
    have hq := hs q (List.mem_cons_self ..)
    rw [List.flatten_cons, List.getElem?_append_right (by rw [hq, Nat.add_mul]; omega), hq, show (row + 1) * sz + k - sz = row * sz + k by rw [Nat.add_mul]; omega]
    exact flat_at h (fun r hr => hs r (List.mem_cons_of_mem _ hr)) hk
theorem RL.at {I : Nat → Prop} : ∀ {as : List AV} {f : List Nat} {vs : List Value} {k : Nat} {x : AV}, RL w I β f vs as → as[k]? = some x → ∃ v f', vs[k]? = some v ∧ R w I β f' v x
  | [], _, _, k, x, _, h => by simp at h
  | a :: as, f, vs, 0, x, hr, h => by
    simp only [List.getElem?_cons_zero, Option.some.injEq] at h; subst h
    obtain ⟨f1, f2, v, vs', rfl, rfl, h1, _⟩ := hr.cons_inv
    exact ⟨v, f1, rfl, h1⟩
  | a :: as, f, vs, k + 1, x, hr, h => by
    simp only [List.getElem?_cons_succ] at h
    obtain ⟨f1, f2, v, vs', rfl, rfl, _, h2⟩ := hr.cons_inv
    obtain ⟨v', f', e, hx⟩ := RL.at h2 h
    exact ⟨v', f', by simpa using e, hx⟩
theorem SR.drewN (h : SR C E w S a β F) (n : Nat) : SR C E (w.drewN n) S a β F :=
  h.step (fun _ => False) h.n (Nat.le_refl _) rfl rfl (fun _ => rfl) (fun _ _ _ => rfl) (fun _ _ h => h) (fun id b hb => .inl ⟨id, hb⟩) (fun _ _ => ⟨rfl, rfl⟩)
    (fun _ _ h => h.elim) (fun _ h => h.elim) (fun _ h => h.elim) (fun _ _ _ h => h.elim) h.dom (fun _ _ => .inl ⟨rfl, rfl⟩)
theorem ok_last (hN : NoCount C.P) (h : SR C E w S a β F) {o : Oper} {c : Call} {k : FuncId} (ho : o.op = .call c) (hc : c.callee = .value (.func k)) {p : Nat × Nat} (hp : PathSound C.P k p) {e : Eff}
    (he : evLast S o p (c.args.toList.map fun x => un true (S.get C x)) = some e) (hd : inB S e) (hn : ∀ a' w', Nx C E (S.app e) a' w' → next a' w') : o.wp C.P a w next Q := by
  have hargs := RL.ofMap h c.args.toList
  have go : ∀ {b q b2 o2 len cap : Nat} {v0 : Value}, c.args.toList.map a.eval = [v0] → v0 = .pointer (some ⟨b, q, none⟩) → w.cell? ⟨b, q + p.1, none⟩ = some (.slice (some ⟨b2, o2, none⟩) len cap) → 0 < len → len ≤ maxRows → len ≤ cap →
      (∀ n, next (a.put o.dst (.pointer (some ⟨b2, o2 + (len - 1) * p.2, none⟩))) (w.drewN n)) → o.wp C.P a w next Q := fun {b q b2 o2 len cap v0} ev ev0 hcellv hl hmx hlc hback => by
    subst ev0
    have hdo := hp w b q b2 o2 len cap hcellv hl hmx hlc
    have hexec : (execOp a.eval o).run C.P w = (callFunc k #[.pointer (some ⟨b, q, none⟩)]).run C.P w := by
      have e1 : c.args.map a.eval = #[.pointer (some ⟨b, q, none⟩)] := by
        apply Array.ext'
        simpa using ev
      have e3 : resolve a.eval c o.type = (pure { target := .fn (.func k) #[], args := #[] ++ c.args.map a.eval } : Sem Deferred) := by
        simp [resolve, hc, Act.eval, Deferred.ofValue]
      have e4 : execOp a.eval o = (do let d ← resolve a.eval c o.type; invoke d.target d.args : Sem Next) := by simp [execOp, ho]
      rw [e4, e3, Sem.run_bind, Sem.run_pure, Result.andThen_ok]
      simp only [invoke, e1]
      rfl
    unfold Oper.wp
    rw [hexec]
    rcases hdo with ⟨fn, code, q1, q2, q3⟩ | ⟨v, w', q1, q2⟩
    · rw [run_callFunc hN q1 q2]
      simp only [Oper.upon]
      refine q3.mono fun e' w' hh => ?_
      obtain ⟨v, rfl, ⟨n, rfl⟩, rfl⟩ := hh
      exact hback n
    · rw [q1]
      obtain ⟨⟨n, rfl⟩, rfl⟩ := q2
      exact hback n
  generalize hxs : (c.args.toList.map fun x => un true (S.get C x)) = xs at he hargs
  unfold evLast at he
  split at he
  · rename_i id row off
    split at he
    · rename_i rows hid
      split at he
      · rename_i id2 off2 len hcell
        split at he
        · rename_i rows2 hid2
          split at he
          · rename_i hcond
            simp only [Option.some.injEq] at he; subst he
            simp only [Bool.and_eq_true, decide_eq_true_eq] at hcond
            obtain ⟨⟨⟨hl, hmx⟩, hfit⟩, hall⟩ := hcond
            obtain ⟨f1, f2, v0, vs', ef, ev, k1, k2⟩ := hargs.cons_inv
            obtain ⟨_, rfl⟩ := k2.nil_inv
            obtain ⟨_, b, o', sz, n, hβ, hv0⟩ := k1.mp_inv
            simp only [Option.bind_eq_some_iff] at hcell
            obtain ⟨r, hr, hrk⟩ := hcell
            obtain ⟨vs, fps, _, _, ⟨_, hrows⟩, _, hcl, hrl⟩ := (h.obj id rows hid).at hβ
            have hat := flat_at hr hrows hrk
            obtain ⟨v, f', hv, hrv⟩ := hrl.at hat
            have hcellv := hcl _ _ hv
            obtain ⟨_, hv2⟩ := hrv.rs_inv
            rcases hv2 with ⟨_, _, h0, _⟩ | ⟨b2, o2, sz2, n2, cap, hβ2, hfit2, hlc, rfl⟩
            · omega
            · obtain ⟨vs2, fps2, _, _, ⟨_, hrows2⟩, _, _, _⟩ := (h.obj id2 rows2 hid2).at hβ2
              have hpos : 0 < rows2.length := by omega
              have hsz2 : sz2 = p.2 := by
                have hm : rows2[0] ∈ rows2 := List.getElem_mem hpos
                rw [← hrows2 _ hm]; exact all_len hall _ hm
              refine go ev hv0 (by rw [show o' + row * sz + off + p.1 = o' + (row * sz + (off + p.1)) by omega]; exact hcellv) hl hmx hlc fun nd => hn _ _ ⟨β, F, (h.drewN nd).val o _ ?_ hd⟩
              rw [← hsz2, Nat.add_assoc, ← Nat.add_mul]
              have := R.mp (w := w.drewN nd) (I := Im E (w.drewN nd) F) (row := off2 + (len - 1)) (off := 0) hβ2
              simpa using this
          · cases he
        · cases he
      · cases he
    · cases he
  · rename_i cells
    split at he
    · rename_i rows hcell
      split at he
      · rename_i hall
        simp only [Bool.and_eq_true, decide_eq_true_eq] at hall
        obtain ⟨r, hr, rfl⟩ := Option.map_eq_some_iff.1 he
        obtain ⟨f1, f2, v0, vs', ef, ev, k1, k2⟩ := hargs.cons_inv
        obtain ⟨_, rfl⟩ := k2.nil_inv
        obtain ⟨_, b, q, vs, hv0, hIb, hcl, hl⟩ := k1.vp_inv
        obtain ⟨v, f', hv, hrv⟩ := hl.at hcell
        have hcellv := hcl _ _ hv
        have hpos : 0 < rows.length := by
          rcases Nat.eq_zero_or_pos rows.length with h0 | h0
          · rw [List.length_eq_zero_iff.1 h0] at hr; simp at hr
          · exact h0
        obtain ⟨_, hv2⟩ := hrv.sl_inv
        rcases hv2 with ⟨_, _, h0, _⟩ | ⟨b2, o2, sz, cap, vs2, hsz, hI2, hcl2, hl2, hlc, rfl⟩
        · rw [h0] at hpos; cases hpos
        · have hsz2 : sz = p.2 := by
            have hm := List.mem_of_getElem? hr
            rw [← hsz _ hm]; exact all_len hall.2 _ hm
          subst hsz2
          refine go ev hv0 hcellv hpos hall.1 hlc fun nd => hn _ _ ⟨β, F, (h.drewN nd).val o _ ?_ hd⟩
          have hfl := flat_len hsz
          have hmul : (rows.length - 1) * p.2 + p.2 = rows.length * p.2 := by
            rw [← Nat.succ_mul]; congr 1; omega
          obtain ⟨g1, g2, g3, eg, _, l2, _⟩ := hl2.split3 ((rows.length - 1) * p.2) p.2 (by rw [hfl, hmul]; exact Nat.le_refl _)
          have hg2 : g2 = [] := by
            have := (List.append_eq_nil_iff.1 eg.symm).2
            exact (List.append_eq_nil_iff.1 this).1
          subst hg2
          have er : (rows.flatten.drop ((rows.length - 1) * p.2)).take p.2 = r := by
            have e1 := flat_drop (l := rows.length - 1) (r := rows.length) hsz
            rw [List.take_length] at e1
            have e2 : rows.flatten.take (rows.length * p.2) = rows.flatten := List.take_of_length_le (by rw [hfl]; exact Nat.le_refl _)
            rw [e2] at e1
            rw [← e1]
            have e3 : rows.drop (rows.length - 1) = [r] := by
              rw [List.drop_eq_getElem_cons (by omega), List.drop_eq_nil_of_le (by omega)]
              rw [List.getElem?_eq_getElem (by omega)] at hr
              simpa using hr
            rw [e3, List.flatten_cons, List.flatten_nil, List.append_nil]
            exact List.take_of_length_le (by rw [hsz r (List.mem_of_getElem? hr)]; exact Nat.le_refl _)
          rw [er] at l2
          exact .vp hI2 ((hcl2.drop _).take _) (l2.mono (fun _ h => h) (fun _ _ => rfl) (fun _ _ h => h))
      · cases he
    · cases he
  · cases he
theorem SR.storedL : ∀ {us : List Value} {cs : Rows} {i : Nat} {S : St} {w : World} {rows : Rows} {F : Id → List Nat} {id : Id} {b o m : Nat}, SR C E w S a β F → S.h id = some (some rows) → β id = some (.blk b o 1 m) → (∀ r ∈ rows, r.length = 1) →
    cs.map (fun r => r) = us.map (fun u => [AV.val u]) → (∀ u ∈ us, isSc u = true) → i + us.length ≤ rows.length →
    ∃ w', (storeCells ⟨b, o, none⟩ us i).run C.P w = .ok () w' ∧ ∃ F', SR C E w' ⟨S.n, S.t, updH S.h [(id, some (rows.take i ++ cs ++ rows.drop (i + us.length)))]⟩ a β F'
  | [], cs, i, S, w, rows, F, id, b, o, m, h, hid, hb, hrows, hcs, hus, hfit => by
    obtain rfl : cs = [] := by simpa using hcs
    refine ⟨w, rfl, F, ?_⟩
    have e : updH S.h [(id, some (rows.take i ++ [] ++ rows.drop (i + ([] : List Value).length)))] = S.h := by
      funext j
      simp only [updH, upd, List.append_nil, List.length_nil, Nat.add_zero, List.take_append_drop]
      split
      · rename_i hj; subst hj; exact hid.symm
      · rfl
    rw [e]; exact h
  | u :: us, cs, i, S, w, rows, F, id, b, o, m, h, hid, hb, hrows, hcs, hus, hfit => by
    obtain ⟨c, cs', rfl⟩ : ∃ c cs', cs = c :: cs' := by
      cases cs with
      | nil => simp at hcs
      | cons c cs' => exact ⟨c, cs', rfl⟩
    simp only [List.map_cons, List.cons.injEq] at hcs
    obtain ⟨rfl, hcs'⟩ := hcs
    simp only [List.length_cons] at hfit
    have hi : i < rows.length := by omega
    have hr : rows[i]? = some rows[i] := List.getElem?_eq_getElem hi
    have hrl := hrows _ (List.getElem_mem hi)
    have hsc := hus u (List.mem_cons_self ..)
    obtain ⟨w1, hrun1, ⟨F1, h1⟩, _⟩ := h.stored (off := 0) (n := 1) (cs := [AV.val u]) (us := [u]) hid hb hr (by omega) rfl (.cons (f1 := []) (f2 := []) (.val hsc) .nil) (fun x hx => by
      obtain rfl := List.mem_singleton.1 hx
      cases x <;> simp_all [isSc, plainV])
    have e0 : rows[i].take 0 ++ [AV.val u] ++ rows[i].drop (0 + 1) = [AV.val u] := by
      rw [List.drop_eq_nil_of_le (by omega)]; simp
    rw [e0] at h1
    obtain ⟨w2, hrun2, F2, h2⟩ := SR.storedL (us := us) (cs := cs') (i := i + 1) (rows := rows.set i [AV.val u]) (id := id) h1 (by simp [updH, upd]) hb (fun r hr => by
      rcases List.mem_or_eq_of_mem_set hr with hm | rfl
      · exact hrows r hm
      · rfl) hcs' (fun x hx => hus x (List.mem_cons_of_mem _ hx)) (by rw [List.length_set]; omega)
    refine ⟨w2, ?_, F2, ?_⟩
    · have es : storeCells ⟨b, o, none⟩ (u :: us) i = (do Go.store ((⟨b, o, none⟩ : Addr).add i) u; storeCells ⟨b, o, none⟩ us (i + 1)) := rfl
      have es1 : storeCells ⟨b, o + i * 1 + 0, none⟩ [u] = (do Go.store ((⟨b, o + i * 1 + 0, none⟩ : Addr).add 0) u; storeCells ⟨b, o + i * 1 + 0, none⟩ [] 1) := rfl
      rw [es1] at hrun1
      rw [es, Sem.run_bind]
      have ea : (⟨b, o + i * 1 + 0, none⟩ : Addr).add 0 = (⟨b, o, none⟩ : Addr).add i := by rw [add_none, add_none]; congr 1; omega
      rw [ea, Sem.run_bind] at hrun1
      cases hst : (Go.store ((⟨b, o, none⟩ : Addr).add i) u).run C.P w with
      | ok x wx =>
        rw [hst] at hrun1
        simp only [Result.andThen_ok] at hrun1 ⊢
        have : wx = w1 := by
          have e5 : (storeCells ⟨b, o + i * 1 + 0, none⟩ [] 1).run C.P wx = .ok () wx := rfl
          rw [e5] at hrun1
          simpa using hrun1
        rw [this]; exact hrun2
      | _ => rw [hst] at hrun1; simp [Result.andThen] at hrun1
    · have e3 : updH (updH S.h [(id, some (rows.set i [AV.val u]))]) [(id, some ((rows.set i [AV.val u]).take (i + 1) ++ cs' ++ (rows.set i [AV.val u]).drop (i + 1 + us.length)))] = updH S.h [(id, some (rows.take i ++ [AV.val u] :: cs' ++ rows.drop (i + (us.length + 1))))] := by
        funext j
        simp only [updH, upd]
        split
        · congr 2
          have t1 : (rows.set i [AV.val u]).take (i + 1) = rows.take i ++ [[AV.val u]] := by
            rw [List.take_set, List.set_eq_take_append_cons_drop, if_pos (by simp; omega)]
            simp [List.take_take, Nat.min_eq_left (Nat.le_succ i)]
          have t2 : (rows.set i [AV.val u]).drop (i + 1 + us.length) = rows.drop (i + (us.length + 1)) := by
            rw [List.drop_set, if_pos (by omega)]; congr 1; omega
          rw [t1, t2]; simp
        · rfl
      simp only [List.length_cons]
      rw [← e3]; exact h2
theorem storeCells_shift {b p d : Nat} : ∀ (us : List Value) (i : Nat), storeCells ⟨b, p + d, none⟩ us i = storeCells ⟨b, p, none⟩ us (d + i)
  | [], _ => rfl
  | u :: us, i => by
    have e1 : storeCells ⟨b, p + d, none⟩ (u :: us) i = (do Go.store ((⟨b, p + d, none⟩ : Addr).add i) u; storeCells ⟨b, p + d, none⟩ us (i + 1)) := rfl
    have e2 : storeCells ⟨b, p, none⟩ (u :: us) (d + i) = (do Go.store ((⟨b, p, none⟩ : Addr).add (d + i)) u; storeCells ⟨b, p, none⟩ us (d + i + 1)) := rfl
    have ea : (⟨b, p + d, none⟩ : Addr).add i = (⟨b, p, none⟩ : Addr).add (d + i) := by rw [add_none, add_none]; congr 1; omega
    rw [e1, e2, ea, storeCells_shift us (i + 1), Nat.add_assoc]
theorem oneCell_sc {v : Value} (h : isSc v = true) : v.oneCell' = true := by
  cases v <;> first | rfl | (simp [isSc] at h; done)
theorem vals_of {I : Nat → Prop} : ∀ {ys : Rows} {f : List Nat} {vs : List Value}, RL w I β f vs ys.flatten → ys.all oneVal = true → ys = vs.map (fun u => [AV.val u]) ∧ ∀ u ∈ vs, isSc u = true
  | [], f, vs, h, _ => by
    obtain ⟨_, rfl⟩ := RL.nil_inv h
    exact ⟨rfl, fun u hu => by cases hu⟩
  | r :: ys, f, vs, h, ho => by
    simp only [List.all_cons, Bool.and_eq_true] at ho
    obtain ⟨ho, ho2⟩ := ho
    unfold oneVal at ho
    split at ho
    · rw [List.flatten_cons] at h
      obtain ⟨f1, f2, v, vs', rfl, rfl, h1, h2⟩ := RL.cons_inv h
      obtain ⟨e, hs⟩ := vals_of h2 ho2
      cases h1 with
      | val hsc => exact ⟨by rw [e]; rfl, fun u hu => by rcases List.mem_cons.1 hu with rfl | hu; exact hsc; exact hs u hu⟩
    · cases ho
theorem ok_copy (h : SR C E w S a β F) {o : Oper} {c : Call} (ho : o.op = .call c) (hb : c.callee = .builtin .copy) {e : Eff}
    (he : evCopy C S o c.argTypes (c.args.toList.map fun x => un true (S.get C x)) = some e) (hd : inB S e) (hn : ∀ a' w', Nx C E (S.app e) a' w' → next a' w') : o.wp C.P a w next Q := by
  unfold evCopy at he
  split at he
  · rename_i xv yv el hargs hu
    match hal : c.args.toList, hargs with
    | [x, y], hargs =>
      simp at hargs
      obtain ⟨hxv, hyv⟩ := hargs
      have hx := h.getU x
      have hy := h.getU y
      rw [hxv] at hx
      rw [hyv] at hy
      simp only [Option.bind_eq_some_iff] at hu
      obtain ⟨t1, ht1, hu1⟩ := hu
      split at he
      · rename_i id off len ys i2 hsz hyr
        split at he
        · rename_i rows hid
          split at he
          · rename_i hcond
            simp only [Option.some.injEq] at he
            simp only [Bool.and_eq_true, decide_eq_true_eq] at hcond
            obtain ⟨⟨hyone, hrows1⟩, hfit⟩ := hcond
            have hrows1 := all_len hrows1
            have hys1 : ∀ r ∈ ys, r.length = 1 := fun r hr => by
              have := List.all_eq_true.1 hyone r hr
              unfold oneVal at this
              split at this
              · rfl
              · cases this
            obtain ⟨bay, ny, capy, vy, fy, hvy, hny, hly, hvyl, hcy⟩ := rows_sound h hy hyr hys1
            obtain ⟨hyv2, hysc⟩ := vals_of hly hyone
            have hs1 : (C.P.info? el).map (·.size) = some 1 := by simpa [sizeC] using hsz
            have hrunb : ∀ {v : Value} {w' : World}, (Builtin.copy_ #[t1, t1] o.type #[a.eval x, a.eval y]).run C.P w = .ok v w' → (execOp a.eval o).run C.P w = .ok (.value v) w' := fun hr => by
              rw [resolve_builtin ho hb]
              refine run_v ?_
              have e1 : c.args.map a.eval = #[a.eval x, a.eval y] := by rw [map_args hal]; rfl
              have e2 : ∀ args, Builtin.copy_ c.argTypes o.type args = Builtin.copy_ #[t1, t1] o.type args := fun args => by
                unfold Builtin.copy_
                simp [ht1]
              rw [e1]
              show (Builtin.copy_ c.argTypes o.type #[a.eval x, a.eval y]).run C.P w = _
              rw [e2]; exact hr
            have hny2 : ny = vy.length := by rw [hvyl]; omega
            by_cases h0 : min ys.length len = 0
            · have hxs : ∃ p dCap, a.eval x = .slice p len dCap := by
                rcases hx.rs_inv.2 with ⟨p, _, rfl, hv, _⟩ | ⟨_, _, _, _, cap, _, _, _, hv⟩
                · exact ⟨p, 0, hv⟩
                · exact ⟨_, cap, hv⟩
              obtain ⟨p, dCap, hxs⟩ := hxs
              have hrun := run_copy_none (P := C.P) w t1 t1 o.type el p bay len dCap ny capy hu1 hs1 (by show min ny len = 0; rw [hny]; exact h0)
              rw [← hxs, ← hvy] at hrun
              refine wp_val (hrunb hrun) (hn _ _ ⟨β, F, ?_⟩)
              subst he
              have e1 : S.app (put o (goI ((min ys.length len : Nat) : Int)) (id :: i2) [(id, some (rows.take off ++ ys.take (min ys.length len) ++ rows.drop (off + min ys.length len)))]) = S.app (put o (goI 0) (id :: i2) []) := by
                rw [h0]
                simp only [St.app, put, List.take_zero, List.append_nil, Nat.add_zero, List.take_append_drop, updH]
                congr 1
                funext j
                simp only [upd]
                split
                · rename_i hj; subst hj; exact hid.symm
                · rfl
              rw [e1]
              exact h.val o _ (.val rfl) (by rw [h0] at hd; simpa [inB, put] using hd)
            · rcases hx.rs_inv.2 with ⟨p, _, rfl, hv, _⟩ | ⟨b, p, sz, n', cap, hβ, hfit2, hlc, hxs⟩
              · omega
              · obtain ⟨vs, fps, hfp, hB, ⟨hne, hrows⟩, hszm, hcl, hl⟩ := (h.obj id rows hid).at hβ
                have hsz1 : sz = 1 := by
                  have hpos : 0 < rows.length := List.length_pos_iff.2 hne
                  have hm : rows[0] ∈ rows := List.getElem_mem hpos
                  rw [← hrows _ hm]; exact hrows1 _ hm
                subst hsz1
                rcases hcy with hcy | ⟨b', o', rfl, hcly⟩
                · omega
                · obtain ⟨cc, tt, hcc, hcs⟩ := hB
                  have hmin : (vy.take (min ys.length len)).length = min ys.length len := by rw [List.length_take]; omega
                  have hrun := run_copy_row (P := C.P) w t1 t1 o.type el b (p + off * 1) len cap ⟨b', o', none⟩ ny capy cc tt (vy.take (min ys.length len)) hu1 hs1 hcc (by rw [hmin, hny])
                    (fun j v hj => by
                      rw [add_none]
                      refine hcly j v ?_
                      rw [List.getElem?_take] at hj
                      split at hj
                      · exact hj
                      · cases hj) (by rw [hmin]; omega) (fun v hv => by
                        exact oneCell_sc (hysc v (List.mem_of_mem_take hv)))
                  rw [← hxs, ← hvy] at hrun
                  obtain ⟨w', hst, F', hS'⟩ := SR.storedL (us := vy.take (min ys.length len)) (cs := ys.take (min ys.length len)) (i := off) (o := p) h hid hβ hrows1 (by rw [hyv2, List.map_id', List.map_take]) (fun u hu => hysc u (List.mem_of_mem_take hu)) (by rw [hmin]; omega)
                  have hst2 := run_storeCells_at C.P b (p + off * 1) tt (vy.take (min ys.length len)) 0 cc w hcc (by rw [hmin]; omega) (fun v hv => by
                        exact oneCell_sc (hysc v (List.mem_of_mem_take hv)))
                  rw [storeCells_shift, Nat.add_zero, Nat.mul_one, hst] at hst2
                  have hw : w' = w.setRow b (cc.toList.take (p + off * 1) ++ vy.take (min ys.length len) ++ cc.toList.drop (p + off * 1 + (vy.take (min ys.length len)).length)).toArray := by
                    simpa using hst2
                  rw [← hw, hmin] at hrun
                  refine wp_val (hrunb hrun) (hn _ _ ⟨β, F', ?_⟩)
                  subst he
                  have := hS'.val o (v := goInt ((min ys.length len : Nat) : Int)) (x := goI ((min ys.length len : Nat) : Int)) [] (.val rfl) (by simpa [inB, put] using hd)
                  rw [hmin] at this
                  exact this
          · cases he
        · cases he
      · cases he
  · cases he
end
end Go.Ab
