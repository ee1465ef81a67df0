/-
  GUARDS; A REGION IN ITS OWN ORDER.
-/
import Derived.Test.YtbhpblokoecoaaaAbReg
namespace Go.Ab
open Go
inductive Did (C : Cx) (f : FuncId) (call : FuncId → List AV → Option (AV × List AV)) (ops : Array Oper) (S : St) (o : Oper) : Eff → Prop
  | yes {e e' : Eff} : guardC S ops o = some true → evOp C f call S true o = some e → e'.rd = e.rd → e'.wr = e.wr → (e' = e ∨ ∃ v, e.sw = (put o v [] []).sw ∧ e'.sw = (put o (.gv true v) [] []).sw) → Did C f call ops S o e'
  | no {e' : Eff} {x : AV} : guardC S ops o = some false → e'.wr = [] → (x = .junk ∨ ∃ y, x = .gv false y) → e'.sw = (put o x [] []).sw → Did C f call ops S o e'
section
variable {C : Cx} {E : Env} {w : World} {S : St} {a : Act} {β : Id → Option Loc} {F : Id → List Nat}
variable {next : Act → World → Prop} {Q : Exit → Act → World → Prop}
variable {f : FuncId} {call : FuncId → List AV → Option (AV × List AV)} {ops : Array Oper}
theorem R.gv_false {I : Nat → Prop} {g : List Nat} {v : Value} {x : AV} (h : R w I β g v (.gv false x)) : v = undef := by
  cases h; rfl
theorem did_of_evG {o : Oper} {e : Eff} (h : evG C f call S ops o = some e) : Did C f call ops S o e := by
  unfold evG at h
  split at h
  · cases h
  · rename_i g hg
    split at h
    · rename_i hn
      have : g = true := by simpa [guardC, hn] using hg.symm
      subst this
      exact .yes hg h rfl rfl (.inl rfl)
    · split at h
      · rename_i e0 he0
        split at h
        · rename_i hw
          simp only [Option.some.injEq] at h; subst h
          rcases shaped_op he0 with ⟨v, hv⟩ | ⟨hne, _⟩
          · cases g with
            | true =>
              refine .yes hg he0 rfl rfl (.inr ⟨v, hv, ?_⟩)
              simp only [hv, put]; cases o.dst <;> rfl
            | false =>
              refine .no (x := .gv false v) hg (by simpa using hw) (.inr ⟨v, rfl⟩) ?_
              simp only [hv, put]; cases o.dst <;> rfl
          · exact absurd (by simpa using hw) hne
        · cases g with
          | true =>
            simp only [if_true, Option.some.injEq] at h; subst h
            exact .yes hg he0 rfl rfl (.inl rfl)
          | false =>
            simp only [Bool.false_eq_true, if_false, Option.some.injEq] at h; subst h
            exact .no hg rfl (.inr ⟨_, rfl⟩) rfl
      · cases g with
        | true => simp at h
        | false =>
          simp only [Bool.false_eq_true, if_false, Option.some.injEq] at h; subst h
          exact .no hg rfl (.inr ⟨_, rfl⟩) rfl
theorem wanted_of (h : SR C E w S a β F) {o : Oper} {g : Bool} (hg : guardC S ops o = some g) : Region.wanted o (yielded ops a.tmps) = g := by
  unfold guardC at hg
  unfold Region.wanted
  cases hgd : o.guard with
  | none => simp [hgd] at hg; simp [hg]
  | some jw =>
    obtain ⟨j, want⟩ := jw
    simp only [hgd] at hg ⊢
    unfold yielded
    cases hd : (ops[j]?).bind (·.dst) with
    | none => simp [hd] at hg
    | some d =>
      simp only [hd] at hg
      simp only [Option.bind_some]
      have hr := h.slot d
      have hget : ∀ b, a.tmps.getD d undef = .bool b → a.tmps[d]? = some (.bool b) := fun b hb => by
        rw [Array.getD_eq_getD_getElem?] at hb
        cases hx : a.tmps[d]? with
        | none => rw [hx] at hb; simp [undef] at hb
        | some x => rw [hx] at hb; simpa using hb
      split at hg
      · rename_i b hb
        rw [hb] at hr
        rw [hget b hr.val_inv.2]
        simpa using hg
      · rename_i g' b hb
        rw [hb] at hr
        simp only [Option.some.injEq] at hg
        cases g' with
        | true =>
          have := (hr.gv_inv.2 rfl).val_inv.2
          rw [hget b this]
          simpa using hg
        | false =>
          have hu := hr.gv_false
          have hnb : ∀ b, a.tmps[d]? ≠ some (.bool b) := fun b hx => by
            rw [Array.getD_eq_getD_getElem?, hx] at hu
            simp [undef] at hu
          have : g = false := by simpa using hg.symm
          subst this
          cases hx : a.tmps[d]? with
          | none => rfl
          | some x => cases x <;> first | rfl | exact absurd hx (hnb _)
      · rename_i x hb
        rw [hb] at hr
        have hu := hr.gv_false
        have hnb : ∀ b, a.tmps[d]? ≠ some (.bool b) := fun b hx => by
          rw [Array.getD_eq_getD_getElem?, hx] at hu
          simp [undef] at hu
        have : g = false := by simpa using hg.symm
        subst this
        cases hx : a.tmps[d]? with
        | none => rfl
        | some x => cases x <;> first | rfl | exact absurd hx (hnb _)
      · cases hg
theorem ok_did (hN : NC C) (hcall : ∀ k as r, call k as = some r → Sound C k as r) (h : SR C E w S a β F) {o : Oper} {e : Eff} (he : Did C f call ops S o e) (hd : inB S e)
    (hn : ∀ a' w', Nx C E (S.app e) a' w' → next a' w') : if Region.wanted o (yielded ops a.tmps) then o.wp C.P a w next Q else next (a.put o.dst undef) w := by
  cases he with
  | @yes e0 _ hg hop hrd hwr hsw =>
    rw [wanted_of h hg, if_pos rfl]
    rcases hsw with rfl | ⟨v, hv, hv'⟩
    · exact ok_op hN hcall h hop hd hn
    · have hd0 : inB S e0 := by
        unfold inB at hd ⊢
        rw [hv]; rw [hv'] at hd
        cases hdst : o.dst <;> simp [put, hdst] at hd ⊢
        exact hd
      refine ok_op hN hcall h hop hd0 fun a' w' hx => hn a' w' ?_
      obtain ⟨β', F', hx⟩ := hx
      refine ⟨β', F', ?_⟩
      cases hdst : o.dst with
      | none =>
        have e1 : S.app e = S.app e0 := by simp [St.app, hv, hv', hwr, put, hdst]
        rw [e1]; exact hx
      | some d =>
        have hs := hx.slot d
        have e2 : (S.app e0).t d = v := by simp [St.app, hv, put, hdst, updS, upd]
        rw [e2] at hs
        have := hx.slotAnew d (.gv1 hs)
        have e1 : S.app e = ⟨(S.app e0).n, upd (S.app e0).t d (.gv true v), (S.app e0).h⟩ := by
          simp only [St.app, hv, hv', hwr, put, hdst, updS, St.mk.injEq, true_and, and_true]
          funext t
          simp only [upd]; split <;> rfl
        rw [e1]; exact this
  | @no _ x hg hwr hx hsw =>
    rw [wanted_of h hg]
    simp only [Bool.false_eq_true, if_false]
    refine hn _ _ ⟨β, F, ?_⟩
    have e1 : S.app e = S.app (put o x [] []) := by simp [St.app, hsw, hwr, put]
    rw [e1]
    have hd0 : inB S (put o x [] []) := by unfold inB at hd ⊢; rw [hsw] at hd; exact hd
    refine h.val o [] ?_ hd0
    rcases hx with rfl | ⟨y, rfl⟩
    · exact .junk
    · exact .gv0
theorem wp_put {P : Program} {o : Oper} {next next' : Act → World → Prop} (h : o.wp P a w next Q) (hn : ∀ a' w' v, a'.tmps = (a.put o.dst v).tmps → next a' w' → next' a' w') : o.wp P a w next' Q := by
  unfold Oper.wp at h ⊢
  cases hr : (execOp a.eval o).run P w with
  | ok x w1 =>
    rw [hr] at h
    cases x with
    | value v => exact hn _ _ v rfl h
    | skip => exact hn _ _ undef rfl h
    | defer d => exact hn _ _ undef (by cases o.dst <;> rfl) h
    | enter f args =>
      simp only [Oper.upon] at h ⊢
      refine h.mono fun e w'' hh => ?_
      cases e with
      | returned v => exact hn _ _ v rfl hh
      | _ => exact hh
    | row r args => exact Rows.mono h fun v w'' hh => hn _ _ v rfl hh
    | _ => exact h
  | halt x w1 =>
    rw [hr] at h
    cases x <;> exact h
def KOk (K : Act → Prop) (ops : Array Oper) : Prop := ∀ (i : Nat) (o : Oper), ops[i]? = some o → ∀ a a' v, K a → a'.tmps = (a.put o.dst v).tmps → K a'
theorem ok_did_k {K : Act → Prop} (hN : NC C) (hcall : ∀ k as r, call k as = some r → Sound C k as r) (h : SR C E w S a β F) {o : Oper} {e : Eff} (he : Did C f call ops S o e) (hd : inB S e)
    (hk : ∀ a' v, a'.tmps = (a.put o.dst v).tmps → K a') (hn : ∀ a' w', Nx C E (S.app e) a' w' → K a' → next a' w') : if Region.wanted o (yielded ops a.tmps) then o.wp C.P a w next Q else next (a.put o.dst undef) w := by
  have := ok_did (Q := Q) (next := Nx C E (S.app e)) hN hcall h he hd (fun _ _ h => h)
  split at this
  · rename_i hw; rw [if_pos hw]; exact wp_put this fun a' w' v e h => hn _ _ h (hk _ v e)
  · rename_i hw; rw [if_neg hw]; exact hn _ _ this (hk _ undef rfl)
theorem ok_ops {K : Act → Prop} (hKo : KOk K ops) (hN : NC C) (hcall : ∀ k as r, call k as = some r → Sound C k as r) : ∀ (l : List Oper) (i : Nat) {S S' : St} {ks : List HKey} {a : Act} {w : World}, (∀ j, l[j]? = ops[i + j]?) → evOps C f call ops i l S = some (S', ks) →
    Nx C E S a w → K a → (∀ a' w', Nx C E S' a' w' → K a' → Q .normal a' w') → wpOps C.P ops Q (List.range' i l.length) a w
  | [], i, S, S', ks, a, w, _, h, hS, hK, hq => by
    simp [evOps] at h
    obtain ⟨rfl, _⟩ := h
    exact hq _ _ hS hK
  | o :: l, i, S, S', ks, a, w, hl, h, hS, hK, hq => by
    have h0 : ops[i]? = some o := by simpa using (hl 0).symm
    simp only [evOps, Option.bind_eq_some_iff] at h
    obtain ⟨e, he, h⟩ := h
    split at h
    · rename_i hd
      obtain ⟨⟨S1, k1⟩, h1, h2⟩ := Option.map_eq_some_iff.1 h
      simp only [Prod.mk.injEq] at h2
      obtain ⟨rfl, _⟩ := h2
      obtain ⟨β, F, hS⟩ := hS
      rw [List.length_cons, List.range'_succ, wpOps_cons]
      unfold wpOp
      simp only [h0]
      have := ok_did_k (Q := Q) (K := K) (next := wpOps C.P ops Q (List.range' (i + 1) l.length)) hN hcall hS (did_of_evG he) hd (fun a' v e => hKo i o h0 a a' v hK e) fun a' w' hx hk =>
        ok_ops hKo hN hcall l (i + 1) (fun j => by have := hl (j + 1); simpa [Nat.add_assoc, Nat.add_comm 1 j] using this) h1 hx hk hq
      split at this
      · rename_i hw; simp only [hw, if_true]; exact .inl this
      · rename_i hw; simp only [hw]; exact this
    · cases h
end
end Go.Ab
