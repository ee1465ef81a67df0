/-
  CODE, FUNCTIONS: what the abstract machine answers is true.
-/
import Derived.Test.YtbgakafgplbbnaaDoorAbDraw
import Derived.Deep.LoopGhost
namespace Go.Ab
open Go

/-- Every region that draws its order is one whose order makes no difference. -/
def okC (C : Cx) (f : FuncId) : Code → Bool
  | .region id ops draw => !draw || slotsFree C f id ops
  | .seq a b => okC C f a && okC C f b
  | .cond _ a b => okC C f a && okC C f b
  | .block _ c => okC C f c
  | .loop c => okC C f c
  | _ => true

theorem nodupB_spec : ∀ {l : List Id}, nodupB l = true → l.Nodup
  | [], _ => List.nodup_nil
  | x :: l, h => by
    simp only [nodupB, Bool.and_eq_true, Bool.not_eq_true', List.contains_eq_mem, decide_eq_false_iff_not] at h
    exact List.nodup_cons.2 ⟨h.1, nodupB_spec h.2⟩

theorem perm_nodup {fp rest l : List Nat} (h : (fp ++ rest).Perm l) (hl : l.Nodup) : fp.Nodup := (List.nodup_append.1 (h.nodup_iff.2 hl)).1
theorem perm_mem {fp rest l : List Nat} (h : (fp ++ rest).Perm l) {b : Nat} (hb : b ∈ fp) : b ∈ l := h.mem_iff.1 (List.mem_append.2 (.inl hb))

section
variable {C : Cx} {E : Env} {w : World} {S : St} {a : Act} {β : Id → Option Loc} {F : Id → List Nat}
variable {f : FuncId} {call : FuncId → List AV → Option (AV × List AV)}

theorem flatF_nodup (h : SR C E w S a β F) : ∀ {ids : List Id}, ids.Nodup → (ids.flatMap F).Nodup
  | [], _ => List.nodup_nil
  | i :: ids, hn => by
    rw [List.flatMap_cons, List.nodup_append]
    refine ⟨h.nd i, flatF_nodup h (List.nodup_cons.1 hn).2, fun b hb c hc e => ?_⟩
    subst e
    obtain ⟨j, hj, hb'⟩ := List.mem_flatMap.1 hc
    have := h.dj i j b hb hb'
    subst this
    exact (List.nodup_cons.1 hn).1 hj

theorem packL_sound (h : SR C E w S a β F) : ∀ {slots : List Nat} {x}, packL S.h S.t slots = some x →
    ∃ fp rest, RL w (Im E w F) noB fp (slots.map (a.tmps.getD · undef)) x.1 ∧ (fp ++ rest).Perm (x.2.flatMap F)
  | [], x, hx => by
    simp [packL] at hx; subst hx
    exact ⟨[], [], .nil, by simp⟩
  | s :: l, x, hx => by
    simp only [packL, Option.bind_eq_some_iff, Option.map_eq_some_iff] at hx
    obtain ⟨y, hy, z, hz, rfl⟩ := hx
    obtain ⟨fp1, r1, g1, g2⟩ := pk_sound h.obj 9 _ _ hy _ _ (h.slot s)
    obtain ⟨fp2, r2, g3, g4⟩ := packL_sound h hz
    refine ⟨fp1 ++ fp2, r1 ++ r2, .cons g1 g3, ?_⟩
    have := perm_mid (f1 := []) (f2 := []) g2 (by simpa using g4)
    simpa [List.flatMap_append] using this

/-- What lives at a loop's head, told anew. -/
theorem SR.renorm (h : SR C E w S a β F) {slots : List Nat} {tvs : List AV} (hs : slots.Nodup) (hr : renorm S slots = some tvs) : Nx C E (mkSt S.n slots tvs) a w := by
  unfold Ab.renorm at hr
  split at hr
  · rename_i tvs' ids hp
    split at hr
    · rename_i hnd
      simp only [Option.some.injEq] at hr; subst hr
      obtain ⟨fp, rest, g1, g2⟩ := packL_sound h hp
      have hmem : ∀ b ∈ fp, ∃ id, b ∈ F id := fun b hb => by
        obtain ⟨id, _, hid⟩ := List.mem_flatMap.1 (perm_mem g2 hb)
        exact ⟨id, hid⟩
      refine SR.enter (I := Im E w F) h.n h.df g1 hs (perm_nodup g2 (flatF_nodup h (nodupB_spec hnd))) (fun b hb => ⟨hb.1, hb.2.1, fun hm => ?_⟩) (fun b hb => ?_) h.kept (fun g cs hg => (h.glob g cs hg).imm_to rfl fun _ h => h)
      · obtain ⟨id, hid⟩ := hmem b hm
        exact hb.2.2 id hid
      · obtain ⟨id, hid⟩ := hmem b hb
        exact h.lt id b hid
    · cases hr
  · cases hr

theorem evOps_n {ops : Array Oper} : ∀ {l : List Oper} {i : Nat} {S S' : St} {ks : List HKey}, evOps C f call ops i l S = some (S', ks) → S'.n = S.n
  | [], i, S, S', ks, h => by simp only [evOps, Option.some.injEq, Prod.mk.injEq] at h; rw [h.1]
  | o :: l, i, S, S', ks, h => by
    simp only [evOps, Option.bind_eq_some_iff] at h
    obtain ⟨e, _, h⟩ := h
    split at h
    · simp only [Option.map_eq_some_iff, Prod.mk.injEq] at h
      obtain ⟨⟨S1, k1⟩, h1, rfl, _⟩ := h
      exact evOps_n (S := S.app e) h1
    · cases h

theorem evLoop_n {n : Nat} {g : List AV → Option (Exit × St)} {rn : St → Option (List AV)} (hg : ∀ tvs x, g tvs = some x → x.2.n = n) : ∀ (m : Nat) (tvs : List AV) (x : Exit × St), evLoop g rn m tvs = some x → x.2.n = n
  | 0, _, _, h => by simp [evLoop] at h
  | m + 1, tvs, x, h => by
    simp only [evLoop, Option.bind_eq_some_iff] at h
    obtain ⟨⟨e, S1⟩, h1, h2⟩ := h
    cases e with
    | normal =>
      simp only [Option.bind_eq_some_iff] at h2
      obtain ⟨t, _, h2⟩ := h2
      exact evLoop_n hg m t x h2
    | _ => simp only [Option.some.injEq] at h2; subst h2; exact hg _ _ h1

/-- A way of running loops that is one by rounds. -/
def LpOk (lp : (List AV → Option (Exit × St)) → (St → Option (List AV)) → List AV → Option (Exit × St)) : Prop := ∀ g rn tvs x, lp g rn tvs = some x → ∃ m, evLoop g rn m tvs = some x

theorem evCode_n {lp : (List AV → Option (Exit × St)) → (St → Option (List AV)) → List AV → Option (Exit × St)} (hlp : LpOk lp) : ∀ (c : Code) (S : St) (x : Exit × St), evCode C f call lp c S = some x → x.2.n = S.n := by
  intro c
  induction c with
  | skip => intro S x h; simp only [evCode, Option.some.injEq] at h; subst h; rfl
  | label l => intro S x h; simp only [evCode, Option.some.injEq] at h; subst h; rfl
  | exit i => intro S x h; simp only [evCode, Option.some.injEq] at h; subst h; rfl
  | ret => intro S x h; simp only [evCode, Option.some.injEq] at h; subst h; rfl
  | region id ops draw =>
    intro S x h
    simp only [evCode, Option.map_eq_some_iff] at h
    obtain ⟨S1, h1, rfl⟩ := h
    unfold evRegion at h1
    obtain ⟨⟨S2, ks⟩, h2, h3⟩ := Option.bind_eq_some_iff.1 h1
    have := evOps_n h2
    cases draw with
    | false => simp only [Bool.false_eq_true, if_false, Option.some.injEq] at h3; subst h3; exact this
    | true =>
      simp only [if_true] at h3
      split at h3
      · simp only [Option.some.injEq] at h3; subst h3; exact this
      · cases h3
  | seq c1 c2 ih1 ih2 =>
    intro S x h
    simp only [evCode, Option.bind_eq_some_iff] at h
    obtain ⟨⟨x1, S1⟩, h1, h2⟩ := h
    have e1 := ih1 _ _ h1
    cases x1 with
    | normal => rw [ih2 _ _ h2]; exact e1
    | _ => simp only [Option.some.injEq] at h2; subst h2; exact e1
  | cond c c1 c2 ih1 ih2 =>
    intro S x h
    simp only [evCode] at h
    split at h
    · split at h
      · exact ih1 _ _ h
      · exact ih2 _ _ h
    · cases h
  | block id c ih =>
    intro S x h
    simp only [evCode, Option.map_eq_some_iff] at h
    obtain ⟨y, h1, rfl⟩ := h
    show y.2.n = S.n
    exact ih S y h1
  | loop c ih =>
    intro S x h
    simp only [evCode, Option.bind_eq_some_iff] at h
    obtain ⟨tvs, h1, h2⟩ := h
    obtain ⟨m, h2⟩ := hlp _ _ _ _ h2
    exact evLoop_n (n := S.n) (fun tvs x hx => by rw [ih _ _ hx, mkSt_n]) m tvs x h2
  | _ => intro S x h; simp [evCode] at h

/-- CODE. -/
theorem ok_code (hN : NoCount C.P) (hm : C.P.follows .mixedOrders = true) (hlive : ∀ f i, (C.live f i).Nodup) (hcall : ∀ k as r, call k as = some r → Sound C k as r) {lp : (List AV → Option (Exit × St)) → (St → Option (List AV)) → List AV → Option (Exit × St)} (hlp : LpOk lp) :
    ∀ (c : Code) (S : St) (x : Exit) (S' : St) (a : Act) (w : World) (Q : Exit → Act → World → Prop), okC C f c = true → evCode C f call lp c S = some (x, S') → Nx C E S a w →
      (∀ a' w', Nx C E S' a' w' → Q x a' w') → c.wp C.P Q a w := by
  intro c
  induction c with
  | skip => intro S x S' a w Q _ h hS hQ; simp only [evCode, Option.some.injEq, Prod.mk.injEq] at h; obtain ⟨rfl, rfl⟩ := h; exact wp_skip (hQ _ _ hS)
  | label l => intro S x S' a w Q _ h hS hQ; simp only [evCode, Option.some.injEq, Prod.mk.injEq] at h; obtain ⟨rfl, rfl⟩ := h; exact wp_label (hQ _ _ hS)
  | exit i => intro S x S' a w Q _ h hS hQ; simp only [evCode, Option.some.injEq, Prod.mk.injEq] at h; obtain ⟨rfl, rfl⟩ := h; exact wp_exit (hQ _ _ hS)
  | ret => intro S x S' a w Q _ h hS hQ; simp only [evCode, Option.some.injEq, Prod.mk.injEq] at h; obtain ⟨rfl, rfl⟩ := h; exact wp_ret (hQ _ _ hS)
  | region id ops draw =>
    intro S x S' a w Q hok h hS hQ
    simp only [evCode, Option.map_eq_some_iff, Prod.mk.injEq] at h
    obtain ⟨S1, h1, rfl, rfl⟩ := h
    refine ok_region hN hm hcall (fun hd => ?_) h1 hS hQ
    simpa [okC, hd] using hok
  | seq c1 c2 ih1 ih2 =>
    intro S x S' a w Q hok h hS hQ
    simp only [okC, Bool.and_eq_true] at hok
    simp only [evCode, Option.bind_eq_some_iff] at h
    obtain ⟨⟨x1, S1⟩, h1, h2⟩ := h
    refine wp_seq ?_
    refine ih1 S x1 S1 a w _ hok.1 h1 hS fun a' w' hx => ?_
    cases x1 with
    | normal => exact ih2 S1 x S' a' w' Q hok.2 h2 hx hQ
    | _ => simp only [Option.some.injEq, Prod.mk.injEq] at h2; obtain ⟨rfl, rfl⟩ := h2; exact hQ _ _ hx
  | cond c c1 c2 ih1 ih2 =>
    intro S x S' a w Q hok h hS hQ
    simp only [okC, Bool.and_eq_true] at hok
    simp only [evCode] at h
    split at h
    · rename_i t ht
      obtain ⟨β, F, hSR⟩ := hS
      have hc := hSR.getU c
      rw [ht] at hc
      refine wp_cond (t := t) hc.val_inv.2 ?_
      cases t with
      | true => simp only [if_true] at h ⊢; exact ih1 S x S' a w Q hok.1 h ⟨β, F, hSR⟩ hQ
      | false => simp only [Bool.false_eq_true, if_false] at h ⊢; exact ih2 S x S' a w Q hok.2 h ⟨β, F, hSR⟩ hQ
    · cases h
  | block id c ih =>
    intro S x S' a w Q hok h hS hQ
    simp only [evCode, Option.map_eq_some_iff, Prod.mk.injEq] at h
    obtain ⟨⟨x1, S1⟩, h1, hx, rfl⟩ := h
    refine wp_block (ih S x1 S1 a w _ (by simpa [okC] using hok) h1 hS fun a' w' hn => ?_)
    simp only at hx
    cases x1 with
    | exit i =>
      simp only at hx
      by_cases hi : i = id
      · rw [if_pos hi] at hx; subst hx
        simp only [Exit.inBlock, hi, if_true]
        exact hQ _ _ hn
      · rw [if_neg hi] at hx; subst hx
        simp only [Exit.inBlock, hi, if_false]
        exact hQ _ _ hn
    | _ => simp only at hx; subst hx; exact hQ _ _ hn
  | loop c ih =>
    intro S x S' a w Q hok h hS hQ
    have key : ∀ slots : List Nat, slots.Nodup → ∀ tvs, Ab.renorm S slots = some tvs → lp (fun tvs => evCode C f call lp c (mkSt S.n slots tvs)) (fun S' => Ab.renorm S' slots) tvs = some (x, S') → (Code.loop c).wp C.P Q a w := by
      intro slots hsl tvs h1 h2
      obtain ⟨m, h2⟩ := hlp _ _ _ _ h2
      obtain ⟨β, F, hSR⟩ := hS
      refine wp_loop_ghost (fun n a w => ∃ tvs, evLoop (fun tvs => evCode C f call lp c (mkSt S.n slots tvs)) (fun S' => Ab.renorm S' slots) n tvs = some (x, S') ∧ Nx C E (mkSt S.n slots tvs) a w) m ⟨tvs, h2, hSR.renorm hsl h1⟩ ?_
      rintro n a w ⟨tvs, hl, hS⟩
      cases n with
      | zero => simp [evLoop] at hl
      | succ n =>
        simp only [evLoop, Option.bind_eq_some_iff] at hl
        obtain ⟨⟨x1, S1⟩, g1, g2⟩ := hl
        refine ih _ x1 S1 a w _ (by simpa [okC] using hok) g1 hS fun a' w' hn => ?_
        cases x1 with
        | normal =>
          simp only [Option.bind_eq_some_iff] at g2
          obtain ⟨tvs', g2, g3⟩ := g2
          obtain ⟨β', F', hn⟩ := hn
          refine ⟨n, Nat.lt_succ_self n, tvs', g3, ?_⟩
          have hS1n : S1.n = S.n := by rw [evCode_n hlp _ _ _ g1, mkSt_n]
          rw [← hS1n]
          exact hn.renorm hsl g2
        | _ => simp only [Option.some.injEq, Prod.mk.injEq] at g2; obtain ⟨rfl, rfl⟩ := g2; exact hQ _ _ hn
    simp only [evCode, Option.bind_eq_some_iff] at h
    obtain ⟨tvs, h1, h2⟩ := h
    refine key _ ?_ tvs h1 h2
    split
    · exact hlive _ _
    · exact List.nodup_nil
  | _ => intro S x S' a w Q _ h; simp [evCode] at h

/-! ### Results -/

theorem resC_sound (h : SR C E w S a β F) {r : ResultVar} {x} (hx : resC C S r = some x) :
    ∃ v fp rest, ((match r with | .tmp t => pure (a.tmps.getD t undef) | .cell c t => do loadVar t (← asAddr (a.tmps.getD c undef)) : Sem Value)).run C.P w = .ok v w ∧ R w (Im E w F) noB fp v x.1 ∧ (fp ++ rest).Perm (x.2.flatMap F) := by
  cases r with
  | tmp t =>
    obtain ⟨fp, rest, g1, g2⟩ := pk_sound h.obj 9 _ _ hx _ _ (h.slot t).un
    exact ⟨_, fp, rest, rfl, g1, by simpa using g2⟩
  | cell c t =>
    simp only [resC] at hx
    have hc := (h.slot c).un
    split at hx
    · rename_i b n cells hb hn hcl
      rw [hcl] at hc
      split at hx
      · rename_i hle
        obtain ⟨y, hy, hx⟩ := Option.bind_eq_some_iff.1 hx
        obtain ⟨_, blk, o, vs, hv, hI, hC, hl⟩ := hc.vp_inv
        obtain ⟨f1, f2, f3, e0, l1, l2, l3⟩ := hl.split3 0 n (by omega)
        have hf2 : f2 = [] := by
          have := congrArg List.length e0
          simp at this
          exact List.length_eq_zero_iff.1 (by omega)
        subst hf2
        simp only [List.drop_zero] at l2
        obtain ⟨v, r1, r2, r3⟩ := mkV_sound l2 hy
        obtain ⟨fp, rest, g1, g2⟩ := pk_sound h.obj 9 _ _ hx _ _ (r1.up (β := β))
        refine ⟨v, fp, rest, ?_, g1, by simpa using g2⟩
        have hlen := l2.length
        simp only
        rw [hv]
        simp only [asAddr]
        exact run_loadV hb hn (hC.take n) (by rw [hlen]; simp; omega) r2 r3
      · cases hx
    · rename_i b n id row off hb hn hcl
      rw [hcl] at hc
      split at hx
      · rename_i rows hid
        split at hx
        · rename_i rr hrow
          split at hx
          · rename_i hfit
            obtain ⟨y, hy2, rfl⟩ := Option.map_eq_some_iff.1 hx
            obtain ⟨u, hu, hpk⟩ := Option.bind_eq_some_iff.1 hy2
            obtain ⟨_, b', o', sz', n', hb', hv⟩ := hc.mp_inv
            rcases h.obj id rows hid with ⟨hb0, h0, hF⟩ | ⟨blk, o, sz, n', vs, fps, hbk, hF, hblk, ⟨hne, hsz⟩, hle, hcl, hrl⟩
            · subst h0; simp at hrow
            · rw [hbk] at hb'
              simp only [Option.some.injEq, Loc.blk.injEq] at hb'
              obtain ⟨rfl, rfl, rfl, rfl⟩ := hb'
              obtain ⟨g1, g2, _⟩ := flat_part (off := off) (n := n) hrow hsz hfit
              obtain ⟨f1, f2, f3, e0, l1, l2, l3⟩ := hrl.split3 (row * sz + off) n g1
              rw [g2] at l2
              obtain ⟨v, r1, r2, r3⟩ := mkV_sound l2 hu
              obtain ⟨fp, rest, q1, q2⟩ := pk_sound h.obj 9 _ _ hpk _ _ r1
              refine ⟨v, fp, rest ++ blk :: (f1 ++ f3), ?_, q1, ?_⟩
              · simp only
                rw [hv]
                simp only [asAddr]
                have hlen := l2.length
                rw [Nat.add_assoc]
                exact run_loadV hb hn ((hcl.drop (row * sz + off)).take n) (by rw [hlen]; simp; omega) r2 r3
              · rw [List.perm_iff_count] at q2 ⊢
                intro z
                have := q2 z
                simp only [List.flatMap_cons, hF, e0, List.count_append, List.count_cons, List.cons_append] at *
                omega
          · cases hx
        · cases hx
      · cases hx
    · cases hx

end
end Go.Ab
