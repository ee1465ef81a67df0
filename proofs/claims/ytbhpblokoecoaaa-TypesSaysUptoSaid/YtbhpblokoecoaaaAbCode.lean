/-
  CODE, FUNCTIONS: what the abstract machine answers is true.
-/
import Derived.Test.YtbhpblokoecoaaaAbRange
namespace Go.Ab
open Go
def keepB (l : List Nat) (ops : Array Oper) : Bool := l.isEmpty || ops.all fun o => l.all fun j => o.dst != some j
theorem keepB_spec {l : List Nat} {ops : Array Oper} (h : keepB l ops = true) (g : Nat → Value) : KOk (KL l g) ops := by
  intro i o ho a a' v hK e j hj
  rw [e]
  have hne : o.dst ≠ some j := by
    unfold keepB at h
    rw [Bool.or_eq_true] at h
    rcases h with h | h
    · rw [List.isEmpty_iff] at h; rw [h] at hj; cases hj
    · rw [Array.all_eq_true_iff_forall_mem] at h
      have := h o (Array.mem_of_getElem? ho)
      rw [List.all_eq_true] at this
      simpa using this j hj
  rw [← hK j hj]
  cases hd : o.dst with
  | none => rfl
  | some d =>
    have : d ≠ j := fun e => hne (by rw [hd, e])
    simp only [Act.put, Array.getD_eq_getD_getElem?, Array.getElem?_setIfInBounds]
    rw [if_neg this]
def okW (l : List Nat) : Code → Bool
  | .region _ ops _ => keepB l ops
  | .seq a b => okW l a && okW l b
  | .cond _ a b => okW l a && okW l b
  | .block _ c => okW l c
  | .loop c => okW l c
  | _ => true
def okR : Code → Bool
  | .region _ ops _ => noDefer ops
  | .seq a b => okR a && okR b
  | .cond _ a b => okR a && okR b
  | .block _ c => okR c
  | .loop c => okR c
  | .rangeFunc .. => false
  | _ => true
def okD (C : Cx) (f : FuncId) : Code → Bool
  | .region id ops draw => !draw || slotsFree C f id ops
  | .seq a b => okD C f a && okD C f b
  | .cond _ a b => okD C f a && okD C f b
  | .block _ c => okD C f c
  | .loop c => okD C f c
  | .rangeFunc _ ps a b => okR a && okR b && okD C f a && okD C f b && okW (rangeSlots C f a b) a && okW (rangeSlots C f a b) b && ps.all fun p => !(rangeSlots C f a b).contains p
  | _ => true
def okC (C : Cx) (f : FuncId) (c : Code) : Bool := okD C f c && okW (C.lend f) c
section
variable {C : Cx} {E : Env} {w : World} {S : St} {a : Act} {β : Id → Option Loc} {F : Id → List Nat}
variable {f : FuncId} {call : FuncId → List AV → Option (AV × List AV)}
theorem evOps_n {ops : Array Oper} : ∀ {l : List Oper} {i : Nat} {S S' : St} {ks : List HKey}, evOps C f call ops i l S = some (S', ks) → S'.n = S.n
  | [], i, S, S', ks, h => by simp only [evOps, Option.some.injEq, Prod.mk.injEq] at h; rw [h.1]
  | o :: l, i, S, S', ks, h => by
    simp only [evOps, Option.bind_eq_some_iff] at h
    obtain ⟨e, _, h⟩ := h
    split at h
    · simp only [Option.map_eq_some_iff, Prod.mk.injEq] at h
      obtain ⟨⟨S1, k1⟩, h1, rfl, _⟩ := h
      exact evOps_n (S := S.app e) h1
    · cases h
theorem evLoop_n {α : Type} {n : Nat} {P : α → Prop} {g : α → Option (Exit × St)} {rn : St → Option α} (hg : ∀ tvs x, P tvs → g tvs = some x → x.2.n = n) (hr : ∀ S t, S.n = n → rn S = some t → P t) : ∀ (m : Nat) (tvs : α) (x : Exit × St), P tvs → evLoop g rn m tvs = some x → x.2.n = n
  | 0, _, _, _, h => by simp [evLoop] at h
  | m + 1, tvs, x, hp, h => by
    simp only [evLoop, Option.bind_eq_some_iff] at h
    obtain ⟨⟨e, S1⟩, h1, h2⟩ := h
    cases e with
    | normal =>
      simp only [Option.bind_eq_some_iff] at h2
      obtain ⟨t, h3, h2⟩ := h2
      exact evLoop_n hg hr m t x (hr _ _ (hg _ _ hp h1) h3) h2
    | _ => simp only [Option.some.injEq] at h2; subst h2; exact hg _ _ hp h1
theorem evRange_n {g : St → Option (Exit × St)} {rn : St → Option St} {ps : List Nat} (hg : ∀ S x, g S = some x → x.2.n = S.n) (hr : ∀ S S', rn S = some S' → S'.n = S.n) : ∀ (ys : List (List AV)) (S : St) (x : Exit × St), evRange g rn ps ys S = some x → x.2.n = S.n
  | [], S, x, h => by simp only [evRange, Option.some.injEq] at h; subst h; rfl
  | y :: ys, S, x, h => by
    simp only [evRange, Option.bind_eq_some_iff] at h
    obtain ⟨S1, h1, ⟨e, S2⟩, h2, S3, h3, h⟩ := h
    have e1 : S3.n = S.n := by
      rw [hr _ _ h3, hg _ _ h2]
      unfold roundSt at h1
      split at h1
      · simp only [Option.some.injEq] at h1; rw [← h1]
      · cases h1
    cases e with
    | normal => rw [evRange_n hg hr ys S3 x h, e1]
    | ret => simp only [Option.some.injEq] at h; subst h; exact e1
    | exit i => simp only [Option.some.injEq] at h; subst h; exact e1
    | _ => cases h
def LpOk (lp : LpT) : Prop := ∀ (α : Type) (g : α → Option (Exit × St)) (rn : St → Option α) (tvs : α) x, lp α g rn tvs = some x → ∃ m, evLoop g rn m tvs = some x
theorem evCode_n {lp : LpT} (hlp : LpOk lp) : ∀ (c : Code) (S : St) (x : Exit × St), evCode C f call lp c S = some x → x.2.n = S.n := by
  intro c
  induction c with
  | skip => intro S x h; simp only [evCode, Option.some.injEq] at h; subst h; rfl
  | label l => intro S x h; simp only [evCode, Option.some.injEq] at h; subst h; rfl
  | exit i => intro S x h; simp only [evCode, Option.some.injEq] at h; subst h; rfl
  | ret => intro S x h; simp only [evCode, Option.some.injEq] at h; subst h; rfl
  | region id ops draw =>
    intro S x h
    simp only [evCode, Option.map_eq_some_iff] at h
    obtain ⟨S1, h1, rfl⟩ := h
    obtain ⟨S0, h1, h0⟩ := Option.bind_eq_some_iff.1 h1
    refine (cutC_n h0).trans ?_
    unfold evRegion at h1
    obtain ⟨⟨S2, ks⟩, h2, h3⟩ := Option.bind_eq_some_iff.1 h1
    have := evOps_n h2
    cases draw with
    | false => simp only [Bool.false_eq_true, if_false, Option.some.injEq] at h3; subst h3; exact this
    | true =>
      simp only [if_true] at h3
      split at h3
      · simp only [Option.some.injEq] at h3; subst h3; exact this
      · cases h3
  | seq c1 c2 ih1 ih2 =>
    intro S x h
    simp only [evCode, Option.bind_eq_some_iff] at h
    obtain ⟨⟨x1, S1⟩, h1, h2⟩ := h
    have e1 := ih1 _ _ h1
    cases x1 with
    | normal =>
      obtain ⟨S2, h3, h2⟩ := Option.bind_eq_some_iff.1 h2
      rw [ih2 _ _ h2, cutC_n h3]; exact e1
    | _ => simp only [Option.some.injEq] at h2; subst h2; exact e1
  | cond c c1 c2 ih1 ih2 =>
    intro S x h
    simp only [evCode] at h
    split at h
    · split at h
      · exact ih1 _ _ h
      · exact ih2 _ _ h
    · cases h
  | block id c ih =>
    intro S x h
    simp only [evCode, Option.bind_eq_some_iff] at h
    obtain ⟨y, h1, h2⟩ := h
    have e1 := ih S y h1
    split at h2
    · obtain ⟨S2, h3, rfl⟩ := Option.map_eq_some_iff.1 h2
      exact (cutC_n h3).trans e1
    · simp only [Option.some.injEq] at h2; subst h2; exact e1
  | loop c ih =>
    intro S x h
    have go : ∀ (slots : List Nat) (b : Bool), (if b = true then (norm S slots).bind fun S1 => lp St (fun S' => evCode C f call lp c S') (fun S' => norm S' slots) S1
        else (renorm S slots).bind fun tvs => lp (List AV) (fun tvs => evCode C f call lp c (mkSt S.n slots tvs)) (fun S' => renorm S' slots) tvs) = some x → x.2.n = S.n := fun slots b h => by
      cases b with
      | true =>
        rw [if_pos rfl] at h
        obtain ⟨S1, h1, h2⟩ := Option.bind_eq_some_iff.1 h
        obtain ⟨m, h2⟩ := hlp _ _ _ _ _ h2
        exact evLoop_n (n := S.n) (P := fun S' => S'.n = S.n) (fun tvs x hp hx => (ih _ _ hx).trans hp) (fun S2 t e hr => (norm_n hr).trans e) m S1 x (norm_n h1) h2
      | false =>
        rw [if_neg (by simp)] at h
        obtain ⟨tvs, h1, h2⟩ := Option.bind_eq_some_iff.1 h
        obtain ⟨m, h2⟩ := hlp _ _ _ _ _ h2
        exact evLoop_n (n := S.n) (P := fun _ => True) (fun tvs x _ hx => by rw [ih _ _ hx, mkSt_n]) (fun _ _ _ _ => trivial) m tvs x trivial h2
    simp only [evCode] at h
    exact go _ _ h
  | rangeFunc g ps ca cb iha ihb =>
    intro S x h
    simp only [evCode, Option.bind_eq_some_iff] at h
    obtain ⟨ys, _, S0, h0, h⟩ := h
    rw [← cutC_n h0]
    exact evRange_n (fun S1 y hy => by
      obtain ⟨⟨xa, Sa⟩, h1, h2⟩ := Option.bind_eq_some_iff.1 hy
      cases xa with
      | normal => rw [ihb _ _ h2, iha _ _ h1]
      | _ => cases h2) (fun S1 S2 h2 => cutC_n h2) _ _ _ h
  | _ => intro S x h; simp [evCode] at h
theorem wpIn_loop_ghost {F : Fence} {n : Nat} {P : Program} {Q : Exit → Act → World → Prop} {a : Act} {w : World} {c : Code} (I : Nat → Act → World → Prop) (n₀ : Nat) (h₀ : I n₀ a w)
    (round : ∀ n' a w, I n' a w → c.wpIn F n P (Exit.then (fun a' w' => ∃ m, m < n' ∧ I m a' w') Q) a w) : (Code.loop c).wpIn F n P Q a w := by
  refine wpIn_loop (fun a w => ∃ n, I n a w) (fun a w => leastOf (fun n => I n a w)) ⟨n₀, h₀⟩ ?_
  intro a w hI
  refine wpIn_mono (round _ a w (leastOf_spec hI).1) ?_
  intro e a' w' hq
  cases e with
  | normal =>
    obtain ⟨n', hlt, hI'⟩ := hq
    exact show (∃ n, I n a' w') ∧ leastOf (fun n => I n a' w') < leastOf (fun n => I n a w) from ⟨⟨n', hI'⟩, Nat.lt_of_le_of_lt ((leastOf_spec ⟨n', hI'⟩).2 n' hI') hlt⟩
  | _ => exact hq
theorem region_Fnc {K : Act → Prop} {ops : Array Oper} (hKo : KOk K ops) {E : Env} {Q : Exit → Act → World → Prop} {Sf : St} {a : Act} {w : World} {id : Nat} {draw : Bool} {ro : Option Nat} (hro : ro = none ∨ noDefer ops = true ∧ ¬ LetsOut Q) (hN : NC C) (hm : C.P.follows .mixedOrders = true) (hcall : ∀ k as r, call k as = some r → Sound C k as r)
    (hfree : draw = true → slotsFree C f id ops = true) (h : evRegion C f call id ops draw S = some Sf) (hS : Nx C E S a w) (hK : K a) (hQ : ∀ a' w', Nx C E Sf a' w' → K a' → Q .normal a' w') : (Code.region id ops draw).wpIn (Fnc ro) 0 C.P Q a w := by
  rcases hro with rfl | ⟨hd, hO⟩
  · exact wpIn_wide.2 (ok_region hKo hN hm hcall hfree h hS hK hQ)
  · refine ok_regionX hKo hN hcall hfree h hS hK hQ (fun e g => ?_) (fun e g => ?_)
    · subst e; exact wpIn_region (wpOps_Fnc hd hO _ _ _ g)
    · subst e; exact wpIn_region_any hm (wpAny_Fnc hd hO _ _ _ _ g)
theorem ok_code (hN : NC C) (hm : C.P.follows .mixedOrders = true) (hlive : ∀ f i, (C.live f i).Nodup) (hcut : CutOk C) (hcall : ∀ k as r, call k as = some r → Sound C k as r) (hiter : ∀ k it, C.iter k = some it → IterSound C k it) {lp : LpT} (hlp : LpOk lp) :
    ∀ (c : Code) (ro : Option Nat) (E : Env) (l : List Nat) (g : Nat → Value) (S : St) (x : Exit) (S' : St) (a : Act) (w : World) (Q : Exit → Act → World → Prop), (ro = none ∨ okR c = true ∧ ¬ LetsOut Q) → okD C f c = true → okW l c = true → evCode C f call lp c S = some (x, S') → Nx C E S a w → KL l g a →
      (∀ a' w', Nx C E S' a' w' → KL l g a' → Q x a' w') → c.wpIn (Fnc ro) 0 C.P Q a w := by
  intro c
  have lo : ∀ {ro : Option Nat} {c c' : Code} {Q Q' : Exit → Act → World → Prop}, (okR c = true → okR c' = true) → (LetsOut Q' → LetsOut Q) → (ro = none ∨ okR c = true ∧ ¬ LetsOut Q) → (ro = none ∨ okR c' = true ∧ ¬ LetsOut Q') := fun h1 h2 h => h.imp id fun h => ⟨h1 h.1, fun hl => h.2 (h2 hl)⟩
  induction c with
  | skip => intro ro E l g S x S' a w Q _ _ _ h hS hK hQ; simp only [evCode, Option.some.injEq, Prod.mk.injEq] at h; obtain ⟨rfl, rfl⟩ := h; exact wpIn_skip (hQ _ _ hS hK)
  | label i => intro ro E l g S x S' a w Q _ _ _ h hS hK hQ; simp only [evCode, Option.some.injEq, Prod.mk.injEq] at h; obtain ⟨rfl, rfl⟩ := h; exact wpIn_label (hQ _ _ hS hK)
  | exit i => intro ro E l g S x S' a w Q _ _ _ h hS hK hQ; simp only [evCode, Option.some.injEq, Prod.mk.injEq] at h; obtain ⟨rfl, rfl⟩ := h; exact wpIn_exit (hQ _ _ hS hK)
  | ret => intro ro E l g S x S' a w Q _ _ _ h hS hK hQ; simp only [evCode, Option.some.injEq, Prod.mk.injEq] at h; obtain ⟨rfl, rfl⟩ := h; exact wpIn_ret (hQ _ _ hS hK)
  | region id ops draw =>
    intro ro E l g S x S' a w Q hro hok hkw h hS hK hQ
    simp only [evCode, Option.map_eq_some_iff, Prod.mk.injEq] at h
    obtain ⟨S1, h1, rfl, rfl⟩ := h
    obtain ⟨S0, h1, h0⟩ := Option.bind_eq_some_iff.1 h1
    refine region_Fnc (keepB_spec hkw g) hro hN hm hcall (fun hd => ?_) h1 hS hK fun a' w' hx hk => hQ a' w' (hx.cut (hcut.r f id) h0) hk
    simpa [okD, hd] using hok
  | seq c1 c2 ih1 ih2 =>
    intro ro E l g S x S' a w Q hro hok hkw h hS hK hQ
    simp only [okD, okW, Bool.and_eq_true] at hok hkw
    simp only [evCode, Option.bind_eq_some_iff] at h
    obtain ⟨⟨x1, S1⟩, h1, h2⟩ := h
    refine wpIn_seq ?_
    refine ih1 ro E l g S x1 S1 a w _ (lo (fun h => by simp only [okR, Bool.and_eq_true] at h; exact h.1) (fun h => h) hro) hok.1 hkw.1 h1 hS hK fun a' w' hx hk => ?_
    cases x1 with
    | normal =>
      obtain ⟨S2, h3, h2⟩ := Option.bind_eq_some_iff.1 h2
      exact ih2 ro E l g S2 x S' a' w' Q (lo (fun h => by simp only [okR, Bool.and_eq_true] at h; exact h.2) (fun h => h) hro) hok.2 hkw.2 h2 (hx.cut hcut.seq h3) hk hQ
    | _ => simp only [Option.some.injEq, Prod.mk.injEq] at h2; obtain ⟨rfl, rfl⟩ := h2; exact hQ _ _ hx hk
  | cond c c1 c2 ih1 ih2 =>
    intro ro E l g S x S' a w Q hro hok hkw h hS hK hQ
    simp only [okD, okW, Bool.and_eq_true] at hok hkw
    simp only [evCode] at h
    split at h
    · rename_i t ht
      obtain ⟨β, F, hSR⟩ := hS
      have hc := hSR.getU c
      rw [ht] at hc
      refine wpIn_cond (t := t) hc.val_inv.2 ?_
      cases t with
      | true => simp only [if_true] at h ⊢; exact ih1 ro E l g S x S' a w Q (lo (fun h => by simp only [okR, Bool.and_eq_true] at h; exact h.1) (fun h => h) hro) hok.1 hkw.1 h ⟨β, F, hSR⟩ hK hQ
      | false => simp only [Bool.false_eq_true, if_false] at h ⊢; exact ih2 ro E l g S x S' a w Q (lo (fun h => by simp only [okR, Bool.and_eq_true] at h; exact h.2) (fun h => h) hro) hok.2 hkw.2 h ⟨β, F, hSR⟩ hK hQ
    · cases h
  | block id c ih =>
    intro ro E l g S x S' a w Q hro hok hkw h hS hK hQ
    simp only [evCode, Option.bind_eq_some_iff] at h
    obtain ⟨⟨x1, S1⟩, h1, h2⟩ := h
    refine wpIn_block (ih ro E l g S x1 S1 a w _ (lo (fun h => by simpa [okR] using h) (fun h => h) hro) (by simpa [okD] using hok) (by simpa [okW] using hkw) h1 hS hK fun a' w' hn hk => ?_)
    have hnorm : ∀ {o : Option (Exit × St)}, o = (cutC (C.cutB f id) S1).map (fun S' => (Exit.normal, S')) → o = some (x, S') → Q .normal a' w' := fun e1 e2 => by
      rw [e1] at e2
      obtain ⟨S2, h3, h4⟩ := Option.map_eq_some_iff.1 e2
      simp only [Prod.mk.injEq] at h4
      obtain ⟨rfl, rfl⟩ := h4
      exact hQ _ _ (hn.cut (hcut.b f id) h3) hk
    cases x1 with
    | exit i =>
      by_cases hi : i = id
      · simp only [hi, if_true] at h2
        simp only [Exit.inBlock, hi, if_true]
        exact hnorm rfl h2
      · simp only [hi, if_false, Option.some.injEq, Prod.mk.injEq] at h2
        obtain ⟨rfl, rfl⟩ := h2
        simp only [Exit.inBlock, hi, if_false]
        exact hQ _ _ hn hk
    | normal => exact hnorm rfl h2
    | _ => simp only [Option.some.injEq, Prod.mk.injEq] at h2; obtain ⟨rfl, rfl⟩ := h2; exact hQ _ _ hn hk
  | loop c ih =>
    intro ro E l g S x S' a w Q hro hok hkw h hS hK hQ
    have hro' : ∀ {K : Act → World → Prop}, ro = none ∨ okR c = true ∧ ¬ LetsOut (Exit.then K Q) := lo (fun h => by simpa [okR] using h) (fun h => h) hro
    have key : ∀ slots : List Nat, slots.Nodup → ∀ tvs, Ab.renorm S slots = some tvs → lp (List AV) (fun tvs => evCode C f call lp c (mkSt S.n slots tvs)) (fun S' => Ab.renorm S' slots) tvs = some (x, S') → (Code.loop c).wpIn (Fnc ro) 0 C.P Q a w := by
      intro slots hsl tvs h1 h2
      obtain ⟨m, h2⟩ := hlp _ _ _ _ _ h2
      obtain ⟨β, F, hSR⟩ := hS
      refine wpIn_loop_ghost (fun n a w => ∃ tvs, evLoop (fun tvs => evCode C f call lp c (mkSt S.n slots tvs)) (fun S' => Ab.renorm S' slots) n tvs = some (x, S') ∧ Nx C E (mkSt S.n slots tvs) a w ∧ KL l g a) m ⟨tvs, h2, hSR.renorm hsl h1, hK⟩ ?_
      rintro n a w ⟨tvs, hl, hS, hK⟩
      cases n with
      | zero => simp [evLoop] at hl
      | succ n =>
        simp only [evLoop, Option.bind_eq_some_iff] at hl
        obtain ⟨⟨x1, S1⟩, g1, g2⟩ := hl
        refine ih ro E l g _ x1 S1 a w _ hro' (by simpa [okD] using hok) (by simpa [okW] using hkw) g1 hS hK fun a' w' hn hk => ?_
        cases x1 with
        | normal =>
          simp only [Option.bind_eq_some_iff] at g2
          obtain ⟨tvs', g2, g3⟩ := g2
          obtain ⟨β', F', hn⟩ := hn
          refine ⟨n, Nat.lt_succ_self n, tvs', g3, ?_, hk⟩
          have hS1n : S1.n = S.n := by rw [evCode_n hlp _ _ _ g1, mkSt_n]
          rw [← hS1n]
          exact hn.renorm hsl g2
        | _ => simp only [Option.some.injEq, Prod.mk.injEq] at g2; obtain ⟨rfl, rfl⟩ := g2; exact hQ _ _ hn hk
    have keyN : ∀ slots : List Nat, ∀ S1, Ab.norm S slots = some S1 → lp St (fun S' => evCode C f call lp c S') (fun S' => Ab.norm S' slots) S1 = some (x, S') → (Code.loop c).wpIn (Fnc ro) 0 C.P Q a w := by
      intro slots S1 h1 h2
      obtain ⟨m, h2⟩ := hlp _ _ _ _ _ h2
      obtain ⟨β, F, hSR⟩ := hS
      refine wpIn_loop_ghost (fun n a w => ∃ S1, evLoop (fun S' => evCode C f call lp c S') (fun S' => Ab.norm S' slots) n S1 = some (x, S') ∧ Nx C E S1 a w ∧ KL l g a) m ⟨S1, h2, hSR.norm h1, hK⟩ ?_
      rintro n a w ⟨S1, hl, hS, hK⟩
      cases n with
      | zero => simp [evLoop] at hl
      | succ n =>
        simp only [evLoop, Option.bind_eq_some_iff] at hl
        obtain ⟨⟨x1, S2⟩, g1, g2⟩ := hl
        refine ih ro E l g _ x1 S2 a w _ hro' (by simpa [okD] using hok) (by simpa [okW] using hkw) g1 hS hK fun a' w' hn hk => ?_
        cases x1 with
        | normal =>
          simp only [Option.bind_eq_some_iff] at g2
          obtain ⟨S3, g2, g3⟩ := g2
          obtain ⟨β', F', hn⟩ := hn
          exact ⟨n, Nat.lt_succ_self n, S3, g3, hn.norm g2, hk⟩
        | _ => simp only [Option.some.injEq, Prod.mk.injEq] at g2; obtain ⟨rfl, rfl⟩ := g2; exact hQ _ _ hn hk
    have go : ∀ (slots : List Nat) (b : Bool), slots.Nodup → (if b = true then (Ab.norm S slots).bind fun S1 => lp St (fun S' => evCode C f call lp c S') (fun S' => Ab.norm S' slots) S1
        else (Ab.renorm S slots).bind fun tvs => lp (List AV) (fun tvs => evCode C f call lp c (mkSt S.n slots tvs)) (fun S' => Ab.renorm S' slots) tvs) = some (x, S') → (Code.loop c).wpIn (Fnc ro) 0 C.P Q a w := fun slots b hs h => by
      cases b with
      | true =>
        rw [if_pos rfl] at h
        obtain ⟨S1, h1, h2⟩ := Option.bind_eq_some_iff.1 h
        exact keyN _ S1 h1 h2
      | false =>
        rw [if_neg (by simp)] at h
        obtain ⟨tvs, h1, h2⟩ := Option.bind_eq_some_iff.1 h
        exact key _ hs tvs h1 h2
    simp only [evCode] at h
    refine go _ _ ?_ h
    split
    · exact hlive _ _
    · exact List.nodup_nil
  | rangeFunc go ps ca cb iha ihb =>
    intro ro E l g S x S' a w Q hro hok hkw h hS hK hQ
    rcases hro with rfl | ⟨hro, _⟩
    case inr => simp [okR] at hro
    simp only [okD, Bool.and_eq_true] at hok
    obtain ⟨⟨⟨⟨⟨⟨r1, r2⟩, d1⟩, d2⟩, w1⟩, w2⟩, hps⟩ := hok
    simp only [evCode, Option.bind_eq_some_iff] at h
    obtain ⟨ys, hg, S0, h0, h⟩ := h
    obtain ⟨β, F, hSR⟩ := hS
    have hsl : (rangeSlots C f ca cb).Nodup := by
      unfold rangeSlots
      split
      · exact hlive _ _
      · exact List.nodup_nil
    refine ok_range (evA := evCode C f call lp ca) (evB := evCode C f call lp cb) (slots := rangeSlots C f ca cb) ?_ ?_ (fun S x h => evCode_n hlp _ _ _ h) (fun S x h => evCode_n hlp _ _ _ h) hsl (fun p hp => ?_) hN.no hiter hSR hg h0 h fun a' w' hn ht => hQ a' w' hn fun j hj => by rw [ht]; exact hK j hj
    · intro l E S x S' a w Q hO h hS hK hQ
      exact iha (some l) E _ _ S x S' a w Q (.inr ⟨r1, hO⟩) d1 w1 h hS hK hQ
    · intro l E S x S' a w Q hO h hS hK hQ
      exact ihb (some l) E _ _ S x S' a w Q (.inr ⟨r2, hO⟩) d2 w2 h hS hK hQ
    · rw [Array.all_eq_true_iff_forall_mem] at hps
      have := hps p (by simpa using hp)
      simpa using this
  | _ => intro ro E l g S x S' a w Q _ _ _ h; simp [evCode] at h
theorem resC_sound (h : SR C E w S a β F) {r : ResultVar} {x} (hx : resC C S r = some x) :
    ∃ v fp rest, ((match r with | .tmp t => pure (a.tmps.getD t undef) | .cell c t => do loadVar t (← asAddr (a.tmps.getD c undef)) : Sem Value)).run C.P w = .ok v w ∧ R w (Im E w F) noB fp v x.1 ∧ (fp ++ rest).Perm (x.2.flatMap F) := by
  cases r with
  | tmp t =>
    obtain ⟨fp, rest, g1, g2⟩ := pk_sound h.obj 9 _ _ hx _ _ (h.slot t).un
    exact ⟨_, fp, rest, rfl, g1, by simpa using g2⟩
  | cell c t =>
    simp only [resC] at hx
    have hc := (h.slot c).un
    split at hx
    · rename_i b n cells hb hn hcl
      rw [hcl] at hc
      split at hx
      · rename_i hle
        obtain ⟨y, hy, hx⟩ := Option.bind_eq_some_iff.1 hx
        obtain ⟨_, blk, o, vs, hv, hI, hC, hl⟩ := hc.vp_inv
        obtain ⟨f1, f2, f3, e0, l1, l2, l3⟩ := hl.split3 0 n (by omega)
        have hf2 : f2 = [] := by
          have := congrArg List.length e0
          simp at this
          exact List.length_eq_zero_iff.1 (by omega)
        subst hf2
        simp only [List.drop_zero] at l2
        obtain ⟨v, r1, r2, r3⟩ := mkV_sound l2 hy
        obtain ⟨fp, rest, g1, g2⟩ := pk_sound h.obj 9 _ _ hx _ _ (r1.up (β := β))
        refine ⟨v, fp, rest, ?_, g1, by simpa using g2⟩
        have hlen := l2.length
        simp only
        rw [hv]
        simp only [asAddr]
        exact run_loadV hb hn (hC.take n) (by rw [hlen]; simp; omega) r2 r3
      · cases hx
    · rename_i b n id row off hb hn hcl
      rw [hcl] at hc
      split at hx
      · rename_i rows hid
        split at hx
        · rename_i rr hrow
          split at hx
          · rename_i hfit
            obtain ⟨y, hy2, rfl⟩ := Option.map_eq_some_iff.1 hx
            obtain ⟨u, hu, hpk⟩ := Option.bind_eq_some_iff.1 hy2
            obtain ⟨_, b', o', sz', n', hb', hv⟩ := hc.mp_inv
            rcases h.obj id rows hid with ⟨hb0, h0, hF⟩ | ⟨_, h1, _⟩ | ⟨blk, o, sz, n', vs, fps, hbk, hF, hblk, ⟨hne, hsz⟩, hle, hcl, hrl⟩
            · subst h0; simp at hrow
            · rw [h1] at hb'; cases hb'
            · rw [hbk] at hb'
              simp only [Option.some.injEq, Loc.blk.injEq] at hb'
              obtain ⟨rfl, rfl, rfl, rfl⟩ := hb'
              obtain ⟨g1, g2, _⟩ := flat_part (off := off) (n := n) hrow hsz hfit
              obtain ⟨f1, f2, f3, e0, l1, l2, l3⟩ := hrl.split3 (row * sz + off) n g1
              rw [g2] at l2
              obtain ⟨v, r1, r2, r3⟩ := mkV_sound l2 hu
              obtain ⟨fp, rest, q1, q2⟩ := pk_sound h.obj 9 _ _ hpk _ _ r1
              refine ⟨v, fp, rest ++ blk :: (f1 ++ f3), ?_, q1, ?_⟩
              · simp only
                rw [hv]
                simp only [asAddr]
                have hlen := l2.length
                rw [Nat.add_assoc]
                exact run_loadV hb hn ((hcl.drop (row * sz + off)).take n) (by rw [hlen]; simp; omega) r2 r3
              · rw [List.perm_iff_count] at q2 ⊢
                intro z
                have := q2 z
                simp only [List.flatMap_cons, hF, e0, List.count_append, List.count_cons, List.cons_append] at *
                omega
          · cases hx
        · cases hx
      · cases hx
    · cases hx
end
end Go.Ab
