/-
  FORGETTING AND RENAMING: a state says less, under other names.
-/
import Derived.Test.YtbhpblokoecoaaaAbEnter
namespace Go.Ab
open Go
inductive RenC (m : Id → Option Id) : AV → AV → Prop
  | flat {a : AV} : flat a = true → RenC m a a
  | snil : RenC m .snil .snil
  | rs {i j : Id} {off len : Nat} : m i = some j → RenC m (.rs i off len) (.rs j off len)
  | mp {i j : Id} {row off : Nat} : m i = some j → RenC m (.mp i row off) (.mp j row off)
  | mr {i j : Id} : m i = some j → RenC m (.mr i) (.mr j)
inductive RenL (m : Id → Option Id) : List AV → List AV → Prop
  | nil : RenL m [] []
  | cons {a b : AV} {as bs : List AV} : RenC m a b → RenL m as bs → RenL m (a :: as) (b :: bs)
inductive RenR (m : Id → Option Id) : Rows → Rows → Prop
  | nil : RenR m [] []
  | cons {r s : List AV} {rs ss : Rows} : RenL m r s → RenR m rs ss → RenR m (r :: rs) (s :: ss)
inductive RenV (m : Id → Option Id) : AV → AV → Prop
  | cell {a b : AV} : RenC m a b → RenV m a b
  | agg {as bs : List AV} : RenL m as bs → RenV m (.agg as) (.agg bs)
  | tup {as bs : List AV} : RenL m as bs → RenV m (.tup as) (.tup bs)
  | junk {b : AV} : RenV m .junk b
section
variable {w : World} {I : Nat → Prop} {β : Id → Option Loc} {m : Id → Option Id}
theorem RenL.length {as bs : List AV} (h : RenL m as bs) : as.length = bs.length := by
  induction h with
  | nil => rfl
  | cons _ _ ih => simp [ih]
theorem RenL.append {a1 b1 a2 b2 : List AV} (h1 : RenL m a1 b1) (h2 : RenL m a2 b2) : RenL m (a1 ++ a2) (b1 ++ b2) := by
  induction h1 with
  | nil => exact h2
  | cons h _ ih => exact .cons h ih
theorem RenR.flatten {as bs : Rows} (h : RenR m as bs) : RenL m as.flatten bs.flatten := by
  induction h with
  | nil => exact .nil
  | cons h _ ih => simpa using h.append ih
theorem RenR.length {as bs : Rows} (h : RenR m as bs) : as.length = bs.length := by
  induction h with
  | nil => rfl
  | cons _ _ ih => simp [ih]
theorem RenR.all {as bs : Rows} {sz : Nat} (h : RenR m as bs) : (∀ r ∈ bs, r.length = sz) → ∀ r ∈ as, r.length = sz := by
  induction h with
  | nil => intro _ r hr; cases hr
  | cons h _ ih =>
    intro hs r hr
    rcases List.mem_cons.1 hr with rfl | hr
    · rw [h.length]; exact hs _ (List.mem_cons_self ..)
    · exact ih (fun r hr => hs r (List.mem_cons_of_mem _ hr)) r hr
theorem R.renC {f : List Nat} {v : Value} {a b : AV} (h : R w I β f v b) (hr : RenC m a b) : R w I (fun i => (m i).bind β) f v a := by
  cases hr with
  | flat hf => exact h.flat_any hf _
  | snil => cases h with | snil => exact .snil
  | rs hm =>
    cases h with
    | rs0 h hl => exact .rs0 (l := _) (by simp only [hm, Option.bind_some]; exact h) hl
    | rs h1 h2 h3 => exact .rs (by simp only [hm, Option.bind_some]; exact h1) h2 h3
  | mp hm =>
    cases h with
    | mp h => exact .mp (by simp only [hm, Option.bind_some]; exact h)
  | mr hm =>
    cases h with
    | mr h => exact .mr (by simp only [hm, Option.bind_some]; exact h)
theorem RenR.sc {es : List MapEntry} : ∀ {rows2 : Rows}, RenR m rows2 (es.map fun e => [.val e.key, .val e.val]) → rows2 = es.map fun e => [.val e.key, .val e.val] := by
  have one : ∀ {a : AV} {v : Value}, RenC m a (.val v) → a = .val v := fun h => by cases h; rfl
  induction es with
  | nil => intro rows2 h; cases h; rfl
  | cons e es ih =>
    intro rows2 h
    cases h with
    | cons h1 h2 =>
      cases h1 with
      | cons k1 h1 =>
        cases h1 with
        | cons k2 h1 =>
          cases h1
          rw [one k1, one k2, ih h2]; rfl
theorem RL.ren {as bs : List AV} (hr : RenL m as bs) : ∀ {f : List Nat} {vs : List Value}, RL w I β f vs bs → RL w I (fun i => (m i).bind β) f vs as := by
  induction hr with
  | nil => intro f vs h; obtain ⟨rfl, rfl⟩ := h.nil_inv; exact .nil
  | cons h1 _ ih =>
    intro f vs h
    obtain ⟨f1, f2, v, vs', rfl, rfl, k1, k2⟩ := h.cons_inv
    exact .cons (k1.renC h1) (ih k2)
theorem R.ren {f : List Nat} {v : Value} {a b : AV} (h : R w I β f v b) (hr : RenV m a b) (hf : f = []) : R w I (fun i => (m i).bind β) f v a := by
  cases hr with
  | cell hc => exact h.renC hc
  | agg hl =>
    obtain ⟨vs, rfl, h⟩ := h.agg_inv
    exact RL.ren hl h
  | tup hl =>
    obtain ⟨vs, rfl, hu⟩ := h.tup_inv
    exact .tup (RL.ren hl hu)
  | junk => subst hf; exact .junk
theorem OR.ren {i j : Id} {rows rows2 : Rows} {fp : List Nat} (h : OR w I β j rows fp) (hm : m i = some j) (hr : RenR m rows2 rows) : OR w I (fun i => (m i).bind β) i rows2 fp := by
  rcases h with ⟨h1, rfl, h3⟩ | ⟨b, h1, h2, es, clock, h3, rfl, h4⟩ | ⟨b, o, sz, n, vs, fps, h1, h2, h3, ⟨h4, h5⟩, h6, h7, h8⟩
  · cases hr
    exact .inl ⟨by simp only [hm, Option.bind_some]; exact h1, rfl, h3⟩
  · exact .inr (.inl ⟨b, by simp only [hm, Option.bind_some]; exact h1, h2, es, clock, h3, hr.sc, h4⟩)
  · refine .inr (.inr ⟨b, o, sz, n, vs, fps, by simp only [hm, Option.bind_some]; exact h1, h2, h3, ⟨fun e => h4 ?_, hr.all h5⟩, by rw [hr.length]; exact h6, h7, RL.ren hr.flatten h8⟩)
    subst e; cases hr; rfl
end
structure Weak (S S2 : St) (m : Id → Option Id) : Prop where
  n : S2.n = S.n
  inj : ∀ i i' j, m i = some j → m i' = some j → i = i'
  t : ∀ t, RenV m (S2.t t) (S.t t)
  h : ∀ i j, m i = some j → ∃ rows2 rows, S2.h i = some (some rows2) ∧ S.h j = some (some rows) ∧ RenR m rows2 rows
  no : ∀ i, m i = none → S2.h i = none
theorem SR.weak {C : Cx} {E : Env} {w : World} {S S2 : St} {a : Act} {β : Id → Option Loc} {F : Id → List Nat} {m : Id → Option Id} (h : SR C E w S a β F) (hw : Weak S S2 m) :
    SR C E w S2 a (fun i => (m i).bind β) (fun i => match m i with | some j => F j | none => []) := by
  have hF : ∀ i b, b ∈ (match m i with | some j => F j | none => []) → ∃ j, m i = some j ∧ b ∈ F j := fun i b hb => by
    cases hm : m i with
    | none => rw [hm] at hb; cases hb
    | some j => rw [hm] at hb; exact ⟨j, rfl, hb⟩
  have hI : ∀ b, Im E w F b → Im E w (fun i => match m i with | some j => F j | none => []) b := fun b ⟨h1, h2, h3⟩ => ⟨h1, h2, fun i hb => by
    obtain ⟨j, _, hj⟩ := hF i b hb
    exact h3 j hj⟩
  refine { n := h.n.trans hw.n.symm, df := h.df.mono (fun b hb => ⟨hI b hb.1, hb.2⟩) (fun _ _ => rfl), slot := fun t => ((h.slot t).ren (hw.t t) rfl).mono hI (fun _ _ => rfl) (fun _ _ h => h), obj := ?_, dead := ?_, nd := ?_, dj := ?_, dom := ?_, lt := ?_, kept := h.kept, glob := fun g cs hg => ((h.glob g cs hg).flat_any rfl _).mono hI (fun _ _ => rfl) (fun _ _ h => h) }
  · intro i rows2 hr
    cases hm : m i with
    | none => rw [hw.no i hm] at hr; cases hr
    | some j =>
      obtain ⟨r2, r, e1, e2, e3⟩ := hw.h i j hm
      rw [e1] at hr
      simp only [Option.some.injEq] at hr; subst hr
      exact ((h.obj j r e2).ren hm e3).mono hI (fun _ _ => rfl) (fun _ _ h => h)
  · intro i hno
    cases hm : m i with
    | none => rfl
    | some j =>
      obtain ⟨r2, r, e1, _, _⟩ := hw.h i j hm
      exact absurd e1 (hno r2)
  · intro i
    cases hm : m i with
    | none => exact List.nodup_nil
    | some j => exact h.nd j
  · intro i i' b hb hb'
    obtain ⟨j, e1, h1⟩ := hF i b hb
    obtain ⟨j', e2, h2⟩ := hF i' b hb'
    have := h.dj j j' b h1 h2
    subst this
    exact hw.inj i i' j e1 e2
  · intro i hno
    cases hm : m i with
    | none => rfl
    | some j =>
      obtain ⟨r2, r, e1, _, _⟩ := hw.h i j hm
      rw [e1] at hno; cases hno
  · intro i b hb
    obtain ⟨j, _, hj⟩ := hF i b hb
    exact h.lt j b hj
def newOf (l : List (Id × Id)) (k : Id) : Option Id := match l with
  | [] => none
  | (o, k') :: l => if k' = k then some o else newOf l k
theorem renI_mem {l : List (Id × Id)} {i k : Id} (h : renI l i = some k) : (i, k) ∈ l := by
  induction l with
  | nil => cases h
  | cons x l ih =>
    obtain ⟨o, k'⟩ := x
    simp only [renI] at h
    split at h
    · rename_i e
      simp only [Option.some.injEq] at h
      subst e h; exact List.mem_cons_self ..
    · exact List.mem_cons_of_mem _ (ih h)
theorem newOf_mem {l : List (Id × Id)} {o k : Id} (h : newOf l k = some o) : (o, k) ∈ l := by
  induction l with
  | nil => cases h
  | cons x l ih =>
    obtain ⟨o', k'⟩ := x
    simp only [newOf] at h
    split at h
    · rename_i e
      simp only [Option.some.injEq] at h
      subst e h; exact List.mem_cons_self ..
    · exact List.mem_cons_of_mem _ (ih h)
theorem newOf_of {l : List (Id × Id)} (hn : (l.map (·.2)).Nodup) {o k : Id} (h : (o, k) ∈ l) : newOf l k = some o := by
  induction l with
  | nil => cases h
  | cons x l ih =>
    obtain ⟨o', k'⟩ := x
    simp only [List.map_cons] at hn
    simp only [newOf]
    rcases List.mem_cons.1 h with h | h
    · simp only [Prod.mk.injEq] at h
      obtain ⟨rfl, rfl⟩ := h
      simp
    · split
      · rename_i e
        exact absurd (e ▸ List.mem_map.2 ⟨(o, k), h, rfl⟩) (List.nodup_cons.1 hn).1
      · exact ih (List.nodup_cons.1 hn).2 h
theorem fst_inj {l : List (Id × Id)} (hn : (l.map (·.1)).Nodup) {o k k' : Id} (h : (o, k) ∈ l) (h' : (o, k') ∈ l) : k = k' := by
  induction l with
  | nil => cases h
  | cons x l ih =>
    simp only [List.map_cons] at hn
    have hx := (List.nodup_cons.1 hn).1
    rcases List.mem_cons.1 h with h | h <;> rcases List.mem_cons.1 h' with h' | h'
    · rw [← h] at h'; simpa using h'.symm
    · exact absurd (List.mem_map.2 ⟨(o, k'), h', by rw [← h]⟩) hx
    · exact absurd (List.mem_map.2 ⟨(o, k), h, by rw [← h']⟩) hx
    · exact ih (List.nodup_cons.1 hn).2 h h'
section
variable {l : List (Id × Id)} (hn : (l.map (·.2)).Nodup)
include hn
theorem renAc_sound {a b : AV} (h : renAc l a = some b) : RenC (newOf l) b a := by
  unfold renAc at h
  split at h
  · obtain ⟨k, hk, rfl⟩ := Option.map_eq_some_iff.1 h
    exact .rs (newOf_of hn (renI_mem hk))
  · obtain ⟨k, hk, rfl⟩ := Option.map_eq_some_iff.1 h
    exact .mp (newOf_of hn (renI_mem hk))
  · obtain ⟨k, hk, rfl⟩ := Option.map_eq_some_iff.1 h
    exact .mr (newOf_of hn (renI_mem hk))
  · simp only [Option.some.injEq] at h; subst h; exact .snil
  · split at h
    · rename_i hf
      simp only [Option.some.injEq] at h; subst h; exact .flat hf
    · cases h
theorem renAl_sound : ∀ {as bs : List AV}, renAl l as = some bs → RenL (newOf l) bs as
  | [], bs, h => by simp only [renAl, Option.some.injEq] at h; subst h; exact .nil
  | a :: as, bs, h => by
    simp only [renAl] at h
    split at h
    · rename_i b bs' h1 h2
      simp only [Option.some.injEq] at h; subst h
      exact .cons (renAc_sound hn h1) (renAl_sound h2)
    · cases h
theorem renAv_sound (a : AV) : RenV (newOf l) (renAv l a) a := by
  unfold renAv
  split
  · split
    · rename_i h; exact .agg (renAl_sound hn h)
    · exact .junk
  · split
    · rename_i h; exact .tup (renAl_sound hn h)
    · exact .junk
  · split
    · rename_i h; exact .cell (renAc_sound hn h)
    · exact .junk
theorem renRs_sound : ∀ {as bs : Rows}, renRs l as = some bs → RenR (newOf l) bs as
  | [], bs, h => by simp only [renRs, Option.some.injEq] at h; subst h; exact .nil
  | a :: as, bs, h => by
    simp only [renRs] at h
    split at h
    · rename_i b bs' h1 h2
      simp only [Option.some.injEq] at h; subst h
      exact .cons (renAl_sound hn h1) (renRs_sound h2)
    · cases h
end
theorem RenL.of_flat {m : Id → Option Id} : ∀ {as : List AV}, flatL as = true → RenL m as as
  | [], _ => .nil
  | a :: as, h => by
    simp only [flatL, Bool.and_eq_true] at h
    exact .cons (.flat h.1) (RenL.of_flat h.2)
theorem RenR.of_flat {m : Id → Option Id} : ∀ {rs : Rows}, flatR rs = true → RenR m rs rs
  | [], _ => .nil
  | r :: rs, h => by
    simp only [flatR, Bool.and_eq_true] at h
    exact .cons (.of_flat h.1) (RenR.of_flat h.2)
theorem heapN_sound {L : Id → Option (Option Rows)} {l : List (Id × Id)} (hn : (l.map (·.2)).Nodup) : ∀ {r : List (Id × Id)} {hl : List (Id × Rows)}, heapN L l r = some hl → (r.map (·.2)).Nodup →
    (∀ o k, (o, k) ∈ r → ∃ rows2 rows, mkH hl k = some (some rows2) ∧ L o = some (some rows) ∧ RenR (newOf l) rows2 rows) ∧ (∀ k, (∀ o, (o, k) ∉ r) → mkH hl k = none)
  | [], hl, h, _ => by
    simp only [heapN, Option.some.injEq] at h; subst h
    exact ⟨(fun _ _ h => by cases h), fun _ _ => rfl⟩
  | (o, k) :: r, hl, h, hr => by
    simp only [heapN] at h
    split at h
    · rename_i rows y h1 h2
      obtain ⟨rows', h3, rfl⟩ := Option.map_eq_some_iff.1 h
      simp only [List.map_cons] at hr
      obtain ⟨i1, i2⟩ := heapN_sound hn h2 (List.nodup_cons.1 hr).2
      refine ⟨fun o' k' hm => ?_, fun k' hno => ?_⟩
      · rcases List.mem_cons.1 hm with hm | hm
        · simp only [Prod.mk.injEq] at hm
          obtain ⟨rfl, rfl⟩ := hm
          refine ⟨rows', rows, by simp [mkH, upd], h1, ?_⟩
          unfold renRows at h3
          split at h3
          · rename_i hf
            simp only [Option.some.injEq] at h3; subst h3
            exact .of_flat hf
          · exact renRs_sound hn h3
        · have hne : k' ≠ k := fun e => (List.nodup_cons.1 hr).1 (e ▸ List.mem_map.2 ⟨(o', k'), hm, rfl⟩)
          obtain ⟨r2, r1, e1, e2, e3⟩ := i1 o' k' hm
          exact ⟨r2, r1, by simp [mkH, upd, hne, e1], e2, e3⟩
      · have hne : k' ≠ k := fun e => hno o (e ▸ List.mem_cons_self ..)
        simp only [mkH, upd, if_neg hne]
        exact i2 k' fun o' hm => hno o' (List.mem_cons_of_mem _ hm)
    · cases h
theorem mkT_at (l : List (Id × Id)) (t : Nat → AV) : ∀ (slots : List Nat) (u : Nat), mkT l t slots u = .junk ∨ mkT l t slots u = renAv l (t u)
  | [], _ => .inl rfl
  | s :: r, u => by
    simp only [mkT, upd]
    by_cases h : u = s
    · subst h; simp
    · rw [if_neg h]; exact mkT_at l t r u
theorem normL_n {S S1 : St} {l : List (Id × Id)} {slots : List Nat} (h : normL l slots S = some S1) : S1.n = S.n := by
  unfold normL at h
  split at h
  · obtain ⟨hl, _, rfl⟩ := Option.map_eq_some_iff.1 h; rfl
  · cases h
theorem close1_n {keep : Id → Bool} {S S1 : St} {o : Id} (h : close1 keep S o = some S1) : S1.n = S.n := by
  unfold close1 at h
  split at h
  · split at h
    · simp only [Option.some.injEq] at h; rw [h]
    · split at h
      · split at h
        · simp only [Option.some.injEq] at h; rw [← h]
        · cases h
      · cases h
  · cases h
theorem closeL_n {keep : Id → Bool} : ∀ {l : List Id} {S S1 : St}, closeL keep l S = some S1 → S1.n = S.n
  | [], S, S1, h => by simp only [closeL, Option.some.injEq] at h; rw [h]
  | o :: l, S, S1, h => by
    simp only [closeL, Option.bind_eq_some_iff] at h
    obtain ⟨S2, h1, h2⟩ := h
    rw [closeL_n h2, close1_n h1]
theorem nil1_n (S : St) (s : Nat) : (nil1 S s).n = S.n := by unfold nil1; split <;> rfl
theorem nilL_n : ∀ (l : List Nat) (S : St), (nilL l S).n = S.n
  | [], _ => rfl
  | s :: l, S => by rw [nilL, nilL_n l, nil1_n]
theorem norm_n {S S1 : St} {slots : List Nat} (h : norm S slots = some S1) : S1.n = S.n := by
  unfold norm normN at h
  simp only [Option.bind_eq_some_iff] at h
  obtain ⟨S2, h1, h2⟩ := h
  rw [normL_n h2, closeL_n h1, nilL_n]
theorem nodupB_Nodup : ∀ {l : List Id}, nodupB l = true → l.Nodup := fun {l} => by
  induction l with
  | nil => intro _; exact List.nodup_nil
  | cons x l ih =>
    intro h
    simp only [nodupB, Bool.and_eq_true, Bool.not_eq_true', List.contains_eq_mem, decide_eq_false_iff_not] at h
    exact List.nodup_cons.2 ⟨h.1, ih h.2⟩
theorem SR.normL {C : Cx} {E : Env} {w : World} {S S1 : St} {a : Act} {β : Id → Option Loc} {F : Id → List Nat} {l : List (Id × Id)} {slots : List Nat} (h : SR C E w S a β F) (hs : Ab.normL l slots S = some S1) : Nx C E S1 a w := by
  unfold Ab.normL at hs
  split at hs
  · rename_i hc
    obtain ⟨hl, h1, rfl⟩ := Option.map_eq_some_iff.1 hs
    simp only [Bool.and_eq_true] at hc
    have hn := nodupB_Nodup hc.2
    obtain ⟨i1, i2⟩ := heapN_sound hn h1 hn
    refine ⟨_, _, h.weak (m := newOf l) { n := rfl, inj := fun i i' j e e' => fst_inj (nodupB_Nodup hc.1) (newOf_mem e) (newOf_mem e'), t := fun t => ?_, h := fun i j e => i1 j i (newOf_mem e), no := fun i e => i2 i fun o hm => by rw [newOf_of hn hm] at e; cases e }⟩
    rcases mkT_at l S.t slots t with e | e
    · simp only; rw [e]; exact .junk
    · simp only; rw [e]; exact renAv_sound hn _
  · cases hs
def ClS (w : World) (I : Nat → Prop) (β : Id → Option Loc) (F : Id → List Nat) (p : AV → Option (AV × List Id)) : Prop :=
  ∀ a x, p a = some x → ∀ f v, R w I β f v a → ∃ fp rest, R w I β fp v x.1 ∧ (fp ++ rest).Perm (f ++ x.2.flatMap F)
section
variable {w : World} {I : Nat → Prop} {β : Id → Option Loc} {F : Id → List Nat}
theorem clC_sound {L : Id → Option (Option Rows)} {keep : Id → Bool} (hL : ∀ id rows, L id = some (some rows) → OR w I β id rows (F id)) : ClS w I β F (clC L keep) := fun a x h f v hr => by
  have same : ∀ {x : AV × List Id}, some (a, ([] : List Id)) = some x → ∃ fp rest, R w I β fp v x.1 ∧ (fp ++ rest).Perm (f ++ x.2.flatMap F) := fun e => by
    simp only [Option.some.injEq] at e; subst e
    exact ⟨f, [], hr, by simp⟩
  have pkd : ∀ {x : AV × List Id}, pk L 8 a = some x → ∃ fp rest, R w I β fp v x.1 ∧ (fp ++ rest).Perm (f ++ x.2.flatMap F) := fun e => by
    obtain ⟨fp, rest, g1, g2⟩ := pk_sound hL 8 _ _ e _ _ hr
    exact ⟨fp, rest, g1.up, g2⟩
  unfold clC at h
  split at h
  · split at h
    · exact same h
    · exact pkd h
  · split at h
    · exact same h
    · exact pkd h
  · split at h
    · exact same h
    · exact pkd h
  · simp only [Option.some.injEq] at h; subst h
    obtain ⟨rfl, a, rfl⟩ := hr.snil_inv
    exact ⟨[], [], .own0, by simp⟩
  · split at h
    · exact same h
    · cases h
theorem clFoldC {p : AV → Option (AV × List Id)} (hp : ClS w I β F p) : ∀ {cs : List AV} {x}, foldC p cs = some x → ∀ {f vs}, RL w I β f vs cs →
    x.1.length = cs.length ∧ ∃ fp rest, RL w I β fp vs x.1 ∧ (fp ++ rest).Perm (f ++ x.2.flatMap F)
  | [], x, h, f, vs, hr => by
    simp [foldC] at h; subst h
    obtain ⟨rfl, rfl⟩ := hr.nil_inv
    exact ⟨rfl, [], [], .nil, by simp⟩
  | c :: cs, x, h, f, vs, hr => by
    simp only [foldC, Option.bind_eq_some_iff, Option.map_eq_some_iff] at h
    obtain ⟨y, hy, z, hz, rfl⟩ := h
    obtain ⟨f1, f2, v, vs', rfl, rfl, h1, h2⟩ := hr.cons_inv
    obtain ⟨fp1, r1, g1, g2⟩ := hp _ _ hy _ _ h1
    obtain ⟨hl, fp2, r2, g3, g4⟩ := clFoldC hp hz h2
    refine ⟨by simp [hl], fp1 ++ fp2, r1 ++ r2, .cons g1 g3, ?_⟩
    simp only [List.flatMap_append]
    exact perm_mid g2 g4
theorem clFoldR {L : Id → Option (Option Rows)} {keep : Id → Bool} (hL : ∀ id rows, L id = some (some rows) → OR w I β id rows (F id)) : ∀ {rs : Rows} {x}, foldR (clRow L keep) rs = some x → ∀ {f vs}, RL w I β f vs rs.flatten →
    (x.1.length = rs.length ∧ ∀ sz, (∀ r ∈ rs, r.length = sz) → ∀ r ∈ x.1, r.length = sz) ∧ ∃ fp rest, RL w I β fp vs x.1.flatten ∧ (fp ++ rest).Perm (f ++ x.2.flatMap F)
  | [], x, h, f, vs, hr => by
    simp [foldR] at h; subst h
    obtain ⟨rfl, rfl⟩ := hr.nil_inv
    exact ⟨⟨rfl, fun _ _ _ h => by cases h⟩, [], [], .nil, by simp⟩
  | c :: cs, x, h, f, vs, hr => by
    simp only [foldR, Option.bind_eq_some_iff, Option.map_eq_some_iff] at h
    obtain ⟨y, hy, z, hz, rfl⟩ := h
    rw [List.flatten_cons] at hr
    obtain ⟨f1, f2, v1, v2, rfl, rfl, h1, h2⟩ := RL.split hr
    have hrow : y.1.length = c.length ∧ ∃ fp rest, RL w I β fp v1 y.1 ∧ (fp ++ rest).Perm (f1 ++ y.2.flatMap F) := by
      unfold clRow at hy
      split at hy
      · simp only [Option.some.injEq] at hy; subst hy
        exact ⟨rfl, f1, [], h1, by simp⟩
      · exact clFoldC (clC_sound hL) hy h1
    obtain ⟨l1, fp1, r1, g1, g2⟩ := hrow
    obtain ⟨⟨l2, l3⟩, fp2, r2, g3, g4⟩ := clFoldR hL hz h2
    refine ⟨⟨by simp [l2], fun sz hs r hr => ?_⟩, fp1 ++ fp2, r1 ++ r2, g1.append g3, ?_⟩
    · rcases List.mem_cons.1 hr with rfl | hr
      · rw [l1]; exact hs _ (List.mem_cons_self ..)
      · exact l3 sz (fun r hr => hs r (List.mem_cons_of_mem _ hr)) r hr
    · simp only [List.flatMap_append]
      exact perm_mid g2 g4
end
theorem updH_kill (h : Id → Option (Option Rows)) (ids : List Id) (i : Id) : updH h (ids.map fun i => (i, none)) i = if i ∈ ids then some none else h i := by
  induction ids with
  | nil => simp [updH]
  | cons k l ih =>
    simp only [List.map_cons, updH, upd, List.mem_cons]
    by_cases hk : i = k
    · subst hk; simp
    · rw [if_neg hk, ih]; simp [hk]
section
variable {C : Cx} {E : Env} {w : World} {S S1 : St} {a : Act} {β : Id → Option Loc} {F : Id → List Nat}
theorem SR.flatNodup (h : SR C E w S a β F) : ∀ {ids : List Id}, ids.Nodup → (ids.flatMap F).Nodup
  | [], _ => by simp
  | i :: ids, hn => by
    rw [List.nodup_cons] at hn
    simp only [List.flatMap_cons]
    refine List.nodup_append.2 ⟨h.nd i, h.flatNodup hn.2, fun x hx y hy e => ?_⟩
    subst e
    obtain ⟨j, hj, hx'⟩ := List.mem_flatMap.1 hy
    exact hn.1 (h.dj i j x hx hx' ▸ hj)
theorem SR.close1 {keep : Id → Bool} {o : Id} (h : SR C E w S a β F) (hs : Ab.close1 keep S o = some S1) : Nx C E S1 a w := by
  unfold Ab.close1 at hs
  split at hs
  · rename_i rows hrows
    split at hs
    · simp only [Option.some.injEq] at hs; subst hs; exact ⟨β, F, h⟩
    · rename_i hnf
      split at hs
      · rename_i rows' ids hcl
        split at hs
        · rename_i hc
          simp only [Option.some.injEq] at hs; subst hs
          simp only [Bool.and_eq_true, Bool.not_eq_true', List.contains_eq_mem, decide_eq_false_iff_not] at hc
          obtain ⟨hnd, hno⟩ := hc
          have hnd := nodupB_Nodup hnd
          rcases h.obj o rows hrows with ⟨_, rfl, _⟩ | ⟨_, _, _, es, clock, _, hes, _⟩ | ⟨b, o', sz, n', vs, fps, hb, hFo, hblk, ⟨hne, hsz⟩, hle, hclv, hrl⟩
          · exact absurd (by simp [flatR]) hnf
          · refine absurd ?_ hnf
            rw [hes]
            have : ∀ l : List MapEntry, flatR (l.map fun e => [.val e.key, .val e.val]) = true := fun l => by
              induction l with
              | nil => rfl
              | cons e l ih => simp only [List.map_cons, flatR, ih]; rfl
            exact this _
          · obtain ⟨⟨l1, l2⟩, fp, rest, g1, g2⟩ := clFoldR h.obj hcl hrl
            have hall : (F o ++ ids.flatMap F).Nodup := by
              have := h.flatNodup (ids := o :: ids) (List.nodup_cons.2 ⟨hno, hnd⟩)
              simpa using this
            have hperm : ((b :: fp) ++ rest).Perm (F o ++ ids.flatMap F) := by
              rw [hFo]
              simpa using g2
            have hnd2 : (b :: fp).Nodup := (List.nodup_append.1 (hperm.nodup_iff.2 hall)).1
            have hmem : ∀ x ∈ b :: fp, ∃ i, (i = o ∨ i ∈ ids) ∧ x ∈ F i := fun x hx => by
              have h9 : x ∈ F o ++ ids.flatMap F := hperm.mem_iff.1 (List.mem_append_left _ hx)
              rcases List.mem_append.1 h9 with hx | hx
              · exact ⟨o, .inl rfl, hx⟩
              · obtain ⟨i, hi, hx⟩ := List.mem_flatMap.1 hx
                exact ⟨i, .inr hi, hx⟩
            have hh : ∀ i, updH S.h ((o, some rows') :: ids.map fun i => (i, none)) i = if i = o then some (some rows') else if i ∈ ids then some none else S.h i := fun i => by
              simp only [updH, upd]
              rw [updH_kill]
            refine ⟨β, fun i => if i = o then b :: fp else if i ∈ ids then [] else F i, ?_⟩
            refine h.step (fun i => i = o ∨ i ∈ ids) h.n (Nat.le_refl _) rfl rfl (fun _ => rfl) (fun _ _ _ => rfl) (fun _ _ h => h) ?_ ?_ ?_ ?_ ?_ ?_ ?_ ?_
            · intro i x hx
              split at hx
              · obtain ⟨j, _, hj⟩ := hmem x hx; exact .inl ⟨j, hj⟩
              · split at hx
                · cases hx
                · exact .inl ⟨i, hx⟩
            · intro i hi
              have h1 : i ≠ o := fun e => hi (.inl e)
              have h2 : i ∉ ids := fun e => hi (.inr e)
              exact ⟨by simp [h1, h2], by simp only [hh]; simp [h1, h2]⟩
            · intro hI i hi rows2 hr
              simp only [hh] at hr
              by_cases h1 : i = o
              · subst h1
                simp only [if_true, Option.some.injEq] at hr
                subst hr
                refine .inr (.inr ⟨b, o', sz, n', vs, fp, hb, by simp, hblk, ⟨fun e => ?_, l2 sz hsz⟩, by rw [l1]; exact hle, hclv, g1.mono hI (fun _ _ => rfl) (fun _ _ h => h)⟩)
                rw [e] at l1
                exact hne (List.length_eq_zero_iff.1 (by simpa using l1.symm))
              · rw [if_neg h1, if_pos (hi.resolve_left h1)] at hr
                cases hr
            · intro i hi hno2
              simp only [hh] at hno2
              by_cases h1 : i = o
              · subst h1
                exact absurd (by simp) (hno2 rows')
              · simp [h1, hi.resolve_left h1]
            · intro i hi
              by_cases h1 : i = o
              · subst h1; simpa using hnd2
              · simp [h1, hi.resolve_left h1]
            · intro i j x hi hx hx'
              by_cases h1 : i = o
              · subst h1
                simp only [if_true] at hx
                split at hx'
                · exact (by assumption : j = i).symm
                · rename_i hj
                  split at hx'
                  · cases hx'
                  · rename_i hj2
                    obtain ⟨k, hk, hxk⟩ := hmem x hx
                    have := h.dj k j x hxk hx'
                    subst this
                    rcases hk with hk | hk
                    · exact absurd hk hj
                    · exact absurd hk hj2
              · simp [h1, hi.resolve_left h1] at hx
            · intro i hi
              simp only [hh] at hi
              split at hi
              · cases hi
              · split at hi
                · cases hi
                · exact h.dom i hi
            · intro hI t
              exact .inl ⟨rfl, rfl⟩
        · cases hs
      · cases hs
  · cases hs
theorem Nx.closeL {keep : Id → Bool} : ∀ {l : List Id} {S S1 : St}, Nx C E S a w → Ab.closeL keep l S = some S1 → Nx C E S1 a w
  | [], S, S1, h, hs => by simp only [Ab.closeL, Option.some.injEq] at hs; subst hs; exact h
  | o :: l, S, S1, ⟨β, F, h⟩, hs => by
    simp only [Ab.closeL, Option.bind_eq_some_iff] at hs
    obtain ⟨S2, h1, h2⟩ := hs
    exact (h.close1 h1).closeL h2
theorem SR.nil1 {s : Nat} (h : SR C E w S a β F) : Nx C E (Ab.nil1 S s) a w := by
  unfold Ab.nil1
  split
  · rename_i ht hh
    have hb := h.dom [s, s] hh
    have hFs : F [s, s] = [] := h.dead [s, s] (by rw [hh]; simp)
    refine ⟨upd β [s, s] (some .nil), F, ?_⟩
    have hup : ∀ i l, β i = some l → upd β [s, s] (some .nil) i = some l := fun i l hl => by
      by_cases hi : i = [s, s]
      · subst hi; rw [hb] at hl; cases hl
      · simpa [upd, hi] using hl
    refine h.step (fun i => i = [s, s]) h.n (Nat.le_refl _) rfl rfl (fun _ => rfl) (fun _ _ _ => rfl) hup ?_ ?_ ?_ ?_ ?_ ?_ ?_ ?_
    · intro i x hx; exact .inl ⟨i, hx⟩
    · intro i hi; exact ⟨rfl, by simp [upd, hi]⟩
    · intro _ i hi rows hr
      subst hi
      simp [upd] at hr; subst hr
      exact .inl ⟨by simp [upd], rfl, hFs⟩
    · intro i hi _; subst hi; exact hFs
    · intro i _; exact h.nd i
    · intro i j x _ hx hx'; exact h.dj i j x hx hx'
    · intro i hi
      by_cases h1 : i = [s, s]
      · subst h1; simp [upd] at hi
      · simp only [upd, h1, if_false] at hi ⊢; exact h.dom i hi
    · intro hI t
      by_cases hts : t = s
      · subst hts
        refine .inr ?_
        have := h.slot t
        rw [ht] at this
        obtain ⟨_, ad, hv⟩ := this.snil_inv
        rw [hv]
        simpa [upd] using R.rs0 (w := w) (I := Im E w F) (β := upd β [t, t] (some .nil)) (a := ad) (id := [t, t]) (off := 0) (l := .nil) (by simp [upd]) rfl
      · exact .inl ⟨rfl, by simp [upd, hts]⟩
  · exact ⟨β, F, h⟩
theorem Nx.nilL : ∀ {l : List Nat} {S : St}, Nx C E S a w → Nx C E (Ab.nilL l S) a w
  | [], _, h => h
  | s :: l, S, ⟨β, F, h⟩ => (h.nil1 (s := s)).nilL (l := l)
theorem SR.norm {slots : List Nat} (h : SR C E w S a β F) (hs : Ab.norm S slots = some S1) : Nx C E S1 a w := by
  unfold Ab.norm normN at hs
  simp only [Option.bind_eq_some_iff] at hs
  obtain ⟨S2, h1, h2⟩ := hs
  have h0 : Nx C E (Ab.nilL slots S) a w := Nx.nilL ⟨β, F, h⟩
  obtain ⟨β2, F2, h3⟩ := h0.closeL h1
  exact h3.normL h2
end
end Go.Ab
