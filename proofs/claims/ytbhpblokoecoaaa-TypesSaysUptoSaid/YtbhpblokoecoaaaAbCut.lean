/-
  A PLACE WHERE THE STATE IS TOLD ANEW.
-/
import Derived.Test.YtbhpblokoecoaaaAbDraw
import Derived.Test.YtbhpblokoecoaaaAbWeak
namespace Go.Ab
open Go
section
variable {C : Cx} {E : Env} {w : World} {S : St} {a : Act} {β : Id → Option Loc} {F : Id → List Nat}
variable {f : FuncId} {call : FuncId → List AV → Option (AV × List AV)}
theorem packL_sound (h : SR C E w S a β F) : ∀ {slots : List Nat} {x}, packL S.h S.t slots = some x →
    ∃ fp rest, RL w (Im E w F) noB fp (slots.map (a.tmps.getD · undef)) x.1 ∧ (fp ++ rest).Perm (x.2.flatMap F)
  | [], x, hx => by
    simp [packL] at hx; subst hx
    exact ⟨[], [], .nil, by simp⟩
  | s :: l, x, hx => by
    simp only [packL, Option.bind_eq_some_iff, Option.map_eq_some_iff] at hx
    obtain ⟨y, hy, z, hz, rfl⟩ := hx
    obtain ⟨fp1, r1, g1, g2⟩ := pk_sound h.obj 9 _ _ hy _ _ (h.slot s)
    obtain ⟨fp2, r2, g3, g4⟩ := packL_sound h hz
    refine ⟨fp1 ++ fp2, r1 ++ r2, .cons g1 g3, ?_⟩
    have := perm_mid (f1 := []) (f2 := []) g2 (by simpa using g4)
    simpa [List.flatMap_append] using this
theorem SR.renorm (h : SR C E w S a β F) {slots : List Nat} {tvs : List AV} (hs : slots.Nodup) (hr : renorm S slots = some tvs) : Nx C E (mkSt S.n slots tvs) a w := by
  unfold Ab.renorm at hr
  split at hr
  · rename_i tvs' ids hp
    split at hr
    · rename_i hnd
      simp only [Option.some.injEq] at hr; subst hr
      obtain ⟨fp, rest, g1, g2⟩ := packL_sound h hp
      have hmem : ∀ b ∈ fp, ∃ id, b ∈ F id := fun b hb => by
        obtain ⟨id, _, hid⟩ := List.mem_flatMap.1 (perm_mem g2 hb)
        exact ⟨id, hid⟩
      refine SR.enter (I := Im E w F) h.n h.df g1 hs (perm_nodup g2 (flatF_nodup h (nodupB_spec hnd))) (fun b hb => ⟨hb.1, hb.2.1, fun hm => ?_⟩) (fun b hb => ?_) h.kept (fun g cs hg => (h.glob g cs hg).imm_to rfl fun _ h => h)
      · obtain ⟨id, hid⟩ := hmem b hm
        exact hb.2.2 id hid
      · obtain ⟨id, hid⟩ := hmem b hb
        exact h.lt id b hid
    · cases hr
  · cases hr
theorem cutC_n {o : Option (Bool × List Nat)} {S S' : St} (h : cutC o S = some S') : S'.n = S.n := by
  unfold cutC at h
  split at h
  · simp only [Option.some.injEq] at h; rw [h]
  · exact norm_n h
  · obtain ⟨t, _, rfl⟩ := Option.map_eq_some_iff.1 h
    exact mkSt_n ..
theorem Nx.cut {o : Option (Bool × List Nat)} (ho : ∀ b l, o = some (b, l) → l.Nodup) {S S' : St} (h : Nx C E S a w) (hc : cutC o S = some S') : Nx C E S' a w := by
  unfold cutC at hc
  split at hc
  · simp only [Option.some.injEq] at hc; rw [← hc]; exact h
  · obtain ⟨β, F, hS⟩ := h; exact hS.norm hc
  · obtain ⟨t, h1, rfl⟩ := Option.map_eq_some_iff.1 hc
    obtain ⟨β, F, hS⟩ := h
    exact hS.renorm (ho _ _ rfl) h1
structure CutOk (C : Cx) : Prop where
  r : ∀ f i b l, C.cutR f i = some (b, l) → l.Nodup
  b : ∀ f i b l, C.cutB f i = some (b, l) → l.Nodup
  s : ∀ f i b l, C.cutS f i = some (b, l) → l.Nodup
theorem CutOk.seq (h : CutOk C) {c : Code} : ∀ b l, seqKey C f c = some (b, l) → l.Nodup := by
  unfold seqKey
  split
  · exact h.s f _
  · intro b l e; cases e
end
end Go.Ab
