/-
  PACKING, BORROWING, FREEZING: what they say.
-/
import Derived.Test.YtbhpblokoecoaaaAbOps7
namespace Go.Ab
open Go
theorem flatL_append (a b : List AV) : flatL (a ++ b) = (flatL a && flatL b) := by
  induction a with
  | nil => simp [flatL]
  | cons c cs ih => simp [flatL, ih, Bool.and_assoc]
theorem flatR_flatten : ∀ rows : Rows, flatR rows = true → flatL rows.flatten = true
  | [], _ => by simp [flatL]
  | r :: rs, h => by
    simp only [flatR, Bool.and_eq_true] at h
    rw [List.flatten_cons, flatL_append, h.1, flatR_flatten rs h.2]; rfl
section
variable {w : World} {I : Nat → Prop}
theorem R.flat_any {β : Id → Option Loc} {f : List Nat} {v : Value} {a : AV} (h : R w I β f v a) : flat a = true → ∀ β2 : Id → Option Loc, R w I β2 f v a := by
  induction h with
  | val h => intro _ _; exact .val h
  | nn => intro _ _; exact .nn
  | mr _ => intro hf; simp [flat] at hf
  | om h => intro _ _; exact .om h
  | im h1 h2 => intro _ _; exact .im h1 h2
  | snil => intro hf; simp [flat] at hf
  | sl0 => intro _ _; exact .sl0
  | sl h1 h2 h3 h4 h5 _ => intro _ _; exact .sl h1 h2 h3 h4 h5
  | vp h1 h2 h3 _ => intro _ _; exact .vp h1 h2 h3
  | rs0 _ _ => intro hf; simp [flat] at hf
  | rs _ _ _ => intro hf; simp [flat] at hf
  | mp _ => intro hf; simp [flat] at hf
  | fn _ _ ih1 ih2 =>
    intro hf _
    simp only [flat, Bool.and_eq_true] at hf
    exact .fn (ih1 (by simpa [flat] using hf.1) _) (ih2 (by simpa [flat] using hf.2) _)
  | nil => intro _ _; exact .nil
  | cons _ _ ih1 ih2 =>
    intro hf _
    simp only [flat, flatL, Bool.and_eq_true] at hf
    exact .cons (ih1 hf.1 _) (ih2 (by simpa [flat] using hf.2) _)
  | tup _ ih => intro hf _; exact .tup (ih (by simpa [flat] using hf) _)
  | own0 => intro _ _; exact .own0
  | own h0 h1 h2 h3 h4 h5 _ ih =>
    intro hf _
    simp only [flat] at hf
    exact .own h0 h1 h2 h3 h4 h5 (ih (by simpa [flat] using flatR_flatten _ hf) _)
  | own1 h0 h1 h2 h3 h5 _ ih =>
    intro hf _
    simp only [flat] at hf
    exact .own1 h0 h1 h2 h3 h5 (ih (by simpa [flat] using flatR_flatten _ hf) _)
  | ownp h1 h2 h3 _ ih =>
    intro hf _
    simp only [flat] at hf
    exact .ownp h1 h2 h3 (ih (by simpa [flat] using hf) _)
  | gv1 _ _ => intro hf; simp [flat] at hf
  | gv0 => intro hf; simp [flat] at hf
  | junk => intro _ _; exact .junk
def PkS (w : World) (I : Nat → Prop) (β : Id → Option Loc) (F : Id → List Nat) (p : AV → Option (AV × List Id)) : Prop :=
  ∀ a x, p a = some x → ∀ f v, R w I β f v a → ∃ fp rest, R w I noB fp v x.1 ∧ (fp ++ rest).Perm (f ++ x.2.flatMap F)
variable {β : Id → Option Loc} {F : Id → List Nat}
theorem perm_mid {fp1 r1 fp2 r2 f1 g1 f2 g2 : List Nat} (h1 : (fp1 ++ r1).Perm (f1 ++ g1)) (h2 : (fp2 ++ r2).Perm (f2 ++ g2)) :
    ((fp1 ++ fp2) ++ (r1 ++ r2)).Perm ((f1 ++ f2) ++ (g1 ++ g2)) := by
  rw [List.perm_iff_count] at h1 h2 ⊢
  intro a
  have := h1 a
  have := h2 a
  simp only [List.count_append] at *
  omega
theorem foldC_sound {p : AV → Option (AV × List Id)} (hp : PkS w I β F p) : ∀ {cs : List AV} {x}, foldC p cs = some x → ∀ {f vs}, RL w I β f vs cs →
    x.1.length = cs.length ∧ ∃ fp rest, RL w I noB fp vs x.1 ∧ (fp ++ rest).Perm (f ++ x.2.flatMap F)
  | [], x, h, f, vs, hr => by
    simp [foldC] at h; subst h
    obtain ⟨rfl, rfl⟩ := hr.nil_inv
    exact ⟨rfl, [], [], .nil, by simp⟩
  | c :: cs, x, h, f, vs, hr => by
    simp only [foldC, Option.bind_eq_some_iff, Option.map_eq_some_iff] at h
    obtain ⟨y, hy, z, hz, rfl⟩ := h
    obtain ⟨f1, f2, v, vs', rfl, rfl, h1, h2⟩ := hr.cons_inv
    obtain ⟨fp1, r1, g1, g2⟩ := hp _ _ hy _ _ h1
    obtain ⟨hl, fp2, r2, g3, g4⟩ := foldC_sound hp hz h2
    refine ⟨by simp [hl], fp1 ++ fp2, r1 ++ r2, .cons g1 g3, ?_⟩
    simp only [List.flatMap_append]
    exact perm_mid g2 g4
theorem pkC_sound {p : AV → Option (AV × List Id)} (hp : PkS w I β F p) {cs : List AV} {x} (h : pkC p cs = some x) {f vs} (hr : RL w I β f vs cs) :
    x.1.length = cs.length ∧ ∃ fp rest, RL w I noB fp vs x.1 ∧ (fp ++ rest).Perm (f ++ x.2.flatMap F) := by
  unfold pkC at h
  split at h
  · rename_i hf
    simp at h; subst h
    exact ⟨rfl, f, [], R.flat_any hr (by simpa [flat] using hf) _, by simp⟩
  · exact foldC_sound hp h hr
theorem foldR_sound {p : AV → Option (AV × List Id)} (hp : PkS w I β F p) : ∀ {rs : Rows} {x}, foldR (pkC p) rs = some x → ∀ {f vs}, RL w I β f vs rs.flatten →
    (x.1.length = rs.length ∧ ∀ sz, (∀ r ∈ rs, r.length = sz) → ∀ r ∈ x.1, r.length = sz) ∧ ∃ fp rest, RL w I noB fp vs x.1.flatten ∧ (fp ++ rest).Perm (f ++ x.2.flatMap F)
  | [], x, h, f, vs, hr => by
    simp [foldR] at h; subst h
    obtain ⟨rfl, rfl⟩ := hr.nil_inv
    exact ⟨⟨rfl, fun _ _ _ h => by cases h⟩, [], [], .nil, by simp⟩
  | c :: cs, x, h, f, vs, hr => by
    simp only [foldR, Option.bind_eq_some_iff, Option.map_eq_some_iff] at h
    obtain ⟨y, hy, z, hz, rfl⟩ := h
    rw [List.flatten_cons] at hr
    obtain ⟨f1, f2, v1, v2, rfl, rfl, h1, h2⟩ := RL.split hr
    obtain ⟨l1, fp1, r1, g1, g2⟩ := pkC_sound hp hy h1
    obtain ⟨⟨l2, l3⟩, fp2, r2, g3, g4⟩ := foldR_sound hp hz h2
    refine ⟨⟨by simp [l2], fun sz hs r hr => ?_⟩, fp1 ++ fp2, r1 ++ r2, g1.append g3, ?_⟩
    · rcases List.mem_cons.1 hr with rfl | hr
      · rw [l1]; exact hs _ (List.mem_cons_self ..)
      · exact l3 sz (fun r hr => hs r (List.mem_cons_of_mem _ hr)) r hr
    · simp only [List.flatMap_append]
      exact perm_mid g2 g4
theorem pkR_sound {p : AV → Option (AV × List Id)} (hp : PkS w I β F p) {rs : Rows} {x} (h : pkR p rs = some x) {f vs} (hr : RL w I β f vs rs.flatten) :
    (x.1.length = rs.length ∧ ∀ sz, (∀ r ∈ rs, r.length = sz) → ∀ r ∈ x.1, r.length = sz) ∧ ∃ fp rest, RL w I noB fp vs x.1.flatten ∧ (fp ++ rest).Perm (f ++ x.2.flatMap F) := by
  unfold pkR at h
  split at h
  · rename_i hf
    simp at h; subst h
    exact ⟨⟨rfl, fun _ h => h⟩, f, [], R.flat_any hr (by simpa [flat] using flatR_flatten _ hf) _, by simp⟩
  · exact foldR_sound hp h hr
theorem flatten_take {α : Type} (rs : List (List α)) (n : Nat) : rs.flatten = (rs.take n).flatten ++ (rs.drop n).flatten := by
  rw [← List.flatten_append, List.take_append_drop]
theorem pk_sound {L : Id → Option (Option Rows)} (hL : ∀ id rows, L id = some (some rows) → OR w I β id rows (F id)) : ∀ n, PkS w I β F (pk L n)
  | 0 => fun a x h => by simp [pk] at h
  | n + 1 => fun a x h f v hr => by
    have ih := pk_sound hL n
    cases a with
    | rs id off len =>
      simp only [pk] at h
      split at h
      · rename_i rs hid
        split at h
        · rename_i hc
          simp only [Option.map_eq_some_iff] at h
          obtain ⟨y, hy, rfl⟩ := h
          obtain ⟨rfl, hc⟩ := hc
          obtain ⟨rfl, hv⟩ := hr.rs_inv
          rcases hL id rs hid with ⟨hb, rfl, hF⟩ | ⟨bm, hb, _⟩ | ⟨b, o, sz, n', vs, fps, hb, hF, hblk, ⟨hne, hsz⟩, hle, hcl, hrl⟩
          rotate_left
          · rcases hv with ⟨a, l, rfl, rfl, hb', hl⟩ | ⟨b, o, sz, n', cap, hb', _⟩
            · rw [hb] at hb'; cases hb'; cases hl
            · rw [hb] at hb'; cases hb'
          rotate_left
          · have hy0 : y = ([], []) := by simpa [pkR, flatR] using hy.symm
            subst hy0
            simp only [List.length_nil] at hc
            rcases hv with ⟨a, l, rfl, rfl, _⟩ | ⟨b, o, sz, n', cap, hb', _⟩
            · exact ⟨[], [], .own0, by simp [hF]⟩
            · rw [hb] at hb'; cases hb'
          · obtain ⟨⟨l1, l2⟩, fp, rest, g1, g2⟩ := pkR_sound ih hy hrl
            have hlen : 0 < rs.length := List.length_pos_iff.2 hne
            have hyne : y.1 ≠ [] := fun e => by rw [e] at l1; simp at l1; omega
            have hperm : ((b :: fp) ++ rest).Perm ([] ++ (id :: y.2).flatMap F) := by
              rw [List.perm_iff_count] at g2 ⊢
              intro x
              have := g2 x
              simp only [List.flatMap_cons, List.nil_append, hF, List.count_append, List.count_cons, List.cons_append] at *
              omega
            rcases hv with ⟨a, l, rfl, rfl, _⟩ | ⟨b', o', sz', n'', cap, hb', hle', hcap, rfl⟩
            · exact ⟨b :: fp, rest, .own1 hyne (l2 sz hsz) hblk (by rw [l1]; exact hle) hcl g1, hperm⟩
            · rw [hb] at hb'
              simp only [Option.some.injEq, Loc.blk.injEq] at hb'
              obtain ⟨rfl, rfl, rfl, rfl⟩ := hb'
              refine ⟨b :: fp, rest, ?_, hperm⟩
              have := R.own (w := w) (I := I) (β := noB) (cap := cap) (o := o) (rows := y.1) (len := len) hyne (l2 sz hsz) hblk ⟨by simpa using hle', by rw [l1]; exact hle⟩ ⟨by omega, by omega⟩ hcl g1
              simpa using this
        · cases h
      · cases h
    | mp id row off =>
      simp only [pk] at h
      split at h
      · rename_i cs hid
        split at h
        · rename_i hc
          obtain ⟨rfl, rfl⟩ := hc
          simp only [Option.map_eq_some_iff] at h
          obtain ⟨y, hy, rfl⟩ := h
          obtain ⟨rfl, b', o', sz', n', hb', rfl⟩ := hr.mp_inv
          rcases hL id [cs] hid with ⟨hb, h0, hF⟩ | ⟨bm, hb, _⟩ | ⟨b, o, sz, n', vs, fps, hb, hF, hblk, ⟨hne, hsz⟩, hle, hcl, hrl⟩
          · cases h0
          · rw [hb] at hb'; cases hb'
          · rw [hb] at hb'
            simp only [Option.some.injEq, Loc.blk.injEq] at hb'
            obtain ⟨rfl, rfl, rfl, rfl⟩ := hb'
            simp only [List.flatten_cons, List.flatten_nil, List.append_nil] at hrl
            obtain ⟨l1, fp, rest, g1, g2⟩ := pkC_sound ih hy hrl
            have := hsz cs (by simp)
            refine ⟨b :: fp, rest, ?_, ?_⟩
            · have := R.ownp (w := w) (I := I) (β := noB) (cells := y.1) hblk (by simp at hle; omega) hcl g1
              simpa using this
            · rw [List.perm_iff_count] at g2 ⊢
              intro x
              have := g2 x
              simp only [List.flatMap_cons, List.nil_append, hF, List.count_append, List.count_cons, List.cons_append] at *
              omega
        · cases h
      · cases h
    | snil =>
      simp only [pk, Option.some.injEq] at h; subst h
      obtain ⟨rfl, a, rfl⟩ := hr.snil_inv
      exact ⟨[], [], .own0, by simp⟩
    | agg cs =>
      simp only [pk, Option.map_eq_some_iff] at h
      obtain ⟨y, hy, rfl⟩ := h
      obtain ⟨vs, rfl, hl⟩ := hr.agg_inv
      exact (pkC_sound ih hy hl).2
    | tup cs =>
      simp only [pk, Option.map_eq_some_iff] at h
      obtain ⟨y, hy, rfl⟩ := h
      obtain ⟨vs, rfl, hl⟩ := hr.tup_inv
      obtain ⟨_, fp, rest, g1, g2⟩ := pkC_sound ih hy hl
      exact ⟨fp, rest, .tup g1, g2⟩
    | fn k a b =>
      simp only [pk] at h
      split at h
      · rename_i hi
        simp only [Option.some.injEq] at h; subst h
        simp only [Bool.and_eq_true] at hi
        obtain ⟨rfl, vs, cs, rfl, h1, h2⟩ := hr.fn_inv
        exact ⟨[], [], .fn (h1.imm_noB hi.1) (h2.imm_noB hi.2), by simp⟩
      · cases h
    | gv g y =>
      simp only [pk, Option.some.injEq] at h; subst h
      exact ⟨[], f, .junk, by simp⟩
    | own rs len =>
      simp only [pk] at h
      split at h
      · rename_i hf
        simp only [Option.some.injEq] at h; subst h
        exact ⟨f, [], hr.flat_any (by simpa [flat] using hf) _, by simp⟩
      · cases h
    | ownp cs =>
      simp only [pk] at h
      split at h
      · rename_i hf
        simp only [Option.some.injEq] at h; subst h
        exact ⟨f, [], hr.flat_any (by simpa [flat] using hf) _, by simp⟩
      · cases h
    | val u =>
      simp only [pk, Option.some.injEq] at h; subst h
      exact ⟨f, [], hr.flat_any rfl _, by simp⟩
    | nn =>
      simp only [pk, Option.some.injEq] at h; subst h
      exact ⟨f, [], hr.flat_any rfl _, by simp⟩
    | mr id =>
      simp only [pk] at h
      split at h
      · rename_i rs hid
        simp only [Option.some.injEq] at h; subst h
        obtain ⟨rfl, b, hb', rfl⟩ := hr.mr_inv
        rcases hL id rs hid with ⟨hb, _⟩ | ⟨b2, hb, hF, hm⟩ | ⟨b2, o, sz, n', vs, fps, hb, _⟩
        · rw [hb] at hb'; cases hb'
        · rw [hb] at hb'; cases hb'
          exact ⟨[b], [], .om hm, by simp [hF]⟩
        · rw [hb] at hb'; cases hb'
      · cases h
    | om rows =>
      simp only [pk, Option.some.injEq] at h; subst h
      exact ⟨f, [], hr.flat_any rfl _, by simp⟩
    | im rows =>
      simp only [pk, Option.some.injEq] at h; subst h
      exact ⟨f, [], hr.flat_any rfl _, by simp⟩
    | sl rows =>
      simp only [pk, Option.some.injEq] at h; subst h
      exact ⟨f, [], hr.flat_any rfl _, by simp⟩
    | vp cells =>
      simp only [pk, Option.some.injEq] at h; subst h
      exact ⟨f, [], hr.flat_any rfl _, by simp⟩
    | junk =>
      simp only [pk, Option.some.injEq] at h; subst h
      exact ⟨f, [], hr.flat_any rfl _, by simp⟩
def BwS (w : World) (I : Nat → Prop) (β : Id → Option Loc) (F : Id → List Nat) (p : AV → Option (AV × List Id)) : Prop :=
  ∀ a x, p a = some x → ∀ f v, R w I β f v a → ∀ I' : Nat → Prop, (∀ b, I b → I' b) → (∀ b ∈ f, I' b) → (∀ id ∈ x.2, ∀ b ∈ F id, I' b) → R w I' noB [] v x.1
theorem R.imm_to {f : List Nat} {v : Value} {a : AV} (h : R w I β f v a) (hi : imm a = true) {I' : Nat → Prop} (hI : ∀ b, I b → I' b) : R w I' noB [] v a := by
  have e := h.imm_fp hi
  subst e
  exact (h.imm_noB hi).mono hI (fun _ _ => rfl) (fun _ _ h => h)
theorem bfoldC_sound {p : AV → Option (AV × List Id)} (hp : BwS w I β F p) : ∀ {cs : List AV} {x}, foldC p cs = some x → ∀ {f vs}, RL w I β f vs cs →
    x.1.length = cs.length ∧ ∀ I' : Nat → Prop, (∀ b, I b → I' b) → (∀ b ∈ f, I' b) → (∀ id ∈ x.2, ∀ b ∈ F id, I' b) → RL w I' noB [] vs x.1
  | [], x, h, f, vs, hr => by
    simp [foldC] at h; subst h
    obtain ⟨rfl, rfl⟩ := hr.nil_inv
    exact ⟨rfl, fun _ _ _ _ => .nil⟩
  | c :: cs, x, h, f, vs, hr => by
    simp only [foldC, Option.bind_eq_some_iff, Option.map_eq_some_iff] at h
    obtain ⟨y, hy, z, hz, rfl⟩ := h
    obtain ⟨f1, f2, v, vs', rfl, rfl, h1, h2⟩ := hr.cons_inv
    obtain ⟨hl, g3⟩ := bfoldC_sound hp hz h2
    refine ⟨by simp [hl], fun I' i1 i2 i3 => ?_⟩
    exact R.cons (f1 := []) (f2 := []) (hp _ _ hy _ _ h1 I' i1 (fun b hb => i2 b (List.mem_append.2 (.inl hb))) fun id hid => i3 id (List.mem_append.2 (.inl hid)))
      (g3 I' i1 (fun b hb => i2 b (List.mem_append.2 (.inr hb))) fun id hid => i3 id (List.mem_append.2 (.inr hid)))
theorem bwC_sound {p : AV → Option (AV × List Id)} (hp : BwS w I β F p) {cs : List AV} {x} (h : bwC p cs = some x) {f vs} (hr : RL w I β f vs cs) :
    x.1.length = cs.length ∧ ∀ I' : Nat → Prop, (∀ b, I b → I' b) → (∀ b ∈ f, I' b) → (∀ id ∈ x.2, ∀ b ∈ F id, I' b) → RL w I' noB [] vs x.1 := by
  unfold bwC at h
  split at h
  · rename_i hf
    simp at h; subst h
    exact ⟨rfl, fun I' i1 _ _ => R.imm_to hr (by simpa [imm] using hf) i1⟩
  · exact bfoldC_sound hp h hr
theorem bfoldR_sound {p : AV → Option (AV × List Id)} (hp : BwS w I β F p) : ∀ {rs : Rows} {x}, foldR (bwC p) rs = some x → ∀ {f vs}, RL w I β f vs rs.flatten →
    (x.1.length = rs.length ∧ ∀ sz, (∀ r ∈ rs, r.length = sz) → ∀ r ∈ x.1, r.length = sz) ∧ ∀ I' : Nat → Prop, (∀ b, I b → I' b) → (∀ b ∈ f, I' b) → (∀ id ∈ x.2, ∀ b ∈ F id, I' b) → RL w I' noB [] vs x.1.flatten
  | [], x, h, f, vs, hr => by
    simp [foldR] at h; subst h
    obtain ⟨rfl, rfl⟩ := hr.nil_inv
    exact ⟨⟨rfl, fun _ _ _ h => by cases h⟩, fun _ _ _ _ => .nil⟩
  | c :: cs, x, h, f, vs, hr => by
    simp only [foldR, Option.bind_eq_some_iff, Option.map_eq_some_iff] at h
    obtain ⟨y, hy, z, hz, rfl⟩ := h
    rw [List.flatten_cons] at hr
    obtain ⟨f1, f2, v1, v2, rfl, rfl, h1, h2⟩ := RL.split hr
    obtain ⟨l1, g1⟩ := bwC_sound hp hy h1
    obtain ⟨⟨l2, l3⟩, g3⟩ := bfoldR_sound hp hz h2
    refine ⟨⟨by simp [l2], fun sz hs r hr => ?_⟩, fun I' i1 i2 i3 => ?_⟩
    · rcases List.mem_cons.1 hr with rfl | hr
      · rw [l1]; exact hs _ (List.mem_cons_self ..)
      · exact l3 sz (fun r hr => hs r (List.mem_cons_of_mem _ hr)) r hr
    · have := (g1 I' i1 (fun b hb => i2 b (List.mem_append.2 (.inl hb))) fun id hid => i3 id (List.mem_append.2 (.inl hid))).append
        (g3 I' i1 (fun b hb => i2 b (List.mem_append.2 (.inr hb))) fun id hid => i3 id (List.mem_append.2 (.inr hid)))
      simpa using this
theorem bwR_sound {p : AV → Option (AV × List Id)} (hp : BwS w I β F p) {rs : Rows} {x} (h : bwR p rs = some x) {f vs} (hr : RL w I β f vs rs.flatten) :
    (x.1.length = rs.length ∧ ∀ sz, (∀ r ∈ rs, r.length = sz) → ∀ r ∈ x.1, r.length = sz) ∧ ∀ I' : Nat → Prop, (∀ b, I b → I' b) → (∀ b ∈ f, I' b) → (∀ id ∈ x.2, ∀ b ∈ F id, I' b) → RL w I' noB [] vs x.1.flatten := by
  unfold bwR at h
  split at h
  · rename_i hf
    simp at h; subst h
    exact ⟨⟨rfl, fun _ h => h⟩, fun I' i1 _ _ => R.imm_to hr (by simpa [imm] using immR_flatten _ hf) i1⟩
  · exact bfoldR_sound hp h hr
theorem bw_sound {L : Id → Option (Option Rows)} (hL : ∀ id rows, L id = some (some rows) → OR w I β id rows (F id)) : ∀ n, BwS w I β F (bw L n)
  | 0 => fun a x h => by simp [bw] at h
  | n + 1 => fun a x h f v hr I' i1 i2 i3 => by
    have ih := bw_sound hL n
    cases a with
    | rs id off len =>
      simp only [bw] at h
      split at h
      · rename_i rs hid
        split at h
        · rename_i hc
          simp only [Option.map_eq_some_iff] at h
          obtain ⟨y, hy, rfl⟩ := h
          obtain ⟨rfl, hv⟩ := hr.rs_inv
          have hnil : len = 0 → y.1 = [] := fun h0 => by
            have := congrArg List.length (show (rs.drop off).take len = [] by rw [h0]; rfl)
            rw [h0, List.take_zero] at hy
            simp [bwR, immR] at hy
            rw [← hy]
          rcases hv with ⟨a, l, rfl, rfl, _⟩ | ⟨b', o', sz', n'', cap, hb', hle', hcap, rfl⟩
          · rw [hnil rfl]; exact .sl0
          · rcases Nat.eq_zero_or_pos len with h0 | h0
            · subst h0; rw [hnil rfl]; exact .sl0
            · rcases hL id rs hid with ⟨hb, rfl, hF⟩ | ⟨bm, hb, _⟩ | ⟨b, o, sz, n', vs, fps, hb, hF, hblk, ⟨hne, hsz⟩, hle, hcl, hrl⟩
              · simp at hc; omega
              · rw [hb] at hb'; cases hb'
              · rw [hb] at hb'
                simp only [Option.some.injEq, Loc.blk.injEq] at hb'
                obtain ⟨rfl, rfl, rfl, rfl⟩ := hb'
                have hsp : rs.flatten = (rs.take off).flatten ++ (((rs.drop off).take len).flatten ++ ((rs.drop off).drop len).flatten) := by
                  rw [← flatten_take (rs.drop off) len, ← flatten_take rs off]
                rw [hsp] at hrl
                obtain ⟨f1, f23, v1, v23, rfl, rfl, h1, h23⟩ := RL.split hrl
                obtain ⟨f2, f3, v2, v3, rfl, rfl, h2, h3⟩ := RL.split h23
                have lv1 := h1.length
                rw [flat_len (sz := sz) (fun r hr => hsz r (List.mem_of_mem_take hr)), List.length_take, Nat.min_eq_left (by omega)] at lv1
                obtain ⟨⟨l1, l2⟩, g⟩ := bwR_sound ih hy h2
                have l1' : y.1.length = len := by rw [l1, List.length_take, List.length_drop]; omega
                have hin : ∀ x ∈ F id, I' x := i3 id (List.mem_cons_self ..)
                have g' := g I' i1 (fun x hx => hin x (by rw [hF]; simp [hx])) fun id hid => i3 id (List.mem_cons_of_mem _ hid)
                have hcl2 : Cl w b (o + off * sz) v2 := by
                  have := (hcl.drop v1.length).take v2.length
                  rw [List.drop_left, List.take_left, lv1] at this
                  exact this
                have := R.sl (β := noB) (cap := cap) (l2 sz fun r hr => hsz r (List.mem_of_mem_drop (List.mem_of_mem_take hr))) (hin b (by rw [hF]; simp)) hcl2 (by omega) g'
                rw [l1'] at this
                exact this
        · cases h
      · cases h
    | mp id row off =>
      simp only [bw] at h
      split at h
      · rename_i rs hid
        split at h
        · rename_i r hrow
          split at h
          · rename_i hoff
            simp only [Option.map_eq_some_iff] at h
            obtain ⟨y, hy, rfl⟩ := h
            obtain ⟨rfl, b', o', sz', n', hb', rfl⟩ := hr.mp_inv
            rcases hL id rs hid with ⟨hb, h0, hF⟩ | ⟨bm, hb, _⟩ | ⟨b, o, sz, n', vs, fps, hb, hF, hblk, ⟨hne, hsz⟩, hle, hcl, hrl⟩
            · subst h0; simp at hrow
            · rw [hb] at hb'; cases hb'
            · rw [hb] at hb'
              simp only [Option.some.injEq, Loc.blk.injEq] at hb'
              obtain ⟨rfl, rfl, rfl, rfl⟩ := hb'
              obtain ⟨hsp, hlt⟩ := rows_split hrow
              have hrl2 : r.length = sz := hsz r (List.mem_of_getElem? hrow)
              have hsp : rs.flatten = ((rs.take row).flatten ++ r.take off) ++ (r.drop off ++ (rs.drop (row + 1)).flatten) := by
                have e : r.take off ++ (r.drop off ++ (rs.drop (row + 1)).flatten) = r ++ (rs.drop (row + 1)).flatten := by rw [← List.append_assoc, List.take_append_drop]
                rw [List.append_assoc, e]
                conv => lhs; rw [hsp]
                simp
              rw [hsp] at hrl
              obtain ⟨f1, f23, v1, v23, rfl, rfl, h1, h23⟩ := RL.split hrl
              obtain ⟨f2, f3, v2, v3, rfl, rfl, h2, h3⟩ := RL.split h23
              have lv1 := h1.length
              rw [List.length_append, flat_len (sz := sz) (fun r hr => hsz r (List.mem_of_mem_take hr)), List.length_take, List.length_take, Nat.min_eq_left (by omega), Nat.min_eq_left hoff] at lv1
              obtain ⟨_, g⟩ := bwC_sound ih hy h2
              have hin : ∀ x ∈ F id, I' x := i3 id (List.mem_cons_self ..)
              have g' := g I' i1 (fun x hx => hin x (by rw [hF]; simp [hx])) fun id hid => i3 id (List.mem_cons_of_mem _ hid)
              have hcl2 : Cl w b (o + row * sz + off) v2 := by
                have := (hcl.drop v1.length).take v2.length
                rw [List.drop_left, List.take_left, lv1, ← Nat.add_assoc] at this
                exact this
              exact .vp (hin b (by rw [hF]; simp)) hcl2 g'
          · cases h
        · cases h
      · cases h
    | snil =>
      simp only [bw, Option.some.injEq] at h; subst h
      obtain ⟨rfl, a, rfl⟩ := hr.snil_inv
      exact .sl0
    | agg cs =>
      simp only [bw, Option.map_eq_some_iff] at h
      obtain ⟨y, hy, rfl⟩ := h
      obtain ⟨vs, rfl, hl⟩ := hr.agg_inv
      exact (bwC_sound ih hy hl).2 I' i1 i2 i3
    | tup cs =>
      simp only [bw, Option.map_eq_some_iff] at h
      obtain ⟨y, hy, rfl⟩ := h
      obtain ⟨vs, rfl, hl⟩ := hr.tup_inv
      exact .tup ((bwC_sound ih hy hl).2 I' i1 i2 i3)
    | fn k a b =>
      simp only [bw, Option.map_eq_some_iff, Option.bind_eq_some_iff] at h
      obtain ⟨y, hy, z, hz, rfl⟩ := h
      obtain ⟨rfl, vs, cs, rfl, h1, h2⟩ := hr.fn_inv
      exact .fn ((bwC_sound ih hy h1).2 I' i1 (fun _ h => by cases h) fun id hid => i3 id (List.mem_append.2 (.inl hid))) ((bwC_sound ih hz h2).2 I' i1 (fun _ h => by cases h) fun id hid => i3 id (List.mem_append.2 (.inr hid)))
    | gv g y =>
      simp only [bw, Option.some.injEq] at h; subst h
      exact .junk
    | own rs len =>
      simp only [bw, Option.map_eq_some_iff] at h
      obtain ⟨y, hy, rfl⟩ := h
      cases hr with
      | own0 =>
        have : y = ([], []) := by simpa [bwR, immR] using hy.symm
        subst this; exact .sl0
      | own1 _ _ _ _ _ _ =>
        have : y = ([], []) := by simpa [bwR, immR] using hy.symm
        subst this; exact .sl0
      | @own _ b o sz cap n len fps vs2 _ g0 g1 g2 g3 g4 g5 g6 =>
        rw [flatten_take rs len] at g6
        obtain ⟨f1, f2, v1, v2, rfl, rfl, h1, h2⟩ := RL.split g6
        obtain ⟨⟨l1, l2⟩, g⟩ := bwR_sound ih hy h1
        have g' := g I' i1 (fun b hb => i2 b (List.mem_cons_of_mem _ (List.mem_append.2 (.inl hb)))) i3
        have hcl1 : Cl w b o v1 := by
          have := g5.take v1.length
          rwa [List.take_left] at this
        have l1' : y.1.length = len := by rw [l1, List.length_take]; omega
        have := R.sl (β := noB) (cap := cap) (l2 sz fun r hr => g1 r (List.mem_of_mem_take hr)) (i2 b (List.mem_cons_self ..)) hcl1 (by omega) g'
        rw [l1'] at this
        exact this
    | ownp cs =>
      simp only [bw, Option.map_eq_some_iff] at h
      obtain ⟨y, hy, rfl⟩ := h
      cases hr with
      | @ownp _ b o n fps vs2 _ g2 g3 g5 g6 =>
        obtain ⟨_, g⟩ := bwC_sound ih hy g6
        exact .vp (i2 b (List.mem_cons_self ..)) g5 (g I' i1 (fun b hb => i2 b (List.mem_cons_of_mem _ hb)) i3)
    | val u =>
      simp only [bw, Option.some.injEq] at h; subst h
      exact hr.imm_to rfl i1
    | nn =>
      simp only [bw, Option.some.injEq] at h; subst h
      exact hr.imm_to rfl i1
    | mr id =>
      simp only [bw] at h
      split at h
      · rename_i rs hid
        simp only [Option.some.injEq] at h; subst h
        obtain ⟨rfl, b, hb', rfl⟩ := hr.mr_inv
        rcases hL id rs hid with ⟨hb, _⟩ | ⟨b2, hb, hF, hm⟩ | ⟨b2, o, sz, n', vs, fps, hb, _⟩
        · rw [hb] at hb'; cases hb'
        · rw [hb] at hb'; cases hb'
          exact .im (i3 id (List.mem_cons_self ..) b (by rw [hF]; simp)) hm
        · rw [hb] at hb'; cases hb'
      · cases h
    | om rows =>
      simp only [bw, Option.some.injEq] at h; subst h
      obtain ⟨b, rfl, rfl, hm⟩ := hr.om_inv
      exact .im (i2 b (List.mem_cons_self ..)) hm
    | im rows =>
      simp only [bw, Option.some.injEq] at h; subst h
      exact hr.imm_to rfl i1
    | sl rows =>
      simp only [bw, Option.some.injEq] at h; subst h
      exact hr.imm_to rfl i1
    | vp cells =>
      simp only [bw, Option.some.injEq] at h; subst h
      exact hr.imm_to rfl i1
    | junk =>
      simp only [bw, Option.some.injEq] at h; subst h
      exact .junk
theorem mineR_flatten : ∀ rows : Rows, mineR rows = true → mineL rows.flatten = true
  | [], _ => by simp [mineL]
  | r :: rs, h => by
    simp only [mineR, Bool.and_eq_true] at h
    have : ∀ a b : List AV, mineL (a ++ b) = (mineL a && mineL b) := fun a b => by
      induction a with
      | nil => simp [mineL]
      | cons c cs ih => simp [mineL, ih, Bool.and_assoc]
    rw [List.flatten_cons, this, h.1, mineR_flatten rs h.2]; rfl
theorem R.mine {f : List Nat} {v : Value} {a : AV} (h : R w I β f v a) : mine a = true → ∀ I' : Nat → Prop, R w I' β f v a := by
  induction h with
  | val h => intro _ _; exact .val h
  | nn => intro _ _; exact .nn
  | om h => intro _ _; exact .om h
  | snil => intro _ _; exact .snil
  | nil => intro _ _; exact .nil
  | cons _ _ ih1 ih2 =>
    intro hf _
    simp only [Ab.mine, mineL, Bool.and_eq_true] at hf
    exact .cons (ih1 hf.1 _) (ih2 (by simpa [Ab.mine] using hf.2) _)
  | tup _ ih => intro hf _; exact .tup (ih (by simpa [Ab.mine] using hf) _)
  | own0 => intro _ _; exact .own0
  | own h0 h1 h2 h3 h4 h5 _ ih =>
    intro hf _
    simp only [Ab.mine] at hf
    exact .own h0 h1 h2 h3 h4 h5 (ih (by simpa [Ab.mine] using mineR_flatten _ hf) _)
  | own1 h0 h1 h2 h3 h5 _ ih =>
    intro hf _
    simp only [Ab.mine] at hf
    exact .own1 h0 h1 h2 h3 h5 (ih (by simpa [Ab.mine] using mineR_flatten _ hf) _)
  | ownp h1 h2 h3 _ ih =>
    intro hf _
    simp only [Ab.mine] at hf
    exact .ownp h1 h2 h3 (ih (by simpa [Ab.mine] using hf) _)
  | junk => intro _ _; exact .junk
  | _ => intro hf; simp [Ab.mine] at hf
theorem fzL_append (a b : List AV) : fzL (a ++ b) = fzL a ++ fzL b := by
  induction a with
  | nil => rfl
  | cons c cs ih => simp [fzL, ih]
theorem fzL_length (a : List AV) : (fzL a).length = a.length := by
  induction a with
  | nil => rfl
  | cons c cs ih => simp [fzL, ih]
theorem fzR_flatten : ∀ rows : Rows, (fzR rows).flatten = fzL rows.flatten
  | [] => rfl
  | r :: rs => by simp [fzR, fzL_append, fzR_flatten rs]
theorem fzR_length : ∀ rows : Rows, (fzR rows).length = rows.length
  | [] => rfl
  | r :: rs => by simp [fzR, fzR_length rs]
theorem fzR_mem : ∀ {rows : Rows} {r : List AV}, r ∈ fzR rows → ∃ r' ∈ rows, r.length = r'.length
  | [], r, h => by simp [fzR] at h
  | c :: rs, r, h => by
    simp only [fzR, List.mem_cons] at h
    rcases h with rfl | h
    · exact ⟨c, List.mem_cons_self .., fzL_length c⟩
    · obtain ⟨r', h1, h2⟩ := fzR_mem h
      exact ⟨r', List.mem_cons_of_mem _ h1, h2⟩
theorem R.fz' {β : Id → Option Loc} {f : List Nat} {v : Value} {a : AV} (h : R w I β f v a) (hβ : β = noB) {I' : Nat → Prop} (i1 : ∀ b, I b → I' b) : (∀ b ∈ f, I' b) → R w I' noB [] v (fz a) := by
  induction h with
  | val h => intro _; exact .val h
  | nn => intro _; exact .nn
  | mr h => subst hβ; cases h
  | om h => intro h2; exact .im (h2 _ (List.mem_cons_self ..)) h
  | im h1 h2 => intro _; exact .im (i1 _ h1) h2
  | snil => intro _; exact .snil
  | sl0 => intro _; exact .sl0
  | sl h1 h2 h3 h4 h5 _ => intro _; exact .sl h1 (i1 _ h2) h3 h4 (h5.mono i1 (fun _ _ => rfl) (fun _ _ h => h))
  | vp h1 h2 h3 _ => intro _; exact .vp (i1 _ h1) h2 (h3.mono i1 (fun _ _ => rfl) (fun _ _ h => h))
  | rs0 h _ => subst hβ; cases h
  | rs h _ _ => subst hβ; cases h
  | mp h => subst hβ; cases h
  | fn h1 h2 _ _ => intro _; subst hβ; exact .fn (h1.mono i1 (fun _ _ => rfl) (fun _ _ h => h)) (h2.mono i1 (fun _ _ => rfl) (fun _ _ h => h))
  | nil => intro _; exact .nil
  | cons _ _ ih1 ih2 => intro h; exact R.cons (f1 := []) (f2 := []) (ih1 hβ fun b hb => h b (List.mem_append.2 (.inl hb))) (ih2 hβ fun b hb => h b (List.mem_append.2 (.inr hb)))
  | tup _ ih => intro h; exact .tup (ih hβ h)
  | own0 => intro _; exact .sl0
  | own1 _ _ _ _ _ _ => intro _; simp only [Ab.fz, List.take_zero]; exact .sl0
  | @own _ b o sz cap n len fps vs2 rows h0 h1 h2 h3 h4 h5 _ ih =>
    intro h
    have g := ih hβ fun b hb => h b (List.mem_cons_of_mem _ hb)
    simp only [Ab.fz] at g ⊢
    rw [← fzR_flatten, flatten_take (fzR rows) len] at g
    obtain ⟨f1, f2, v1, v2, e1, e2, g1, g2⟩ := RL.split g
    obtain rfl : f1 = [] := (List.append_eq_nil_iff.1 e1.symm).1
    have hcl1 : Cl w b o v1 := by
      rw [e2] at h5
      have := h5.take v1.length
      rwa [List.take_left] at this
    have hl : ((fzR rows).take len).length = len := by rw [List.length_take, fzR_length]; omega
    have := R.sl (w := w) (β := noB) (cap := cap) (o := o) (rows := (fzR rows).take len) (fun r hr => by obtain ⟨r', m1, m2⟩ := fzR_mem (List.mem_of_mem_take hr); rw [m2]; exact h1 r' m1) (h b (List.mem_cons_self ..)) hcl1 (by omega) g1
    rw [hl] at this
    exact this
  | ownp h1 h2 h3 _ ih =>
    intro h
    have g := ih hβ fun b hb => h b (List.mem_cons_of_mem _ hb)
    exact .vp (h _ (List.mem_cons_self ..)) h3 g
  | gv1 h _ => intro _; subst hβ; exact .gv1 (h.mono i1 (fun _ _ => rfl) (fun _ _ h => h))
  | gv0 => intro _; exact .gv0
  | junk => intro _; exact .junk
theorem R.fz {f : List Nat} {v : Value} {a : AV} (h : R w I noB f v a) {I' : Nat → Prop} (i1 : ∀ b, I b → I' b) (hf : ∀ b ∈ f, I' b) : R w I' noB [] v (fz a) := R.fz' h rfl i1 hf
end
end Go.Ab
