/-
  A VALUE THAT COMES IN: what of it is owned becomes objects.
-/
import Derived.Test.YtbhpblokoecoaaaAbPk
namespace Go.Ab
open Go
def ImpS (w : World) (I : Nat → Prop) (β : Id → Option Loc) (f : List Nat) (N : Id → Prop) (Rel : (Id → Option Loc) → Prop) (l : List (Id × Option Rows)) : Prop :=
  ∃ (β' : Id → Option Loc) (G : Id → List Nat), (∀ i l', β i = some l' → β' i = some l') ∧ (∀ i, (∀ x ∈ l, x.1 ≠ i) → β' i = β i ∧ G i = []) ∧ Rel β' ∧
    (∀ x ∈ l, ∃ rows, x.2 = some rows ∧ OR w I β' x.1 rows (G x.1)) ∧ (∀ i, (G i).Nodup ∧ ∀ b ∈ G i, b ∈ f) ∧ (∀ i i' b, b ∈ G i → b ∈ G i' → i = i') ∧ (∀ x ∈ l, N x.1)
section
variable {w : World} {I : Nat → Prop} {β : Id → Option Loc}
theorem ImpS.zero {f : List Nat} {N : Id → Prop} {Rel : (Id → Option Loc) → Prop} (h : Rel β) : ImpS w I β f N Rel [] :=
  ⟨β, fun _ => [], fun _ _ h => h, fun _ _ => ⟨rfl, rfl⟩, h, (fun x hx => by cases hx), (fun i => ⟨List.nodup_nil, (fun b hb => by cases hb)⟩), (fun i i' b hb => by cases hb), (fun x hx => by cases hx)⟩
theorem ImpS.weak {f f' : List Nat} {N N' : Id → Prop} {Rel Rel' : (Id → Option Loc) → Prop} {l : List (Id × Option Rows)} (h : ImpS w I β f N Rel l) (hf : ∀ b ∈ f, b ∈ f') (hN : ∀ i, N i → N' i)
    (hR : ∀ β', (∀ i l', β i = some l' → β' i = some l') → Rel β' → Rel' β') : ImpS w I β f' N' Rel' l := by
  obtain ⟨β', G, h1, h2, h3, h4, h5, h6, h7⟩ := h
  exact ⟨β', G, h1, h2, hR β' h1 h3, h4, fun i => ⟨(h5 i).1, fun b hb => hf b ((h5 i).2 b hb)⟩, h6, fun x hx => hN _ (h7 x hx)⟩
theorem ImpS.join {f1 f2 : List Nat} {N1 N2 : Id → Prop} {Rel1 Rel2 : (Id → Option Loc) → Prop} {l1 l2 : List (Id × Option Rows)} (h2 : ImpS w I β f2 N2 Rel2 l2)
    (h1 : ∀ β1, (∀ i l', β i = some l' → β1 i = some l') → (∀ x ∈ l1, β1 x.1 = none) → ImpS w I β1 f1 N1 Rel1 l1) (hfr : ∀ x ∈ l1, β x.1 = none) (hN1 : ∀ x ∈ l1, N1 x.1) (hN : ∀ i, N1 i → N2 i → False) (hf : ∀ b, b ∈ f1 → b ∈ f2 → False)
    (hm : ∀ β1 β2, (∀ i l', β1 i = some l' → β2 i = some l') → Rel2 β1 → Rel2 β2) : ImpS w I β (f1 ++ f2) (fun i => N1 i ∨ N2 i) (fun β' => Rel1 β' ∧ Rel2 β') (l1 ++ l2) := by
  obtain ⟨β1, G2, a1, a2, a3, a4, a5, a6, a7⟩ := h2
  have hnot : ∀ x ∈ l1, ∀ y ∈ l2, y.1 ≠ x.1 := fun x hx y hy e => hN x.1 (hN1 x hx) (e ▸ a7 y hy)
  obtain ⟨β2, G1, b1, b2, b3, b4, b5, b6, b7⟩ := h1 β1 a1 (fun x hx => by rw [(a2 x.1 (hnot x hx)).1]; exact hfr x hx)
  have g1 : ∀ y ∈ l2, G1 y.1 = [] := fun y hy => (b2 y.1 fun x hx e => hnot x hx y hy e.symm).2
  have g2 : ∀ x ∈ l1, G2 x.1 = [] := fun x hx => (a2 x.1 (hnot x hx)).2
  have either : ∀ i, G1 i = [] ∨ G2 i = [] := fun i => by
    by_cases h : ∃ x ∈ l1, x.1 = i
    · obtain ⟨x, hx, rfl⟩ := h; exact .inr (g2 x hx)
    · exact .inl (b2 i fun x hx e => h ⟨x, hx, e⟩).2
  refine ⟨β2, fun i => G1 i ++ G2 i, fun i l' h => b1 i l' (a1 i l' h), ?_, ⟨b3, hm _ _ b1 a3⟩, ?_, ?_, ?_, ?_⟩
  · intro i hi
    obtain ⟨e1, e2⟩ := b2 i fun x hx => hi x (List.mem_append.2 (.inl hx))
    obtain ⟨e3, e4⟩ := a2 i fun x hx => hi x (List.mem_append.2 (.inr hx))
    exact ⟨e1.trans e3, by simp [e2, e4]⟩
  · intro x hx
    rcases List.mem_append.1 hx with hx | hx
    · simp only [g2 x hx, List.append_nil]; exact b4 x hx
    · obtain ⟨rows, e, h⟩ := a4 x hx
      simp only [g1 x hx, List.nil_append]
      exact ⟨rows, e, h.mono (fun _ h => h) (fun _ _ => rfl) b1⟩
  · intro i
    refine ⟨?_, fun b hb => ?_⟩
    · rcases either i with h | h
      · simp only [h, List.nil_append]; exact (a5 i).1
      · simp only [h, List.append_nil]; exact (b5 i).1
    · rcases List.mem_append.1 hb with hb | hb
      · exact List.mem_append.2 (.inl ((b5 i).2 b hb))
      · exact List.mem_append.2 (.inr ((a5 i).2 b hb))
  · intro i i' b hb hb'
    rcases List.mem_append.1 hb with hb | hb <;> rcases List.mem_append.1 hb' with hb' | hb'
    · exact b6 i i' b hb hb'
    · exact (hf b ((b5 i).2 b hb) ((a5 i').2 b hb')).elim
    · exact (hf b ((b5 i').2 b hb') ((a5 i).2 b hb)).elim
    · exact a6 i i' b hb hb'
  · intro x hx
    rcases List.mem_append.1 hx with hx | hx
    · exact .inl (b7 x hx)
    · exact .inr (a7 x hx)
theorem unpackS {p : Id} {cs : List AV} {j : Nat} {f : List Nat} {vs : List Value} (h : RL w I β f vs cs) (hnd : f.Nodup) (hfr : ∀ x ∈ (unpackC p j cs).2, β x.1 = none) :
    ImpS w I β f (fun i => ∃ k, j ≤ k ∧ i = k :: p) (fun β' => RL w I β' [] vs (unpackC p j cs).1) (unpackC p j cs).2 := unpackC_sound p h hnd hfr
theorem oneS {p : Id} {rows : Rows} {a : AV} {f : List Nat} {v : Value} (hnd : f.Nodup) (hfr : β p = none) (l : Loc) (hl : ∀ β' : Id → Option Loc, (∀ i l', β i = some l' → β' i = some l') → β' p = some l → R w I β' [] v a ∧ OR w I β' p rows f) :
    ImpS w I β f (fun i => i = p) (fun β' => R w I β' [] v a) [(p, some rows)] := by
  have up : ∀ i l', β i = some l' → upd β p (some l) i = some l' := fun i l' hl' => by
    by_cases hi : i = p
    · subst hi; rw [hfr] at hl'; cases hl'
    · simpa [upd, hi] using hl'
  obtain ⟨r1, r2⟩ := hl _ up (by simp [upd])
  refine ⟨upd β p (some l), upd (fun _ => []) p f, up, ?_, r1, ?_, ?_, ?_, ?_⟩
  · intro i hi
    have : i ≠ p := fun e => hi _ (List.mem_cons_self ..) e.symm
    simp [upd, this]
  · intro x hx
    obtain rfl := List.mem_singleton.1 hx
    exact ⟨rows, rfl, by simpa [upd] using r2⟩
  · intro i
    by_cases hi : i = p
    · subst hi; simp [upd, hnd]
    · simp [upd, hi]
  · intro i i' b hb hb'
    by_cases hi : i = p <;> by_cases hi' : i' = p
    · rw [hi, hi']
    · simp [upd, hi'] at hb'
    · simp [upd, hi] at hb
    · simp [upd, hi] at hb
  · intro x hx
    obtain rfl := List.mem_singleton.1 hx
    rfl
theorem ownS {p : Id} {rows : Rows} {len : Nat} {f : List Nat} {v : Value} (h : R w I β f v (.own rows len)) (hnd : f.Nodup) (hfr : β p = none) :
    ImpS w I β f (fun i => i = p) (fun β' => R w I β' [] v (.rs p 0 len)) [(p, some rows)] := by
  cases h with
  | own0 => exact oneS hnd hfr .nil fun β' _ hb => ⟨.rs0 hb rfl, .inl ⟨hb, rfl, rfl⟩⟩
  | @own _ b o sz cap n _ fps vs2 _ g0 g1 g2 g3 g4 g5 g6 =>
    refine oneS hnd hfr (.blk b o sz n) fun β' up hb => ⟨?_, .inr (.inr ⟨b, o, sz, n, vs2, fps, hb, rfl, g2, ⟨g0, g1⟩, g3.2, g5, g6.mono (fun _ h => h) (fun _ _ => rfl) up⟩)⟩
    have := R.rs (w := w) (I := I) (off := 0) (len := len) (cap := cap) hb (by simpa using g3.1) g4.1
    simpa using this
  | @own1 _ a b o sz n fps vs2 _ g0 g1 g2 g3 g5 g6 =>
    exact oneS hnd hfr (.blk b o sz n) fun β' up hb => ⟨.rs0 hb rfl, .inr (.inr ⟨b, o, sz, n, vs2, fps, hb, rfl, g2, ⟨g0, g1⟩, g3, g5, g6.mono (fun _ h => h) (fun _ _ => rfl) up⟩)⟩
theorem omS {p : Id} {rows : Rows} {f : List Nat} {v : Value} (h : R w I β f v (.om rows)) (hnd : f.Nodup) (hfr : β p = none) :
    ImpS w I β f (fun i => i = p) (fun β' => R w I β' [] v (.mr p)) [(p, some rows)] := by
  obtain ⟨b, rfl, rfl, hm⟩ := h.om_inv
  exact oneS hnd hfr (.map b) fun β' _ hb => ⟨.mr hb, .inr (.inl ⟨b, hb, rfl, hm⟩)⟩
theorem ownpS {p : Id} {cells : List AV} {f : List Nat} {v : Value} (h : R w I β f v (.ownp cells)) (hnd : f.Nodup) (hfr : β p = none) :
    ImpS w I β f (fun i => i = p) (fun β' => R w I β' [] v (.mp p 0 0)) [(p, some [cells])] := by
  cases h with
  | @ownp _ b o n fps vs2 _ g2 g3 g5 g6 =>
    have up : ∀ i l', β i = some l' → upd β p (some (.blk b o cells.length n)) i = some l' := fun i l' hl' => by
      by_cases hi : i = p
      · subst hi; rw [hfr] at hl'; cases hl'
      · simpa [upd, hi] using hl'
    refine ⟨upd β p (some (.blk b o cells.length n)), upd (fun _ => []) p (b :: fps), up, ?_, ?_, ?_, ?_, ?_, ?_⟩
    · intro i hi
      have : i ≠ p := fun e => hi _ (List.mem_cons_self ..) e.symm
      simp [upd, this]
    · have := R.mp (w := w) (I := I) (β := upd β p (some (.blk b o cells.length n))) (id := p) (row := 0) (off := 0) (by simp [upd]; exact ⟨rfl, rfl, rfl, rfl⟩)
      simpa using this
    · intro x hx
      obtain rfl := List.mem_singleton.1 hx
      exact ⟨[cells], rfl, .inr (.inr ⟨b, o, cells.length, n, vs2, fps, by simp [upd], by simp [upd], g2, ⟨by simp, by simp⟩, by simpa using g3, g5, by simpa using g6.mono (fun _ h => h) (fun _ _ => rfl) up⟩)⟩
    · intro i
      by_cases hi : i = p
      · subst hi; simp only [upd, if_true]; exact ⟨hnd, fun _ h => h⟩
      · simp [upd, hi]
    · intro i i' b hb hb'
      by_cases hi : i = p <;> by_cases hi' : i' = p
      · rw [hi, hi']
      · simp [upd, hi'] at hb'
      · simp [upd, hi] at hb
      · simp [upd, hi] at hb
    · intro x hx
      obtain rfl := List.mem_singleton.1 hx
      rfl
theorem ownpUS {p : Id} {cells : List AV} {f : List Nat} {v : Value} (h : R w I β f v (.ownp cells)) (hnd : f.Nodup) (hfr : β p = none) (hfr2 : ∀ x ∈ (unpackC p 0 cells).2, β x.1 = none) :
    ImpS w I β f (fun i => ∃ q, i = q ++ p) (fun β' => R w I β' [] v (.mp p 0 0)) ((p, some [(unpackC p 0 cells).1]) :: (unpackC p 0 cells).2) := by
  cases h with
  | @ownp _ b o n fps vs2 _ g2 g3 g5 g6 =>
    have hnd' : fps.Nodup := (List.nodup_cons.1 hnd).2
    have hb : b ∉ fps := (List.nodup_cons.1 hnd).1
    obtain ⟨β1, G1, a1, a2, a3, a4, a5, a6, a7⟩ := unpackS (p := p) (j := 0) g6 hnd' hfr2
    have hnot : ∀ x ∈ (unpackC p 0 cells).2, x.1 ≠ p := fun x hx e => by
      obtain ⟨k, _, e'⟩ := a7 x hx
      rw [e] at e'
      exact absurd (congrArg List.length e') (by simp)
    have hβ1 : β1 p = none := by rw [(a2 p hnot).1]; exact hfr
    have up : ∀ i l', β1 i = some l' → upd β1 p (some (.blk b o cells.length n)) i = some l' := fun i l' hl' => by
      by_cases hi : i = p
      · subst hi; rw [hβ1] at hl'; cases hl'
      · simpa [upd, hi] using hl'
    have hlen : (unpackC p 0 cells).1.length = cells.length := by rw [← a3.length, RL.length g6]
    refine ⟨upd β1 p (some (.blk b o cells.length n)), upd G1 p [b], fun i l' h => up i l' (a1 i l' h), ?_, ?_, ?_, ?_, ?_, ?_⟩
    · intro i hi
      have h1 : i ≠ p := fun e => hi _ (List.mem_cons_self ..) e.symm
      have := a2 i fun x hx => hi x (List.mem_cons_of_mem _ hx)
      simpa [upd, h1] using this
    · have := R.mp (w := w) (I := I) (β := upd β1 p (some (.blk b o cells.length n))) (id := p) (row := 0) (off := 0) (by simp [upd]; exact ⟨rfl, rfl, rfl, rfl⟩)
      simpa using this
    · intro x hx
      rcases List.mem_cons.1 hx with rfl | hx
      · exact ⟨_, rfl, .inr (.inr ⟨b, o, cells.length, n, vs2, [], by simp [upd], by simp [upd], g2, ⟨by simp, by simp [hlen]⟩, by simpa using g3, g5, by simpa using a3.mono (fun _ h => h) (fun _ _ => rfl) up⟩)⟩
      · obtain ⟨rows, e, h⟩ := a4 x hx
        refine ⟨rows, e, ?_⟩
        have := h.mono (w' := w) (I' := I) (fun _ h => h) (fun _ _ => rfl) up
        simpa [upd, hnot x hx] using this
    · intro i
      by_cases hi : i = p
      · subst hi; simp [upd]
      · simp only [upd, hi, if_false]
        exact ⟨(a5 i).1, fun b hb => List.mem_cons_of_mem _ ((a5 i).2 b hb)⟩
    · intro i i' c hc hc'
      by_cases hi : i = p <;> by_cases hi' : i' = p
      · rw [hi, hi']
      · simp [upd, hi, hi'] at hc hc'
        subst hc; exact (hb ((a5 i').2 _ hc')).elim
      · simp [upd, hi, hi'] at hc hc'
        subst hc'; exact (hb ((a5 i).2 _ hc)).elim
      · simp only [upd, hi, hi', if_false] at hc hc'
        exact a6 i i' c hc hc'
    · intro x hx
      rcases List.mem_cons.1 hx with rfl | hx
      · exact ⟨[], rfl⟩
      · obtain ⟨k, _, e⟩ := a7 x hx
        exact ⟨[k], by simpa using e⟩
theorem R.fp_plain {f : List Nat} {v : Value} {a : AV} (h : R w I β f v a) (h1 : ∀ l m, a ≠ .own l m) (h2 : ∀ l, a ≠ .ownp l) (h3 : ∀ l, a ≠ .agg l) (h4 : ∀ l, a ≠ .tup l) (h5 : ∀ l, a ≠ .om l) : f = [] := by
  cases h <;> first | rfl | simp_all
theorem impL_sound (p : Id) : ∀ {cs : List AV} {j : Nat} {f : List Nat} {vs : List Value}, RL w I β f vs cs → f.Nodup → (∀ x ∈ (impL p j cs).2, β x.1 = none) →
    ImpS w I β f (fun i => ∃ q k, j ≤ k ∧ i = q ++ k :: p) (fun β' => RL w I β' [] vs (impL p j cs).1) (impL p j cs).2
  | [], j, f, vs, h, _, _ => by
    obtain ⟨rfl, rfl⟩ := h.nil_inv
    exact .zero .nil
  | c :: cs, j, f, vs, h, hnd, hfr => by
    obtain ⟨f1, f2, v, vs', rfl, rfl, h1, h2⟩ := RL.cons_inv h
    have hnd2 : f2.Nodup := (List.nodup_append.1 hnd).2.1
    have hnd1 : f1.Nodup := (List.nodup_append.1 hnd).1
    have hdisj : ∀ b, b ∈ f1 → b ∈ f2 → False := fun b hb hb' => (List.nodup_append.1 hnd).2.2 b hb b hb' rfl
    have go : ∀ (x : AV) (l : List (Id × Option Rows)) , impL p j (c :: cs) = (x :: (impL p (j + 1) cs).1, l ++ (impL p (j + 1) cs).2) →
        (∀ β1 : Id → Option Loc, (∀ i l', β i = some l' → β1 i = some l') → (∀ x ∈ l, β1 x.1 = none) → ImpS w I β1 f1 (fun i => ∃ q, i = q ++ j :: p) (fun β' => R w I β' [] v x) l) → (∀ y ∈ l, ∃ q, y.1 = q ++ j :: p) →
        ImpS w I β (f1 ++ f2) (fun i => ∃ q k, j ≤ k ∧ i = q ++ k :: p) (fun β' => RL w I β' [] (v :: vs') (impL p j (c :: cs)).1) (impL p j (c :: cs)).2 := fun x l e hh hn => by
      rw [e] at hfr ⊢
      simp only at hfr ⊢
      have ih := impL_sound p (j := j + 1) h2 hnd2 (fun y hy => hfr y (List.mem_append.2 (.inr hy)))
      refine (ImpS.join ih hh (fun y hy => hfr y (List.mem_append.2 (.inl hy))) hn ?_ hdisj (fun β1 β2 up h => h.mono (fun _ h => h) (fun _ _ => rfl) up)).weak (fun _ h => h) ?_ (fun β' _ h => R.cons (f1 := []) (f2 := []) h.1 h.2)
      · rintro i ⟨q, rfl⟩ ⟨q', k, hk, e⟩
        have hl := congrArg List.length e
        simp only [List.length_append, List.length_cons] at hl
        have := (List.append_inj e (by omega)).2
        simp at this; omega
      · rintro i (⟨q, rfl⟩ | ⟨q, k, hk, rfl⟩)
        · exact ⟨q, j, Nat.le_refl _, rfl⟩
        · exact ⟨q, k, by omega, rfl⟩
    cases c with
    | own rows => exact go _ [(j :: p, some rows)] rfl (fun β1 up hf => (ownS (h1.mono (fun _ h => h) (fun _ _ => rfl) up) hnd1 (hf _ (List.mem_cons_self ..))).weak (N' := fun i => ∃ q, i = q ++ j :: p) (fun _ h => h) (fun i e => ⟨[], e⟩) (fun _ _ h => h)) (fun y hy => ⟨[], by rw [List.mem_singleton.1 hy]; rfl⟩)
    | om rows => exact go _ [(j :: p, some rows)] rfl (fun β1 up hf => (omS (h1.mono (fun _ h => h) (fun _ _ => rfl) up) hnd1 (hf _ (List.mem_cons_self ..))).weak (N' := fun i => ∃ q, i = q ++ j :: p) (fun _ h => h) (fun i e => ⟨[], e⟩) (fun _ _ h => h)) (fun y hy => ⟨[], by rw [List.mem_singleton.1 hy]; rfl⟩)
    | ownp cells => exact go _ [(j :: p, some [cells])] rfl (fun β1 up hf => (ownpS (h1.mono (fun _ h => h) (fun _ _ => rfl) up) hnd1 (hf _ (List.mem_cons_self ..))).weak (N' := fun i => ∃ q, i = q ++ j :: p) (fun _ h => h) (fun i e => ⟨[], e⟩) (fun _ _ h => h)) (fun y hy => ⟨[], by rw [List.mem_singleton.1 hy]; rfl⟩)
    | agg l =>
      obtain ⟨us, rfl, hl⟩ := h1.agg_inv
      have hnames : ∀ y ∈ (unpackC (j :: p) 0 l).2, ∃ q, y.1 = q ++ j :: p := fun y hy => by
        obtain ⟨_, _, _, _, _, _, _, _, a7⟩ := unpackS (p := j :: p) (j := 0) hl hnd1 (fun x hx => hfr x (List.mem_append.2 (.inl hx)))
        obtain ⟨k, _, e⟩ := a7 y hy
        exact ⟨[k], by simpa using e⟩
      refine go _ (unpackC (j :: p) 0 l).2 rfl (fun β1 up hf => ?_) hnames
      have hl1 : RL w I β1 f1 us l := hl.mono (fun _ h => h) (fun _ _ => rfl) up
      exact (unpackS hl1 hnd1 hf).weak (fun _ h => h) (fun i ⟨k, _, e⟩ => ⟨[k], by simpa using e⟩) (fun _ _ h => h)
    | tup l => exact go _ [] rfl (fun β1 _ _ => .zero .junk) (by simp)
    | _ =>
      have hf1 : f1 = [] := h1.fp_plain (by simp) (by simp) (by simp) (by simp) (by simp)
      subst hf1
      exact go _ [] rfl (fun β1 up _ => .zero (h1.mono (fun _ h => h) (fun _ _ => rfl) up)) (by simp)
theorem imp_sound (p : Id) {a : AV} {f : List Nat} {v : Value} (h : R w I β f v a) (hnd : f.Nodup) (hfr : ∀ x ∈ (imp p a).2, β x.1 = none) :
    ImpS w I β f (fun i => ∃ q, i = q ++ p) (fun β' => R w I β' [] v (imp p a).1) (imp p a).2 := by
  cases a with
  | own rows => exact (ownS h hnd (hfr (p, some rows) (List.mem_cons_self ..))).weak (N' := fun i => ∃ q, i = q ++ p) (fun _ h => h) (fun i e => ⟨[], e⟩) (fun _ _ h => h)
  | om rows => exact (omS h hnd (hfr (p, some rows) (List.mem_cons_self ..))).weak (N' := fun i => ∃ q, i = q ++ p) (fun _ h => h) (fun i e => ⟨[], e⟩) (fun _ _ h => h)
  | ownp cells => exact ownpUS h hnd (hfr (p, some [(unpackC p 0 cells).1]) (List.mem_cons_self ..)) (fun x hx => hfr x (List.mem_cons_of_mem _ hx))
  | agg l =>
    obtain ⟨us, rfl, hl⟩ := h.agg_inv
    exact (unpackS hl hnd hfr).weak (fun _ h => h) (fun i ⟨k, _, e⟩ => ⟨[k], by simpa using e⟩) (fun _ _ h => h)
  | tup l =>
    obtain ⟨us, rfl, hl⟩ := h.tup_inv
    exact (impL_sound p hl hnd hfr).weak (fun _ h => h) (fun i ⟨q, k, _, e⟩ => ⟨q ++ [k], by simpa using e⟩) (fun _ _ h => .tup h)
  | _ =>
    have hf : f = [] := h.fp_plain (by simp) (by simp) (by simp) (by simp) (by simp)
    subst hf
    exact .zero h
end
end Go.Ab
