/-
  A STATE MADE OF TREES: at a function's head, at a loop's head.
-/
import Derived.Test.YtbhpblokoecoaaaAbImp
namespace Go.Ab
open Go
def mkL : List Nat → List AV → List (Id × Option Rows)
  | s :: l, v :: vs => (imp [s] v).2 ++ mkL l vs
  | _, _ => []
theorem updH_append (h : Id → Option (Option Rows)) (b : List (Id × Option Rows)) : ∀ a, updH h (a ++ b) = updH (updH h b) a
  | [] => rfl
  | (i, r) :: l => by simp [updH, updH_append h b l]
theorem mkSt_h (n : Nat) : ∀ (slots : List Nat) (tvs : List AV), (mkSt n slots tvs).h = updH (fun _ => none) (mkL slots tvs)
  | [], _ => rfl
  | _ :: _, [] => rfl
  | s :: l, v :: vs => by simp [mkSt, mkL, updH_append, mkSt_h n l vs]
theorem mkSt_n (n : Nat) : ∀ (slots : List Nat) (tvs : List AV), (mkSt n slots tvs).n = n
  | [], _ => rfl
  | _ :: _, [] => rfl
  | s :: l, v :: vs => rfl
theorem mkSt_other (n : Nat) : ∀ (slots : List Nat) (tvs : List AV) (t : Nat), t ∉ slots → (mkSt n slots tvs).t t = .junk
  | [], _, _, _ => rfl
  | _ :: _, [], _, _ => rfl
  | s :: l, v :: vs, t, h => by
    have h1 : t ≠ s := fun e => h (by simp [e])
    have h2 : t ∉ l := fun e => h (by simp [e])
    simp only [mkSt, upd, h1, if_false]
    exact mkSt_other n l vs t h2
section
variable {w : World} {I : Nat → Prop}
theorem imp_names (p : Id) {a : AV} {f : List Nat} {v : Value} (h : R w I noB f v a) (hnd : f.Nodup) : ∀ x ∈ (imp p a).2, ∃ q, x.1 = q ++ p := by
  obtain ⟨_, _, _, _, _, _, _, _, a7⟩ := imp_sound p h hnd (fun _ _ => rfl)
  exact a7
theorem mkSt_S (n : Nat) (g : Nat → Value) : ∀ {slots : List Nat} {tvs : List AV} {f : List Nat}, RL w I noB f (slots.map g) tvs → slots.Nodup → f.Nodup →
    ImpS w I noB f (fun i => ∃ q s, s ∈ slots ∧ i = q ++ [s]) (fun β' => ∀ s ∈ slots, R w I β' [] (g s) ((mkSt n slots tvs).t s)) (mkL slots tvs)
  | [], _, _, _, _, _ => .zero (fun s hs => by cases hs)
  | s :: l, tvs, f, h, hs, hf => by
    cases h with
    | @cons _ f1 f2 _ _ v vs h1 h2 =>
      have hnd2 : f2.Nodup := (List.nodup_append.1 hf).2.1
      have hnd1 : f1.Nodup := (List.nodup_append.1 hf).1
      have hdisj : ∀ b, b ∈ f1 → b ∈ f2 → False := fun b hb hb' => (List.nodup_append.1 hf).2.2 b hb b hb' rfl
      have hsl : s ∉ l := (List.nodup_cons.1 hs).1
      have ih := mkSt_S n g h2 (List.nodup_cons.1 hs).2 hnd2
      refine (ImpS.join (N1 := fun i => ∃ q, i = q ++ [s]) (Rel1 := fun β' => R w I β' [] (g s) (imp [s] v).1) (l1 := (imp [s] v).2) ih (fun β1 up hfr => imp_sound [s] (h1.mono (fun _ h => h) (fun _ _ => rfl) up) hnd1 hfr) (fun _ _ => rfl) (imp_names [s] h1 hnd1) ?_ hdisj ?_).weak (fun _ h => h) ?_ ?_
      · rintro i ⟨q, rfl⟩ ⟨q', s', hs', e⟩
        have := (List.append_inj' e rfl).2
        simp at this; subst this
        exact hsl hs'
      · intro β1 β2 up h s' hs'
        exact (h s' hs').mono (fun _ h => h) (fun _ _ => rfl) up
      · rintro i (⟨q, rfl⟩ | ⟨q, s', hs', rfl⟩)
        · exact ⟨q, s, List.mem_cons_self .., rfl⟩
        · exact ⟨q, s', List.mem_cons_of_mem _ hs', rfl⟩
      · intro β' _ ⟨r1, r2⟩ s' hs'
        rcases List.mem_cons.1 hs' with rfl | hs'
        · simpa [mkSt, upd] using r1
        · have hne : s' ≠ s := fun e => hsl (e ▸ hs')
          simpa [mkSt, upd, hne] using r2 s' hs'
theorem SR.enter {C : Cx} {E : Env} {a : Act} {n : Nat} {slots : List Nat} {tvs : List AV} {f : List Nat} (hn : a.tmps.size = n) (hdf : Dfs w (fun b => I b ∧ E.m ≤ b) a.defers) (hr : RL w I noB f (slots.map (a.tmps.getD · undef)) tvs) (hs : slots.Nodup) (hf : f.Nodup)
    (hI : ∀ b, I b → (E.I0 b ∨ E.F0 b ∨ E.w0.heap.size ≤ b) ∧ b < w.heap.size ∧ b ∉ f) (hlt : ∀ b ∈ f, b < w.heap.size ∧ (E.F0 b ∨ E.w0.heap.size ≤ b)) (hk : Kept E.w0 w E.F0)
    (hg : ∀ g cs, C.glob g = some cs → R w I noB [] (.pointer (some ⟨g, 0, none⟩)) (.vp cs)) : Nx C E (mkSt n slots tvs) a w := by
  obtain ⟨β', G, a1, a2, a3, a4, a5, a6, a7⟩ := mkSt_S n (a.tmps.getD · undef) hr hs hf
  have hIm : ∀ b, I b → Im E w G b := fun b hb => ⟨(hI b hb).1, (hI b hb).2.1, fun id hm => (hI b hb).2.2 ((a5 id).2 b hm)⟩
  refine ⟨β', G, { n := by rw [mkSt_n]; exact hn, df := hdf.mono (fun b hb => ⟨hIm b hb.1, hb.2⟩) (fun _ _ => rfl), slot := ?_, obj := ?_, dead := ?_, nd := fun id => (a5 id).1, dj := a6, dom := ?_, lt := fun id b hb => hlt b ((a5 id).2 b hb), kept := hk, glob := fun g cs h => (hg g cs h).mono hIm (fun _ _ => rfl) noB_up }⟩
  · intro t
    by_cases ht : t ∈ slots
    · exact (a3 t ht).mono hIm (fun _ _ => rfl) (fun _ _ h => h)
    · rw [mkSt_other n slots tvs t ht]; exact .junk
  · intro id rows h
    rw [mkSt_h] at h
    rcases updH_cases (fun _ => none) (mkL slots tvs) id with ⟨x, hx, rfl, e⟩ | ⟨_, e⟩
    · obtain ⟨rows', e', h'⟩ := a4 x hx
      rw [e, e'] at h
      simp at h; subst h
      exact h'.mono hIm (fun _ _ => rfl) (fun _ _ h => h)
    · rw [e] at h; cases h
  · intro id h
    rw [mkSt_h] at h
    rcases updH_cases (fun _ => none) (mkL slots tvs) id with ⟨x, hx, rfl, e⟩ | ⟨hx, e⟩
    · obtain ⟨rows', e', h'⟩ := a4 x hx
      rw [e, e'] at h
      exact absurd rfl (h rows')
    · exact (a2 id hx).2
  · intro id h
    rw [mkSt_h] at h
    rcases updH_cases (fun _ => none) (mkL slots tvs) id with ⟨x, hx, rfl, e⟩ | ⟨hx, e⟩
    · rw [e] at h; cases h
    · exact (a2 id hx).1
end
end Go.Ab
