/-
  CALLS THAT TAKE: memory that goes to the function called, and comes back.
-/
import Derived.Test.YtbhpblokoecoaaaAbOps8
namespace Go.Ab
open Go
theorem nodupB_spec : ∀ {l : List Id}, nodupB l = true → l.Nodup
  | [], _ => List.nodup_nil
  | x :: l, h => by
    simp only [nodupB, Bool.and_eq_true, Bool.not_eq_true', List.contains_eq_mem, decide_eq_false_iff_not] at h
    exact List.nodup_cons.2 ⟨h.1, nodupB_spec h.2⟩
theorem perm_nodup {fp rest l : List Nat} (h : (fp ++ rest).Perm l) (hl : l.Nodup) : fp.Nodup := (List.nodup_append.1 (h.nodup_iff.2 hl)).1
theorem perm_mem {fp rest l : List Nat} (h : (fp ++ rest).Perm l) {b : Nat} (hb : b ∈ fp) : b ∈ l := h.mem_iff.1 (List.mem_append.2 (.inl hb))
theorem ImpS.retag {w : World} {I : Nat → Prop} {β : Id → Option Loc} {f : List Nat} {N N' : Id → Prop} {Rel : (Id → Option Loc) → Prop} {l : List (Id × Option Rows)} (h : ImpS w I β f N Rel l) (hN : ∀ x ∈ l, N' x.1) : ImpS w I β f N' Rel l := by
  obtain ⟨β', G, h1, h2, h3, h4, h5, h6, _⟩ := h
  exact ⟨β', G, h1, h2, h3, h4, h5, h6, hN⟩
section
variable {C : Cx} {E : Env} {w : World} {S : St} {a : Act} {β : Id → Option Loc} {F : Id → List Nat}
variable {next : Act → World → Prop} {Q : Exit → Act → World → Prop}
theorem takeL_sound (h : SR C E w S a β F) : ∀ {as0 : List AV} {ms : List Nat} {as : List AV} {seen tk fzn : List Id} {vs : List Value}, takeL S.h ms as0 = some (as, seen, tk, fzn) → RL w (Im E w F) β [] vs as0 →
    ∃ fp rest, (fp ++ rest).Perm (tk.flatMap F) ∧ ∀ I' : Nat → Prop, (∀ b, Im E w F b → I' b) → (∀ id ∈ seen, ∀ b ∈ F id, I' b) → (∀ id ∈ fzn, ∀ b ∈ F id, I' b) → RL w I' noB fp vs as
  | [], ms, as, seen, tk, fzn, vs, hx, hr => by
    simp only [takeL, Option.some.injEq, Prod.mk.injEq] at hx
    obtain ⟨rfl, rfl, rfl, rfl⟩ := hx
    obtain ⟨_, rfl⟩ := hr.nil_inv
    exact ⟨[], [], by simp, fun _ _ _ _ => .nil⟩
  | c :: cs, ms, as, seen, tk, fzn, vs, hx, hr => by
    simp only [takeL, Option.bind_eq_some_iff] at hx
    obtain ⟨⟨ys, s1, t1, z1⟩, hy, hx⟩ := hx
    obtain ⟨f1, f2, v, vs', e0, rfl, h1, h2⟩ := hr.cons_inv
    obtain ⟨rfl, rfl⟩ : f1 = [] ∧ f2 = [] := by simpa using e0.symm
    obtain ⟨fp, rest, g1, g2⟩ := takeL_sound h hy h2
    split at hx
    · obtain ⟨x, hpk, hx⟩ := Option.map_eq_some_iff.1 hx
      simp only [Prod.mk.injEq] at hx
      obtain ⟨rfl, rfl, rfl, rfl⟩ := hx
      obtain ⟨fp1, r1, k1, k2⟩ := pk_sound h.obj 9 _ _ hpk _ _ h1
      refine ⟨fp1 ++ fp, r1 ++ rest, ?_, fun I' i1 i2 i3 => R.cons (k1.mono i1 (fun _ _ => rfl) (fun _ _ h => h)) (g2 I' i1 i2 i3)⟩
      have := perm_mid (f1 := []) (f2 := []) k2 (by simpa using g1)
      simpa [List.flatMap_append] using this
    · obtain ⟨x, hpk, hx⟩ := Option.map_eq_some_iff.1 hx
      simp only [Prod.mk.injEq] at hx
      obtain ⟨rfl, rfl, rfl, rfl⟩ := hx
      obtain ⟨fp1, r1, k1, k2⟩ := pk_sound h.obj 9 _ _ hpk _ _ h1
      refine ⟨fp, rest, g1, fun I' i1 i2 i3 => R.cons (f1 := []) (f2 := fp) (k1.fz i1 fun b hb => ?_) (g2 I' i1 i2 fun id hid => i3 id (List.mem_append.2 (.inr hid)))⟩
      have hm : b ∈ [] ++ x.2.flatMap F := k2.mem_iff.1 (List.mem_append.2 (.inl hb))
      rw [List.nil_append] at hm
      obtain ⟨id, hid, hb'⟩ := List.mem_flatMap.1 hm
      exact i3 id (List.mem_append.2 (.inl hid)) b hb'
    · obtain ⟨x, hpk, hx⟩ := Option.map_eq_some_iff.1 hx
      simp only [Prod.mk.injEq] at hx
      obtain ⟨rfl, rfl, rfl, rfl⟩ := hx
      refine ⟨fp, rest, g1, fun I' i1 i2 i3 => R.cons (f1 := []) (f2 := fp) (bw_sound h.obj 9 _ _ hpk _ _ h1 I' i1 (fun _ h => by cases h) fun id hid => i2 id (List.mem_append.2 (.inl hid))) (g2 I' i1 (fun id hid => i2 id (List.mem_append.2 (.inr hid))) i3)⟩
def BackS (w : World) (I : Nat → Prop) (β : Id → Option Loc) (f : List Nat) (l : List (Id × Option Rows)) : Prop :=
  ∃ G : Id → List Nat, (∀ i, (∀ x ∈ l, x.1 ≠ i) → G i = []) ∧ (∀ x ∈ l, ∃ rows, x.2 = some rows ∧ OR w I β x.1 rows (G x.1)) ∧ (∀ i, (G i).Nodup ∧ ∀ b ∈ G i, b ∈ f) ∧ (∀ i j b, b ∈ G i → b ∈ G j → i = j)
theorem BackS.zero {I : Nat → Prop} {f : List Nat} : BackS w I β f [] := ⟨fun _ => [], fun _ _ => rfl, (fun x hx => by cases hx), fun _ => ⟨List.nodup_nil, (fun b hb => by cases hb)⟩, fun _ _ b hb => by cases hb⟩
theorem BackS.one {I : Nat → Prop} {f : List Nat} {id : Id} {rows : Rows} (h : OR w I β id rows f) (hf : f.Nodup) : BackS w I β f [(id, some rows)] := by
  refine ⟨upd (fun _ => []) id f, fun i hi => ?_, fun x hx => ?_, fun i => ?_, fun i j b hb hb' => ?_⟩
  · have : i ≠ id := fun e => hi _ (List.mem_cons_self ..) e.symm
    simp [upd, this]
  · obtain rfl := List.mem_singleton.1 hx
    exact ⟨rows, rfl, by simpa [upd] using h⟩
  · by_cases hi : i = id
    · subst hi; simp [upd, hf]
    · simp [upd, hi]
  · by_cases hi : i = id <;> by_cases hj : j = id
    · rw [hi, hj]
    · simp [upd, hj] at hb'
    · simp [upd, hi] at hb
    · simp [upd, hi] at hb
theorem BackS.join {I : Nat → Prop} {f1 f2 : List Nat} {l1 l2 : List (Id × Option Rows)} (h1 : BackS w I β f1 l1) (h2 : BackS w I β f2 l2) (hn : ((l1 ++ l2).map (·.1)).Nodup) (hf : ∀ b, b ∈ f1 → b ∈ f2 → False) : BackS w I β (f1 ++ f2) (l1 ++ l2) := by
  obtain ⟨G1, a1, a2, a3, a4⟩ := h1
  obtain ⟨G2, b1, b2, b3, b4⟩ := h2
  rw [List.map_append] at hn
  have hno : ∀ x ∈ l1, ∀ y ∈ l2, x.1 ≠ y.1 := fun x hx y hy e => (List.nodup_append.1 hn).2.2 x.1 (List.mem_map_of_mem hx) y.1 (List.mem_map_of_mem hy) e
  have e2 : ∀ x ∈ l1, G2 x.1 = [] := fun x hx => b1 _ fun y hy e => hno x hx y hy e.symm
  have e1 : ∀ y ∈ l2, G1 y.1 = [] := fun y hy => a1 _ fun x hx e => hno x hx y hy e
  have either : ∀ i, G1 i = [] ∨ G2 i = [] := fun i => by
    by_cases h : ∃ x ∈ l1, x.1 = i
    · obtain ⟨x, hx, rfl⟩ := h; exact .inr (e2 x hx)
    · exact .inl (a1 i fun x hx e => h ⟨x, hx, e⟩)
  refine ⟨fun i => G1 i ++ G2 i, fun i hi => ?_, fun x hx => ?_, fun i => ?_, fun i j b hb hb' => ?_⟩
  · simp only [a1 i fun x hx => hi x (List.mem_append.2 (.inl hx)), b1 i fun x hx => hi x (List.mem_append.2 (.inr hx)), List.append_nil]
  · rcases List.mem_append.1 hx with hx | hx
    · simp only [e2 x hx, List.append_nil]; exact a2 x hx
    · simp only [e1 x hx, List.nil_append]; exact b2 x hx
  · refine ⟨?_, fun b hb => ?_⟩
    · rcases either i with h | h
      · simp only [h, List.nil_append]; exact (b3 i).1
      · simp only [h, List.append_nil]; exact (a3 i).1
    · rcases List.mem_append.1 hb with hb | hb
      · exact List.mem_append.2 (.inl ((a3 i).2 b hb))
      · exact List.mem_append.2 (.inr ((b3 i).2 b hb))
  · rcases List.mem_append.1 hb with hb | hb <;> rcases List.mem_append.1 hb' with hb' | hb'
    · exact a4 i j b hb hb'
    · exact (hf b ((a3 i).2 b hb) ((b3 j).2 b hb')).elim
    · exact (hf b ((a3 j).2 b hb') ((b3 i).2 b hb)).elim
    · exact b4 i j b hb hb'
theorem BackS.weak {I : Nat → Prop} {f f' : List Nat} {l : List (Id × Option Rows)} (h : BackS w I β f l) (hf : ∀ b ∈ f, b ∈ f') : BackS w I β f' l := by
  obtain ⟨G, a1, a2, a3, a4⟩ := h
  exact ⟨G, a1, a2, fun i => ⟨(a3 i).1, fun b hb => hf b ((a3 i).2 b hb)⟩, a4⟩
section
variable {I I2 : Nat → Prop} {w' : World}
theorem relay1_sound (hL : ∀ id rows, S.h id = some (some rows) → OR w I β id rows (F id)) (hbs : ∀ b n, Blk w b n → Blk w' b n) {a b : AV} {l : List (Id × Option Rows)} {v : Value} {f : List Nat} (h : relay1 S.h a b = some l) (ha : R w I β [] v a) (hb : R w' I2 noB f v b) (hf : f.Nodup) : BackS w' I2 β f l := by
  unfold relay1 at h
  split at h
  · rename_i id cs
    split at h
    · rename_i old hid
      split at h
      · rename_i hlen
        simp only [Option.some.injEq] at h; subst h
        refine .one ?_ hf
        obtain ⟨_, b0, o, sz, n, hβ, rfl⟩ := ha.mp_inv
        rcases hL id [old] hid with ⟨_, h0, _⟩ | ⟨_, hβ', _⟩ | ⟨b', o', sz', n', vs, fps, hβ', hF, hB, ⟨_, hsz⟩, hle, _, _⟩
        · cases h0
        · rw [hβ] at hβ'; cases hβ'
        · rw [hβ] at hβ'
          simp only [Option.some.injEq, Loc.blk.injEq] at hβ'
          obtain ⟨rfl, rfl, rfl, rfl⟩ := hβ'
          have hs := hsz old (List.mem_cons_self ..)
          generalize hv : Value.pointer (some ⟨b0, o + 0 * sz + 0, none⟩) = v at hb
          cases hb with
          | @ownp _ b2 o2 n2 fps2 vs2 _ g1 g2 g3 g4 =>
            simp only [Value.pointer.injEq, Option.some.injEq, Addr.mk.injEq, Nat.zero_mul, Nat.add_zero, and_true] at hv
            obtain ⟨rfl, rfl⟩ := hv
            exact .inr (.inr ⟨b0, o, sz, n, vs2, fps2, hβ, rfl, hbs _ _ hB, ⟨by simp, by simp [hlen, hs]⟩, by simpa using hle, by simpa using g3, by simpa using g4.mono (fun _ h => h) (fun _ _ => rfl) noB_up⟩)
      · cases h
    · cases h
  · rename_i id n rows len
    split at h
    · rename_i o1 os hid
      split at h
      · rename_i hc
        simp only [Option.some.injEq] at h; subst h
        refine .one ?_ hf
        obtain ⟨h00, h1, h2, h3⟩ := hc
        rcases hL id (o1 :: os) hid with ⟨_, h0, _⟩ | ⟨_, hβ', _⟩ | ⟨b', o', sz', n', vs, fps, hβ', hF, hB, ⟨_, hsz⟩, hle, _, _⟩
        · cases h0
        · obtain ⟨_, hv⟩ := ha.rs_inv
          rcases hv with ⟨a0, l0, h0, _, h5, h6⟩ | ⟨b0, o, sz, n0, cap, hβ, hle2, hcap, rfl⟩
          · rw [hβ'] at h5; cases h5; cases h6
          · rw [hβ] at hβ'; cases hβ'
        · have hs := hsz o1 (List.mem_cons_self ..)
          obtain ⟨_, hv⟩ := ha.rs_inv
          rcases hv with ⟨a0, l0, h0, _, _⟩ | ⟨b0, o, sz, n0, cap, hβ, hle2, hcap, rfl⟩
          · simp only [List.length_cons] at h2; omega
          · rw [hβ] at hβ'
            simp only [Option.some.injEq, Loc.blk.injEq] at hβ'
            obtain ⟨rfl, rfl, rfl, rfl⟩ := hβ'
            have hpos : 0 < n := by simp only [List.length_cons] at h2; omega
            have hall : ∀ r ∈ rows, r.length = sz := fun r hr => by
              have := List.all_eq_true.1 h3 r hr
              rw [← hs]; simpa using this
            generalize hv : Value.slice (some ⟨b0, o + 0 * sz, none⟩) n cap = v at hb
            cases hb with
            | own0 => simp only [Value.slice.injEq] at hv; omega
            | own1 _ _ _ _ _ _ => simp only [Value.slice.injEq] at hv; omega
            | @own _ b2 o2 sz2 cap2 n2 _ fps2 vs2 _ g0 g1 g2 g3 g4 g5 g6 =>
              simp only [Value.slice.injEq, Option.some.injEq, Addr.mk.injEq, Nat.zero_mul, Nat.add_zero, and_true] at hv
              obtain ⟨⟨rfl, rfl⟩, _, _⟩ := hv
              refine .inr (.inr ⟨b0, o, sz, n0, vs2, fps2, hβ, rfl, hbs _ _ hB, ⟨g0, hall⟩, ?_, g5, g6.mono (fun _ h => h) (fun _ _ => rfl) noB_up⟩)
              rw [h1, h2]; exact hle
      · cases h
    · rename_i hid
      split at h
      · rename_i hc
        simp only [Option.some.injEq] at h; subst h
        obtain ⟨h00, h1, h2⟩ := hc
        obtain rfl := List.length_eq_zero_iff.1 h1
        rcases hL id [] hid with ⟨h0, _, _⟩ | ⟨_, hβ', _⟩ | ⟨b', o', sz', n', vs, fps, hβ', hF, hB, ⟨hne, _⟩, _⟩
        rotate_left
        · obtain ⟨_, hv⟩ := ha.rs_inv
          rcases hv with ⟨a0, l0, h0, _, h5, h6⟩ | ⟨b0, o, sz, n0, cap, hβ, hle2, hcap, rfl⟩
          · rw [hβ'] at h5; cases h5; cases h6
          · rw [hβ] at hβ'; cases hβ'
        rotate_left
        · have hf0 : f = [] := by
            cases hb with
            | own0 => rfl
            | own g0 => exact absurd rfl g0
            | own1 g0 => exact absurd rfl g0
          subst hf0
          exact .one (.inl ⟨h0, rfl, rfl⟩) hf
        · exact absurd rfl hne
      · cases h
    · cases h
  · rename_i id rows
    split at h
    · rename_i rows0 hid
      simp only [Option.some.injEq] at h; subst h
      refine .one ?_ hf
      obtain ⟨_, b0, hβ, rfl⟩ := ha.mr_inv
      obtain ⟨b1, rfl, hv, hm⟩ := hb.om_inv
      simp only [Value.map.injEq, Option.some.injEq] at hv
      subst hv
      exact .inr (.inl ⟨_, hβ, rfl, hm⟩)
    · cases h
  · cases h
  · cases h
  · cases h
  · cases h
  · simp only [Option.some.injEq] at h; subst h; exact .zero
theorem relayC_sound (hL : ∀ id rows, S.h id = some (some rows) → OR w I β id rows (F id)) (hbs : ∀ b n, Blk w b n → Blk w' b n) : ∀ {as bs : List AV} {l : List (Id × Option Rows)} {vs : List Value} {f : List Nat}, relayC S.h as bs = some l → RL w I β [] vs as → RL w' I2 noB f vs bs → f.Nodup → (l.map (·.1)).Nodup → BackS w' I2 β f l
  | [], [], l, vs, f, h, _, _, _, _ => by simp only [relayC, Option.some.injEq] at h; subst h; exact .zero
  | [], _ :: _, l, vs, f, h, _, _, _, _ => by simp [relayC] at h
  | _ :: _, [], l, vs, f, h, _, _, _, _ => by simp [relayC] at h
  | a :: as, b :: bs, l, vs, f, h, ha, hb, hf, hn => by
    simp only [relayC] at h
    split at h
    · rename_i x y h1 h2
      simp only [Option.some.injEq] at h; subst h
      obtain ⟨f1, f2, v, vs', rfl, rfl, k1, k2⟩ := hb.cons_inv
      obtain ⟨g1, g2, v0, vs0, e0, e1, m1, m2⟩ := ha.cons_inv
      simp only [List.cons.injEq] at e1
      obtain ⟨rfl, rfl⟩ := e1
      obtain ⟨rfl, rfl⟩ : g1 = [] ∧ g2 = [] := by simpa using e0.symm
      have hn' := hn
      rw [List.map_append] at hn'
      exact (relay1_sound hL hbs h1 m1 k1 (List.nodup_append.1 hf).1).join (relayC_sound hL hbs h2 m2 k2 (List.nodup_append.1 hf).2.1 (List.nodup_append.1 hn').2.1) hn fun b hb hb' => (List.nodup_append.1 hf).2.2 b hb b hb' rfl
    · cases h
theorem relay_sound (hL : ∀ id rows, S.h id = some (some rows) → OR w I β id rows (F id)) (hbs : ∀ b n, Blk w b n → Blk w' b n) {a b : AV} {l : List (Id × Option Rows)} {v : Value} {f : List Nat} (h : relay S.h a b = some l) (ha : R w I β [] v a) (hb : R w' I2 noB f v b) (hf : f.Nodup) (hn : (l.map (·.1)).Nodup) : BackS w' I2 β f l := by
  unfold relay at h
  split at h
  · obtain ⟨us, rfl, hu⟩ := hb.agg_inv
    obtain ⟨us2, e, hu2⟩ := ha.agg_inv
    simp only [Value.agg.injEq, Array.mk.injEq] at e
    subst e
    exact relayC_sound hL hbs h hu2 hu hf hn
  · exact relay1_sound hL hbs h ha hb hf
theorem relayL_sound (hL : ∀ id rows, S.h id = some (some rows) → OR w I β id rows (F id)) (hbs : ∀ b n, Blk w b n → Blk w' b n) {args : List AV} {vs : List Value} (ha : RL w I β [] vs args) :
    ∀ {lend : List Nat} {outs : List AV} {l : List (Id × Option Rows)} {f : List Nat}, relayL S.h args lend outs = some l → RL w' I2 noB f (lentV lend vs) outs → f.Nodup → (l.map (·.1)).Nodup → BackS w' I2 β f l
  | [], [], l, f, h, _, _, _ => by simp only [relayL, Option.some.injEq] at h; subst h; exact .zero
  | [], _ :: _, l, f, h, _, _, _ => by simp [relayL] at h
  | _ :: _, [], l, f, h, _, _, _ => by simp [relayL] at h
  | j :: lend, b :: outs, l, f, h, hb, hf, hn => by
    simp only [relayL] at h
    split at h
    · rename_i a y h1 h2
      split at h
      · rename_i x h3
        simp only [Option.some.injEq] at h; subst h
        obtain ⟨f1, f2, v, vs', rfl, e1, k1, k2⟩ := hb.cons_inv
        simp only [lentV, List.map_cons, List.cons.injEq] at e1
        obtain ⟨e2, rfl⟩ := e1
        have hn' := hn
        rw [List.map_append] at hn'
        have hav : R w I β [] v a := by
          have hlen := ha.length
          have hj : j < args.length := by
            rcases Nat.lt_or_ge j args.length with h' | h'
            · exact h'
            · rw [List.getElem?_eq_none h'] at h1; cases h1
          obtain ⟨f1', f2', f3', e3, _, l2, _⟩ := ha.split3 j 1 (by omega)
          have hf2 : f2' = [] := by
            have := congrArg List.length e3
            simp at this
            exact List.length_eq_zero_iff.1 (by omega)
          subst hf2
          have ea : (args.drop j).take 1 = [a] := by
            rw [List.drop_eq_getElem_cons hj, List.take_succ_cons, List.take_zero]
            rw [List.getElem?_eq_getElem hj] at h1
            rw [Option.some.inj h1]
          have ev : (vs.drop j).take 1 = [v] := by
            have hj' : j < vs.length := by omega
            rw [List.drop_eq_getElem_cons hj', List.take_succ_cons, List.take_zero]
            rw [List.getD_eq_getElem?_getD, List.getElem?_eq_getElem hj'] at e2
            rw [show vs[j] = v from e2]
          rw [ea, ev] at l2
          obtain ⟨q1, q2, u, us, e4, e5, m1, _⟩ := l2.cons_inv
          simp only [List.cons.injEq] at e5
          obtain ⟨rfl, _⟩ := e5
          obtain ⟨rfl, rfl⟩ : q1 = [] ∧ q2 = [] := by simpa using e4.symm
          exact m1
        exact (relay_sound hL hbs h3 hav k1 (List.nodup_append.1 hf).1 (List.nodup_append.1 hn').1).join (relayL_sound hL hbs ha h2 k2 (List.nodup_append.1 hf).2.1 (List.nodup_append.1 hn').2.1) hn fun b hb hb' => (List.nodup_append.1 hf).2.2 b hb b hb' rfl
      · cases h
    · cases h
end
theorem flatF_nodup (h : SR C E w S a β F) : ∀ {ids : List Id}, ids.Nodup → (ids.flatMap F).Nodup
  | [], _ => List.nodup_nil
  | i :: ids, hn => by
    rw [List.flatMap_cons, List.nodup_append]
    refine ⟨h.nd i, flatF_nodup h (List.nodup_cons.1 hn).2, fun b hb c hc e => ?_⟩
    subst e
    obtain ⟨j, hj, hb'⟩ := List.mem_flatMap.1 hc
    have := h.dj i j b hb hb'
    subst this
    exact (List.nodup_cons.1 hn).1 hj
theorem RL.mine {I : Nat → Prop} {f : List Nat} {vs : List Value} {as : List AV} (h : RL w I β f vs as) (hm : as.all mine = true) (I' : Nat → Prop) : RL w I' β f vs as := by
  have : ∀ l : List AV, l.all Ab.mine = true → mineL l = true := fun l hl => by
    induction l with
    | nil => rfl
    | cons c cs ih => simp only [List.all_cons, Bool.and_eq_true] at hl; simp [mineL, hl.1, ih hl.2]
  exact R.mine h (by simpa [Ab.mine] using this as hm) I'
theorem ok_callT (hN : NoCount C.P) (h : SR C E w S a β F) {o : Oper} {c : Call} {k : FuncId} (ho : o.op = .call c) (hc : c.callee = .value (.func k)) {f : FuncId} {call : FuncId → List AV → Option (AV × List AV)}
    (hcall : ∀ k as r, call k as = some r → Sound C k as r) {e : Eff}
    (he : callT C f call S o k (c.args.toList.map fun x => un true (S.get C x)) = some e) (hd : inB S e) (hn : ∀ a' w', Nx C E (S.app e) a' w' → next a' w') : o.wp C.P a w next Q := by
  have hargs := RL.ofMap h c.args.toList
  unfold callT at he
  split at he
  · rename_i as seen tk fzn d htk hdst
    split at he
    · rename_i r outs hcl
      generalize hr' : (if inFrz C f o.dst = true then fz r else r) = r' at he
      split at he
      rotate_left
      · cases he
      rename_i back hback0
      split at he
      · rename_i hcnd
        simp only [Option.some.injEq] at he
        subst he
        simp only [Bool.and_eq_true] at hcnd
        obtain ⟨⟨⟨⟨⟨c3, c4⟩, c5⟩, c1⟩, c2⟩, c6⟩ := hcnd
        have htf := nodupB_spec c3
        have hbn := nodupB_spec c1
        have hbt : ∀ x ∈ back, x.1 ∈ tk := fun x hx => by
          have := List.all_eq_true.1 c2 x hx
          simpa using this
        have hfr0 := fresh_all c6
        have hdisj : ∀ id ∈ seen, id ∉ tk ++ fzn := fun id hid hm => by
          simp only [disj, List.all_eq_true, Bool.not_eq_true', List.contains_eq_mem, decide_eq_false_iff_not] at c4
          exact c4 id hid hm
        obtain ⟨fp, rest, p1, p2⟩ := takeL_sound h htk hargs
        have fpmem : ∀ b ∈ fp, ∃ id ∈ tk, b ∈ F id := fun b hb => List.mem_flatMap.1 (perm_mem p1 hb)
        have fpnd : fp.Nodup := perm_nodup p1 (flatF_nodup h (List.nodup_append.1 htf).1)
        have hs := hcall _ _ _ hcl
        have hgone : ∀ id ∈ seen ++ fzn, id ∉ tk := fun id hid hm => by
          rcases List.mem_append.1 hid with hid | hid
          · exact hdisj id hid (List.mem_append.2 (.inl hm))
          · exact (List.nodup_append.1 htf).2.2 id hm id hid rfl
        have hdo := hs w (fun b => Im E w F b ∨ ∃ id ∈ seen ++ fzn, b ∈ F id) fp _ (p2 _ (fun b hb => .inl hb) (fun id hid b hb => .inr ⟨id, List.mem_append.2 (.inl hid), hb⟩) (fun id hid b hb => .inr ⟨id, List.mem_append.2 (.inr hid), hb⟩)) fpnd
          (fun b hb => ⟨hb.elim (fun hb => hb.2.1) (fun ⟨id, _, hb⟩ => (h.lt id b hb).1), fun hm => by
            obtain ⟨id, hid, hb'⟩ := fpmem b hm
            rcases hb with hb | ⟨j, hj, hb⟩
            · exact hb.2.2 id hb'
            · exact hgone j hj (by rw [h.dj j id b hb hb']; exact hid)⟩)
          (fun b hb => by obtain ⟨id, _, hb'⟩ := fpmem b hb; exact (h.lt id b hb').1)
          (fun g cs hg => (h.glob g cs hg).imm_to rfl fun b hb => .inl hb)
        have hexec : (execOp a.eval o).run C.P w = (callFunc k ⟨c.args.toList.map a.eval⟩).run C.P w := by
          have e1 : (c.args.map a.eval : Array Value) = ⟨c.args.toList.map a.eval⟩ := by apply Array.ext'; simp
          have e3 : resolve a.eval c o.type = (pure { target := .fn (.func k) #[], args := c.args.map a.eval } : Sem Deferred) := by
            simp [resolve, hc, Act.eval, Deferred.ofValue]
          have e4 : execOp a.eval o = (do let d ← resolve a.eval c o.type; invoke d.target d.args : Sem Next) := by simp [execOp, ho]
          rw [e4, e3, Sem.run_bind, Sem.run_pure, Result.andThen_ok]
          simp only [invoke, e1]
          congr 2
        have hback : ∀ v w', Res w fp (fun b => Im E w F b ∨ ∃ id ∈ seen ++ fzn, b ∈ F id) (lentV (C.lend k) (c.args.toList.map a.eval)) (r, outs) v w' → next (a.put o.dst v) w' := fun v w' hres => by
          obtain ⟨I', fr, g1, g2, g3, g4⟩ := hres.ex
          have hkept := hres.kept
          -- frozen, if it is to be
          have hmid : ∃ (I2 : Nat → Prop) (fr2 : List Nat), RL w' I2 noB fr2 (v :: lentV (C.lend k) (c.args.toList.map a.eval)) (r' :: outs) ∧ fr2.Nodup ∧ (∀ b ∈ fr2, b < w'.heap.size ∧ (b ∈ fp ∨ w.heap.size ≤ b)) ∧
              (∀ b, I2 b → (Im E w F b ∨ (∃ id ∈ tk ++ fzn, b ∈ F id) ∨ w.heap.size ≤ b) ∧ b < w'.heap.size ∧ b ∉ fr2) := by
            obtain ⟨f1, f2, v1, vs1, rfl, e1, k1, k2⟩ := RL.cons_inv g1
            simp only [List.cons.injEq] at e1
            obtain ⟨rfl, rfl⟩ := e1
            have hI' : ∀ b, I' b → (seen = [] → (Im E w F b ∨ (∃ id ∈ tk ++ fzn, b ∈ F id) ∨ w.heap.size ≤ b)) := fun b hb hse => by
              rcases (g4 b hb).1 with (k | ⟨id, hid, k⟩) | k | k
              · exact .inl k
              · subst hse; exact .inr (.inl ⟨id, List.mem_append.2 (.inr (by simpa using hid)), k⟩)
              · obtain ⟨id, hid, k⟩ := fpmem b k
                exact .inr (.inl ⟨id, List.mem_append.2 (.inl hid), k⟩)
              · exact .inr (.inr k)
            have hbase : ∃ I1 : Nat → Prop, R w' I1 noB f1 v r ∧ RL w' I1 noB f2 (lentV (C.lend k) (c.args.toList.map a.eval)) outs ∧ (∀ b, I1 b → (Im E w F b ∨ (∃ id ∈ tk ++ fzn, b ∈ F id) ∨ w.heap.size ≤ b) ∧ b < w'.heap.size ∧ b ∉ f1 ++ f2) := by
              by_cases hse : seen = []
              · exact ⟨I', k1, k2, fun b hb => ⟨hI' b hb hse, (g4 b hb).2⟩⟩
              · have hm : mine r = true ∧ outs.all mine = true := by
                  have : seen.isEmpty = false := by cases seen <;> simp_all
                  simpa [this] using c5
                exact ⟨fun _ => False, k1.mine hm.1 _, RL.mine k2 hm.2 _, fun b hb => hb.elim⟩
            obtain ⟨I1, m1, m2, m3⟩ := hbase
            by_cases hz : inFrz C f o.dst = true
            · rw [if_pos hz] at hr'; subst hr'
              refine ⟨fun b => I1 b ∨ b ∈ f1, f2, R.cons (f1 := []) (m1.fz (fun _ h => .inl h) (fun _ h => .inr h)) (m2.mono (fun _ h => .inl h) (fun _ _ => rfl) (fun _ _ h => h)), (List.nodup_append.1 g2).2.1, fun b hb => g3 b (List.mem_append.2 (.inr hb)), fun b hb => ?_⟩
              rcases hb with hb | hb
              · obtain ⟨n1, n2, n3⟩ := m3 b hb
                exact ⟨n1, n2, fun hm => n3 (List.mem_append.2 (.inr hm))⟩
              · obtain ⟨n1, n2⟩ := g3 b (List.mem_append.2 (.inl hb))
                refine ⟨?_, n1, fun hm => (List.nodup_append.1 g2).2.2 b hb b hm rfl⟩
                rcases n2 with n2 | n2
                · obtain ⟨id, hid, k⟩ := fpmem b n2
                  exact .inr (.inl ⟨id, List.mem_append.2 (.inl hid), k⟩)
                · exact .inr (.inr n2)
            · rw [if_neg hz] at hr'; subst hr'
              exact ⟨I1, f1 ++ f2, .cons m1 m2, g2, g3, m3⟩
          obtain ⟨I2, fr2, q1, q2, q3, q4⟩ := hmid
          obtain ⟨fa, fb, v1, vs1, rfl, e1, q1a, q1b⟩ := RL.cons_inv q1
          simp only [List.cons.injEq] at e1
          obtain ⟨rfl, rfl⟩ := e1
          obtain ⟨G2, t1, t2, t3, t4⟩ := relayL_sound h.obj hkept.szs hargs hback0 q1b (List.nodup_append.1 q2).2.1 hbn
          have hlive : ∀ x ∈ back, S.h x.1 ≠ none := fun x hx e => by
            obtain ⟨rows, _, hor⟩ := t2 x hx
            have hb := h.dom x.1 e
            rcases hor with ⟨k, _⟩ | ⟨_, k, _⟩ | ⟨_, _, _, _, _, _, k, _⟩ <;> rw [hb] at k <;> cases k
          have hImp : ImpS w' I2 β (fa ++ fb) (fun i => S.h i = none ∨ ∃ x ∈ back, x.1 = i) (fun β' => R w' I2 β' [] v (imp [d] r').1 ∧ True) ((imp [d] r').2 ++ back) := by
            refine ImpS.join (N1 := fun i => S.h i = none) (N2 := fun i => ∃ x ∈ back, x.1 = i) (Rel2 := fun _ => True) ?_ (fun β1 up hf1 => (imp_sound [d] (q1a.mono (fun _ h => h) (fun _ _ => rfl) noB_up) (List.nodup_append.1 q2).1 hf1).retag fun x hx => hfr0 x hx) (fun x hx => h.dom _ (hfr0 x hx)) (fun x hx => hfr0 x hx) (fun i h1 ⟨x, hx, e⟩ => hlive x hx (e ▸ h1)) (fun b hb hb' => (List.nodup_append.1 q2).2.2 b hb b hb' rfl) (fun _ _ _ h => h)
            exact ⟨β, G2, fun _ _ h => h, fun i hi => ⟨rfl, t1 i hi⟩, trivial, t2, t3, t4, fun x hx => ⟨x, hx, rfl⟩⟩
          obtain ⟨β', G, a1, a2, ⟨a3, _⟩, a4, a5, a6, a7⟩ := hImp
          generalize hnews : (imp [d] r').2 ++ back = news at a2 a4 a7
          have hF0 : ∀ x ∈ news, F x.1 = [] ∨ x.1 ∈ tk := fun x hx => by
            rw [← hnews] at hx
            rcases List.mem_append.1 hx with hx | hx
            · exact .inl (h.dead _ (by rw [hfr0 x hx]; simp))
            · exact .inr (hbt x hx)
          have hGfr : ∀ i b, b ∈ G i → b < w'.heap.size ∧ (b ∈ fp ∨ w.heap.size ≤ b) := fun i b hb => q3 b ((a5 i).2 b hb)
          let F2 : Id → List Nat := fun i => (if i ∈ tk ++ fzn then [] else F i) ++ G i
          have hF2 : ∀ i b, b ∈ F2 i → (i ∉ tk ++ fzn ∧ b ∈ F i) ∨ b ∈ G i := fun i b hb => by
            rcases List.mem_append.1 hb with hb | hb
            · by_cases hi : i ∈ tk ++ fzn
              · rw [if_pos hi] at hb; cases hb
              · rw [if_neg hi] at hb; exact .inl ⟨hi, hb⟩
            · exact .inr hb
          refine hn _ _ ⟨β', F2, ?_⟩
          have hup : (∀ b, Im E w F b → Im E w' F2 b) → ∀ b, I2 b → Im E w' F2 b := fun hI b hb => by
            obtain ⟨n1, n2, n3⟩ := q4 b hb
            rcases n1 with n1 | ⟨id, hid, n1⟩ | n1
            · exact hI b n1
            · refine ⟨.inr (h.lt id b n1).2, n2, fun j hj => ?_⟩
              rcases hF2 j b hj with ⟨hj1, hj2⟩ | hj
              · exact hj1 (by rw [h.dj j id b hj2 n1]; exact hid)
              · exact n3 ((a5 j).2 b hj)
            · refine ⟨.inr (.inr (Nat.le_trans h.kept.size n1)), n2, fun j hj => ?_⟩
              rcases hF2 j b hj with ⟨_, hj2⟩ | hj
              · have := (h.lt j b hj2).1; omega
              · exact n3 ((a5 j).2 b hj)
          have hch : ∀ id, ((id ∈ tk ++ fzn) ∨ ∃ x ∈ news, x.1 = id) → F2 id = G id := fun id hid => by
            have hin : ∀ id, id ∈ tk ++ fzn → F2 id = G id := fun id hid => by simp only [F2, if_pos hid, List.nil_append]
            rcases hid with hid | ⟨x, hx, rfl⟩
            · exact hin id hid
            · rcases hF0 x hx with h0 | h0
              · simp only [F2, h0]; split <;> rfl
              · exact hin _ (List.mem_append.2 (.inl h0))
          have hh : ∀ id, (S.app (put o (imp [d] r').1 seen ((imp [d] r').2 ++ (back ++ (tk ++ fzn).map fun i => (i, none))))).h id = updH (updH S.h ((tk ++ fzn).map fun i => (i, none))) news id := fun id => by
            rw [← List.append_assoc, hnews]
            show updH S.h (news ++ _) id = _
            rw [updH_append]
          refine h.stepW (fun id => (id ∈ tk ++ fzn) ∨ ∃ x ∈ news, x.1 = id) (by rw [put_size]; exact h.n) hkept.size hkept.os hkept.out hkept.frz ?_ a1 ?_ ?_ ?_ ?_ ?_ ?_ ?_ ?_ (hbs := hkept.szs)
          · intro b hb hno
            refine hkept.blk b hb fun hm => ?_
            obtain ⟨id, hid, hb'⟩ := fpmem b hm
            exact hno id (.inl (List.mem_append.2 (.inl hid))) hb'
          · intro id b hb
            rcases hF2 id b hb with ⟨_, hb⟩ | hb
            · exact .inl ⟨id, hb⟩
            · obtain ⟨n1, n2⟩ := hGfr id b hb
              rcases n2 with n2 | n2
              · obtain ⟨j, _, hj⟩ := fpmem b n2
                exact .inl ⟨j, hj⟩
              · exact .inr ⟨n2, n1⟩
          · intro id hid
            have hno : ∀ x ∈ news, x.1 ≠ id := fun x hx e => hid (.inr ⟨x, hx, e⟩)
            have hnt : id ∉ tk ++ fzn := fun hm => hid (.inl hm)
            refine ⟨by simp only [F2, if_neg hnt, (a2 id hno).2, List.append_nil], ?_⟩
            rw [hh]
            rcases updH_cases (updH S.h ((tk ++ fzn).map fun i => (i, none))) news id with ⟨x, hx, e, _⟩ | ⟨_, e⟩
            · exact absurd e (hno x hx)
            · rw [e]
              rcases updH_cases S.h ((tk ++ fzn).map fun i => ((i, none) : Id × Option Rows)) id with ⟨x, hx, e, _⟩ | ⟨_, e⟩
              · obtain ⟨i, hi, rfl⟩ := List.mem_map.1 hx
                exact absurd (e ▸ hi) hnt
              · exact e
          · intro hI id hid rows hrows
            rw [hh] at hrows
            rcases updH_cases (updH S.h ((tk ++ fzn).map fun i => (i, none))) news id with ⟨y, hy, e, e'⟩ | ⟨hno, e'⟩
            · rw [e'] at hrows
              obtain ⟨rows', e2, h2⟩ := a4 y hy
              rw [e2] at hrows
              simp at hrows; subst hrows
              rw [hch id hid, ← e]
              exact h2.mono (hup hI) (fun _ _ => rfl) (fun _ _ h => h)
            · rw [e'] at hrows
              rcases hid with hid | ⟨x, hx, rfl⟩
              · rcases updH_cases S.h ((tk ++ fzn).map fun i => ((i, none) : Id × Option Rows)) id with ⟨x, hx, e, e2⟩ | ⟨hno2, _⟩
                · rw [e2] at hrows
                  obtain ⟨i, hi, rfl⟩ := List.mem_map.1 hx
                  simp at hrows
                · exact absurd rfl (hno2 (id, none) (List.mem_map.2 ⟨id, hid, rfl⟩))
              · exact absurd rfl (hno x hx)
          · intro id hid hno
            rw [hch id hid]
            by_cases hx : ∃ x ∈ news, x.1 = id
            · obtain ⟨x, hx, rfl⟩ := hx
              rw [hh] at hno
              rcases updH_cases (updH S.h ((tk ++ fzn).map fun i => (i, none))) news x.1 with ⟨y, hy, e, e'⟩ | ⟨hn', _⟩
              · obtain ⟨rows', e2, h2⟩ := a4 y hy
                exact absurd (by rw [e', e2]) (hno rows')
              · exact absurd rfl (hn' x hx)
            · exact (a2 id fun x hx' e => hx ⟨x, hx', e⟩).2
          · intro id hid
            rw [hch id hid]
            exact (a5 _).1
          · intro i j b hi hb hb'
            rw [hch i hi] at hb
            rcases hF2 j b hb' with ⟨hj1, hj2⟩ | hj
            · obtain ⟨_, n2⟩ := hGfr i b hb
              rcases n2 with n2 | n2
              · obtain ⟨id, hid, hb2⟩ := fpmem b n2
                exact absurd (List.mem_append.2 (.inl hid)) (by rw [← h.dj j id b hj2 hb2]; exact hj1)
              · have := (h.lt j b hj2).1
                omega
            · exact a6 _ _ b hb hj
          · intro id hid
            rw [hh] at hid
            rcases updH_cases (updH S.h ((tk ++ fzn).map fun i => (i, none))) news id with ⟨x, hx, e, e'⟩ | ⟨hno, e⟩
            · rw [e'] at hid; cases hid
            · rw [e] at hid
              rw [(a2 id hno).1]
              refine h.dom id ?_
              rcases updH_cases S.h ((tk ++ fzn).map fun i => ((i, none) : Id × Option Rows)) id with ⟨x, hx, e, e2⟩ | ⟨_, e2⟩
              · rw [e2] at hid; cases hid
              · rw [← e2]; exact hid
          · intro hI t
            have hd' : d < a.tmps.size := by rw [h.n]; simpa [inB, put, hdst] using hd
            rw [hdst, put_get a d t v hd']
            by_cases ht : t = d
            · subst ht
              rw [if_pos rfl]
              refine .inr ?_
              have := a3.mono (w' := w') (hup hI) (fun _ _ => rfl) (fun _ _ h => h)
              simpa [St.app, put, hdst, updS, upd] using this
            · rw [if_neg ht]
              refine .inl ⟨rfl, ?_⟩
              simp [St.app, put, hdst, updS, upd, ht]
        unfold Oper.wp
        rw [hexec]
        rcases hdo with ⟨fn, code, k1, k2, k3⟩ | ⟨v, w', k1, k2⟩
        · rw [run_callFunc hN k1 k2]
          simp only [Oper.upon]
          refine k3.mono fun e' w' hh => ?_
          obtain ⟨v, rfl, hres⟩ := hh
          exact hback v w' hres
        · rw [k1]
          exact hback v w' k2
      · cases he
    · cases he
  · cases he
theorem ok_buildF (h : SR C E w S a β F) {o : Oper} {t : TypeId} {len : Nat} {parts : Array (Nat × Operand)} (ho : o.op = .buildSlice t len parts) {e : Eff}
    (he : evBuildF C S o t len (parts.toList.map fun p => (p.1, un true (S.get C p.2))) = some e) (hd : inB S e) (hn : ∀ a' w', Nx C E (S.app e) a' w' → next a' w') : o.wp C.P a w next Q := by
  unfold evBuildF at he
  split at he
  case h_2 => cases he
  rename_i rows d hrows hdst
  split at he
  case h_2 => cases he
  rename_i rows' ids hpk
  split at he
  case isFalse => cases he
  rename_i hnd
  simp only [Option.some.injEq] at he; subst he
  obtain ⟨c', el, n, h2, h3, h4, hrun⟩ := buildRows_run h ho hrows
  refine wp_val hrun (hn _ _ ?_)
  obtain ⟨hS, hI, hII, hold⟩ := h.idle c' el
  obtain ⟨⟨l1, l2⟩, fp, rest, g1, g2⟩ := pkR_sound (pk_sound h.obj 8) hpk h4
  have g2 : (fp ++ rest).Perm (ids.flatMap F) := by simpa using g2
  have hmem : ∀ b ∈ fp, ∃ id ∈ ids, b ∈ F id := fun b hb => by
    obtain ⟨id, h1, hid⟩ := List.mem_flatMap.1 (perm_mem g2 hb)
    exact ⟨id, h1, hid⟩
  refine ⟨β, fun i => if i ∈ ids then [] else F i, ?_⟩
  have hIm : ∀ b, (Im E w F b ∨ b ∈ fp) → Im E (w.alloc (.cells c' el)) (fun i => if i ∈ ids then [] else F i) b := fun b hb => by
    rcases hb with hb | hb
    · have := hII b hb
      refine ⟨this.1, this.2.1, fun id => ?_⟩
      simp only
      split
      · simp
      · exact this.2.2 id
    · obtain ⟨id, hid, hF⟩ := hmem b hb
      have hl := hS.lt id b hF
      refine ⟨hl.2.elim (fun h => .inr (.inl h)) (fun h => .inr (.inr h)), hl.1, fun id' => ?_⟩
      simp only
      split
      · simp
      · rename_i hn'
        intro hb'
        exact hn' (h.dj id' id b hb' hF ▸ hid)
  have hkill : ∀ id ∈ ids, updH S.h (ids.map fun i => (i, none)) id = some none := fun id hid => by
    rcases updH_cases S.h (ids.map fun i => (i, none)) id with ⟨x, hx, h1, h2⟩ | ⟨h1, _⟩
    · obtain ⟨i, _, rfl⟩ := List.mem_map.1 hx
      exact h2
    · exact absurd rfl (h1 (id, none) (List.mem_map.2 ⟨id, hid, rfl⟩))
  have hkeep : ∀ id, id ∉ ids → updH S.h (ids.map fun i => (i, none)) id = S.h id := fun id hid => by
    rcases updH_cases S.h (ids.map fun i => (i, none)) id with ⟨x, hx, h1, h2⟩ | ⟨_, h2⟩
    · obtain ⟨i, hi, rfl⟩ := List.mem_map.1 hx
      exact absurd (h1 ▸ hi) hid
    · exact h2
  refine hS.step (fun i => i ∈ ids) (by rw [put_size]; exact hS.n) (Nat.le_refl _) rfl rfl (fun _ => rfl) (fun _ _ _ => rfl) (fun _ _ h => h) (fun id b hb => ?_) (fun id hid => ⟨if_neg hid, hkeep id hid⟩)
    (fun _ id hid rows hh => ?_) (fun id hid _ => if_pos hid) (fun id hid => ?_) (fun i j b hi hb => ?_) (fun id hh => ?_) ?_
  · by_cases hid : id ∈ ids
    · rw [if_pos hid] at hb; cases hb
    · rw [if_neg hid] at hb; exact .inl ⟨id, hb⟩
  · have := hkill id hid
    rw [show (S.app (put o (.sl (fzR rows')) ids (ids.map fun i => (i, none)))).h id = some none from this] at hh
    simp at hh
  · rw [if_pos hid]; exact List.nodup_nil
  · rw [if_pos hi] at hb; cases hb
  · by_cases hid : id ∈ ids
    · rw [show (S.app (put o (.sl (fzR rows')) ids (ids.map fun i => (i, none)))).h id = some none from hkill id hid] at hh
      cases hh
    · rw [show (S.app (put o (.sl (fzR rows')) ids (ids.map fun i => (i, none)))).h id = S.h id from hkeep id hid] at hh
      exact h.dom id hh
  · intro _ t
    have hd' : d < a.tmps.size := by rw [h.n]; simpa [put, hdst, inB] using hd
    rw [hdst, put_get a d t _ hd']
    by_cases ht : t = d
    · subst ht
      rw [if_pos rfl]
      refine .inr ?_
      have hz : RL w (fun b => Im E w F b ∨ b ∈ fp) noB [] c'.toList (fzL rows'.flatten) := by
        have := R.fz (a := .agg rows'.flatten) g1 (I' := fun b => Im E w F b ∨ b ∈ fp) (fun b hb => .inl hb) (fun b hb => .inr hb)
        simpa [fz] using this
      rw [← fzR_flatten] at hz
      have h4' := hz.mono (w' := w.alloc (.cells c' el)) (I' := Im E (w.alloc (.cells c' el)) (fun i => if i ∈ ids then [] else F i)) (β' := noB) hIm (fun b hb => by
        rcases hb with (hb | hb) | hb
        · exact hold b hb.2.1
        · obtain ⟨id, _, hid⟩ := hmem b hb
          exact hold b (h.lt id b hid).1
        · cases hb) (fun _ _ h => h)
      have h2' : ∀ r ∈ fzR rows', r.length = n := fun r hr => by
        obtain ⟨r', hr', e1⟩ := fzR_mem hr
        rw [e1]
        exact l2 n h2 r' hr'
      have hlen' : (fzR rows').length = len := by rw [fzR_length]; exact l1.trans h3
      have hIb : Im E (w.alloc (.cells c' el)) (fun i => if i ∈ ids then [] else F i) w.heap.size := by
        refine ⟨hI.1, hI.2.1, fun id => ?_⟩
        simp only
        split
        · simp
        · exact hI.2.2 id
      have := R.sl (β := β) (cap := len) h2' hIb (cells_new c' el) (by omega) h4'
      rw [hlen'] at this
      simpa [St.app, put, hdst, updS, upd] using this
    · rw [if_neg ht]
      refine .inl ⟨rfl, ?_⟩
      simp [St.app, put, hdst, updS, upd, ht]
theorem ok_buildSlice (h : SR C E w S a β F) {o : Oper} {f : FuncId} {t : TypeId} {len : Nat} {parts : Array (Nat × Operand)} (ho : o.op = .buildSlice t len parts) {e : Eff}
    (he : evBuildSlice C f S o t len (parts.toList.map fun p => (p.1, un true (S.get C p.2))) = some e) (hd : inB S e) (hn : ∀ a' w', Nx C E (S.app e) a' w' → next a' w') : o.wp C.P a w next Q := by
  unfold evBuildSlice at he
  split at he
  · exact ok_buildF h ho he hd hn
  · exact ok_buildSlice0 h ho he hd hn
end
end Go.Ab
