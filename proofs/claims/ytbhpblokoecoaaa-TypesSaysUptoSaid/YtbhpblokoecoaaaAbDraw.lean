/-
  A REGION THAT DRAWS ITS ORDER: the lexical run serves every order.
-/
import Derived.Test.YtbhpblokoecoaaaAbFrame
import Derived.Orders
namespace Go.Ab
open Go
theorem updS_in {t t' : Nat → AV} : ∀ {l : List (Nat × AV)} {k : Nat}, (∃ x ∈ l, x.1 = k) → updS t l k = updS t' l k
  | [], k, h => by obtain ⟨x, hx, _⟩ := h; cases hx
  | (i, v) :: l, k, h => by
    by_cases hi : k = i
    · subst hi; simp [updS, upd]
    · simp only [updS, upd, hi, if_false]
      refine updS_in ?_
      obtain ⟨x, hx, e⟩ := h
      rcases List.mem_cons.1 hx with rfl | hx
      · exact absurd e.symm hi
      · exact ⟨x, hx, e⟩
theorem updS_out {t : Nat → AV} : ∀ {l : List (Nat × AV)} {k : Nat}, (∀ x ∈ l, x.1 ≠ k) → updS t l k = t k
  | [], _, _ => rfl
  | (i, v) :: l, k, h => by
    have hi : k ≠ i := fun e => h (i, v) (List.mem_cons_self ..) e.symm
    simp only [updS, upd, hi, if_false]
    exact updS_out fun x hx => h x (List.mem_cons_of_mem _ hx)
theorem updH_in {t t' : Id → Option (Option Rows)} : ∀ {l : List (Id × Option Rows)} {k : Id}, (∃ x ∈ l, x.1 = k) → updH t l k = updH t' l k
  | [], k, h => by obtain ⟨x, hx, _⟩ := h; cases hx
  | (i, v) :: l, k, h => by
    by_cases hi : k = i
    · subst hi; simp [updH, upd]
    · simp only [updH, upd, hi, if_false]
      refine updH_in ?_
      obtain ⟨x, hx, e⟩ := h
      rcases List.mem_cons.1 hx with rfl | hx
      · exact absurd e.symm hi
      · exact ⟨x, hx, e⟩
theorem updH_out {t : Id → Option (Option Rows)} : ∀ {l : List (Id × Option Rows)} {k : Id}, (∀ x ∈ l, x.1 ≠ k) → updH t l k = t k
  | [], _, _ => rfl
  | (i, v) :: l, k, h => by
    have hi : k ≠ i := fun e => h (i, v) (List.mem_cons_self ..) e.symm
    simp only [updH, upd, hi, if_false]
    exact updH_out fun x hx => h x (List.mem_cons_of_mem _ hx)
theorem app_comm (S : St) {e e' : Eff} (hs : ∀ x ∈ e.sw, ∀ y ∈ e'.sw, x.1 ≠ y.1) (hh : ∀ x ∈ e.wr, ∀ y ∈ e'.wr, x.1 ≠ y.1) : (S.app e).app e' = (S.app e').app e := by
  simp only [St.app, St.mk.injEq, true_and]
  constructor
  · funext k
    by_cases h1 : ∃ x ∈ e.sw, x.1 = k
    · obtain ⟨x, hx, rfl⟩ := h1
      rw [updS_out (t := updS S.t e.sw) fun y hy => fun e => hs x hx y hy e.symm]
      exact updS_in ⟨x, hx, rfl⟩
    · have h1' : ∀ x ∈ e.sw, x.1 ≠ k := fun x hx e => h1 ⟨x, hx, e⟩
      rw [updS_out (t := updS S.t e'.sw) h1']
      by_cases h2 : ∃ x ∈ e'.sw, x.1 = k
      · exact updS_in h2
      · have h2' : ∀ x ∈ e'.sw, x.1 ≠ k := fun x hx e => h2 ⟨x, hx, e⟩
        rw [updS_out h2', updS_out h1', updS_out h2']
  · funext k
    by_cases h1 : ∃ x ∈ e.wr, x.1 = k
    · obtain ⟨x, hx, rfl⟩ := h1
      rw [updH_out (t := updH S.h e.wr) fun y hy => fun e => hh x hx y hy e.symm]
      exact updH_in ⟨x, hx, rfl⟩
    · have h1' : ∀ x ∈ e.wr, x.1 ≠ k := fun x hx e => h1 ⟨x, hx, e⟩
      rw [updH_out (t := updH S.h e'.wr) h1']
      by_cases h2 : ∃ x ∈ e'.wr, x.1 = k
      · exact updH_in h2
      · have h2' : ∀ x ∈ e'.wr, x.1 ≠ k := fun x hx e => h2 ⟨x, hx, e⟩
        rw [updH_out h2', updH_out h1', updH_out h2']
section
variable {C : Cx} {f : FuncId} {call : FuncId → List AV → Option (AV × List AV)} {ops : Array Oper} {S S' : St}
theorem did_sw {o : Oper} {e : Eff} (h : Did C f call ops S o e) : ∀ x ∈ e.sw, x.1 ∈ slotsW C f o := by
  have key : ∀ (v : AV), ∀ x ∈ (put o v [] []).sw, x.1 ∈ slotsW C f o := fun v x hx => by
    unfold slotsW
    cases hd : o.dst <;> simp [put, hd] at hx ⊢
    subst hx; exact .inl rfl
  cases h with
  | @yes e0 _ hg hop hrd hwr hsw =>
    rcases hsw with rfl | ⟨v, _, hv⟩
    · rcases shaped_op hop with ⟨v, hv⟩ | ⟨_, hv⟩
      · rw [hv]; exact key v
      · exact hv
    · rw [hv]; exact key _
  | @no _ x hg hwr hx hsw => rw [hsw]; exact key _
theorem guardC_frame {o : Oper} (h : ∀ t ∈ slotsOf ops o, S'.t t = S.t t) : guardC S' ops o = guardC S ops o := by
  unfold guardC
  cases hg : o.guard with
  | none => rfl
  | some jw =>
    obtain ⟨j, w⟩ := jw
    simp only
    cases hd : (ops[j]?).bind (·.dst) with
    | none => rfl
    | some d =>
      simp only
      rw [h d (by unfold slotsOf; simp [hg, hd])]
theorem did_frame {o : Oper} {e : Eff} (h : Did C f call ops S o e) (hs : ∀ t ∈ slotsOf ops o, S'.t t = S.t t) (hh : Agree S S' e) : Did C f call ops S' o e := by
  have ht : ∀ t ∈ tmpsOf o, S'.t t = S.t t := fun t ht => hs t (by unfold slotsOf; exact List.mem_append.2 (.inl ht))
  cases h with
  | @yes e0 _ hg hop hrd hwr hsw =>
    exact .yes (by rw [guardC_frame hs]; exact hg) (evOp_frame hop ht fun id hid => hh id (by rw [hrd, hwr]; exact hid)) hrd hwr hsw
  | @no _ x hg hwr hx hsw => exact .no (by rw [guardC_frame hs]; exact hg) hwr hx hsw
def keyOf (i : Nat) (e : Eff) : HKey := (i, e.rd, e.wr.map (·.1))
def Apt (C : Cx) (f : FuncId) (ops : Array Oper) (ef : Nat → Eff) (i j : Nat) : Prop :=
  ∃ oi oj, ops[i]? = some oi ∧ ops[j]? = some oj ∧ apartS C f ops oi oj = true ∧ disjH (keyOf i (ef i)) (keyOf j (ef j)) = true
theorem apartS_spec {oi oj : Oper} (h : apartS C f ops oi oj = true) : (∀ x ∈ slotsW C f oi, x ∉ slotsOf ops oj ∧ x ∉ slotsW C f oj) ∧ (∀ y ∈ slotsW C f oj, y ∉ slotsOf ops oi) := by
  unfold apartS at h
  simp only [Bool.and_eq_true, List.all_eq_true, Bool.not_eq_true', List.contains_eq_mem, decide_eq_false_iff_not] at h
  exact h
theorem disjH_spec {a b : HKey} (h : disjH a b = true) : (∀ x ∈ a.2.2, x ∉ b.2.1 ∧ x ∉ b.2.2) ∧ (∀ y ∈ b.2.2, y ∉ a.2.1) := by
  unfold disjH at h
  simp only [Bool.and_eq_true, List.all_eq_true, Bool.not_eq_true', List.contains_eq_mem, decide_eq_false_iff_not] at h
  exact h
def anyA (C : Cx) (f : FuncId) (call : FuncId → List AV → Option (AV × List AV)) (ops : Array Oper) (ef : Nat → Eff) (Sf : St) : Nat → Array Bool → St → Prop
  | 0, listed, S => Region.ready .any ops listed = [] ∧ S = Sf
  | n + 1, listed, S => (Region.ready .any ops listed = [] → S = Sf) ∧ ∀ i ∈ Region.ready .any ops listed, ∃ o, ops[i]? = some o ∧ Did C f call ops S o (ef i) ∧ inB S (ef i) ∧ anyA C f call ops ef Sf n (listed.setIfInBounds i true) (S.app (ef i))
theorem wpAny_of_anyA {K : Act → Prop} (hKo : KOk K ops) {E : Env} {Q : Exit → Act → World → Prop} {ef : Nat → Eff} {Sf : St} (hN : NC C) (hcall : ∀ k as r, call k as = some r → Sound C k as r) (hQ : ∀ a' w', Nx C E Sf a' w' → K a' → Q .normal a' w') :
    ∀ (n : Nat) (listed : Array Bool) (S : St) (a : Act) (w : World), anyA C f call ops ef Sf n listed S → Nx C E S a w → K a → wpAny C.P .any ops Q n listed a w
  | 0, listed, S, a, w, h, hS, hK => ⟨h.1, hQ _ _ (h.2 ▸ hS) hK⟩
  | n + 1, listed, S, a, w, h, hS, hK => by
    refine ⟨fun h0 => hQ _ _ (h.1 h0 ▸ hS) hK, fun i hi => ?_⟩
    obtain ⟨o, ho, hdid, hb, hrest⟩ := h.2 i hi
    obtain ⟨β, F, hSR⟩ := hS
    unfold wpOp
    simp only [ho]
    have := ok_did_k (Q := Q) (K := K) (next := wpAny C.P .any ops Q n (listed.setIfInBounds i true)) hN hcall hSR hdid hb (fun a' v e => hKo i o ho a a' v hK e) fun a' w' hx hk => wpAny_of_anyA hKo hN hcall hQ n _ _ _ _ hrest hx hk
    split at this
    · rename_i hw; simp only [hw, if_true]; exact .inl this
    · rename_i hw; simp only [hw]; exact this
inductive Ahead (ops : Array Oper) : Nat → Nat → Prop
  | one {j : Nat} {oj : Oper} {e : Edge} : ops[j]? = some oj → e ∈ oj.after → Region.binds .any e = true → Ahead ops e.on j
  | far {i j : Nat} {oj : Oper} {e : Edge} : ops[j]? = some oj → e ∈ oj.after → Region.binds .any e = true → Ahead ops i e.on → Ahead ops i j
def Closed (ops : Array Oper) (listed : Array Bool) : Prop := ∀ k ok, ops[k]? = some ok → listed.getD k false = true → ∀ e ∈ ok.after, Region.binds .any e = true → listed.getD e.on false = true
theorem Ahead.listed {listed : Array Bool} (hc : Closed ops listed) {i j : Nat} (h : Ahead ops i j) : (∀ oj, ops[j]? = some oj → ∀ e ∈ oj.after, Region.binds .any e = true → listed.getD e.on false = true) → listed.getD i false = true := by
  induction h with
  | one h1 h2 h3 => intro h; exact h _ h1 _ h2 h3
  | far h1 h2 h3 _ ih => intro h; exact ih fun ok hk => hc _ ok hk (h _ h1 _ h2 h3)
theorem getD_set (l : Array Bool) (i j : Nat) (d : Bool) : (l.setIfInBounds i true).getD j d = if i = j ∧ i < l.size then true else l.getD j d := by
  simp only [Array.getD_eq_getD_getElem?, Array.getElem?_setIfInBounds]
  by_cases h : i = j
  · subst h
    by_cases hi : i < l.size
    · simp [hi]
    · simp [hi]
  · simp [h]
theorem Closed.set {listed : Array Bool} (hc : Closed ops listed) {j : Nat} (hj : j ∈ Region.ready .any ops listed) : Closed ops (listed.setIfInBounds j true) := by
  obtain ⟨_, oj, hoj, hall⟩ := mem_ready.1 hj
  have up : ∀ m, listed.getD m false = true → (listed.setIfInBounds j true).getD m false = true := fun m hm => by
    rw [getD_set]; split
    · rfl
    · exact hm
  intro k ok hk hl e he hb
  rw [getD_set] at hl
  split at hl
  · rename_i hjk
    obtain ⟨rfl, _⟩ := hjk
    rw [hoj] at hk
    simp only [Option.some.injEq] at hk; subst hk
    exact up _ (hall e he hb)
  · exact up _ (hc k ok hk hl e he hb)
theorem anyA_first {ef : Nat → Eff} {Sf : St} {i : Nat} {oi : Oper} (hi : ops[i]? = some oi) : ∀ (n : Nat) (listed : Array Bool) (S : St), Closed ops listed →
    (∀ j oj, ops[j]? = some oj → j ≠ i → listed.getD j true = false → Ahead ops i j ∨ Apt C f ops ef i j) → i ∈ Region.ready .any ops listed → Did C f call ops S oi (ef i) → inB S (ef i) →
    anyA C f call ops ef Sf n (listed.setIfInBounds i true) (S.app (ef i)) → anyA C f call ops ef Sf (n + 1) listed S := by
  intro n
  induction n with
  | zero =>
    intro listed S hc hfree hr hd hb H
    refine ⟨fun h => (by rw [h] at hr; cases hr), fun j hj => ?_⟩
    by_cases hji : j = i
    · subst hji; exact ⟨oi, hi, hd, hb, H⟩
    · have := ready_mono hj hji
      rw [H.1] at this
      cases this
  | succ n ih =>
    intro listed S hc hfree hr hd hb H
    refine ⟨fun h => (by rw [h] at hr; cases hr), fun j hj => ?_⟩
    by_cases hji : j = i
    · subst hji; exact ⟨oi, hi, hd, hb, H⟩
    · obtain ⟨oj, hoj, hdj, hbj, Hj⟩ := H.2 j (ready_mono hj hji)
      obtain ⟨hjun, oj', hoj', hall⟩ := mem_ready.1 hj
      rw [hoj] at hoj'
      simp only [Option.some.injEq] at hoj'; subst hoj'
      have hiun := (mem_ready.1 hr).1
      have hapt : Apt C f ops ef i j := by
        rcases hfree j oj hoj hji hjun with h | h
        · exfalso
          have := h.listed hc fun oj' ho => by rw [hoj] at ho; simp only [Option.some.injEq] at ho; subst ho; exact hall
          rw [Array.getD_eq_getD_getElem?] at this hiun
          cases hx : listed[i]? <;> simp [hx] at this hiun
          rw [hiun] at this; cases this
        · exact h
      obtain ⟨oi', oj', h1, h2, hap, hdh⟩ := hapt
      rw [hi] at h1; rw [hoj] at h2
      simp only [Option.some.injEq] at h1 h2
      subst h1; subst h2
      obtain ⟨a1, a2⟩ := apartS_spec hap
      obtain ⟨d1, d2⟩ := disjH_spec hdh
      simp only [keyOf, List.mem_map, forall_exists_index, and_imp] at d1 d2
      have wi := did_sw hd
      have wj := did_sw hdj
      -- the other one, as if this one had not come up
      have hdj0 : Did C f call ops S oj (ef j) := by
        refine did_frame hdj (fun t ht => ?_) (fun id hid => ?_)
        · exact (updS_out fun x hx e => (a1 x.1 (wi x hx)).1 (e ▸ ht)).symm
        · refine (updH_out fun x hx e => ?_).symm
          have := d1 id x hx e
          rcases hid with hid | ⟨y, hy, e'⟩
          · exact this.1 hid
          · exact this.2 ⟨y, hy, e'⟩
      have hbj0 : inB S (ef j) := hbj
      have hdi : Did C f call ops (S.app (ef j)) oi (ef i) := by
        refine did_frame hd (fun t ht => ?_) (fun id hid => ?_)
        · exact updS_out fun x hx e => a2 x.1 (wj x hx) (e ▸ ht)
        · refine updH_out fun x hx e => ?_
          rcases hid with hid | ⟨y, hy, e'⟩
          · exact d2 id x hx e hid
          · exact (d1 id y hy e').2 ⟨x, hx, e⟩
      refine ⟨oj, hoj, hdj0, hbj0, ?_⟩
      refine ih (listed.setIfInBounds j true) (S.app (ef j)) (hc.set hj) (fun k ok hk hki hun => ?_) (ready_mono hr (Ne.symm hji)) hdi hb ?_
      · refine hfree k ok hk hki ?_
        rw [getD_set] at hun
        split at hun
        · cases hun
        · exact hun
      · rw [Array.setIfInBounds_comm _ _ hji, ← app_comm S (fun x hx y hy e => (a1 x.1 (wi x hx)).2 (e ▸ wj y hy)) (fun x hx y hy e => (d1 x.1 x hx rfl).2 ⟨y, hy, e.symm⟩)]
        exact Hj
def Runs (C : Cx) (f : FuncId) (call : FuncId → List AV → Option (AV × List AV)) (ops : Array Oper) (ef : Nat → Eff) (Sf : St) : Nat → List Oper → St → Prop
  | _, [], S => S = Sf
  | k, o :: l, S => Did C f call ops S o (ef k) ∧ inB S (ef k) ∧ Runs C f call ops ef Sf (k + 1) l (S.app (ef k))
theorem Runs.congr {ef ef' : Nat → Eff} {Sf : St} : ∀ {l : List Oper} {k : Nat} {S : St}, (∀ j, k ≤ j → ef' j = ef j) → Runs C f call ops ef Sf k l S → Runs C f call ops ef' Sf k l S
  | [], _, _, _, h => h
  | o :: l, k, S, he, ⟨h1, h2, h3⟩ => by
    unfold Runs
    rw [he k (Nat.le_refl _)]
    exact ⟨h1, h2, Runs.congr (fun j hj => he j (by omega)) h3⟩
theorem runs_of {Sf : St} {ah : List (Nat × Nat)} : ∀ {l : List Oper} {k : Nat} {S : St} {ks : List HKey}, evOps C f call ops k l S = some (Sf, ks) → heapFree ah ks = true →
    ∃ ef, Runs C f call ops ef Sf k l S ∧ (∀ j, k ≤ j → j < k + l.length → (ef j).rd ≠ [] ∨ (ef j).wr ≠ [] → keyOf j (ef j) ∈ ks) ∧
      (∀ i j, k ≤ i → i < j → j < k + l.length → ah.contains (i, j) = true ∨ disjH (keyOf i (ef i)) (keyOf j (ef j)) = true)
  | [], k, S, ks, h, _ => by
    simp [evOps] at h
    obtain ⟨rfl, _⟩ := h
    exact ⟨fun _ => ⟨[], [], []⟩, rfl, (fun j h1 h2 => by simp at h2; omega), (fun i j h1 h2 h3 => by simp at h3; omega)⟩
  | o :: l, k, S, ks, h, hf => by
    simp only [evOps, Option.bind_eq_some_iff] at h
    obtain ⟨e, he, h⟩ := h
    split at h
    · rename_i hd
      obtain ⟨⟨S1, k1⟩, h1, h2⟩ := Option.map_eq_some_iff.1 h
      simp only [Prod.mk.injEq] at h2
      obtain ⟨rfl, rfl⟩ := h2
      have hf1 : heapFree ah k1 = true ∧ ((e.rd ≠ [] ∨ e.wr ≠ []) → ∀ y ∈ k1, ah.contains (k, y.1) = true ∨ disjH (keyOf k e) y = true) := by
        unfold hkey at hf
        split at hf
        · rename_i hem
          simp only [Bool.and_eq_true, List.isEmpty_iff] at hem
          exact ⟨hf, fun hne => by rw [hem.1, hem.2] at hne; simp at hne⟩
        · simp only [heapFree, Bool.and_eq_true, List.all_eq_true, Bool.or_eq_true] at hf
          exact ⟨hf.2, fun _ y hy => hf.1 y hy⟩
      obtain ⟨ef, r1, r2, r3⟩ := runs_of h1 hf1.1
      have same : ∀ j, k + 1 ≤ j → (fun j => if j = k then e else ef j) j = ef j := fun j hj => by simp only; rw [if_neg (by omega)]
      have here : (fun j => if j = k then e else ef j) k = e := by simp
      refine ⟨fun j => if j = k then e else ef j, ?_, ?_, ?_⟩
      · refine ⟨by rw [here]; exact did_of_evG he, by rw [here]; exact hd, ?_⟩
        rw [here]
        exact r1.congr same
      · intro j hj1 hj2 hne
        by_cases hjk : j = k
        · subst hjk
          rw [here] at hne ⊢
          unfold hkey
          have : (e.rd.isEmpty && e.wr.isEmpty) = false := by
            rcases hne with h | h
            · cases hr : e.rd with
              | nil => exact absurd hr h
              | cons => rfl
            · cases hr : e.wr with
              | nil => exact absurd hr h
              | cons => simp
          simp only [this]
          exact List.mem_cons_self ..
        · rw [same j (by omega)] at hne ⊢
          have := r2 j (by omega) (by simp at hj2; omega) hne
          unfold hkey
          split
          · exact this
          · exact List.mem_cons_of_mem _ this
      · intro i j hi hij hj
        rw [same j (by omega)]
        by_cases hik : i = k
        · subst hik
          rw [here]
          by_cases hei : e.rd ≠ [] ∨ e.wr ≠ []
          · by_cases hej : (ef j).rd ≠ [] ∨ (ef j).wr ≠ []
            · exact hf1.2 hei _ (r2 j (by omega) (by simp at hj; omega) hej)
            · simp only [ne_eq, not_or, Decidable.not_not] at hej
              exact .inr (by simp [disjH, keyOf, hej.1, hej.2])
          · simp only [ne_eq, not_or, Decidable.not_not] at hei
            exact .inr (by simp [disjH, keyOf, hei.1, hei.2])
        · rw [same i (by omega)]
          exact r3 i j (by omega) hij (by simp at hj; omega)
    · cases h
theorem anyA_lex {ef : Nat → Eff} {Sf : St} (hfree : ∀ i j, i < j → j < ops.size → Ahead ops i j ∨ Apt C f ops ef i j) (hback : ∀ (k : Nat) (ok : Oper), ops[k]? = some ok → ∀ e ∈ ok.after, Region.binds .any e = true → e.on < k) :
    ∀ (l : List Oper) (k : Nat) (listed : Array Bool) (S : St), (∀ j, l[j]? = ops[k + j]?) → listed.size = ops.size → (∀ j, j < ops.size → listed[j]? = some (decide (j < k))) → Runs C f call ops ef Sf k l S →
      anyA C f call ops ef Sf l.length listed S
  | [], k, listed, S, hl, hsz, hls, h => by
    refine ⟨?_, h⟩
    rw [List.eq_nil_iff_forall_not_mem]
    intro j hj
    obtain ⟨h0, o, ho, _⟩ := mem_ready.1 hj
    have hjs : j < ops.size := by
      rcases Nat.lt_or_ge j ops.size with h' | h'
      · exact h'
      · rw [Array.getElem?_eq_none h'] at ho; cases ho
    have hk : ops.size ≤ k := by
      have := hl 0
      simp at this
      exact this
    rw [Array.getD_eq_getD_getElem?, hls j hjs] at h0
    simp at h0; omega
  | o :: l, k, listed, S, hl, hsz, hls, ⟨h1, h2, h3⟩ => by
    have h0 : ops[k]? = some o := by simpa using (hl 0).symm
    have hks : k < ops.size := by
      rcases Nat.lt_or_ge k ops.size with h' | h'
      · exact h'
      · rw [Array.getElem?_eq_none h'] at h0; cases h0
    have hin : ∀ j, j < k → listed.getD j false = true := fun j hj => by
      rw [Array.getD_eq_getD_getElem?, hls j (by omega)]; simp [hj]
    refine anyA_first h0 l.length listed S ?_ ?_ ?_ h1 h2 (anyA_lex hfree hback l (k + 1) _ _ (fun j => by have := hl (j + 1); simpa [Nat.add_assoc, Nat.add_comm 1 j] using this) (by simpa using hsz) ?_ h3)
    · intro m om hm hlm e he hbi
      have hms : m < ops.size := by
        rcases Nat.lt_or_ge m ops.size with h' | h'
        · exact h'
        · rw [Array.getElem?_eq_none h'] at hm; cases hm
      rw [Array.getD_eq_getD_getElem?, hls m hms] at hlm
      simp at hlm
      have := hback m om hm e he hbi
      exact hin _ (by omega)
    · intro j oj hj hjk hun
      have hjs : j < ops.size := by
        rcases Nat.lt_or_ge j ops.size with h' | h'
        · exact h'
        · rw [Array.getElem?_eq_none h'] at hj; cases hj
      rw [Array.getD_eq_getD_getElem?, hls j hjs] at hun
      simp at hun
      exact hfree k j (by omega) hjs
    · refine mem_ready.2 ⟨?_, o, h0, fun e he hbi => hin _ (hback k o h0 e he hbi)⟩
      rw [Array.getD_eq_getD_getElem?, hls k hks]; simp
    · intro j hj
      rw [Array.getElem?_setIfInBounds]
      by_cases hjk : k = j
      · subst hjk; simp [hsz, hks]
      · rw [if_neg hjk, hls j hj]
        congr 1
        simp only [decide_eq_decide]; omega
theorem mem_mergeN : ∀ {a s : List Nat} {i : Nat}, i ∈ mergeN a s → i ∈ a ∨ i ∈ s
  | [], s, i, h => .inr h
  | x :: a, s, i, h => by
    have h : i ∈ mergeN a (if s.contains x then s else x :: s) := h
    rcases mem_mergeN h with h | h
    · exact .inl (List.mem_cons_of_mem _ h)
    · split at h
      · exact .inr h
      · rcases List.mem_cons.1 h with rfl | h
        · exact .inl (List.mem_cons_self ..)
        · exact .inr h
theorem aheadOf_go : ∀ (l : List Oper) (acc : List (List Nat)), (∀ m, (acc.length + m < ops.size ∨ m < l.length) → l[m]? = ops[acc.length + m]?) → (∀ j i, i ∈ acc.getD j [] → Ahead ops i j) →
    ∀ j i, i ∈ (l.foldl (init := acc) fun acc o => acc ++ [o.after.toList.foldl (init := []) fun s e => if Region.binds .any e then (if s.contains e.on then s else e.on :: mergeN (acc.getD e.on []) s) else s]).getD j [] → Ahead ops i j
  | [], acc, _, h, j, i, hi => h j i hi
  | o :: l, acc, hl, h, j, i, hi => by
    rw [List.foldl_cons] at hi
    refine aheadOf_go l _ (fun m hm => ?_) ?_ j i hi
    · have := hl (m + 1) (by simp at hm ⊢; omega)
      simpa [Nat.add_assoc, Nat.add_comm 1 m] using this
    · intro j i hi
      by_cases hj : j = acc.length
      · subst hj
        have ho : ops[acc.length]? = some o := by
          have := hl 0 (.inr (by simp))
          simpa using this.symm
        rw [List.getD_eq_getElem?_getD, List.getElem?_append_right (Nat.le_refl _)] at hi
        simp only [Nat.sub_self, List.getElem?_cons_zero, Option.getD_some] at hi
        have go : ∀ (es : List Edge) (s : List Nat), (∀ e ∈ es, e ∈ o.after.toList) → (∀ i ∈ s, Ahead ops i acc.length) → ∀ i ∈ es.foldl (init := s) (fun s e => if Region.binds .any e then (if s.contains e.on then s else e.on :: mergeN (acc.getD e.on []) s) else s), Ahead ops i acc.length := by
          intro es
          induction es with
          | nil => intro s _ hs i hi; exact hs i hi
          | cons e es ih =>
            intro s hes hs i hi
            rw [List.foldl_cons] at hi
            refine ih _ (fun e he => hes e (List.mem_cons_of_mem _ he)) ?_ i hi
            intro i hi
            split at hi
            · rename_i hb
              have hea : e ∈ o.after := by simpa using hes e (List.mem_cons_self ..)
              split at hi
              · exact hs i hi
              · rcases List.mem_cons.1 hi with rfl | hi
                · exact .one ho hea hb
                · rcases mem_mergeN hi with hi | hi
                  · exact .far ho hea hb (h _ _ hi)
                  · exact hs i hi
            · exact hs i hi
        exact go _ [] (fun _ h => h) (fun i hi => by cases hi) i hi
      · rw [List.getD_eq_getElem?_getD] at hi
        rcases Nat.lt_or_ge j acc.length with hlt | hge
        · rw [List.getElem?_append_left hlt] at hi
          exact h j i (by rw [List.getD_eq_getElem?_getD]; exact hi)
        · rw [List.getElem?_eq_none (by simp; omega)] at hi
          cases hi
theorem aheadOf_spec (ops : Array Oper) (j i : Nat) (h : i ∈ (aheadOf ops).getD j []) : Ahead ops i j :=
  aheadOf_go ops.toList [] (fun m _ => by simp) (fun j i h => by simp at h) j i h
theorem slotsFree_spec {id : Nat} (h : slotsFree C f id ops = true) : (∀ i j oi oj, ops[i]? = some oi → ops[j]? = some oj → i < j → (i ∈ (aheadOf ops).getD j [] ∨ apartS C f ops oi oj = true)) ∧
    (∀ (k : Nat) (ok : Oper), ops[k]? = some ok → ∀ e ∈ ok.after, Region.binds .any e = true → e.on < k) ∧ (∀ p ∈ C.ah f id, p.1 ∈ (aheadOf ops).getD p.2 []) := by
  unfold slotsFree at h
  simp only [Bool.and_eq_true, List.all_eq_true, List.contains_eq_mem, decide_eq_true_eq] at h
  obtain ⟨⟨⟨_, h1⟩, h2⟩, h3⟩ := h
  have mem : ∀ (i : Nat) (o : Oper), ops[i]? = some o → (o, i) ∈ ops.toList.zipIdx := fun i o ho => by
    rw [List.mem_zipIdx_iff_getElem?]
    simpa using ho
  refine ⟨fun i j oi oj hi hj hij => ?_, fun k ok hk e he hbi => ?_, h3⟩
  · have := h1 _ (mem i oi hi) _ (mem j oj hj)
    rw [if_pos hij] at this
    simpa using this
  · have h2' := h2 _ (mem k ok hk)
    simp only [Array.all_eq_true_iff_forall_mem, Bool.or_eq_true, Bool.not_eq_true', decide_eq_true_eq] at h2'
    rcases h2' e he with h | h
    · rw [hbi] at h; cases h
    · exact h
theorem ok_regionX {K : Act → Prop} (hKo : KOk K ops) {E : Env} {Q : Exit → Act → World → Prop} {Sf : St} {a : Act} {w : World} {id : Nat} {draw : Bool} (hN : NC C) (hcall : ∀ k as r, call k as = some r → Sound C k as r)
    (hfree : draw = true → slotsFree C f id ops = true) (h : evRegion C f call id ops draw S = some Sf) (hS : Nx C E S a w) (hK : K a) (hQ : ∀ a' w', Nx C E Sf a' w' → K a' → Q .normal a' w') {G : Prop}
    (g0 : draw = false → wpOps C.P ops Q (List.range ops.size) a w → G) (g1 : draw = true → wpAny C.P .any ops Q ops.size (Array.replicate ops.size false) a { w with drawn := w.drawn + 1 } → G) : G := by
  unfold evRegion at h
  obtain ⟨⟨S1, ks⟩, h1, h2⟩ := Option.bind_eq_some_iff.1 h
  cases draw with
  | false =>
    simp only [Bool.false_eq_true, if_false, Option.some.injEq] at h2; subst h2
    refine g0 rfl ?_
    rw [List.range_eq_range']
    have := ok_ops (Q := Q) hKo hN hcall ops.toList 0 (fun j => by simp) h1 hS hK hQ
    simpa using this
  | true =>
    simp only [if_true] at h2
    split at h2
    · rename_i hhf
      simp only [Option.some.injEq] at h2; subst h2
      obtain ⟨s1, s2, s3⟩ := slotsFree_spec (hfree rfl)
      obtain ⟨ef, r1, _, r3⟩ := runs_of h1 hhf
      refine g1 rfl ?_
      obtain ⟨β, F, hSR⟩ := hS
      refine wpAny_of_anyA (f := f) (ef := ef) hKo hN hcall hQ _ _ S _ _ ?_ ⟨β, F, hSR.drew⟩ hK
      have := anyA_lex (C := C) (f := f) (call := call) (ops := ops) (ef := ef) (Sf := S1) ?_ s2 ops.toList 0 (Array.replicate ops.size false) S (fun j => by simp) (by simp) (fun j hj => by simp [hj]) r1
      · simpa using this
      · intro i j hij hj
        have hi : ops[i]? = some ops[i] := by simp
        have hj' : ops[j]? = some ops[j] := by simp
        rcases s1 i j _ _ hi hj' hij with h | h
        · exact .inl (aheadOf_spec ops j i h)
        · rcases r3 i j (Nat.zero_le _) hij (by simpa using hj) with h' | h'
          · exact .inl (aheadOf_spec ops j i (s3 (i, j) (by simpa using h')))
          · exact .inr ⟨_, _, hi, hj', h, h'⟩
    · cases h2
theorem ok_region {K : Act → Prop} (hKo : KOk K ops) {E : Env} {Q : Exit → Act → World → Prop} {Sf : St} {a : Act} {w : World} {id : Nat} {draw : Bool} (hN : NC C) (hm : C.P.follows .mixedOrders = true) (hcall : ∀ k as r, call k as = some r → Sound C k as r)
    (hfree : draw = true → slotsFree C f id ops = true) (h : evRegion C f call id ops draw S = some Sf) (hS : Nx C E S a w) (hK : K a) (hQ : ∀ a' w', Nx C E Sf a' w' → K a' → Q .normal a' w') : (Code.region id ops draw).wp C.P Q a w := by
  refine ok_regionX hKo hN hcall hfree h hS hK hQ (fun e g => ?_) (fun e g => ?_)
  · subst e; exact wp_region g
  · subst e; exact wp_region_any hm g
end
end Go.Ab
