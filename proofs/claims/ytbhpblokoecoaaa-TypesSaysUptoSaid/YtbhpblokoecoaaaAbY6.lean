/-
  PLAIN LAWS: types of values, on both sides.
-/
/-
  PLAIN LAWS: the types of kids; where something can be put; calls.
-/
/-
  PLAIN LAWS: calls; signs ahead; expressions.
-/
/-
  PLAIN LAWS: expressions and statements, on both sides.
-/
/-
  PLAIN LAWS: the walk over a tree's types, on both sides.
-/
/-
  PLAIN LAWS: types of a whole tree; TypesSays.
-/
import Derived.Test.YtbhpblokoecoaaaAbScA
import Derived.Test.YtbhpblokoecoaaaAbGen8
namespace Go.Ab
open Go Go.Proofs
def scl (a : Int) : Bool := a == 1 || a == 2
theorem tscl (a : Int) : types_scalar a = some (scl a) := by simp only [types_scalar, ifT, scl]
theorem rscl (a : Int) : ref1_scalar a = some (scl a) := by simp only [ref1_scalar, ifT, scl]
def Tyv (x : Int) : Prop := 0 ≤ x ∧ x ≤ 2
theorem Tyv.cases {x : Int} (h : Tyv x) : x = 0 ∨ x = 1 ∨ x = 2 := by unfold Tyv at h; omega
theorem twoOf_op (s : ByteArray) : ∃ t b, ast_TwoOf s = some (t, b) ∧ decide (12 ≤ t.Op) = amongB cmpsL s := by
  have hc : ∀ x : ByteArray, (x.toList == s.toList) = (s.toList == x.toList) := fun x => BEq.comm
  unfold ast_TwoOf amongB
  simp only [List.any_cons, List.any_nil, Bool.or_false, hc]
  generalize h1 : (s.toList == (ByteArray.mk #[43]).toList) = b1
  generalize h2 : (s.toList == (ByteArray.mk #[45]).toList) = b2
  generalize h3 : (s.toList == (ByteArray.mk #[42]).toList) = b3
  generalize h4 : (s.toList == (ByteArray.mk #[47]).toList) = b4
  generalize h5 : (s.toList == (ByteArray.mk #[37]).toList) = b5
  generalize h6 : (s.toList == (ByteArray.mk #[38]).toList) = b6
  generalize h7 : (s.toList == (ByteArray.mk #[124]).toList) = b7
  generalize h8 : (s.toList == (ByteArray.mk #[94]).toList) = b8
  generalize h9 : (s.toList == (ByteArray.mk #[60, 60]).toList) = b9
  generalize h10 : (s.toList == (ByteArray.mk #[62, 62]).toList) = b10
  have no : ∀ {x : ByteArray}, (s.toList == x.toList) = true → ((x.toList == (ByteArray.mk #[61, 61]).toList) || ((x.toList == (ByteArray.mk #[33, 61]).toList) || ((x.toList == (ByteArray.mk #[60]).toList) || ((x.toList == (ByteArray.mk #[60, 61]).toList) || ((x.toList == (ByteArray.mk #[62]).toList) || (x.toList == (ByteArray.mk #[62, 61]).toList)))))) = false →
      ((s.toList == (ByteArray.mk #[61, 61]).toList) || ((s.toList == (ByteArray.mk #[33, 61]).toList) || ((s.toList == (ByteArray.mk #[60]).toList) || ((s.toList == (ByteArray.mk #[60, 61]).toList) || ((s.toList == (ByteArray.mk #[62]).toList) || (s.toList == (ByteArray.mk #[62, 61]).toList)))))) = false := by
    intro x hx h
    rw [eq_of_beq hx]; exact h
  cases b1 with
  | true => exact ⟨_, _, rfl, by rw [no h1 (by decide +kernel)]; rfl⟩
  | false =>
    cases b2 with
    | true => exact ⟨_, _, rfl, by rw [no h2 (by decide +kernel)]; rfl⟩
    | false =>
      cases b3 with
      | true => exact ⟨_, _, rfl, by rw [no h3 (by decide +kernel)]; rfl⟩
      | false =>
        cases b4 with
        | true => exact ⟨_, _, rfl, by rw [no h4 (by decide +kernel)]; rfl⟩
        | false =>
          cases b5 with
          | true => exact ⟨_, _, rfl, by rw [no h5 (by decide +kernel)]; rfl⟩
          | false =>
            cases b6 with
            | true => exact ⟨_, _, rfl, by rw [no h6 (by decide +kernel)]; rfl⟩
            | false =>
              cases b7 with
              | true => exact ⟨_, _, rfl, by rw [no h7 (by decide +kernel)]; rfl⟩
              | false =>
                cases b8 with
                | true => exact ⟨_, _, rfl, by rw [no h8 (by decide +kernel)]; rfl⟩
                | false =>
                  cases b9 with
                  | true => exact ⟨_, _, rfl, by rw [no h9 (by decide +kernel)]; rfl⟩
                  | false =>
                    cases b10 with
                    | true => exact ⟨_, _, rfl, by rw [no h10 (by decide +kernel)]; rfl⟩
                    | false =>
                      generalize (s.toList == (ByteArray.mk #[61, 61]).toList) = b11
                      generalize (s.toList == (ByteArray.mk #[33, 61]).toList) = b12
                      generalize (s.toList == (ByteArray.mk #[60]).toList) = b13
                      generalize (s.toList == (ByteArray.mk #[60, 61]).toList) = b14
                      generalize (s.toList == (ByteArray.mk #[62]).toList) = b15
                      generalize (s.toList == (ByteArray.mk #[62, 61]).toList) = b16
                      cases b11; cases b12; cases b13; cases b14; cases b15; cases b16
                      all_goals exact ⟨_, _, rfl, rfl⟩
theorem two_sum (s : ByteArray) {a b : Int} (ha : Tyv a) (hb : Tyv b) : ∃ c ok, types_two s a b = some (c, ok) ∧ ref1_sum s a b = some (if ok = true then c else -1) ∧ (ok = true → Tyv c) := by
  obtain ⟨t, q, h1, h2⟩ := twoOf_op s
  unfold types_two ref1_sum types_two_J1
  rw [h1, show ref1_among ([(ByteArray.mk #[61, 61]), (ByteArray.mk #[33, 61]), (ByteArray.mk #[60]), (ByteArray.mk #[60, 61]), (ByteArray.mk #[62]), (ByteArray.mk #[62, 61])] : List ByteArray) s = some (amongB cmpsL s) from ramong cmpsL s (by decide)]
  simp only [Option.bind_some, h2, tscl, rscl]
  generalize amongB cmpsL s = bc
  generalize (s.toList == (ByteArray.mk #[43]).toList) = bp
  generalize (s.toList == (ByteArray.mk #[45]).toList) = bm
  rcases ha.cases with rfl | rfl | rfl <;> rcases hb.cases with rfl | rfl | rfl <;> cases bc <;> cases bp <;> cases bm <;> exact ⟨_, _, rfl, rfl, by unfold Tyv; decide⟩
theorem findI_eqs {ρ : Type} (r : ρ) : ∀ (a b : List Int) (i : Nat), a.length = b.length → findI (fun _ (p : Int × Int) => if p.1 = p.2 then none else some r) i (a.zip b) = if a = b then none else some r
  | [], [], i, _ => rfl
  | x :: a, y :: b, i, h => by
    rw [List.zip_cons_cons, findI]
    by_cases e : x = y
    · subst e
      simp only [if_true, findI_eqs r a b (i + 1) (by simpa using h), List.cons.injEq, true_and]
    · simp [e]
theorem Loop_eqs {ρ : Type} {a b : List Int} (hl : a.length = b.length) (r : ρ) {step : Int → Option (Lp Int (Br Unit ρ))} (hs : ∀ i (h : i < a.length), step (i : Int) = some (if a[i] = b[i]'(hl ▸ h) then .next ((i + 1 : Nat) : Int) else .out (.ret r)))
    (he : step (a.length : Int) = some (.out (.brk ()))) : Loop (fun s => step s) 0 = some (if a = b then .brk () else .ret r) := by
  have hz : (a.zip b).length = a.length := by rw [List.length_zip, ← hl]; omega
  rw [Loop_find (l := a.zip b) (fun _ p => if p.1 = p.2 then none else some r) ?_ (by rw [hz]; exact he), findI_eqs r a b 0 hl]
  · by_cases e : a = b <;> simp [e, brOf]
  · intro i hi
    rw [hs i (by omega), List.getElem_zip]
    by_cases e : a[i] = b[i]'(by omega) <;> simp [e]
theorem equal_ok {a b : List Int} (ha : a.length ≤ 1000000) (hb : b.length ≤ 1000000) : slices_Equal_int_int a b = some (decide (a = b)) := by
  unfold slices_Equal_int_int
  by_cases hl : a.length = b.length
  · have hne : ((a.length : Int) != (b.length : Int)) = false := by simp [hl]
    simp only [hne, Bool.false_eq_true, if_false]
    have := Loop_eqs hl false (step := fun s => slices_Equal_int_int_L1 a b s) (fun i hi => by
      simp only [slices_Equal_int_int_L1, lt_dec hi, if_true, idx_lt hi, idx_lt (show i < b.length by omega), Option.bind_some, w64_succ (show i < 9223372036854775807 by omega)]
      by_cases e : a[i] = b[i]'(by omega) <;> simp [e]) (by simp only [slices_Equal_int_int_L1, lt_dec', Bool.false_eq_true, if_false])
    rw [this]
    by_cases e : a = b <;> simp [e, Br.go]
  · have hne : ((a.length : Int) != (b.length : Int)) = true := by simpa using fun e => hl (by omega)
    simp only [hne, if_true]
    rw [decide_eq_false fun e => hl (by rw [e])]
end Go.Ab
namespace Go.Ab
open Go Go.Proofs
structure Ctx (N : Ns) (l : List Int) : Prop where
  hg : GoodTo N N.length
  h6 : N.length ≤ 600
  tr : TrOk N
  ll : l.length = N.length
  nm : ∀ j, j < N.length → Nm N l j
structure TR (N : Ns) (l : List Int) (y : XTypes_typer) (z : XTurneryref1_Typing) : Prop where
  t : y.t = ⟨N⟩
  names : y.names = l
  rnames : z.Names = l
  of : z.Of = y.of_
  olen : y.of_.length = N.length
  vals : ∀ x ∈ y.of_, Tyv x
  tells : z.Tells = y.fn.N
  lp : z.Loops = y.loops
  lv : z.Leave = y.leave
  bad : z.Bad = ⟨0, 0⟩
def kt (N : Ns) (of : List Int) (k : Nat) : List Int := (nd N k).Kids.map fun x => of.getD x.toNat 0
section
variable {N : Ns} {l : List Int} {y : XTypes_typer} {z : XTurneryref1_Typing} {k : Nat}
theorem Ctx.kid (h : Ctx N l) (hk : k < N.length) {i : Nat} (hi : i < (nd N k).Kids.length) : ∃ c : Nat, (nd N k).Kids[i]? = some (c : Int) ∧ c < k := by
  obtain ⟨_, _, _, _, _, _, hkk⟩ := good_facts h.hg k hk
  obtain ⟨c, c1, c2, c3⟩ := hkk i hi
  refine ⟨c, ?_, c3⟩
  rw [List.getElem?_eq_getElem hi]
  rw [← c1]; simp [hi]
theorem Ctx.node (h : Ctx N l) (hk : k < N.length) : selfC (nd N k) = 0 ∧ knownB (nd N k).Kind = true ∧ cntB (nd N k).Kind (nd N k).Kids.length = true := by
  obtain ⟨_, _, h1, h2, h3⟩ := nodeC_kids (h.hg k hk)
  exact ⟨h1, h2, h3⟩
theorem self_sign {n : XApi_Node} (h : selfC n = 0) : (namedB n.Kind = false → signS n.Kind n.Text = true) ∧ numS n = true := by
  unfold selfC at h
  split at h
  · cases h
  · split at h
    · cases h
    · rename_i h2
      split at h
      · cases h
      · rename_i h3
        simp only [Bool.or_eq_true, not_or, Bool.not_eq_true', Bool.not_eq_false] at h3
        refine ⟨fun hn => ?_, h3.1⟩
        rw [hn] at h2
        simpa using h2
theorem kt_len : (kt N y.of_ k).length = (nd N k).Kids.length := by simp [kt]
theorem kt_get (h : Ctx N l) (hr : TR N l y z) (hk : k < N.length) {i : Nat} (hi : i < (nd N k).Kids.length) : ∃ c : Nat, (nd N k).Kids[i]? = some (c : Int) ∧ c < k ∧ ∃ x, y.of_[c]? = some x ∧ (kt N y.of_ k)[i]? = some x ∧ Tyv x := by
  obtain ⟨c, c1, c2⟩ := h.kid hk hi
  have hc : c < y.of_.length := by rw [hr.olen]; omega
  refine ⟨c, c1, c2, y.of_[c], List.getElem?_eq_getElem hc, ?_, hr.vals _ (List.getElem_mem hc)⟩
  unfold kt
  rw [List.getElem?_map, c1]
  simp [hc]
theorem kt_all (h : Ctx N l) (hr : TR N l y z) (hk : k < N.length) : ∀ x ∈ kt N y.of_ k, Tyv x := by
  intro x hx
  obtain ⟨i, hi, rfl⟩ := List.mem_iff_getElem.1 hx
  rw [kt_len] at hi
  obtain ⟨c, _, _, x, _, h2, h3⟩ := kt_get h hr hk hi
  rw [List.getElem?_eq_getElem (by rw [kt_len]; exact hi)] at h2
  rw [Option.some.inj h2]; exact h3
theorem kid_ty (h : Ctx N l) (hr : TR N l y z) (hk : k < N.length) {i : Nat} (hi : i < (nd N k).Kids.length) {x : Int} (hx : (kt N y.of_ k)[i]? = some x) : types_typer_kid y (k : Int) (i : Int) = some x := by
  obtain ⟨c, c1, c2, x', h1, h2, _⟩ := kt_get h hr hk hi
  rw [hx] at h2; obtain rfl := Option.some.inj h2
  unfold types_typer_kid
  rw [hr.t, nd_idx hk, Option.bind_some, idx_get c1, Option.bind_some, idx_get h1]; rfl
theorem kid_0 (h : Ctx N l) (hr : TR N l y z) (hk : k < N.length) {a : Int} {r : List Int} (hx : kt N y.of_ k = a :: r) : types_typer_kid y (k : Int) 0 = some a := by
  have := kt_len (N := N) (y := y) (k := k)
  rw [hx] at this
  exact kid_ty (i := 0) h hr hk (by simp at this; omega) (by rw [hx]; rfl)
theorem kid_1 (h : Ctx N l) (hr : TR N l y z) (hk : k < N.length) {a b : Int} {r : List Int} (hx : kt N y.of_ k = a :: b :: r) : types_typer_kid y (k : Int) 1 = some b := by
  have := kt_len (N := N) (y := y) (k := k)
  rw [hx] at this
  exact kid_ty (i := 1) h hr hk (by simp at this; omega) (by rw [hx]; rfl)
theorem kid_2 (h : Ctx N l) (hr : TR N l y z) (hk : k < N.length) {a b c : Int} {r : List Int} (hx : kt N y.of_ k = a :: b :: c :: r) : types_typer_kid y (k : Int) 2 = some c := by
  have := kt_len (N := N) (y := y) (k := k)
  rw [hx] at this
  exact kid_ty (i := 2) h hr hk (by simp at this; omega) (by rw [hx]; rfl)
theorem rkids_step (h : Ctx N l) (hr : TR N l y z) (hk : k < N.length) {i : Nat} (hi : i < (nd N k).Kids.length) : ∃ c : Int, idx (nd N k).Kids (i : Int) = some c ∧ ∃ x, idx z.Of c = some x ∧ app ((kt N y.of_ k).take i) ([x] : List Int) = some ((kt N y.of_ k).take (i + 1)) := by
  obtain ⟨c, c1, c2, x, h1, h2, _⟩ := kt_get h hr hk hi
  have hkl := kids_len h.hg hk
  have h6 := h.h6
  refine ⟨c, idx_get c1, x, by rw [hr.of]; exact idx_get h1, ?_⟩
  rw [app_ok (by rw [List.length_take]; simp; omega), take_succ' h2]
theorem rkids_loop (h : Ctx N l) (hr : TR N l y z) (hk : k < N.length) : Loop (fun s : List Int × Int => ref1_Typing_expr_L1 z (nd N k) s.1 s.2) ([], 0) = some (kt N y.of_ k) := by
  have hkl := kids_len h.hg hk
  have h6 := h.h6
  refine Loop_traj (step := fun s : List Int × Int => ref1_Typing_expr_L1 z (nd N k) s.1 s.2) (fun i => ((kt N y.of_ k).take i, (i : Int))) (nd N k).Kids.length _ rfl (fun i hi => ?_) ?_
  · obtain ⟨c, h1, x, h2, h3⟩ := rkids_step h hr hk hi
    simp only [ref1_Typing_expr_L1, lt_dec hi, if_true, h1, Option.bind_some, h2, h3, w64_succ (show i < 9223372036854775807 by omega)]
  · simp only [ref1_Typing_expr_L1, lt_dec', Bool.false_eq_true, if_false]
    rw [List.take_of_length_le (by rw [kt_len]; exact Nat.le_refl _)]
theorem rkids_loop' (h : Ctx N l) (hr : TR N l y z) (hk : k < N.length) : Loop (fun s : List Int × Int => ref1_Typing_statement_L1 z (nd N k) s.1 s.2) ([], 0) = some (kt N y.of_ k) := rkids_loop h hr hk
theorem got_loop (h : Ctx N l) (hr : TR N l y z) (hk : k < N.length) : Loop (fun s : List Int × Int => types_typer_call_L1 y (k : Int) (nd N k) s.1 s.2) ([], 0) = some (kt N y.of_ k) := by
  have hkl := kids_len h.hg hk
  have h6 := h.h6
  refine Loop_traj (step := fun s : List Int × Int => types_typer_call_L1 y (k : Int) (nd N k) s.1 s.2) (fun i => ((kt N y.of_ k).take i, (i : Int))) (nd N k).Kids.length _ rfl (fun i hi => ?_) ?_
  · obtain ⟨c, c1, c2, x, h1, h2, _⟩ := kt_get h hr hk hi
    simp only [types_typer_call_L1, lt_dec hi, if_true, kid_ty h hr hk hi h2, Option.bind_some, app_ok (show ((kt N y.of_ k).take i).length + ([x] : List Int).length ≤ 4294967296 by rw [List.length_take]; simp; omega), take_succ' h2, w64_succ (show i < 9223372036854775807 by omega)]
  · simp only [types_typer_call_L1, lt_dec', Bool.false_eq_true, if_false]
    rw [List.take_of_length_le (by rw [kt_len]; exact Nat.le_refl _)]
theorem name_ok (h : Ctx N l) (hk : k < N.length) (h32 : (nd N k).Kind = 32) : ∃ q : Nat, idx l (k : Int) = some (q : Int) ∧ q < N.length ∧ 1 ≤ (nd N q).N ∧ (nd N q).N ≤ 3 := by
  obtain ⟨q, q1, q2, q3⟩ := (h.nm k hk).1 h32
  refine ⟨q, idx_get q1, q2, ?_⟩
  have hn := (self_sign (h.node q2).1).2
  unfold numS at hn
  rcases q3 with q3 | q3 | q3 <;> rw [q3] at hn <;> simp only [Int.reduceBEq, Bool.true_and, Bool.false_and, Bool.false_eq_true, if_false, if_true, Bool.true_or, Bool.or_true, Bool.or_false, Bool.false_or] at hn
  · split at hn
    · rename_i e; simp at e; omega
    · split at hn
      · cases hn
      · simp [inb] at hn; omega
  · split at hn
    · cases hn
    · simp [inb] at hn; omega
  · split at hn
    · cases hn
    · simp [inb] at hn; omega
theorem place_ok (h : Ctx N l) (hr : TR N l y z) (hk : k < N.length) : ∃ p, types_typer_place y (k : Int) = some p ∧ ref1_Put ⟨N⟩ l (k : Int) = some p := by
  unfold types_typer_place ref1_Put
  rw [hr.t, nd_idx hk, Option.bind_some, Option.bind_some, hr.names]
  by_cases h32 : (nd N k).Kind = 32
  · obtain ⟨q, q1, q2, _⟩ := name_ok h hk h32
    rw [h32]
    simp only [Int.reduceBEq, if_true, q1, Option.bind_some, nd_idx q2]
    exact ⟨_, rfl, rfl⟩
  · have e32 : ((nd N k).Kind == 32) = false := by simpa using h32
    simp only [e32, Bool.false_eq_true, if_false]
    cases (nd N k).Kind == 34 <;> cases (nd N k).Kind == 35 <;> exact ⟨_, rfl, rfl⟩
end
end Go.Ab
namespace Go.Ab
open Go Go.Proofs
theorem ones_tab {s : ByteArray} (h : amongB onesL s = true) : ∃ i : Nat, i < 5 ∧ (s.toList == (ByteArray.mk #[45]).toList) = decide (i = 0) ∧ (s.toList == (ByteArray.mk #[33]).toList) = decide (i = 1) ∧ (s.toList == (ByteArray.mk #[126]).toList) = decide (i = 2) ∧ (s.toList == (ByteArray.mk #[42]).toList) = decide (i = 3) ∧ (s.toList == (ByteArray.mk #[38]).toList) = decide (i = 4) := by
  have hc : ∀ x : ByteArray, (x.toList == s.toList) = (s.toList == x.toList) := fun x => BEq.comm
  unfold amongB at h
  simp only [List.any_cons, List.any_nil, Bool.or_false, hc, Bool.or_eq_true] at h
  rcases h with h | h | h | h | h
  · rw [eq_of_beq h]; exact ⟨0, by omega, by decide +kernel, by decide +kernel, by decide +kernel, by decide +kernel, by decide +kernel⟩
  · rw [eq_of_beq h]; exact ⟨1, by omega, by decide +kernel, by decide +kernel, by decide +kernel, by decide +kernel, by decide +kernel⟩
  · rw [eq_of_beq h]; exact ⟨2, by omega, by decide +kernel, by decide +kernel, by decide +kernel, by decide +kernel, by decide +kernel⟩
  · rw [eq_of_beq h]; exact ⟨3, by omega, by decide +kernel, by decide +kernel, by decide +kernel, by decide +kernel, by decide +kernel⟩
  · rw [eq_of_beq h]; exact ⟨4, by omega, by decide +kernel, by decide +kernel, by decide +kernel, by decide +kernel, by decide +kernel⟩
section
variable {N : Ns} {l : List Int} {y : XTypes_typer} {z : XTurneryref1_Typing} {k : Nat}
theorem one_ok (h : Ctx N l) (hr : TR N l y z) (hk : k < N.length) (h35 : (nd N k).Kind = 35) {a : Int} (hks : kt N y.of_ k = [a]) (ha : Tyv a) : ∃ c ok, types_typer_one y (k : Int) = some (c, ok) ∧ ref1_Typing_ahead z ⟨N⟩ (k : Int) a = some (if ok = true then c else -1) ∧ (ok = true → Tyv c) := by
  have hs := (self_sign (h.node hk).1).1 (by rw [h35]; decide)
  rw [h35] at hs
  have hs' : amongB onesL (nd N k).Text = true := hs
  obtain ⟨i, hi, t1, t2, t3, t4, t5⟩ := ones_tab hs'
  have hl : 0 < (nd N k).Kids.length := by rw [← kt_len (y := y), hks]; simp
  obtain ⟨c, c1, c2⟩ := h.kid hk hl
  have c1' : idx (nd N k).Kids 0 = some (c : Int) := idx_get (i := 0) c1
  have hcN : c < N.length := by omega
  unfold types_typer_one ref1_Typing_ahead
  rw [hr.t, nd_idx hk, Option.bind_some, kid_0 h hr hk hks, Option.bind_some, Option.bind_some, Option.bind_some, c1', Option.bind_some]
  unfold types_typer_one_J1 ref1_Typing_ahead_J1 ref1_Typing_ahead_J2 ref1_Typing_ahead_J3
  simp only [t1, t2, t3, t4, t5, tscl, rscl, Option.bind_some, c1', hr.t, hr.names, hr.rnames, nd_idx hcN]
  have : i = 0 ∨ i = 1 ∨ i = 2 ∨ i = 3 ∨ i = 4 := by omega
  rcases this with rfl | rfl | rfl | rfl | rfl
  · exact ⟨1, a == 1, rfl, by cases a == 1 <;> rfl, fun _ => by unfold Tyv; omega⟩
  · exact ⟨1, scl a, rfl, by cases scl a <;> rfl, fun _ => by unfold Tyv; omega⟩
  · exact ⟨1, a == 1, rfl, by cases a == 1 <;> rfl, fun _ => by unfold Tyv; omega⟩
  · exact ⟨1, a == 2, rfl, by cases a == 2 <;> rfl, fun _ => by unfold Tyv; omega⟩
  · obtain ⟨p, p1, p2⟩ := place_ok h hr hcN
    simp only [show decide (4 = 0) = false from rfl, show decide (4 = 1) = false from rfl, show decide (4 = 2) = false from rfl, show decide (4 = 3) = false from rfl, show decide (4 = 4) = true from rfl, Bool.false_eq_true, if_false, if_true, p1, p2, Option.bind_some]
    by_cases h32 : (nd N c).Kind = 32
    · obtain ⟨q, q1, q2, _⟩ := name_ok h hcN h32
      rw [h32]
      simp only [beq_self_eq_true, if_true, q1, Option.bind_some, nd_idx q2, bne_self_eq_false, Bool.false_eq_true, if_false]
      cases a == 1 with
      | false => exact ⟨2, false, by simp, by simp, fun e => by cases e⟩
      | true =>
        cases p with
        | false => exact ⟨2, false, by simp, by simp, fun e => by cases e⟩
        | true =>
          cases (nd N q).Kind == 2 with
          | false => exact ⟨2, false, by simp, by simp, fun e => by cases e⟩
          | true => exact ⟨2, true, by simp, by simp, fun _ => by unfold Tyv; omega⟩
    · have e32 : ((nd N c).Kind == 32) = false := by simpa using h32
      simp only [e32, bne, Bool.not_false, Bool.false_eq_true, if_false, Option.bind_some, if_true]
      cases a == 1 with
      | false => exact ⟨2, false, by simp, by simp, fun e => by cases e⟩
      | true =>
        cases p with
        | false => exact ⟨2, false, by simp, by simp, fun e => by cases e⟩
        | true => exact ⟨2, true, by simp, by simp, fun _ => by unfold Tyv; omega⟩
def pl (N : Ns) (q t : Nat) : List Int := ((nd N q).Kids.take t).map fun x => (nd N x.toNat).N
theorem pl_len {q t : Nat} (ht : t ≤ (nd N q).Kids.length) : (pl N q t).length = t := by simp [pl]; omega
theorem func_kids (h : Ctx N l) {q : Nat} (hq : q < N.length) (h3 : (nd N q).Kind = 3) : ∃ n, (nd N q).Kids.length = n + 1 ∧ ∀ i, i < n + 1 → ∃ c : Nat, (nd N q).Kids[i]? = some (c : Int) ∧ c < N.length ∧ ((nd N c).Kind = if i = n then 11 else 4) := by
  obtain ⟨P, hP1, hP0, hPt⟩ := good_pos h.hg hq
  have hcnt := (h.node hq).2.2
  have hkl := kids_len h.hg hq
  have h6 := h.h6
  rw [h3] at hcnt
  have hn : 1 ≤ (nd N q).Kids.length := by
    have : kidsS 3 = (1, 1099511627776) := by decide +kernel
    simp [cntB, this] at hcnt; omega
  refine ⟨(nd N q).Kids.length - 1, by omega, fun i hi => ?_⟩
  obtain ⟨q1, q2, q3, q4, q5⟩ := hPt i (by omega)
  refine ⟨P (i + 1) - 1, ?_, by omega, ?_⟩
  · rw [List.getElem?_eq_getElem (by omega), ← q1]; simp [show i < (nd N q).Kids.length by omega]
  · rw [h3] at q5
    unfold goesS at q5
    rw [w64_id (by omega) (by omega)] at q5
    simp only [Int.reduceBEq, Bool.false_eq_true, if_false, if_true] at q5
    by_cases e : i = (nd N q).Kids.length - 1
    · rw [if_pos e]
      rw [if_pos (by simp; omega)] at q5
      simpa using q5
    · rw [if_neg e]
      rw [if_neg (by simp; omega)] at q5
      simpa using q5
theorem want_loop (h : Ctx N l) {q : Nat} (hq : q < N.length) {n : Nat} (hn : (nd N q).Kids.length = n + 1) (hkk : ∀ i, i < n + 1 → ∃ c : Nat, (nd N q).Kids[i]? = some (c : Int) ∧ c < N.length ∧ ((nd N c).Kind = if i = n then 11 else 4)) :
    ∃ ys, kidsOf XApi_Node.Kids N (q : Int) = some ys ∧ RangeL (fun (y17 : Int × XApi_Node) (s : List Int) => types_typer_call_R2 y17 s) ys ([] : List Int) = some (.go (pl N q n)) := by
  have hkl := kids_len h.hg hq
  have h6 := h.h6
  obtain ⟨ys, hys⟩ := kidsGo_ok (nodes := N) (l := (nd N q).Kids) (j := 0) fun x hx => by
    obtain ⟨t, ht, rfl⟩ := List.mem_iff_getElem.1 hx
    obtain ⟨c, c1, c2, _⟩ := hkk t (by omega)
    refine ⟨nd N c, ?_⟩
    rw [List.getElem?_eq_getElem ht] at c1
    rw [Option.some.inj c1, nd_idx c2]
  refine ⟨ys, by unfold kidsOf; rw [nd_idx hq, Option.bind_some, if_pos (by omega)]; exact hys, ?_⟩
  obtain ⟨gl, gg⟩ := kidsGo_get hys
  have key : ∀ d t, t + d = n + 1 → RangeL (fun (y17 : Int × XApi_Node) (s : List Int) => types_typer_call_R2 y17 s) (ys.drop t) (pl N q (min t n)) = some (.go (pl N q n)) := by
    intro d
    induction d with
    | zero =>
      intro t ht
      rw [List.drop_of_length_le (by omega), show min t n = n by omega]; rfl
    | succ d ih =>
      intro t ht
      obtain ⟨c, c1, c2, c3⟩ := hkk t (by omega)
      obtain ⟨nn, g1, g2⟩ := gg t _ c1
      rw [nd_idx c2] at g1
      simp only [Option.some.injEq] at g1; subst g1
      rw [Nat.zero_add] at g2
      have hdrop : ys.drop t = ((t : Int), nd N c) :: ys.drop (t + 1) := by
        rw [List.drop_eq_getElem_cons (by omega)]
        congr 1
        rw [List.getElem?_eq_getElem (by omega)] at g2
        exact Option.some.inj g2
      rw [hdrop, RangeL]
      have hstep : types_typer_call_R2 ((t : Int), nd N c) (pl N q (min t n)) = some (.go (pl N q (min (t + 1) n))) := by
        unfold types_typer_call_R2
        by_cases e : t = n
        · subst e
          rw [if_pos rfl] at c3
          simp only [c3, Int.reduceBEq, Bool.false_eq_true, if_false]
          rw [show min t t = min (t + 1) t by omega]
        · rw [if_neg e] at c3
          simp only [c3, beq_self_eq_true, if_true]
          rw [app_ok (by rw [pl_len (by omega)]; simp; omega), Option.bind_some, show min t n = t by omega, show min (t + 1) n = t + 1 by omega]
          congr 2
          unfold pl
          rw [take_succ' c1, List.map_append]; simp
      simp only [hstep, Option.bind_some]
      exact ih (t + 1) (by omega)
  have := key (n + 1) 0 (by omega)
  rw [Nat.zero_min] at this
  exact this
theorem call_ty (h : Ctx N l) (hr : TR N l y z) (hk : k < N.length) (h33 : (nd N k).Kind = 33) : ∃ c ok, types_typer_call y (k : Int) = some (c, ok) ∧ ref1_Typing_call z ⟨N⟩ (k : Int) (kt N y.of_ k) = some (if ok = true then c else -1) ∧ (ok = true → Tyv c) := by
  have hkl := kids_len h.hg hk
  have h6 := h.h6
  have hks : (kt N y.of_ k).length ≤ 1000000 := by rw [kt_len]; omega
  have hg := got_loop h hr hk
  unfold types_typer_call ref1_Typing_call types_typer_call_J1
  rw [hr.t, nd_idx hk, Option.bind_some, hr.names, hr.rnames]
  rcases (h.nm k hk).2 h33 with ⟨q1, hhp⟩ | ⟨q, q1, q2, q3⟩
  · rw [idx_get q1, Option.bind_some, Option.bind_some]
    simp only [show decide ((0 : Int) ≤ -1) = false from rfl, show decide ((-1 : Int) < 0) = true from rfl, Bool.false_eq_true, if_false, if_true, Option.bind_some, hg]
    rw [equal_ok (by simp) hks, equal_ok (by simp) hks]
    unfold helpB at hhp
    cases hp : (nd N k).Text.toList == (ByteArray.mk #[112, 114, 105, 110, 116]).toList with
    | true =>
      have hrd : ((nd N k).Text.toList == (ByteArray.mk #[114, 101, 97, 100]).toList) = false := by
        rw [eq_of_beq hp]; decide +kernel
      simp only [hrd, Bool.false_eq_true, if_false, if_true, Option.bind_some]
      refine ⟨1, decide ([1] = kt N y.of_ k), rfl, ?_, fun _ => by unfold Tyv; omega⟩
      match hkt : kt N y.of_ k with
      | [] => rfl
      | [a] =>
        simp only [List.length_cons, List.length_nil, idx_0, Option.bind_some]
        by_cases e : a = 1
        · subst e; rfl
        · have : (a == 1) = false := by simpa using e
          simp only [this, Bool.false_eq_true, if_false]
          simp
          exact fun e' => e e'.symm
      | a :: b :: r => simp; omega
    | false =>
      rw [hp, Bool.or_false] at hhp
      simp only [hhp, Bool.false_eq_true, if_false, if_true, Option.bind_some]
      refine ⟨1, decide ([] = kt N y.of_ k), rfl, ?_, fun _ => by unfold Tyv; omega⟩
      match hkt : kt N y.of_ k with
      | [] => rfl
      | a :: r => simp; omega
  · rw [idx_get q1, Option.bind_some, Option.bind_some]
    obtain ⟨n, hn, hkk⟩ := func_kids h q2 q3
    obtain ⟨ys, hy1, hy2⟩ := want_loop h q2 hn hkk
    have hql := kids_len h.hg q2
    have hN : Tyv (nd N q).N := by
      have hns := (self_sign (h.node q2).1).2
      unfold numS at hns
      rw [q3] at hns
      simp only [Int.reduceBEq, Bool.true_and, Bool.false_and, Bool.false_eq_true, if_false, if_true] at hns
      split at hns
      · cases hns
      · unfold Tyv; simp [inb] at hns; omega
    have hk0 : ast_Kids ⟨N⟩ (q : Int) = some (⟨N⟩, (q : Int)) := rfl
    simp only [show decide ((0 : Int) ≤ (q : Int)) = true by simp, show decide ((q : Int) < 0) = false by simp, if_true, Bool.false_eq_true, if_false, nd_idx q2, Option.bind_some, hk0, hy1, hy2, Rg.on, hg]
    rw [equal_ok (by rw [pl_len (by omega)]; omega) hks, Option.bind_some]
    refine ⟨(nd N q).N, decide (pl N q n = kt N y.of_ k), rfl, ?_, fun _ => hN⟩
    rw [w64_id (by omega) (by omega)]
    by_cases hl : (kt N y.of_ k).length = n
    · have e1 : (((kt N y.of_ k).length : Int) != ((nd N q).Kids.length : Int) - 1) = false := by
        rw [hn, hl]; simp
      simp only [e1, Bool.false_eq_true, if_false]
      have hpn : (pl N q n).length = n := pl_len (by omega)
      have := Loop_eqs (a := kt N y.of_ k) (b := pl N q n) (by omega) (-1 : Int) (step := fun s => ref1_Typing_call_L1 ⟨N⟩ (kt N y.of_ k) (nd N q) s) (fun i hi => by
        obtain ⟨c, c1, c2, _⟩ := hkk i (by omega)
        have hpg : (pl N q n)[i]'(by omega) = (nd N c).N := by
          have : (pl N q n)[i]? = some (nd N c).N := by
            unfold pl
            rw [List.getElem?_map, List.getElem?_take, if_pos (by omega), c1]; simp
          rw [List.getElem?_eq_getElem (by omega)] at this
          exact Option.some.inj this
        simp only [ref1_Typing_call_L1, lt_dec hi, if_true, idx_lt hi, idx_get c1, nd_idx c2, Option.bind_some, w64_succ (show i < 9223372036854775807 by omega), hpg]
        by_cases e : (kt N y.of_ k)[i] = (nd N c).N <;> simp [e]) (by simp only [ref1_Typing_call_L1, lt_dec', Bool.false_eq_true, if_false])
      rw [this, Option.bind_some]
      by_cases e : kt N y.of_ k = pl N q n
      · rw [if_pos e, decide_eq_true e.symm]; rfl
      · rw [if_neg e, decide_eq_false fun e' => e e'.symm]; rfl
    · have e1 : (((kt N y.of_ k).length : Int) != ((nd N q).Kids.length : Int) - 1) = true := by
        rw [hn]; simp; omega
      simp only [e1, if_true]
      rw [decide_eq_false fun e' => hl (by rw [← e', pl_len (by omega)])]
      simp
end
end Go.Ab
namespace Go.Ab
open Go Go.Proofs
theorem idx_2 {α : Type} {x y w : α} {l : List α} : idx (x :: y :: w :: l) 2 = some w := rfl
theorem cnt_eq {K : Int} {m : Nat} {c : Int} (h : cntB K m = true) (hk : kidsS K = (c, c)) (hc : c ≠ 1099511627776) : (m : Int) = c := by
  unfold cntB at h
  rw [hk] at h
  simp only [Bool.and_eq_true, decide_eq_true_eq, Bool.or_eq_true, beq_iff_eq] at h
  omega
theorem len_1 {α : Type} {l : List α} (h : l.length = 1) : ∃ a, l = [a] := by
  match l, h with
  | [a], _ => exact ⟨a, rfl⟩
theorem len_2 {α : Type} {l : List α} (h : l.length = 2) : ∃ a b, l = [a, b] := by
  match l, h with
  | [a, b], _ => exact ⟨a, b, rfl⟩
theorem len_3 {α : Type} {l : List α} (h : l.length = 3) : ∃ a b c, l = [a, b, c] := by
  match l, h with
  | [a, b, c], _ => exact ⟨a, b, c, rfl⟩
theorem tyv1 : Tyv 1 := by unfold Tyv; omega
theorem tyv2 : Tyv 2 := by unfold Tyv; omega
section
variable {N : Ns} {l : List Int} {y : XTypes_typer} {z : XTurneryref1_Typing} {k : Nat}
theorem expr_ok (h : Ctx N l) (hr : TR N l y z) (hk : k < N.length) (he : exprB (nd N k).Kind = true) : ∃ c ok, types_typer_expr y (k : Int) = some (c, ok) ∧ ref1_Typing_expr z ⟨N⟩ (k : Int) = some (if ok = true then c else -1) ∧ (ok = true → Tyv c) := by
  obtain ⟨hself, _, hcnt⟩ := h.node hk
  have hall := kt_all h hr hk
  have hlen := kt_len (N := N) (y := y) (k := k)
  have hsgn := (self_sign hself).1
  unfold types_typer_expr ref1_Typing_expr ref1_Typing_expr_J1
  rw [hr.t, nd_idx hk, Option.bind_some, Option.bind_some, rkids_loop h hr hk, Option.bind_some]
  have hkind : (nd N k).Kind = 31 ∨ (nd N k).Kind = 32 ∨ (nd N k).Kind = 33 ∨ (nd N k).Kind = 34 ∨ (nd N k).Kind = 35 ∨ (nd N k).Kind = 36 ∨ (nd N k).Kind = 37 ∨ (nd N k).Kind = 38 ∨ (nd N k).Kind = 39 ∨ (nd N k).Kind = 40 := by
    unfold exprB inb at he; simp at he; omega
  rcases hkind with e | e | e | e | e | e | e | e | e | e
  · simp only [e, Int.reduceBEq, Bool.false_eq_true, if_false, if_true]
    exact ⟨1, true, rfl, rfl, fun _ => tyv1⟩
  · obtain ⟨q, q1, q2, q3, q4⟩ := name_ok h hk e
    simp only [e, Int.reduceBEq, Bool.false_eq_true, if_false, if_true, hr.names, hr.rnames, q1, Option.bind_some, nd_idx q2]
    by_cases e3 : (nd N q).N = 3
    · simp only [e3, bne_self_eq_false, beq_self_eq_true, Bool.false_eq_true, if_false, if_true]
      exact ⟨2, true, rfl, rfl, fun _ => tyv2⟩
    · have e3' : ((nd N q).N == 3) = false := by simpa using e3
      simp only [bne, e3', Bool.not_false, Bool.false_eq_true, if_false, if_true]
      exact ⟨_, true, rfl, rfl, fun _ => by unfold Tyv; omega⟩
  · obtain ⟨c, ok, h1, h2, h3⟩ := call_ty h hr hk e
    simp only [e, Int.reduceBEq, Bool.false_eq_true, if_false, if_true, h1, h2, Option.bind_some]
    exact ⟨c, ok, rfl, rfl, h3⟩
  · rw [e] at hcnt
    have := cnt_eq hcnt (c := 2) (by decide +kernel) (by decide)
    obtain ⟨a, b, hks⟩ := len_2 (l := kt N y.of_ k) (by omega)
    simp only [e, Int.reduceBEq, Bool.false_eq_true, if_false, if_true, kid_0 h hr hk hks, kid_1 h hr hk hks, hks, idx_0, idx_1, Option.bind_some]
    cases a == 2 with
    | false => exact ⟨1, false, rfl, rfl, fun e => by cases e⟩
    | true => cases b == 1 with
      | false => exact ⟨1, false, rfl, rfl, fun e => by cases e⟩
      | true => exact ⟨1, true, rfl, rfl, fun _ => tyv1⟩
  · rw [e] at hcnt
    have := cnt_eq hcnt (c := 1) (by decide +kernel) (by decide)
    obtain ⟨a, hks⟩ := len_1 (l := kt N y.of_ k) (by omega)
    obtain ⟨c, ok, h1, h2, h3⟩ := one_ok h hr hk e hks (hall a (by rw [hks]; simp))
    simp only [e, Int.reduceBEq, Bool.false_eq_true, if_false, if_true, hks, idx_0, Option.bind_some, h1, h2]
    exact ⟨c, ok, rfl, rfl, h3⟩
  · rw [e] at hcnt
    have := cnt_eq hcnt (c := 2) (by decide +kernel) (by decide)
    obtain ⟨a, b, hks⟩ := len_2 (l := kt N y.of_ k) (by omega)
    obtain ⟨c, ok, h1, h2, h3⟩ := two_sum (nd N k).Text (hall a (by rw [hks]; simp)) (hall b (by rw [hks]; simp))
    simp only [e, Int.reduceBEq, Bool.false_eq_true, if_false, if_true, kid_0 h hr hk hks, kid_1 h hr hk hks, hks, idx_0, idx_1, Option.bind_some, h1, h2]
    exact ⟨c, ok, rfl, rfl, h3⟩
  · rw [e] at hcnt
    have := cnt_eq hcnt (c := 2) (by decide +kernel) (by decide)
    obtain ⟨a, b, hks⟩ := len_2 (l := kt N y.of_ k) (by omega)
    simp only [e, Int.reduceBEq, Bool.false_eq_true, if_false, if_true, kid_0 h hr hk hks, kid_1 h hr hk hks, hks, idx_0, idx_1, Option.bind_some, tscl, rscl]
    cases scl a with
    | false => exact ⟨1, false, rfl, rfl, fun e => by cases e⟩
    | true => cases scl b with
      | false => exact ⟨1, false, rfl, rfl, fun e => by cases e⟩
      | true => exact ⟨1, true, rfl, rfl, fun _ => tyv1⟩
  · rw [e] at hcnt
    have := cnt_eq hcnt (c := 3) (by decide +kernel) (by decide)
    obtain ⟨a, b, c, hks⟩ := len_3 (l := kt N y.of_ k) (by omega)
    simp only [e, Int.reduceBEq, Bool.false_eq_true, if_false, if_true, kid_0 h hr hk hks, kid_1 h hr hk hks, kid_2 h hr hk hks, hks, idx_0, idx_1, idx_2, Option.bind_some, tscl, rscl]
    cases scl a with
    | false => exact ⟨b, false, rfl, rfl, fun e => by cases e⟩
    | true => cases scl b with
      | false => exact ⟨b, false, rfl, rfl, fun e => by cases e⟩
      | true => cases b == c with
        | false => exact ⟨b, false, rfl, rfl, fun e => by cases e⟩
        | true => exact ⟨b, true, rfl, rfl, fun _ => hall b (by rw [hks]; simp)⟩
  · rw [e] at hcnt
    have hsg := hsgn (by rw [e]; decide)
    rw [e] at hsg
    have := cnt_eq hcnt (c := 2) (by decide +kernel) (by decide)
    obtain ⟨a, b, hks⟩ := len_2 (l := kt N y.of_ k) (by omega)
    have ha := hall a (by rw [hks]; simp)
    have hb := hall b (by rw [hks]; simp)
    obtain ⟨c0, c1, c2⟩ := h.kid hk (i := 0) (by omega)
    obtain ⟨p, p1, p2⟩ := place_ok h hr (k := c0) (by omega)
    have hk0 : idx (nd N k).Kids 0 = some (c0 : Int) := idx_get (i := 0) c1
    simp only [e, Int.reduceBEq, Bool.false_eq_true, if_false, if_true, kid_0 h hr hk hks, kid_1 h hr hk hks, hks, idx_0, idx_1, Option.bind_some, tscl, rscl, hk0, p1, p2, hr.rnames]
    cases heq : (nd N k).Text.toList == (ByteArray.mk #[61]).toList with
    | true =>
      simp only [bne, heq, Bool.not_true, Bool.false_eq_true, if_false, if_true]
      cases scl a with
      | false => exact ⟨a, false, rfl, by cases p <;> rfl, fun e => by cases e⟩
      | true => cases a == b with
        | false => exact ⟨a, false, rfl, by cases p <;> rfl, fun e => by cases e⟩
        | true => cases p with
          | false => exact ⟨a, false, rfl, rfl, fun e => by cases e⟩
          | true => exact ⟨a, true, rfl, rfl, fun _ => ha⟩
    | false =>
      have hsz : 1 < (nd N k).Text.size := by
        unfold signS at hsg
        simp only [Int.reduceBEq, Bool.false_eq_true, if_false, if_true, heq, Bool.false_or, Bool.and_eq_true, decide_eq_true_eq] at hsg
        exact hsg.1.1
      have hmx := maxLen_big
      have hsm := (h.tr.2 _ (nd_mem hk)).2
      obtain ⟨s', hs'⟩ : ∃ s', sslc (nd N k).Text none (some (w64 (((nd N k).Text.size : Int) - 1))) = some s' := by
        rw [w64_id (by omega) (by omega), show ((nd N k).Text.size : Int) - 1 = (((nd N k).Text.size - 1 : Nat) : Int) by omega]
        exact ⟨_, sslc_to (by omega)⟩
      obtain ⟨c, ok, h1, h2, h3⟩ := two_sum s' ha hb
      simp only [bne, heq, Bool.not_false, Bool.false_eq_true, if_false, if_true, hs', h1, h2, Option.bind_some]
      cases ok with
      | false =>
        have : ((-1 : Int) == a) = false := by
          have := ha.1; simp; omega
        refine ⟨a, false, rfl, ?_, fun e => by cases e⟩
        cases p with
        | false => rfl
        | true => simp only [if_true, Bool.false_eq_true, if_false, this]
      | true =>
        simp only [if_true]
        cases hca : c == a with
        | false => exact ⟨a, false, rfl, by cases p <;> rfl, fun e => by cases e⟩
        | true => cases p with
          | false => exact ⟨a, false, rfl, rfl, fun e => by cases e⟩
          | true => exact ⟨a, true, rfl, rfl, fun _ => ha⟩
  · rw [e] at hcnt
    have := cnt_eq hcnt (c := 1) (by decide +kernel) (by decide)
    obtain ⟨a, hks⟩ := len_1 (l := kt N y.of_ k) (by omega)
    obtain ⟨c0, c1, c2⟩ := h.kid hk (i := 0) (by omega)
    obtain ⟨p, p1, p2⟩ := place_ok h hr (k := c0) (by omega)
    have hk0 : idx (nd N k).Kids 0 = some (c0 : Int) := idx_get (i := 0) c1
    simp only [e, Int.reduceBEq, Bool.false_eq_true, if_false, if_true, kid_0 h hr hk hks, hks, idx_0, Option.bind_some, hk0, p1, p2, hr.rnames]
    cases p with
    | false => exact ⟨a, false, rfl, rfl, fun e => by cases e⟩
    | true => exact ⟨a, true, rfl, rfl, fun _ => hall a (by rw [hks]; simp)⟩
theorem var_loop (h : Ctx N l) (hr : TR N l y z) (hk : k < N.length) (want : Int) : Loop (fun s : Bool × Int => types_typer_statement_L1 y (k : Int) (nd N k) want s.1 s.2) (true, 0) = some ((kt N y.of_ k).all fun x => x == want) := by
  have hkl := kids_len h.hg hk
  have h6 := h.h6
  refine Loop_traj (step := fun s : Bool × Int => types_typer_statement_L1 y (k : Int) (nd N k) want s.1 s.2) (fun i => (((kt N y.of_ k).take i).all fun x => x == want, (i : Int))) (nd N k).Kids.length _ rfl (fun i hi => ?_) ?_
  · obtain ⟨c, c1, c2, x, h1, h2, _⟩ := kt_get h hr hk hi
    simp only [types_typer_statement_L1, lt_dec hi, if_true, kid_ty h hr hk hi h2, Option.bind_some, take_succ' h2, w64_succ (show i < 9223372036854775807 by omega), List.all_append, List.all_cons, List.all_nil, Bool.and_true]
    cases ((kt N y.of_ k).take i).all fun x => x == want <;> rfl
  · simp only [types_typer_statement_L1, lt_dec', Bool.false_eq_true, if_false]
    rw [List.take_of_length_le (by rw [kt_len]; exact Nat.le_refl _)]
theorem rvar_loop (h : Ctx N l) (hr : TR N l y z) (hk : k < N.length) : Loop (fun s : Bool × Int => ref1_Typing_statement_L2 (nd N k) (kt N y.of_ k) s.1 s.2) (true, 0) = some ((kt N y.of_ k).all fun x => x == (if (nd N k).N == 3 then 1 else (nd N k).N)) := by
  have hkl := kids_len h.hg hk
  have h6 := h.h6
  have hlen := kt_len (N := N) (y := y) (k := k)
  refine Loop_traj (step := fun s : Bool × Int => ref1_Typing_statement_L2 (nd N k) (kt N y.of_ k) s.1 s.2) (fun i => (((kt N y.of_ k).take i).all fun x => x == (if (nd N k).N == 3 then 1 else (nd N k).N), (i : Int))) (kt N y.of_ k).length _ rfl (fun i hi => ?_) ?_
  · obtain ⟨c, c1, c2, x, h1, h2, h3⟩ := kt_get h hr hk (i := i) (by omega)
    simp only [ref1_Typing_statement_L2, lt_dec hi, if_true, idx_get h2, Option.bind_some, take_succ' h2, w64_succ (show i < 9223372036854775807 by omega), List.all_append, List.all_cons, List.all_nil, Bool.and_true]
    cases ((kt N y.of_ k).take i).all fun x => x == (if (nd N k).N == 3 then 1 else (nd N k).N) with
    | false => rfl
    | true =>
      simp only [if_true, Bool.true_and]
      by_cases e3 : (nd N k).N = 3
      · have hx : (x == 3) = false := by
          have := h3.cases; simp; omega
        simp only [e3, hx, Bool.false_eq_true, if_false, beq_self_eq_true, if_true, Option.bind_some]
      · have e3' : ((nd N k).N == 3) = false := by simpa using e3
        simp only [e3', Bool.false_eq_true, if_false]
        cases x == (nd N k).N <;> rfl
  · simp only [ref1_Typing_statement_L2, lt_dec', Bool.false_eq_true, if_false]
    rw [List.take_of_length_le (Nat.le_refl _)]
theorem okx (b : Bool) : ∃ c : Int, (if (!b) = true then some 8 else some 0 : Option Int) = some c ∧ (if (!b) = true then some 8 else some 0 : Option Int) = some c := by cases b <;> exact ⟨_, rfl, rfl⟩
theorem stmt_ok (h : Ctx N l) (hr : TR N l y z) (hk : k < N.length) (he : exprB (nd N k).Kind = false) : ∃ c, types_typer_statement y (k : Int) = some c ∧ ref1_Typing_statement z ⟨N⟩ (k : Int) = some c := by
  obtain ⟨hself, hkn, hcnt⟩ := h.node hk
  have hlen := kt_len (N := N) (y := y) (k := k)
  unfold types_typer_statement ref1_Typing_statement
  rw [hr.t, nd_idx hk, Option.bind_some, Option.bind_some, rkids_loop' h hr hk, Option.bind_some]
  unfold types_typer_statement_J2 types_typer_statement_J3 types_typer_statement_J4 types_typer_statement_J5 types_typer_statement_J1
  unfold ref1_Typing_statement_J1 ref1_Typing_statement_J2 ref1_Typing_statement_J3 ref1_Typing_statement_J4 ref1_Typing_statement_J5 ref1_Typing_statement_J6
  have hkind : (nd N k).Kind = 12 ∨ (nd N k).Kind = 2 ∨ (nd N k).Kind = 14 ∨ (nd N k).Kind = 15 ∨ (nd N k).Kind = 16 ∨ (nd N k).Kind = 17 ∨ (nd N k).Kind = 18 ∨ (nd N k).Kind = 19 ∨ (nd N k).Kind = 21 ∨ (nd N k).Kind = 22 ∨ (nd N k).Kind = 23 ∨
      ((nd N k).Kind = 1 ∨ (nd N k).Kind = 3 ∨ (nd N k).Kind = 4 ∨ (nd N k).Kind = 11 ∨ (nd N k).Kind = 13 ∨ (nd N k).Kind = 20 ∨ (nd N k).Kind = 24) := by
    unfold knownB exprB inb at *; simp at hkn he; omega
  rcases hkind with e | e | e | e | e | e | e | e | e | e | e | e
  · simp only [e, Int.reduceBEq, Bool.false_eq_true, if_false, if_true, var_loop h hr hk, rvar_loop h hr hk, Option.bind_some]
    by_cases e3 : (nd N k).N = 3
    · simp only [e3, beq_self_eq_true, if_true]; (first | exact ⟨_, rfl, rfl⟩ | exact okx _)
    · have e3' : ((nd N k).N == 3) = false := by simpa using e3
      simp only [e3', Bool.false_eq_true, if_false]; (first | exact ⟨_, rfl, rfl⟩ | exact okx _)
  · simp only [e, Int.reduceBEq, Bool.false_eq_true, if_false, if_true, var_loop h hr hk, rvar_loop h hr hk, Option.bind_some]
    by_cases e3 : (nd N k).N = 3
    · simp only [e3, beq_self_eq_true, if_true]; (first | exact ⟨_, rfl, rfl⟩ | exact okx _)
    · have e3' : ((nd N k).N == 3) = false := by simpa using e3
      simp only [e3', Bool.false_eq_true, if_false]; (first | exact ⟨_, rfl, rfl⟩ | exact okx _)
  · rw [e] at hcnt
    have : 0 < (kt N y.of_ k).length := by
      rw [hlen]; unfold cntB at hcnt; rw [show kidsS 14 = (2, 3) by decide +kernel] at hcnt; simp at hcnt; omega
    obtain ⟨a, r, hks⟩ : ∃ a r, kt N y.of_ k = a :: r := by
      match hm : kt N y.of_ k with
      | [] => rw [hm] at this; simp at this
      | a :: r => exact ⟨a, r, rfl⟩
    simp only [e, Int.reduceBEq, Bool.false_eq_true, if_false, if_true, kid_0 h hr hk hks, hks, idx_0, Option.bind_some, tscl, rscl]
    (first | exact ⟨_, rfl, rfl⟩ | exact okx _)
  · rw [e] at hcnt
    have := cnt_eq hcnt (c := 2) (by decide +kernel) (by decide)
    obtain ⟨a, b, hks⟩ := len_2 (l := kt N y.of_ k) (by omega)
    simp only [e, Int.reduceBEq, Bool.false_eq_true, if_false, if_true, kid_0 h hr hk hks, hks, idx_0, Option.bind_some, tscl, rscl]
    (first | exact ⟨_, rfl, rfl⟩ | exact okx _)
  · rw [e] at hcnt
    have := cnt_eq hcnt (c := 2) (by decide +kernel) (by decide)
    obtain ⟨a, b, hks⟩ := len_2 (l := kt N y.of_ k) (by omega)
    simp only [e, Int.reduceBEq, Bool.false_eq_true, if_false, if_true, kid_1 h hr hk hks, hks, idx_1, Option.bind_some, tscl, rscl]
    (first | exact ⟨_, rfl, rfl⟩ | exact okx _)
  · rw [e] at hcnt
    have h4 := cnt_eq hcnt (c := 4) (by decide +kernel) (by decide)
    obtain ⟨a, b, r, hks⟩ : ∃ a b r, kt N y.of_ k = a :: b :: r := by
      match hm : kt N y.of_ k with
      | [] => rw [hm] at hlen; simp at hlen; omega
      | [a] => rw [hm] at hlen; simp at hlen; omega
      | a :: b :: r => exact ⟨a, b, r, rfl⟩
    obtain ⟨c0, c1, c2⟩ := h.kid hk (i := 1) (by omega)
    have hk0 : idx (nd N k).Kids 1 = some (c0 : Int) := idx_get (i := 1) c1
    simp only [e, Int.reduceBEq, Bool.false_eq_true, if_false, if_true, kid_1 h hr hk hks, hks, idx_1, Option.bind_some, tscl, rscl, hk0, nd_idx (show c0 < N.length by omega), hr.t]
    cases scl b <;> (first | exact ⟨_, rfl, rfl⟩ | exact okx _)
  · rw [e] at hcnt
    have : 0 < (kt N y.of_ k).length := by
      rw [hlen]; unfold cntB at hcnt; rw [show kidsS 18 = (1, 1099511627776) by decide +kernel] at hcnt; simp at hcnt; omega
    obtain ⟨a, r, hks⟩ : ∃ a r, kt N y.of_ k = a :: r := by
      match hm : kt N y.of_ k with
      | [] => rw [hm] at this; simp at this
      | a :: r => exact ⟨a, r, rfl⟩
    simp only [e, Int.reduceBEq, Bool.false_eq_true, if_false, if_true, kid_0 h hr hk hks, hks, idx_0, Option.bind_some]
    (first | exact ⟨_, rfl, rfl⟩ | exact okx _)
  · rw [e] at hcnt
    have := cnt_eq hcnt (c := 1) (by decide +kernel) (by decide)
    obtain ⟨a, hks⟩ := len_1 (l := kt N y.of_ k) (by omega)
    simp only [e, Int.reduceBEq, Bool.false_eq_true, if_false, if_true, kid_0 h hr hk hks, hks, idx_0, Option.bind_some]
    (first | exact ⟨_, rfl, rfl⟩ | exact okx _)
  · simp only [e, Int.reduceBEq, Bool.false_eq_true, if_false, if_true, hr.lv]
    cases y.leave == 0 <;> (first | exact ⟨_, rfl, rfl⟩ | exact okx _)
  · simp only [e, Int.reduceBEq, Bool.false_eq_true, if_false, if_true, hr.lp]
    cases y.loops == 0 <;> (first | exact ⟨_, rfl, rfl⟩ | exact okx _)
  · simp only [e, Int.reduceBEq, Bool.false_eq_true, if_false, if_true, hlen, hr.tells]
    match hm : kt N y.of_ k with
    | [] =>
      rw [hm] at hlen
      simp only [← hlen, List.length_nil]
      cases y.fn.N == 0 <;> (first | exact ⟨_, rfl, rfl⟩ | exact okx _)
    | [a] =>
      rw [hm] at hlen
      simp only [← hlen, kid_0 h hr hk hm, List.length_cons, List.length_nil, idx_0, Option.bind_some, bne]
      cases y.fn.N == 0 <;> (first | exact ⟨_, rfl, rfl⟩ | exact okx _)
    | a :: b :: r =>
      rw [hm] at hlen
      have e0 : (((nd N k).Kids.length : Int) == 0) = false := by
        simp only [List.length_cons] at hlen
        rw [beq_eq_false_iff_ne]; omega
      have e1 : (((nd N k).Kids.length : Int) == 1) = false := by
        simp only [List.length_cons] at hlen
        rw [beq_eq_false_iff_ne]; omega
      simp only [e0, e1, Bool.false_eq_true, if_false, Option.bind_some]
      (first | exact ⟨_, rfl, rfl⟩ | exact okx _)
  · rcases e with e | e | e | e | e | e | e <;> simp only [e, Int.reduceBEq, Bool.false_eq_true, if_false, if_true] <;> (first | exact ⟨_, rfl, rfl⟩ | exact okx _)
end
end Go.Ab
namespace Go.Ab
open Go Go.Proofs
def TSim (N : Ns) (l : List Int) (y : XTypes_typer) (x : Option (XApi_Fault × XTypes_typer)) (w : Option XTurneryref1_Typing) : Prop :=
  ∃ e y' z', x = some (e, y') ∧ w = some z' ∧ ((e.Code ≠ 0 ∧ z'.Bad = e) ∨ (e = ⟨0, 0⟩ ∧ TR N l y' z' ∧ y'.loops = y.loops ∧ y'.leave = y.leave))
def Sm (y : XTypes_typer) (k : Nat) : Prop := 0 ≤ y.loops ∧ 0 ≤ y.leave ∧ y.loops + k ≤ 2000 ∧ y.leave + k ≤ 2000
def twalkP (N : Ns) (l : List Int) (k : Nat) : Prop := ∀ fp fr y z, k + 1 ≤ fp → k + 1 ≤ fr → TR N l y z → Sm y k → TSim N l y (types_typer_walk fp y (k : Int)) (ref1_Typing_look fr z ⟨N⟩ (k : Int))
noncomputable def lookF (N : Ns) (k : Nat) (z2 : XTurneryref1_Typing) : Option XTurneryref1_Typing :=
  (ref1_Expression (nd N k).Kind).bind fun x4 =>
    if x4 then
      ((ref1_Typing_expr z2 ⟨N⟩ (k : Int)).bind fun x5 =>
        if (decide (x5 < 0)) then ((ref1_fault 8 (k : Int)).bind fun x6 => some (XTurneryref1_Typing.mk z2.Names z2.Of z2.Tells z2.Loops z2.Leave x6))
        else ((idx z2.Of (k : Int)).bind fun _ => some (XTurneryref1_Typing.mk z2.Names (List.set z2.Of ((k : Int)).toNat x5) z2.Tells z2.Loops z2.Leave z2.Bad)))
    else ((ref1_Typing_statement z2 ⟨N⟩ (k : Int)).bind fun x8 =>
      if (x8 != 0) then ((ref1_fault x8 (k : Int)).bind fun x9 => ref1_Typing_look_J4 (XTurneryref1_Typing.mk z2.Names z2.Of z2.Tells z2.Loops z2.Leave x9))
      else (ref1_Typing_look_J4 (XTurneryref1_Typing.mk z2.Names z2.Of z2.Tells z2.Loops z2.Leave z2.Bad)))
section
variable {N : Ns} {l : List Int} {y : XTypes_typer} {z : XTurneryref1_Typing} {k : Nat}
theorem last_ok (h : Ctx N l) (hr : TR N l y z) (hk : k < N.length) : TSim N l y (types_typer_walk_J2 (k : Int) (nd N k) y) (lookF N k z) := by
  unfold types_typer_walk_J2 lookF
  rw [rexpr, aexpr, Option.bind_some, Option.bind_some]
  cases he : exprB (nd N k).Kind with
  | false =>
    obtain ⟨c, h1, h2⟩ := stmt_ok h hr hk he
    simp only [Bool.not_false, if_true, Bool.false_eq_true, if_false, h1, h2, Option.bind_some, cfault, rfault]
    by_cases hc : c = 0
    · subst hc
      exact ⟨_, _, _, rfl, rfl, .inr ⟨rfl, hr, rfl, rfl⟩⟩
    · have hc' : (c != 0) = true := by simpa using hc
      rw [hc']
      exact ⟨_, _, _, rfl, rfl, .inl ⟨hc, rfl⟩⟩
  | true =>
    obtain ⟨c, ok, h1, h2, h3⟩ := expr_ok h hr hk he
    simp only [Bool.not_true, Bool.false_eq_true, if_false, if_true, h1, h2, Option.bind_some, cfault, rfault]
    cases ok with
    | false =>
      simp only [Bool.not_false, if_true, Bool.false_eq_true, if_false, show decide ((-1 : Int) < 0) = true from rfl]
      exact ⟨_, _, _, rfl, rfl, .inl ⟨by simp, rfl⟩⟩
    | true =>
      have hc := h3 rfl
      have hc0 : decide (c < 0) = false := by have := hc.1; simp; omega
      have hko : k < y.of_.length := by rw [hr.olen]; exact hk
      simp only [Bool.not_true, Bool.false_eq_true, if_false, if_true, hc0, hr.of, idx_lt hko, Option.bind_some, Int.toNat_natCast]
      refine ⟨_, _, _, rfl, rfl, .inr ⟨rfl, ⟨hr.t, hr.names, hr.rnames, rfl, by simp [hr.olen], fun x hx => ?_, hr.tells, hr.lp, hr.lv, hr.bad⟩, rfl, rfl⟩⟩
      rcases List.mem_or_eq_of_mem_set hx with hx | rfl
      · exact hr.vals x hx
      · exact hc
theorem kids_sim (h : Ctx N l) (hk : k < N.length) (hw : ∀ c, c < k → twalkP N l c) {gp gr : Nat} (hgp : k ≤ gp) (hgr : k ≤ gr) (hr : TR N l y z) (hs : ∀ c, c < k → Sm y c) :
    ∃ x w, Loop (fun s : XTypes_typer × Int => types_typer_walk_L1 (types_typer_walk gp) (nd N k) s.1 s.2) (y, 0) = some x ∧ Loop (fun s : XTurneryref1_Typing × Int => ref1_Typing_look_L1 (ref1_Typing_look gr) ⟨N⟩ (nd N k) s.1 s.2) (z, 0) = some w ∧
      ((∃ e y', x = .ret (e, y') ∧ e.Code ≠ 0 ∧ w.Bad = e) ∨ ∃ y', x = .brk y' ∧ TR N l y' w ∧ y'.loops = y.loops ∧ y'.leave = y.leave) := by
  have hkl := kids_len h.hg hk
  have h6 := h.h6
  have loop : ∀ d t y1 z1, t + d = (nd N k).Kids.length → TR N l y1 z1 → y1.loops = y.loops → y1.leave = y.leave →
      ∃ x w, Loop (fun s : XTypes_typer × Int => types_typer_walk_L1 (types_typer_walk gp) (nd N k) s.1 s.2) (y1, (t : Int)) = some x ∧ Loop (fun s : XTurneryref1_Typing × Int => ref1_Typing_look_L1 (ref1_Typing_look gr) ⟨N⟩ (nd N k) s.1 s.2) (z1, (t : Int)) = some w ∧
      ((∃ e y', x = .ret (e, y') ∧ e.Code ≠ 0 ∧ w.Bad = e) ∨ ∃ y', x = .brk y' ∧ TR N l y' w ∧ y'.loops = y.loops ∧ y'.leave = y.leave) := by
    intro d
    induction d with
    | zero =>
      intro t y1 z1 ht h1 h2 h3
      simp only [Nat.add_zero] at ht; subst ht
      refine ⟨.brk y1, z1, ?_, ?_, .inr ⟨y1, rfl, h1, h2, h3⟩⟩
      · have : types_typer_walk_L1 (types_typer_walk gp) (nd N k) y1 ((nd N k).Kids.length : Int) = some (.out (.brk y1)) := by
          simp only [types_typer_walk_L1, lt_dec', Bool.false_eq_true, if_false]
        rw [Loop_eq, this]; rfl
      · have : ref1_Typing_look_L1 (ref1_Typing_look gr) ⟨N⟩ (nd N k) z1 ((nd N k).Kids.length : Int) = some (.out z1) := by
          simp only [ref1_Typing_look_L1, lt_dec', Bool.false_eq_true, if_false]
        rw [Loop_eq, this]; rfl
    | succ d ih =>
      intro t y1 z1 ht h1 h2 h3
      have htl : t < (nd N k).Kids.length := by omega
      have hw64 := w64_succ (show t < 9223372036854775807 by omega)
      obtain ⟨c, c1, c2⟩ := h.kid hk htl
      have hsc := hs c c2
      obtain ⟨e, y2, z2, g1, g2, g3⟩ := hw c c2 gp gr y1 z1 (by omega) (by omega) h1 (by unfold Sm at hsc ⊢; rw [h2, h3]; exact hsc)
      have rstep : ref1_Typing_look_L1 (ref1_Typing_look gr) ⟨N⟩ (nd N k) z1 (t : Int) = some (.next (z2, ((t + 1 : Nat) : Int))) := by
        simp only [ref1_Typing_look_L1, lt_dec htl, if_true, h1.bad, beq_self_eq_true, idx_get c1, Option.bind_some, g2, hw64]
      rcases g3 with ⟨g3, g4⟩ | ⟨rfl, g3, g4, g5⟩
      · refine ⟨.ret (e, y2), z2, ?_, ?_, .inl ⟨e, y2, rfl, g3, g4⟩⟩
        · have : types_typer_walk_L1 (types_typer_walk gp) (nd N k) y1 (t : Int) = some (.out (.ret (e, y2))) := by
            simp only [types_typer_walk_L1, lt_dec htl, if_true, idx_get c1, Option.bind_some, g1]
            simp [g3]
          rw [Loop_eq, this]; rfl
        · rw [Loop_eq, rstep]
          have hbad : (z2.Bad.Code == 0) = false := by rw [g4]; simpa using g3
          have : ref1_Typing_look_L1 (ref1_Typing_look gr) ⟨N⟩ (nd N k) z2 ((t + 1 : Nat) : Int) = some (.out z2) := by
            simp only [ref1_Typing_look_L1, hbad]
            cases decide (((t + 1 : Nat) : Int) < ((nd N k).Kids.length : Int)) <;> rfl
          show Loop _ (z2, ((t + 1 : Nat) : Int)) = _
          rw [Loop_eq, this]; rfl
      · obtain ⟨x, w, a1, a2, a3⟩ := ih (t + 1) y2 z2 (by omega) g3 (g4.trans h2) (g5.trans h3)
        refine ⟨x, w, ?_, ?_, a3⟩
        · have : types_typer_walk_L1 (types_typer_walk gp) (nd N k) y1 (t : Int) = some (.next (y2, ((t + 1 : Nat) : Int))) := by
            simp only [types_typer_walk_L1, lt_dec htl, if_true, idx_get c1, Option.bind_some, g1]
            simp [hw64]
          rw [Loop_eq, this]; exact a1
        · rw [Loop_eq, rstep]; exact a2
  exact loop (nd N k).Kids.length 0 y z (by omega) hr rfl rfl
def lpB (K : Int) : Bool := if (if (K == 15) then true else (K == 16)) then true else (K == 17)
theorem tail_ok (h : Ctx N l) (hk : k < N.length) (hw : ∀ c, c < k → twalkP N l c) {gp gr : Nat} (hgp : k ≤ gp) (hgr : k ≤ gr) {y0 : XTypes_typer} {z0 : XTurneryref1_Typing} (hr : TR N l y z) (hr0 : TR N l y0 z0) (hs : ∀ c, c < k → Sm y0 c)
    (hb : if lpB (nd N k).Kind then (w64 (y0.loops - 1) = y.loops ∧ w64 (y0.leave - 1) = y.leave) else if (nd N k).Kind == 18 then (y0.loops = y.loops ∧ w64 (y0.leave - 1) = y.leave) else (y0.loops = y.loops ∧ y0.leave = y.leave)) :
    TSim N l y (types_typer_walk_J1 (types_typer_walk gp) (k : Int) (nd N k) y0) (ref1_Typing_look_J3 (ref1_Typing_look gr) z ⟨N⟩ (k : Int) (nd N k) z0) := by
  obtain ⟨x, w, a1, a2, a3⟩ := kids_sim h hk hw hgp hgr hr0 hs
  unfold types_typer_walk_J1 ref1_Typing_look_J3
  rw [a1, a2, Option.bind_some, Option.bind_some]
  rcases a3 with ⟨e, y', rfl, he, hb'⟩ | ⟨y', rfl, b1, b2, b3⟩
  · have hbad : (w.Bad.Code != 0) = true := by rw [hb']; simpa using he
    simp only [Br.go, hbad, if_true]
    exact ⟨_, _, _, rfl, rfl, .inl ⟨he, hb'⟩⟩
  · have hbad : (w.Bad.Code != 0) = false := by rw [b1.bad]; rfl
    simp only [Br.go, hbad, Bool.false_eq_true, if_false]
    show TSim N l y (if lpB (nd N k).Kind = true then _ else _) (lookF N k ⟨w.Names, w.Of, w.Tells, z.Loops, z.Leave, w.Bad⟩)
    have fin : ∀ y2 : XTypes_typer, y2 = ⟨y'.t, y'.names, y'.of_, y'.fn, y.loops, y.leave⟩ → TSim N l y (types_typer_walk_J2 (k : Int) (nd N k) y2) (lookF N k ⟨w.Names, w.Of, w.Tells, z.Loops, z.Leave, w.Bad⟩) := by
      rintro _ rfl
      have : TR N l ⟨y'.t, y'.names, y'.of_, y'.fn, y.loops, y.leave⟩ ⟨w.Names, w.Of, w.Tells, z.Loops, z.Leave, w.Bad⟩ := ⟨b1.t, b1.names, b1.rnames, b1.of, b1.olen, b1.vals, b1.tells, hr.lp, hr.lv, b1.bad⟩
      exact last_ok h this hk
    cases hl : lpB (nd N k).Kind with
    | true =>
      rw [hl] at hb
      simp only [if_true] at hb ⊢
      refine fin _ ?_
      rw [b2, b3, hb.1, hb.2]
    | false =>
      rw [hl] at hb
      simp only [Bool.false_eq_true, if_false] at hb ⊢
      cases h18 : (nd N k).Kind == 18 with
      | true =>
        rw [h18] at hb
        simp only [if_true] at hb ⊢
        refine fin _ ?_
        rw [b2, b3, hb.1, hb.2]
      | false =>
        rw [h18] at hb
        simp only [Bool.false_eq_true, if_false] at hb ⊢
        refine fin _ ?_
        rw [← hb.1, ← hb.2, ← b2, ← b3]
theorem twalk_ok (h : Ctx N l) : ∀ k, k < N.length → twalkP N l k := by
  intro k
  induction k using Nat.strongRecOn with
  | ind k ih =>
    intro hk fp fr y z hfp hfr hr hs
    obtain ⟨gp, rfl⟩ : ∃ g, fp = g + 1 := ⟨fp - 1, by omega⟩
    obtain ⟨gr, rfl⟩ : ∃ g, fr = g + 1 := ⟨fr - 1, by omega⟩
    obtain ⟨s1, s2, s3, s4⟩ := hs
    have tl := fun {y0 : XTypes_typer} {z0 : XTurneryref1_Typing} => tail_ok (y := y) (z := z) (y0 := y0) (z0 := z0) h hk (fun c hc => ih c hc (by omega)) (gp := gp) (gr := gr) (by omega) (by omega) hr
    show TSim N l y (types_typer_walk_B (types_typer_walk gp) y (k : Int)) (ref1_Typing_look_B (ref1_Typing_look gr) z ⟨N⟩ (k : Int))
    unfold types_typer_walk_B ref1_Typing_look_B ref1_Typing_look_J1 ref1_Typing_look_J2
    rw [hr.t, nd_idx hk, Option.bind_some, Option.bind_some]
    have hLP : (if (if (nd N k).Kind == 15 then true else (nd N k).Kind == 16) then true else (nd N k).Kind == 17) = lpB (nd N k).Kind := rfl
    rw [hLP]
    by_cases h3 : (nd N k).Kind = 3
    · have e3 : ((nd N k).Kind == 3) = true := by simpa using h3
      have el : lpB (nd N k).Kind = false := by rw [h3]; rfl
      have e18 : ((nd N k).Kind == 18) = false := by rw [h3]; rfl
      simp only [e3, el, e18, if_true, Bool.false_eq_true, if_false]
      refine tl ⟨rfl, hr.names, hr.rnames, hr.of, hr.olen, hr.vals, rfl, hr.lp, hr.lv, hr.bad⟩ (fun c hc => ⟨s1, s2, by show y.loops + _ ≤ _; omega, by show y.leave + _ ≤ _; omega⟩) ?_
      rw [el, e18]
      exact ⟨rfl, rfl⟩
    · have e3 : ((nd N k).Kind == 3) = false := by simpa using h3
      simp only [e3, Bool.false_eq_true, if_false]
      cases el : lpB (nd N k).Kind with
      | true =>
        have e18 : ((nd N k).Kind == 18) = false := by
          by_cases e : (nd N k).Kind = 18
          · rw [e] at el; exact absurd el (by decide)
          · simpa using e
        simp only [e18, if_true, Bool.false_eq_true, if_false]
        refine tl ⟨rfl, hr.names, hr.rnames, hr.of, hr.olen, hr.vals, hr.tells, by simp only [hr.lp], by simp only [hr.lv], hr.bad⟩ (fun c hc => ?_) ?_
        · show 0 ≤ w64 (y.loops + 1) ∧ 0 ≤ w64 (y.leave + 1) ∧ w64 (y.loops + 1) + (c : Int) ≤ 2000 ∧ w64 (y.leave + 1) + (c : Int) ≤ 2000
          rw [w64_id (by omega) (by omega), w64_id (by omega) (by omega)]
          omega
        · rw [el]
          show w64 (w64 (y.loops + 1) - 1) = y.loops ∧ w64 (w64 (y.leave + 1) - 1) = y.leave
          rw [w64_id (n := y.loops + 1) (by omega) (by omega), w64_id (n := y.leave + 1) (by omega) (by omega), w64_id (by omega) (by omega), w64_id (by omega) (by omega)]
          omega
      | false =>
        simp only [Bool.false_eq_true, if_false]
        cases e18 : (nd N k).Kind == 18 with
        | true =>
          simp only [if_true]
          refine tl ⟨rfl, hr.names, hr.rnames, hr.of, hr.olen, hr.vals, hr.tells, hr.lp, by simp only [hr.lv], hr.bad⟩ (fun c hc => ?_) ?_
          · show 0 ≤ y.loops ∧ 0 ≤ w64 (y.leave + 1) ∧ y.loops + (c : Int) ≤ 2000 ∧ w64 (y.leave + 1) + (c : Int) ≤ 2000
            rw [w64_id (by omega) (by omega)]
            omega
          · rw [el, e18]
            show y.loops = y.loops ∧ w64 (w64 (y.leave + 1) - 1) = y.leave
            rw [w64_id (n := y.leave + 1) (by omega) (by omega), w64_id (by omega) (by omega)]
            omega
        | false =>
          simp only [Bool.false_eq_true, if_false]
          refine tl hr (fun c hc => ⟨s1, s2, by omega, by omega⟩) ?_
          rw [el, e18]
          exact ⟨rfl, rfl⟩
end
end Go.Ab
namespace Go.Ab
open Go Go.Proofs
section
variable {N : Ns} {l : List Int}
theorem main_ok (x3 : XApi_Fault × XTypes_typer) {root : Nat} (hroot : root + 1 = N.length) (hg : GoodTo N N.length) (h6 : N.length ≤ 600) {ys : List (Int × XApi_Node)} (hys : kidsGo N 0 (nd N root).Kids = some ys) :
    ∀ d t, t + d = (nd N root).Kids.length →
      ∃ x w, RangeL (fun (y21 : Int × XApi_Node) (_ : Unit) => types_Of_R1 ⟨N⟩ x3 y21) (ys.drop t) () = some x ∧ Loop (fun s : Int => ref1_Main_L1 ⟨N⟩ (nd N root) s) (t : Int) = some w ∧
        ((x = .go () ∧ w = .brk ()) ∨ ∃ c : Nat, c < N.length ∧ w = .ret (c : Int) ∧ ((1 < (nd N c).Kids.length ∧ ∃ v, x = .ret (.inl v) ∧ v.2.1 = 5 ∧ v.2.2.1 = (c : Int)) ∨ (¬ 1 < (nd N c).Kids.length ∧ ∃ v, x = .ret (.inr v) ∧ v.2.1 = x3.2.of_))) := by
  obtain ⟨gl, gg⟩ := kidsGo_get hys
  have hkl := kids_len hg (show root < N.length by omega)
  obtain ⟨_, _, _, _, _, _, hkk⟩ := good_facts hg root (show root < N.length by omega)
  have hrt : idx N (w64 ((N.length : Int) - 1)) = some (nd N root) := by
    rw [w64_id (by omega) (by omega), show (N.length : Int) - 1 = (root : Int) by omega, nd_idx (by omega)]
  intro d
  induction d with
  | zero =>
    intro t ht
    simp only [Nat.add_zero] at ht; subst ht
    refine ⟨.go (), .brk (), ?_, ?_, .inl ⟨rfl, rfl⟩⟩
    · rw [List.drop_of_length_le (by omega)]; rfl
    · have : ref1_Main_L1 ⟨N⟩ (nd N root) ((nd N root).Kids.length : Int) = some (.out (.brk ())) := by
        simp only [ref1_Main_L1, lt_dec', Bool.false_eq_true, if_false]
      rw [Loop_eq, this]; rfl
  | succ d ih =>
    intro t ht
    have htl : t < (nd N root).Kids.length := by omega
    obtain ⟨c, q1, q2, q3⟩ := hkk t htl
    have hc : c < N.length := by omega
    have hki : (nd N root).Kids[t]? = some (c : Int) := by
      rw [← q1]; simp [htl]
    obtain ⟨n, g1, g2⟩ := gg t _ hki
    rw [nd_idx hc] at g1
    simp only [Option.some.injEq] at g1; subst g1
    rw [Nat.zero_add] at g2
    have hdrop : ys.drop t = ((t : Int), nd N c) :: ys.drop (t + 1) := by
      rw [List.drop_eq_getElem_cons (by omega)]
      congr 1
      rw [List.getElem?_eq_getElem (by omega)] at g2
      exact Option.some.inj g2
    rw [hdrop, RangeL]
    have hL : ref1_Main_L1 ⟨N⟩ (nd N root) (t : Int) = if (if ((nd N c).Kind == 3) = true then ((nd N c).Text.toList == (ByteArray.mk #[109, 97, 105, 110]).toList) else false) = true then some (.out (.ret (c : Int))) else some (.next ((t + 1 : Nat) : Int)) := by
      simp only [ref1_Main_L1, lt_dec htl, if_true, idx_get hki, Option.bind_some, nd_idx hc, w64_succ (show t < 9223372036854775807 by omega)]
      cases (nd N c).Kind == 3 <;> rfl
    cases hm : (if ((nd N c).Kind == 3) = true then ((nd N c).Text.toList == (ByteArray.mk #[109, 97, 105, 110]).toList) else false) with
    | true =>
      rw [hm, if_pos rfl] at hL
      have hL' : Loop (fun s : Int => ref1_Main_L1 ⟨N⟩ (nd N root) s) (t : Int) = some (.ret (c : Int)) := by rw [Loop_eq, hL]; rfl
      by_cases hkc : 1 < (nd N c).Kids.length
      · have hkc' : decide ((1 : Int) < ((nd N c).Kids.length : Int)) = true := by simp; omega
        refine ⟨.ret (.inl (⟨N⟩, 5, (c : Int), x3.2.t.Nodes, x3.2.names, x3.2.of_, x3.2.fn.Kind, x3.2.fn.Text, x3.2.fn.N, x3.2.fn.Size, x3.2.fn.Kids, x3.2.fn.At, x3.2.loops, x3.2.leave)), _, ?_, hL', .inr ⟨c, hc, rfl, .inl ⟨hkc, _, rfl, rfl, rfl⟩⟩⟩
        simp only [types_Of_R1, hm, if_true, hkc', hrt, Option.bind_some, idx_get hki, cfault]
      · have hkc' : decide ((1 : Int) < ((nd N c).Kids.length : Int)) = false := by simp; omega
        refine ⟨.ret (.inr (⟨N⟩, x3.2.of_, x3.2.t.Nodes, x3.2.names, x3.2.fn.Kind, x3.2.fn.Text, x3.2.fn.N, x3.2.fn.Size, x3.2.fn.Kids, x3.2.fn.At, x3.2.loops, x3.2.leave)), _, ?_, hL', .inr ⟨c, hc, rfl, .inr ⟨hkc, _, rfl, rfl⟩⟩⟩
        simp only [types_Of_R1, hm, if_true, hkc', Bool.false_eq_true, if_false, Option.bind_some]
    | false =>
      rw [hm, if_neg (by simp)] at hL
      obtain ⟨x, w, a1, a2, a3⟩ := ih (t + 1) (by omega)
      refine ⟨x, w, ?_, ?_, a3⟩
      · simp only [types_Of_R1, hm, Bool.false_eq_true, if_false, Option.bind_some]
        exact a1
      · rw [Loop_eq, hL]; exact a2
theorem types_ok (hN : TrOk N) (hK : TrKids N) {fu : Nat} (hf : 3 * N.length ≤ fu) : ∃ l e, types_Of fu ⟨N⟩ = some (l, e) ∧ ref1_Types fu ⟨N⟩ = some (l, e) ∧ l.length ≤ N.length ∧ (e.Code = 0 → e = ⟨0, 0⟩ ∧ Whole N ∧ (nd N (N.length - 1)).Kind = 1 ∧ l.length = N.length ∧ ∀ x ∈ l, Tyv x) := by
  obtain ⟨l, e, h1, h2, h3, h4⟩ := names_ok hN hK hf
  unfold types_Of ref1_Types
  rw [h1, h2, Option.bind_some, Option.bind_some]
  by_cases hc : e.Code = 0
  · obtain ⟨rfl, ⟨w1, w6, hg, w3, w4⟩, hk1, hl, hnm⟩ := h4 hc
    obtain ⟨root, hroot⟩ : ∃ root, root + 1 = N.length := ⟨N.length - 1, by omega⟩
    have hrN : root < N.length := by omega
    have hrt : idx N (w64 ((N.length : Int) - 1)) = some (nd N root) := by
      rw [w64_id (by omega) (by omega), show (N.length : Int) - 1 = (root : Int) by omega, nd_idx (by omega)]
    have hw : w64 ((N.length : Int) - 1) = (root : Int) := by rw [w64_id (by omega) (by omega)]; omega
    have hmk : mks (N.length : Int) (0 : Int) = some (List.replicate N.length 0) := by
      unfold mks; rw [if_pos ⟨by omega, by omega⟩]; simp
    have hctx : Ctx N l := ⟨hg, w6, hN, hl, hnm⟩
    have hrel : TR N l ⟨⟨N⟩, l, List.replicate N.length 0, ⟨0, ByteArray.mk #[], 0, 0, [], 0⟩, 0, 0⟩ ⟨l, List.replicate N.length 0, 0, 0, 0, ⟨0, 0⟩⟩ :=
      ⟨rfl, rfl, rfl, rfl, by simp, fun x hx => by rw [(List.mem_replicate.1 hx).2]; unfold Tyv; omega, rfl, rfl, rfl, rfl⟩
    obtain ⟨e, y', z', a1, a2, a3⟩ := twalk_ok hctx root hrN fu fu _ _ (by omega) (by omega) hrel ⟨Int.le_refl _, Int.le_refl _, by show (0 : Int) + _ ≤ _; omega, by show (0 : Int) + _ ≤ _; omega⟩
    simp only [beq_self_eq_true, Bool.and_self, Bool.not_true, Bool.false_eq_true, if_false, bne_self_eq_false, hmk, Option.bind_some, hw, a1, a2]
    rcases a3 with ⟨b1, b2⟩ | ⟨rfl, b1, b2, b3⟩
    · have hb : (z'.Bad.Code != 0) = true := by rw [b2]; simpa using b1
      rw [hb, b2]
      exact ⟨[], e, by simp [b1], rfl, by simp, fun h => absurd h b1⟩
    · have hb : (z'.Bad.Code != 0) = false := by rw [b1.bad]; rfl
      rw [hb]
      obtain ⟨ys, hys⟩ := kidsGo_ok (nodes := N) (l := (nd N root).Kids) (j := 0) fun x hx => by
        obtain ⟨t, ht, rfl⟩ := List.mem_iff_getElem.1 hx
        obtain ⟨_, _, _, _, _, _, hkk⟩ := good_facts hg root hrN
        obtain ⟨c, c1, c2, c3⟩ := hkk t ht
        refine ⟨nd N c, ?_⟩
        rw [show (nd N root).Kids[t] = (c : Int) by rw [← c1]; simp [ht], nd_idx (by omega)]
      have hkl := kids_len hg hrN
      have hko : kidsOf XApi_Node.Kids N (root : Int) = some ys := by
        unfold kidsOf; rw [nd_idx hrN, Option.bind_some, if_pos (by omega)]; exact hys
      have hast : ast_Kids ⟨N⟩ (root : Int) = some (⟨N⟩, (root : Int)) := rfl
      obtain ⟨x, w, d1, d2, d3⟩ := main_ok (⟨0, 0⟩, y') hroot hg w6 hys (nd N root).Kids.length 0 (by omega)
      have d1' : RangeL (fun (y21 : Int × XApi_Node) (_ : Unit) => types_Of_R1 ⟨N⟩ (⟨0, 0⟩, y') y21) ys () = some x := d1
      have d2' : Loop (fun s : Int => ref1_Main_L1 ⟨N⟩ (nd N root) s) 0 = some w := d2
      have hmain : ref1_Main ⟨N⟩ = (some w).bind (Br.go (fun _ => some (-1)) (fun r1 => some r1)) := by
        unfold ref1_Main
        rw [hrt, Option.bind_some, d2']
      simp only [beq_self_eq_true, Bool.and_self, Bool.not_true, Bool.false_eq_true, if_false, hast, hko, Option.bind_some, d1', hmain, cfault, rfault]
      rcases d3 with ⟨rfl, rfl⟩ | ⟨c, hcN, rfl, d3⟩
      · exact ⟨[], ⟨6, 0⟩, rfl, rfl, by simp, fun h => absurd h (by simp)⟩
      · have hc0 : decide ((c : Int) < 0) = false := by simp
        simp only [Br.go, Option.bind_some, hc0, Bool.false_eq_true, if_false, nd_idx hcN]
        rcases d3 with ⟨d3, v, rfl, v1, v2⟩ | ⟨d3, v, rfl, v1⟩
        · have hkc' : decide ((1 : Int) < ((nd N c).Kids.length : Int)) = true := by simp; omega
          simp only [hkc', if_true, Rg.on, Sum.elim_inl, v1, v2]
          exact ⟨[], ⟨5, c⟩, rfl, rfl, by simp, fun h => absurd h (by simp)⟩
        · have hkc' : decide ((1 : Int) < ((nd N c).Kids.length : Int)) = false := by simp; omega
          simp only [hkc', Bool.false_eq_true, if_false, Rg.on, Sum.elim_inr, v1, b1.of]
          exact ⟨y'.of_, ⟨0, 0⟩, rfl, rfl, by rw [b1.olen]; exact Nat.le_refl _, fun _ => ⟨rfl, ⟨w1, w6, hg, w3, w4⟩, hk1, b1.olen, b1.vals⟩⟩
  · have hc' : (e.Code != 0) = true := by simpa using hc
    rw [hc']
    exact ⟨[], e, by simp [hc], rfl, by simp, fun h => absurd h hc⟩
theorem typesSays_true (t : XApi_Tree) (hN : TrOk t.Nodes) (hK : TrKids t.Nodes) : law1_TypesSays (3 * t.Nodes.length) t = some true := by
  obtain ⟨N⟩ := t
  unfold law1_TypesSays
  simp only at hN hK ⊢
  by_cases h : 700 < N.length
  · rw [if_pos (by simp only [decide_eq_true_eq]; omega)]
  · rw [if_neg (by simp only [decide_eq_true_eq]; omega)]
    obtain ⟨l, e, h1, h2, h3, _⟩ := types_ok hN hK (Nat.le_refl _)
    rw [h1, h2, Option.bind_some, Option.bind_some]
    simp only [beq_self_eq_true, Bool.and_self, if_true, sints_refl (show l.length ≤ 1000000 by omega), Option.bind_some]
end
end Go.Ab
