/-
  PLAIN LAWS: Size, Ahead; the law CodeSays.
-/
import Derived.Test.YtbgakafgplbbnaaDoorAbLaw7
namespace Go.Ab
open Go Go.Proofs

theorem findI_some {α ρ : Type} {g : Nat → α → Option ρ} {r : ρ} : ∀ {l : List α} {i : Nat}, findI g i l = some r → ∃ j, ∃ h : j < l.length, g (i + j) l[j] = some r
  | [], _, h => by simp [findI] at h
  | x :: l, i, hf => by
    simp only [findI] at hf
    cases hg : g i x with
    | some r' => rw [hg] at hf; exact ⟨0, by simp, by simpa [hg] using hf⟩
    | none =>
      rw [hg] at hf
      obtain ⟨j, h, hj⟩ := findI_some hf
      refine ⟨j + 1, by simpa using h, ?_⟩
      rw [show i + (j + 1) = i + 1 + j by omega]
      simpa using hj
theorem globE_code {u : XApi_Unit} {e : XApi_Fault} (h : globE u = some e) : e.Code ≠ 0 := by
  unfold globE at h
  have key : ∀ (l : List XApi_Global) (i : Nat) (w : Int), run (fun i (words : Int) (g : XApi_Global) => if globC (nmG u i) words g != 0 then .inl (some (XApi_Fault.mk (globC (nmG u i) words g) i)) else .inr (w64 (words + g.Size))) (fun _ => none) i w l = some e → e.Code ≠ 0 := by
    intro l
    induction l with
    | nil => intro i w h; simp [run] at h
    | cons g l ih =>
      intro i w h
      simp only [run] at h
      by_cases hz : globC (nmG u i) w g = 0
      · simp [hz] at h; exact ih _ _ (by simpa using h)
      · simp [hz] at h; rw [← h]; exact hz
  exact key _ _ _ h
theorem headE_code {u : XApi_Unit} {e : XApi_Fault} (h : headE u = some e) : e.Code ≠ 0 := by
  obtain ⟨j, hj, he⟩ := findI_some h
  split at he
  · rename_i hz
    simp only [Option.some.injEq] at he
    rw [← he]; simpa using hz
  · cases he
theorem bodyE_code {u : XApi_Unit} {e : XApi_Fault} (h : bodyE u = some e) : e.Code ≠ 0 := by
  obtain ⟨j, hj, he⟩ := findI_some h
  split at he
  · rename_i hz
    simp only [Option.some.injEq] at he
    rw [← he]; simpa using hz
  · cases he
/-- Of a unit that is well. -/
structure Well (u : XApi_Unit) : Prop where
  eq : chk u = ⟨0, 0⟩
  ten : u.Globals.length ≤ 10 ∧ u.Funcs.length ≤ 10
  glob : globE u = none
  head : headE u = none
  body : bodyE u = none
theorem chk_code (u : XApi_Unit) (h : (chk u).Code = 0) : Well u := by
  have h' := h
  unfold chk at h
  split at h
  · simp at h
  · rename_i hten
    have h10 : u.Globals.length ≤ 10 ∧ u.Funcs.length ≤ 10 := by
      simp only [Bool.or_eq_true, decide_eq_true_eq, not_or] at hten; omega
    cases h1 : globE u with
    | some e => rw [h1] at h; exact absurd h (globE_code h1)
    | none =>
      cases h2 : headE u with
      | some e => rw [h1, h2] at h; exact absurd h (headE_code h2)
      | none =>
        cases h3 : bodyE u with
        | some e => rw [h1, h2, h3] at h; exact absurd h (bodyE_code h3)
        | none =>
          rw [h1, h2, h3] at h
          refine ⟨?_, h10, h1, h2, h3⟩
          unfold chk
          rw [if_neg hten, h1, h2, h3]
          simp only at h ⊢
          unfold mainE at h ⊢
          split at h
          · simp at h
          · rename_i hneg
            rw [if_neg hneg]
            split at h
            · split at h
              · simp at h
              · rename_i hp; rw [if_neg hp]
            · rfl
theorem Well.toOk {u : XApi_Unit} (h : Well u) : ∀ f ∈ u.Funcs, ToOk f := by
  intro f hf
  have h1 := heads_ok h.head f hf
  refine toOk_of h1 ?_
  obtain ⟨i, hi, rfl⟩ := List.getElem_of_mem hf
  have := findI_none_get h.body i hi
  by_cases hz : bodyC u u.Funcs[i] = 0
  · unfold bodyC at hz
    by_cases he : firstE (fun b => endC u.Funcs[i] b.End) u.Funcs[i].Blocks = 0
    · exact he
    · simp [he] at hz
  · simp [hz] at this

/-! ### Size -/
def insS (l : List XApi_Block) : Int := (l.map fun b => (b.Phis.length : Int) + (b.List.length : Int)).sum
theorem insF_w64 : ∀ (l : List XApi_Block) (a : Int), insF (w64 a) l = w64 (a + insS l)
  | [], a => by simp [insF, insS]
  | b :: l, a => by
    have ih := insF_w64 l (a + ((b.Phis.length : Int) + (b.List.length : Int)))
    simp only [insF, w64_add]
    rw [ih]
    simp only [insS, List.map_cons, List.sum_cons]
    congr 1
    omega
theorem w64_0 : w64 0 = 0 := w64_id (by omega) (by omega)
theorem insF_0 (l : List XApi_Block) : insF 0 l = w64 (insS l) := by
  have := insF_w64 l 0
  rw [w64_0] at this
  simpa using this
def sums (u : XApi_Unit) : Int × Int := (w64 ((u.Funcs.map fun f => (f.Blocks.length : Int)).sum), w64 ((u.Funcs.map fun f => insS f.Blocks).sum))
theorem sums_run {τ : Type} (e : Int × Int → τ) : ∀ (l : List XApi_Func) (i : Nat) (s : Int × Int), run (fun _ (s : Int × Int) (f : XApi_Func) => (.inr (s.1 + (f.Blocks.length : Int), s.2 + insS f.Blocks) : τ ⊕ (Int × Int))) e i s l = e (s.1 + (l.map fun f => (f.Blocks.length : Int)).sum, s.2 + (l.map fun f => insS f.Blocks).sum)
  | [], i, s => by simp [run]
  | f :: l, i, s => by
    rw [run]
    refine (sums_run e l (i + 1) _).trans ?_
    simp only [List.map_cons, List.sum_cons, Int.add_assoc]
theorem csize_in (f : XApi_Func) (T : Int) (z : XApi_Fault) (hf : f.Blocks.length ≤ maxLen) : Loop (fun (s : Int × XApi_Fault × Int) => code_Size_L2 f s.1 s.2.1 s.2.2) (w64 T, z, 0) = some (w64 (T + insS f.Blocks), z) := by
  have hm := maxLen_big
  have := Loop_run (l := f.Blocks) (τ := Int × XApi_Fault) (S := Int × XApi_Fault × Int) (fun s i => (s, z, i)) (fun _ n b => .inr (w64 (n + ((b.Phis.length : Int) + (b.List.length : Int))))) (fun n => (n, z)) (fun _ _ => True) (step := fun s => code_Size_L2 f s.1 s.2.1 s.2.2)
    (fun i n h _ => by
      refine ⟨?_, trivial⟩
      unfold code_Size_L2
      simp only [lt_dec h, if_true, idx_lt h, Option.bind_some, w64_succ (i := i) (by omega), w64_add']) (fun n _ => by
      unfold code_Size_L2; simp only [lt_dec']; rfl) (s0 := w64 T) trivial
  rw [this, ← insF_w64]
  congr 1
  have key : ∀ (l : List XApi_Block) (i : Nat) (n : Int), run (fun _ n (b : XApi_Block) => (.inr (w64 (n + ((b.Phis.length : Int) + (b.List.length : Int)))) : (Int × XApi_Fault) ⊕ Int)) (fun n => (n, z)) i n l = (insF n l, z) := by
    intro l
    induction l with
    | nil => intro i n; rfl
    | cons b l ih => intro i n; exact ih (i + 1) _
  exact key _ _ _
theorem csize_eq (u : XApi_Unit) (hu : UOk u) : code_Size u = some (if (chk u).Code = 0 then ((sums u).1, (sums u).2, ⟨0, 0⟩) else (0, 0, chk u)) := by
  have hm := maxLen_big
  obtain ⟨h1, h2, h3, h4⟩ := id hu
  unfold code_Size
  simp only [cCheck_eq u hu, Option.bind_some, Bool.and_true]
  by_cases hc : (chk u).Code = 0
  · have hw := chk_code u hc
    rw [if_pos hc, hw.eq]
    simp only [beq_self_eq_true, Bool.and_self, Bool.not_true, Bool.false_eq_true, if_false]
    have := Loop_run (l := u.Funcs) (τ := Int × Int × XApi_Fault) (S := Int × Int × XApi_Fault × Int) (fun (s : Int × Int) i => (w64 s.1, w64 s.2, XApi_Fault.mk 0 0, i)) (fun _ s f => .inr (s.1 + (f.Blocks.length : Int), s.2 + insS f.Blocks)) (fun s => (w64 s.1, w64 s.2, XApi_Fault.mk 0 0)) (fun _ _ => True) (step := fun s => code_Size_L1 u s.1 s.2.1 s.2.2.1 s.2.2.2)
      (fun i s h _ => by
        have hmem : u.Funcs[i] ∈ u.Funcs := List.getElem_mem _
        refine ⟨?_, trivial⟩
        unfold code_Size_L1
        simp only [lt_dec h, if_true, idx_lt h, Option.bind_some, csize_in u.Funcs[i] _ _ (h4 _ hmem).1, w64_succ (i := i) (by omega), w64_add]) (fun s _ => by
        unfold code_Size_L1; simp only [lt_dec']; rfl) (s0 := ((0, 0) : Int × Int)) trivial
    simp only [w64_0] at this
    rw [this, sums_run]
    simp [sums]
  · have : ((chk u).Code == 0) = false := by simpa using hc
    simp [this, hc]

/-! ### Ahead -/
theorem cAhead_eq (u : XApi_Unit) (k : Int) (hu : UOk u) : code_Ahead u k = some (if (chk u).Code = 0 then (match (if inb k 0 (w64 ((u.Funcs.length : Int) - 1)) then idx u.Funcs k else none) with
    | some f => ((List.range f.Blocks.length).map fun k : Nat => ahS (k : Int) 0 f.Blocks, ⟨0, 0⟩) | none => ([], ⟨3, -1⟩)) else ([], chk u)) := by
  obtain ⟨h1, h2, h3, h4⟩ := id hu
  unfold code_Ahead
  simp only [cCheck_eq u hu, Option.bind_some, Bool.and_true]
  by_cases hc : (chk u).Code = 0
  · have hw := chk_code u hc
    rw [if_pos hc, hw.eq]
    simp only [beq_self_eq_true, Bool.and_self, Bool.not_true, Bool.false_eq_true, if_false, cin, Option.bind_some, cfault]
    by_cases hk : inb k 0 (w64 ((u.Funcs.length : Int) - 1)) = true
    · obtain ⟨f, hf, hmem⟩ := idx_in h2 hk
      simp only [hk, Bool.not_true, Bool.false_eq_true, if_false, if_true, hf, Option.bind_some, cahead_eq f (hw.toOk f hmem)]
    · simp [hk]
  · have : ((chk u).Code == 0) = false := by simpa using hc
    simp [this, hc]

theorem ints_refl (a : List Int) (h : a.length ≤ maxLen) : turnerysame_Ints a a = some true := by
  have hm := maxLen_big
  unfold turnerysame_Ints
  have e : Loop (fun s => turnerysame_Ints_L1 a a s) 0 = some (brOf (findI (fun _ (_ : Int) => none) 0 a)) := by
    refine Loop_find (l := a) _ (fun i h => ?_) ?_
    · unfold turnerysame_Ints_L1
      simp only [lt_dec h, if_true, idx_lt h, Option.bind_some, w64_succ (i := i) (by omega)]
      simp
    · unfold turnerysame_Ints_L1; simp only [lt_dec']; rfl
  rw [e, findI_none (fun _ _ _ => rfl)]
  simp [brOf]
theorem ahS_len {f : XApi_Func} (h : ToOk f) (k : Int) : (ahS k 0 f.Blocks).length ≤ maxLen := by
  have hm := maxLen_big
  obtain ⟨h1, h2⟩ := h
  have key : ∀ (l : List XApi_Block) (i : Nat), (∀ b ∈ l, b.End.To.length ≤ 2) → (ahS k i l).length ≤ 2 * l.length := by
    intro l
    induction l with
    | nil => intro i _; simp [ahS]
    | cons b l ih =>
      intro i hb
      have := ih (i + 1) fun b hb' => hb b (by simp [hb'])
      have := ah1_len k (i : Int) b.End.To
      have := hb b (by simp)
      simp only [ahS, List.length_append, List.length_cons]; omega
  have := key f.Blocks 0 fun b hb => (h2 b hb).1
  omega
theorem vast_some (u : XApi_Unit) (hu : UOk u) : ∃ b, turnerylaw2_vast u = some b := by
  have hm := maxLen_big
  obtain ⟨h1, h2, h3, h4⟩ := id hu
  unfold turnerylaw2_vast
  have e : Loop (fun s => turnerylaw2_vast_L1 u s) 0 = some (brOf (findI (fun _ (f : XApi_Func) => if decide (100 < (f.Blocks.length : Int)) || decide (700 < insF 0 f.Blocks) then some true else none) 0 u.Funcs)) := by
    refine Loop_find (l := u.Funcs) _ (fun i h => ?_) ?_
    · have hmem : u.Funcs[i] ∈ u.Funcs := List.getElem_mem _
      unfold turnerylaw2_vast_L1
      simp only [lt_dec h, if_true, idx_lt h, Option.bind_some, rIns_eq u.Funcs[i] (h4 _ hmem).1, bor, w64_succ (i := i) (by omega)]
      cases (decide (100 < (u.Funcs[i].Blocks.length : Int)) || decide (700 < insF 0 u.Funcs[i].Blocks)) <;> rfl
    · unfold turnerylaw2_vast_L1; simp only [lt_dec']; rfl
  rw [e]
  cases findI (fun _ (f : XApi_Func) => if decide (100 < (f.Blocks.length : Int)) || decide (700 < insF 0 f.Blocks) then some true else none) 0 u.Funcs with
  | some r => exact ⟨r, rfl⟩
  | none => exact ⟨_, rfl⟩

/-- THE LAW. -/
theorem codeSays_true (u : XApi_Unit) (k : Int) (hu : UOk u) : turnerylaw2_CodeSays u k = some true := by
  have hm := maxLen_big
  obtain ⟨h1, h2, h3, h4⟩ := id hu
  obtain ⟨b, hb⟩ := vast_some u hu
  unfold turnerylaw2_CodeSays
  rw [hb, Option.bind_some]
  cases b with
  | true => rfl
  | false =>
    simp only [Bool.false_eq_true, if_false, rUnit_eq u hu, csize_eq u hu, cAhead_eq u k hu, cCheck_eq u hu, Option.bind_some, Bool.and_true, beq_self_eq_true, Bool.and_self, Bool.not_true]
    by_cases hc : (chk u).Code = 0
    · have hw := chk_code u hc
      simp only [hw.eq, if_true, bne_self_eq_false, beq_self_eq_true, Bool.and_self, Bool.not_true, Bool.false_eq_true, if_false]
      have := Loop_run (l := u.Funcs) (τ := Int × Int) (S := Int × Int × Int) (fun (s : Int × Int) i => (w64 s.1, w64 s.2, i)) (fun _ s f => .inr (s.1 + (f.Blocks.length : Int), s.2 + insS f.Blocks)) (fun s => (w64 s.1, w64 s.2)) (fun _ _ => True) (step := fun s => turnerylaw2_CodeSays_L1 u s.1 s.2.1 s.2.2)
        (fun i s h _ => by
          have hmem : u.Funcs[i] ∈ u.Funcs := List.getElem_mem _
          refine ⟨?_, trivial⟩
          unfold turnerylaw2_CodeSays_L1
          simp only [lt_dec h, if_true, idx_lt h, Option.bind_some, rIns_eq u.Funcs[i] (h4 _ hmem).1, insF_0, w64_succ (i := i) (by omega), w64_add, w64_add']) (fun s _ => by
          unfold turnerylaw2_CodeSays_L1; simp only [lt_dec']; rfl) (s0 := ((0, 0) : Int × Int)) trivial
      simp only [w64_0] at this
      rw [this, sums_run, Option.bind_some]
      simp only [sums, Int.zero_add, bne_self_eq_false, Bool.false_eq_true, if_false, lin2, Option.bind_some, sfault]
      by_cases hk : inb k 0 (w64 ((u.Funcs.length : Int) - 1)) = true
      · obtain ⟨f, hf, hmem⟩ := idx_in h2 hk
        have hto := hw.toOk f hmem
        simp only [hk, Bool.not_true, Bool.false_eq_true, if_false, if_true, hf, Option.bind_some, bne_self_eq_false, List.length_map, List.length_range]
        have e : Loop (fun s => turnerylaw2_CodeSays_L2 u k ((List.range f.Blocks.length).map fun k : Nat => ahS (k : Int) 0 f.Blocks, XApi_Fault.mk 0 0) s) 0 = some (brOf (findI (fun _ (_ : List Int) => (none : Option Bool)) 0 ((List.range f.Blocks.length).map fun k : Nat => ahS (k : Int) 0 f.Blocks))) := by
          refine Loop_find (l := (List.range f.Blocks.length).map fun k : Nat => ahS (k : Int) 0 f.Blocks) _ (fun i h => ?_) ?_
          · have h40 := hto.1
            have hi : i < f.Blocks.length := by simpa using h
            unfold turnerylaw2_CodeSays_L2
            simp only [lt_dec h, if_true, idx_lt h, hf, Option.bind_some, rahead_eq f _ hto, List.getElem_map, List.getElem_range, ints_refl _ (ahS_len hto _), w64_succ (i := i) (by omega)]
            rfl
          · unfold turnerylaw2_CodeSays_L2; simp only [lt_dec']; rfl
        rw [e, findI_none (fun _ _ _ => rfl)]
        rfl
      · simp [hk]
    · have : ((chk u).Code != 0) = true := by simpa using hc
      simp [hc]
end Go.Ab
