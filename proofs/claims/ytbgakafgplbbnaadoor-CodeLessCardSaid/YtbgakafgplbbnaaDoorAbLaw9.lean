/-
  PLAIN LAWS: the law CodeAhead.
-/
import Derived.Test.YtbgakafgplbbnaaDoorAbLaw8
namespace Go.Ab
open Go Go.Proofs

theorem small_ok : UOk smallU := by
  refine ⟨by decide, by decide, by simp [smallU], fun f hf => ?_⟩
  simp only [smallU, List.mem_singleton] at hf
  subst hf
  refine ⟨by decide, fun b hb => ?_⟩
  simp only [List.mem_singleton] at hb
  subst hb
  exact ⟨by decide, by decide, by decide, by simp, by simp⟩
theorem none_ok : UOk ⟨[], []⟩ := ⟨by decide, by decide, by simp, by simp⟩
theorem fact_eq : turnerylaw2_codeFact = some true := by
  have h1 : chk smallU = ⟨0, 0⟩ := by decide +kernel
  have h2 : sums smallU = (1, 1) := by decide +kernel
  have h3 : chk ⟨[], []⟩ = ⟨6, 0⟩ := by decide +kernel
  unfold turnerylaw2_codeFact turnerylaw2_small
  simp only [Option.bind_some, csize_eq smallU small_ok, cAhead_eq smallU 0 small_ok, cCheck_eq _ none_ok, h1, h2, h3]
  decide +kernel

theorem ah1_mem {k i x : Int} {l : List Int} (h : x ∈ ah1 k i l) : x = i ∧ k ∈ l := by
  unfold ah1 at h
  simp only [List.mem_map, List.mem_filter, beq_iff_eq] at h
  obtain ⟨a, ⟨h1, rfl⟩, rfl⟩ := h
  exact ⟨rfl, h1⟩
theorem ahS_mem {k x : Int} : ∀ {l : List XApi_Block} {i : Nat}, x ∈ ahS k i l → ∃ j, ∃ h : j < l.length, x = ((i + j : Nat) : Int) ∧ k ∈ l[j].End.To
  | [], _, h => by simp [ahS] at h
  | b :: l, i, h => by
    simp only [ahS, List.mem_append] at h
    rcases h with h | h
    · obtain ⟨rfl, h2⟩ := ah1_mem h
      exact ⟨0, by simp, by simp, by simpa using h2⟩
    · obtain ⟨j, hj, h1, h2⟩ := ahS_mem h
      exact ⟨j + 1, by simpa using hj, by rw [h1]; omega, by simpa using h2⟩
theorem ahS_zero {f : XApi_Func} (h : ToOk f) : ahS 0 0 f.Blocks = [] := by
  cases hl : ahS 0 0 f.Blocks with
  | nil => rfl
  | cons x l =>
    obtain ⟨j, hj, _, h2⟩ := ahS_mem (x := x) (by rw [hl]; simp : x ∈ ahS 0 0 f.Blocks)
    have := (h.2 _ (List.getElem_mem hj)).2 0 h2
    omega
def Nd (f : XApi_Func) : Prop := ∀ b ∈ f.Blocks, b.End.To.Nodup
theorem ah1_one {k i : Int} {l : List Int} (h : l.Nodup) : (ah1 k i l).length ≤ 1 := by
  induction l with
  | nil => simp [ah1]
  | cons x l ih =>
    rw [ah1_cons]
    obtain ⟨h1, h2⟩ := List.nodup_cons.1 h
    by_cases hx : x = k
    · subst hx
      have : ah1 x i l = [] := by
        cases hl : ah1 x i l with
        | nil => rfl
        | cons y m => exact absurd (ah1_mem (x := y) (by rw [hl]; simp : y ∈ ah1 x i l)).2 h1
      simp [this]
    · simpa [hx] using ih h2
theorem ahS_rise {k : Int} : ∀ {l : List XApi_Block} {i : Nat}, (∀ b ∈ l, b.End.To.Nodup) → (ahS k i l).Pairwise (· < ·)
  | [], _, _ => by simp [ahS]
  | b :: l, i, h => by
    simp only [ahS, List.pairwise_append]
    refine ⟨?_, ahS_rise fun b hb => h b (by simp [hb]), fun x hx y hy => ?_⟩
    · have := ah1_one (k := k) (i := (i : Int)) (h b (by simp))
      match ah1 k i b.End.To, this with
      | [], _ => simp
      | [a], _ => simp
      | _ :: _ :: _, h => simp at h
    · obtain ⟨rfl, _⟩ := ah1_mem hx
      obtain ⟨j, _, rfl, _⟩ := ahS_mem hy
      omega
theorem sum_zero : ∀ {l : List Nat}, (∀ x ∈ l, x = 0) → l.sum = 0
  | [], _ => rfl
  | x :: l, h => by
    rw [List.sum_cons, h x (by simp), sum_zero fun y hy => h y (by simp [hy])]
theorem sum_one : ∀ (n m : Nat), m < n → ((List.range n).map fun k : Nat => if (m : Int) == (k : Int) then 1 else 0).sum = 1
  | 0, m, h => by omega
  | n + 1, m, h => by
    rw [List.range_succ, List.map_append, List.sum_append]
    by_cases hm : m = n
    · subst hm
      have : ((List.range m).map fun k : Nat => if (m : Int) == (k : Int) then 1 else 0).sum = 0 := by
        apply sum_zero
        intro x hx
        simp only [List.mem_map, List.mem_range] at hx
        obtain ⟨k, hk, rfl⟩ := hx
        have : ¬ (m : Int) = (k : Int) := by omega
        simp [this]
      rw [this]; simp
    · have hn : ¬ (m : Int) = (n : Int) := by omega
      have := sum_one n m (by omega)
      simp only [this, List.map_cons, List.map_nil, List.sum_cons, List.sum_nil]
      simp [hn]
theorem sum_add (a b : Nat → Nat) : ∀ l : List Nat, (l.map fun k => a k + b k).sum = (l.map a).sum + (l.map b).sum
  | [] => rfl
  | x :: l => by simp only [List.map_cons, List.sum_cons, sum_add a b l]; omega
theorem sum_ah1 (n : Nat) (i : Int) : ∀ l : List Int, (∀ x ∈ l, 1 ≤ x ∧ x < n) → ((List.range n).map fun k : Nat => (ah1 k i l).length).sum = l.length
  | [], _ => by
    apply sum_zero
    intro x hx
    simp only [List.mem_map] at hx
    obtain ⟨k, _, rfl⟩ := hx
    rfl
  | x :: l, h => by
    have e : (fun k : Nat => (ah1 (k : Int) i (x :: l)).length) = fun k : Nat => (if x == (k : Int) then 1 else 0) + (ah1 (k : Int) i l).length := by
      funext k
      rw [ah1_cons, List.length_append]
      split <;> rfl
    have hx := h x (by simp)
    obtain ⟨m, rfl⟩ : ∃ m : Nat, x = m := ⟨x.toNat, by omega⟩
    rw [e, sum_add, sum_one n m (by omega), sum_ah1 n i l fun y hy => h y (by simp [hy])]
    simp; omega
theorem sum_ahS (n : Nat) : ∀ (l : List XApi_Block) (i : Nat), (∀ b ∈ l, ∀ x ∈ b.End.To, 1 ≤ x ∧ x < n) → ((List.range n).map fun k : Nat => (ahS k i l).length).sum = (l.map fun b => b.End.To.length).sum
  | [], i, _ => by
    apply sum_zero
    intro x hx
    simp only [List.mem_map] at hx
    obtain ⟨k, _, rfl⟩ := hx
    rfl
  | b :: l, i, h => by
    have e : (fun k : Nat => (ahS (k : Int) i (b :: l)).length) = fun k : Nat => (ah1 (k : Int) i b.End.To).length + (ahS (k : Int) (i + 1) l).length := by
      funext k; rw [ahS, List.length_append]
    rw [e, sum_add, sum_ah1 n i _ (h b (by simp)), sum_ahS n l (i + 1) fun c hc => h c (by simp [hc])]
    simp
theorem Well.nd {u : XApi_Unit} (h : Well u) : ∀ f ∈ u.Funcs, Nd f := by
  intro f hf b hb
  obtain ⟨i, hi, rfl⟩ := List.getElem_of_mem hf
  have := findI_none_get h.body i hi
  have hz : bodyC u u.Funcs[i] = 0 := by
    by_cases hz : bodyC u u.Funcs[i] = 0
    · exact hz
    · simp [hz] at this
  have he : firstE (fun b => endC u.Funcs[i] b.End) u.Funcs[i].Blocks = 0 := by
    unfold bodyC at hz
    by_cases he : firstE (fun b => endC u.Funcs[i] b.End) u.Funcs[i].Blocks = 0
    · exact he
    · simp [he] at hz
  have h0 := firstE_0 he b hb
  unfold endC at h0
  by_cases hk : inb b.End.Kind 1 3 = true
  · by_cases hn : (b.End.To.length : Int) = b.End.Kind - 1
    · rcases kind_cases hk with h | h | h
      · have : b.End.To = [] := by
          apply List.length_eq_zero_iff.1; omega
        rw [this]; exact List.nodup_nil
      · obtain ⟨a, ha⟩ := len1 (l := b.End.To) (by omega)
        rw [ha]; simp
      · obtain ⟨a, c, ha⟩ := len2 (l := b.End.To) (by omega)
        rw [ha]
        by_cases hac : a = c
        · exfalso
          rw [hk, h, ha] at h0
          simp only [hac] at h0
          simp at h0
          split at h0 <;> simp at h0
        · simp [hac]
    · simp [hk, hn] at h0
  · simp [hk] at h0
theorem w64_sub1 (a : Int) : w64 (w64 a - 1) = w64 (a - 1) := by
  have := w64_add a (-1)
  simpa [Int.sub_eq_add_neg] using this
theorem is_loop (i : Int) (b : XApi_Block) (hl : b.End.To.length ≤ 2) : Loop (fun (s : Bool × Int) => turnerylaw2_CodeAhead_L4 i b s.1 s.2) (false, 0) = some (b.End.To.any (· == i)) := by
  have := Loop_run (l := b.End.To) (τ := Bool) (S := Bool × Int) (fun s m => (s, m)) (fun _ y x => .inr (y || x == i)) (fun y => y) (fun _ _ => True) (step := fun s => turnerylaw2_CodeAhead_L4 i b s.1 s.2)
    (fun m y h _ => by
      refine ⟨?_, trivial⟩
      unfold turnerylaw2_CodeAhead_L4
      simp only [lt_dec h, if_true, idx_lt h, Option.bind_some, bor, w64_succ (i := m) (by omega)]) (fun y _ => by
      unfold turnerylaw2_CodeAhead_L4; simp only [lt_dec']; rfl) (s0 := false) trivial
  rw [this]
  congr 1
  have key : ∀ (l : List Int) (m : Nat) (y : Bool), run (fun _ y x => (.inr (y || x == i) : Bool ⊕ Bool)) (fun y => y) m y l = (y || l.any (· == i)) := by
    intro l
    induction l with
    | nil => intro m y; simp [run]
    | cons x l ih =>
      intro m y
      rw [run]
      refine (ih _ _).trans ?_
      simp [Bool.or_assoc]
  simpa using key b.End.To 0 false
/-- THE LAW. -/
theorem codeAhead_true (u : XApi_Unit) (k : Int) (hu : UOk u) : turnerylaw2_CodeAhead u k = some true := by
  have hm := maxLen_big
  obtain ⟨h1, h2, h3, h4⟩ := id hu
  unfold turnerylaw2_CodeAhead
  simp only [fact_eq, Option.bind_some, Bool.not_true, Bool.false_eq_true, if_false, cAhead_eq u k hu]
  by_cases hc : (chk u).Code = 0
  · have hw := chk_code u hc
    simp only [hw.eq, if_true]
    by_cases hk : inb k 0 (w64 ((u.Funcs.length : Int) - 1)) = true
    · obtain ⟨f, hf, hmem⟩ := idx_in h2 hk
      have hto := hw.toOk f hmem
      have hnd := hw.nd f hmem
      have h40 := hto.1
      have hb1 : 1 ≤ f.Blocks.length := by
        have := heads_ok hw.head f hmem
        simp only [inb, Bool.and_eq_true, decide_eq_true_eq] at this; omega
      simp only [hk, hf, if_true, bne_self_eq_false, Bool.false_eq_true, if_false, lin2, Option.bind_some, Bool.not_true, List.length_map, List.length_range]
      have e0 : idx ((List.range f.Blocks.length).map fun k : Nat => ahS (k : Int) 0 f.Blocks) 0 = some [] := by
        have := idx_lt (l := (List.range f.Blocks.length).map fun k : Nat => ahS (k : Int) 0 f.Blocks) (i := 0) (by simp; omega)
        simp only [List.getElem_map, List.getElem_range] at this
        have hz : ahS ((0 : Nat) : Int) 0 f.Blocks = [] := ahS_zero hto
        rw [hz] at this
        exact this
      simp only [e0, Option.bind_some, List.length_nil]
      generalize hL : ((List.range f.Blocks.length).map fun k : Nat => ahS (k : Int) 0 f.Blocks) = L at *
      have hLl : L.length = f.Blocks.length := by rw [← hL]; simp
      have hLi : ∀ i (h : i < L.length), L[i] = ahS (i : Int) 0 f.Blocks := by subst hL; intro i h; simp
      -- the ways
      have p1 : Loop (fun (s : Int × Int) => turnerylaw2_CodeAhead_L1 u k (L, XApi_Fault.mk 0 0) s.1 s.2) (0, 0) = some (w64 ((f.Blocks.map fun b => (b.End.To.length : Int)).sum)) := by
        have := Loop_run (l := f.Blocks) (τ := Int) (S := Int × Int) (fun (s : Int) i => (w64 s, i)) (fun _ s b => .inr (s + (b.End.To.length : Int))) (fun s => w64 s) (fun _ _ => True) (step := fun s => turnerylaw2_CodeAhead_L1 u k (L, XApi_Fault.mk 0 0) s.1 s.2)
          (fun i s h _ => by
            refine ⟨?_, trivial⟩
            have h' : i < L.length := by omega
            unfold turnerylaw2_CodeAhead_L1
            simp only [lt_dec h', if_true, idx_lt h, hf, Option.bind_some, w64_add, w64_succ (i := i) (by omega)]) (fun s _ => by
            unfold turnerylaw2_CodeAhead_L1; rw [hLl]; simp only [lt_dec']; rfl) (s0 := 0) trivial
        rw [w64_0] at this
        rw [this]
        have key : ∀ (l : List XApi_Block) (i : Nat) (s : Int), run (fun _ s (b : XApi_Block) => (.inr (s + (b.End.To.length : Int)) : Int ⊕ Int)) (fun s => w64 s) i s l = w64 (s + (l.map fun b => (b.End.To.length : Int)).sum) := by
          intro l
          induction l with
          | nil => intro i s; simp [run]
          | cons b l ih =>
            intro i s
            rw [run]
            refine (ih _ _).trans ?_
            simp only [List.map_cons, List.sum_cons, Int.add_assoc]
        rw [key]; simp
      -- one block's
      have p3 : ∀ (i : Nat) (h : i < L.length) (w : Int), Loop (fun (s : Int × Int) => turnerylaw2_CodeAhead_L3 u k (L, XApi_Fault.mk 0 0) i s.1 s.2) (w64 w, 0) = some (Br.brk (w64 (w - (L[i].length : Int)))) := by
        intro i h w
        have hlen : L[i].length ≤ maxLen := by rw [hLi i h]; exact ahS_len hto _
        have := Loop_run (l := L[i]) (τ := Br Int Bool) (S := Int × Int) (fun (s : Int) j => (w64 s, j)) (fun _ s _ => .inr (s - 1)) (fun s => .brk (w64 s)) (fun _ _ => True) (step := fun s => turnerylaw2_CodeAhead_L3 u k (L, XApi_Fault.mk 0 0) i s.1 s.2)
          (fun j s hj _ => by
            refine ⟨?_, trivial⟩
            have hj' : L[i][j] ∈ ahS (i : Int) 0 f.Blocks := by rw [← hLi i h]; exact List.getElem_mem _
            obtain ⟨m, hm', e1, e2⟩ := ahS_mem hj'
            rw [Nat.zero_add] at e1
            have hin : inb L[i][j] 0 (w64 ((L.length : Int) - 1)) = true := by
              rw [w64_id (by omega) (by omega), e1]
              simp only [inb, Bool.and_eq_true, decide_eq_true_eq]; omega
            have hany : f.Blocks[m].End.To.any (· == (i : Int)) = true := List.any_eq_true.2 ⟨_, e2, by simp⟩
            have hrise : (if decide (0 < (j : Int)) = true then (idx L (i : Int)).bind fun x1542 => (idx x1542 (j : Int)).bind fun x1544 => (idx L (i : Int)).bind fun x1546 => (idx x1546 (w64 ((j : Int) - 1))).bind fun x1548 => some (decide (x1544 ≤ x1548)) else some false) = some false := by
              by_cases hj0 : j = 0
              · simp [hj0]
              · have hp : decide (0 < (j : Int)) = true := by simp; omega
                have hj1 : j - 1 < L[i].length := by omega
                have ew : w64 ((j : Int) - 1) = ((j - 1 : Nat) : Int) := by rw [w64_id (by omega) (by omega)]; omega
                simp only [hp, if_true, idx_lt h, Option.bind_some, idx_lt hj, ew, idx_lt hj1]
                have hpw : (L[i]).Pairwise (· < ·) := by rw [hLi i h]; exact ahS_rise hnd
                have := List.pairwise_iff_getElem.1 hpw (j - 1) j hj1 hj (by omega)
                have : ¬ L[i][j] ≤ L[i][j - 1] := by omega
                simp [this]
            have hto2 := (hto.2 _ (List.getElem_mem hm')).1
            unfold turnerylaw2_CodeAhead_L3
            simp only [idx_lt h, Option.bind_some, lt_dec hj, if_true, idx_lt hj, lin2, hin, Bool.not_true, Bool.false_eq_true, if_false]
            simp only [idx_lt h, Option.bind_some, idx_lt hj] at hrise
            rw [hrise]
            simp only [Option.bind_some, Bool.false_eq_true, if_false, hf]
            rw [e1, idx_lt hm', Option.bind_some, is_loop _ _ hto2, Option.bind_some, hany]
            simp only [Bool.not_true, Bool.false_eq_true, if_false, w64_sub1, w64_succ (i := j) (by omega)]) (fun s _ => by
            unfold turnerylaw2_CodeAhead_L3
            simp only [idx_lt h, Option.bind_some, lt_dec']; rfl) (s0 := w) trivial
        rw [this]
        have key : ∀ (l : List Int) (j : Nat) (s : Int), run (fun _ s _ => (.inr (s - 1) : Br Int Bool ⊕ Int)) (fun s => .brk (w64 s)) j s l = .brk (w64 (s - (l.length : Int))) := by
          intro l
          induction l with
          | nil => intro j s; simp [run]
          | cons x l ih =>
            intro j s
            rw [run]
            refine (ih _ _).trans ?_
            congr 2
            simp; omega
        rw [key]
      have p2 : ∀ w : Int, Loop (fun (s : Int × Int) => turnerylaw2_CodeAhead_L2 u k (L, XApi_Fault.mk 0 0) s.1 s.2) (w64 w, 0) = some (Br.brk (w64 (w - ((L.map fun l => (l.length : Int)).sum)))) := by
        intro w
        have := Loop_run (l := L) (τ := Br Int Bool) (S := Int × Int) (fun (s : Int) j => (w64 s, j)) (fun _ s l => .inr (s - (l.length : Int))) (fun s => .brk (w64 s)) (fun _ _ => True) (step := fun s => turnerylaw2_CodeAhead_L2 u k (L, XApi_Fault.mk 0 0) s.1 s.2)
          (fun i s h _ => by
            refine ⟨?_, trivial⟩
            unfold turnerylaw2_CodeAhead_L2
            simp only [lt_dec h, if_true, p3 i h s, Option.bind_some, w64_succ (i := i) (by omega)]) (fun s _ => by
            unfold turnerylaw2_CodeAhead_L2; simp only [lt_dec']; rfl) (s0 := w) trivial
        rw [this]
        have key : ∀ (L : List (List Int)) (j : Nat) (s : Int), run (fun _ s (l : List Int) => (.inr (s - (l.length : Int)) : Br Int Bool ⊕ Int)) (fun s => .brk (w64 s)) j s L = .brk (w64 (s - (L.map fun l => (l.length : Int)).sum)) := by
          intro L
          induction L with
          | nil => intro j s; simp [run]
          | cons x L ih =>
            intro j s
            rw [run]
            refine (ih _ _).trans ?_
            congr 2
            simp only [List.map_cons, List.sum_cons]; omega
        rw [key]
      have hsum : ((f.Blocks.map fun b => (b.End.To.length : Int)).sum) = ((L.map fun l => (l.length : Int)).sum) := by
        have hs := sum_ahS f.Blocks.length f.Blocks 0 fun b hb x hx => (hto.2 b hb).2 x hx
        have c1 : ∀ l : List XApi_Block, (l.map fun b => (b.End.To.length : Int)).sum = (((l.map fun b => b.End.To.length).sum : Nat) : Int) := by
          intro l
          induction l with
          | nil => rfl
          | cons b l ih => simp only [List.map_cons, List.sum_cons, ih]; omega
        have c2 : ∀ l : List (List Int), (l.map fun b => (b.length : Int)).sum = (((l.map List.length).sum : Nat) : Int) := by
          intro l
          induction l with
          | nil => rfl
          | cons b l ih => simp only [List.map_cons, List.sum_cons, ih]; omega
        rw [c1, c2, ← hs, ← hL, List.map_map]; rfl
      rw [p1, Option.bind_some, p2, Option.bind_some, hsum, Int.sub_self, w64_0]
      rfl
    · simp [hk]
  · have : ((chk u).Code != 0) = true := by simpa using hc
    simp [hc]
end Go.Ab
