/-
  PLAIN LAWS: the law CodeLess.
-/
import Derived.Test.YtbgakafgplbbnaaDoorAbLaw9
namespace Go.Ab
open Go Go.Proofs

theorem findI_none_of {α ρ : Type} {g : Nat → α → Option ρ} : ∀ {l : List α} {i : Nat}, (∀ j (h : j < l.length), g (i + j) l[j] = none) → findI g i l = none
  | [], _, _ => rfl
  | x :: l, i, h => by
    have h0 := h 0 (by simp)
    simp only [Nat.add_zero, List.getElem_cons_zero] at h0
    simp only [findI, h0]
    refine findI_none_of fun j hj => ?_
    have := h (j + 1) (by simpa using hj)
    rw [show i + (j + 1) = i + 1 + j by omega] at this
    simpa using this
theorem findI_take {α ρ : Type} {g : Nat → α → Option ρ} {r : ρ} : ∀ {l : List α} {i n : Nat}, findI g i l = some r → (∀ j (h : j < l.length), n ≤ j → g (i + j) l[j] = none) → findI g i (l.take n) = some r
  | [], _, _, h, _ => by simp [findI] at h
  | x :: l, i, n, h, hn => by
    cases n with
    | zero =>
      have := findI_none_of (g := g) (l := x :: l) (i := i) fun j hj => hn j hj (by omega)
      rw [this] at h; cases h
    | succ n =>
      simp only [findI, List.take_succ_cons] at h ⊢
      cases hg : g i x with
      | some r' => rw [hg] at h; exact h
      | none =>
        rw [hg] at h
        refine findI_take h fun j hj hle => ?_
        have := hn (j + 1) (by simpa using hj) (by omega)
        rw [show i + (j + 1) = i + 1 + j by omega] at this
        simpa using this
theorem firstE_of0 {α : Type} {g : α → Int} : ∀ {l : List α}, (∀ x ∈ l, g x = 0) → firstE g l = 0
  | [], _ => rfl
  | x :: l, h => by
    simp only [firstE, h x (by simp)]
    exact firstE_of0 fun y hy => h y (by simp [hy])
theorem firstEI_0 {α : Type} {g : Nat → α → Int} : ∀ {l : List α} {i : Nat}, firstEI g i l = 0 → ∀ j (h : j < l.length), g (i + j) l[j] = 0
  | [], _, _, j, h => by simp at h
  | x :: l, i, hf, j, h => by
    simp only [firstEI] at hf
    by_cases hg : g i x = 0
    · simp [hg] at hf
      cases j with
      | zero => simpa using hg
      | succ j =>
        have := firstEI_0 hf j (by simpa using h)
        rw [show i + (j + 1) = i + 1 + j by omega]
        simpa using this
    · simp [hg] at hf
theorem firstEI_of0 {α : Type} {g : Nat → α → Int} : ∀ {l : List α} {i : Nat}, (∀ j (h : j < l.length), g (i + j) l[j] = 0) → firstEI g i l = 0
  | [], _, _ => rfl
  | x :: l, i, h => by
    have h0 := h 0 (by simp)
    simp only [Nat.add_zero, List.getElem_cons_zero] at h0
    simp only [firstEI, h0]
    refine firstEI_of0 fun j hj => ?_
    have := h (j + 1) (by simpa using hj)
    rw [show i + (j + 1) = i + 1 + j by omega] at this
    simpa using this
theorem Well.body0 {u : XApi_Unit} (h : Well u) (i : Nat) (hi : i < u.Funcs.length) : bodyC u u.Funcs[i] = 0 := by
  have := findI_none_get h.body i hi
  by_cases hz : bodyC u u.Funcs[i] = 0
  · exact hz
  · simp [hz] at this
theorem Well.head0 {u : XApi_Unit} (h : Well u) (i : Nat) (hi : i < u.Funcs.length) : headC (namesAt u i) u.Funcs[i] = 0 := by
  have := findI_none_get h.head i hi
  rw [Nat.zero_add] at this
  by_cases hz : headC (namesAt u i) u.Funcs[i] = 0
  · exact hz
  · simp [hz] at this
theorem body0_parts {u : XApi_Unit} {f : XApi_Func} (h : bodyC u f = 0) : firstE (fun b => endC f b.End) f.Blocks = 0 ∧ ∀ j (hj : j < f.Blocks.length), firstE (phiC f j) f.Blocks[j].Phis = 0 ∧ ∀ x ∈ f.Blocks[j].List, insC u f x = 0 := by
  unfold bodyC at h
  by_cases he : firstE (fun b => endC f b.End) f.Blocks = 0
  · simp [he] at h
    refine ⟨he, fun j hj => ?_⟩
    have := firstEI_0 h j hj
    rw [Nat.zero_add] at this
    unfold blkC at this
    by_cases hp : firstE (phiC f j) f.Blocks[j].Phis = 0
    · simp [hp] at this
      exact ⟨hp, firstE_0 this⟩
    · simp [hp] at this
  · simp [he] at h
/-- The unit without its last function. -/
def less (u : XApi_Unit) : XApi_Unit := ⟨u.Globals, u.Funcs.take (u.Funcs.length - 1)⟩
theorem less_len (u : XApi_Unit) : (less u).Funcs.length = u.Funcs.length - 1 := by simp [less]
theorem less_get (u : XApi_Unit) (i : Nat) (h : i < (less u).Funcs.length) : (less u).Funcs[i] = u.Funcs[i]'(by rw [less_len] at h; omega) := by simp [less]
theorem less_ins {u : XApi_Unit} {f : XApi_Func} {x : XApi_Ins} (h10 : u.Funcs.length ≤ 10) (h0 : insC u f x = 0) (hx : ¬ ((x.Op == 20) = true ∧ x.Func = (u.Funcs.length : Int) - 1)) (h1 : 1 ≤ u.Funcs.length) : insC (less u) f x = 0 := by
  unfold insC at h0 ⊢
  rw [less_len]
  split at h0
  · simp at h0
  · rename_i c1
    rw [if_neg c1]
    split at h0
    · simp at h0
    · rename_i c2
      rw [if_neg c2]
      split at h0
      · simp at h0
      · rename_i c3
        rw [if_neg c3]
        split at h0
        · simp at h0
        · rename_i c4
          rw [if_neg c4]
          split at h0
          · rename_i c5; rw [if_pos c5]
          · rename_i c5
            rw [if_neg c5]
            have hop : (x.Op == 20) = true := by simpa using c5
            split at h0
            · simp at h0
            · rename_i c6
              have hin : inb x.Func 0 (w64 ((u.Funcs.length : Int) - 1)) = true := by simpa using c6
              simp only [inb, Bool.and_eq_true, decide_eq_true_eq] at hin
              rw [w64_id (by omega) (by omega)] at hin
              have hne : x.Func ≠ (u.Funcs.length : Int) - 1 := fun e => hx ⟨hop, e⟩
              have hin' : inb x.Func 0 (w64 (((u.Funcs.length - 1 : Nat) : Int) - 1)) = true := by
                rw [w64_id (by omega) (by omega)]
                simp only [inb, Bool.and_eq_true, decide_eq_true_eq]; omega
              rw [if_neg (by simp [hin'])]
              obtain ⟨m, hm⟩ : ∃ m : Nat, x.Func = m := ⟨x.Func.toNat, by omega⟩
              have hm1 : m < (less u).Funcs.length := by rw [less_len]; omega
              have hm2 : m < u.Funcs.length := by omega
              rw [hm] at h0 ⊢
              rw [idx_lt hm1, less_get u m hm1]
              rw [idx_lt hm2] at h0
              exact h0
theorem less_body {u : XApi_Unit} {f : XApi_Func} (h10 : u.Funcs.length ≤ 10) (h1 : 1 ≤ u.Funcs.length) (h0 : bodyC u f = 0) (hx : ∀ b ∈ f.Blocks, ∀ x ∈ b.List, ¬ ((x.Op == 20) = true ∧ x.Func = (u.Funcs.length : Int) - 1)) : bodyC (less u) f = 0 := by
  obtain ⟨he, hb⟩ := body0_parts h0
  unfold bodyC
  simp only [he, bne_self_eq_false, Bool.false_eq_true, if_false]
  refine firstEI_of0 fun j hj => ?_
  obtain ⟨p1, p2⟩ := hb j hj
  rw [Nat.zero_add]
  unfold blkC
  simp only [p1, bne_self_eq_false, Bool.false_eq_true, if_false]
  exact firstE_of0 fun x hx' => less_ins h10 (p2 x hx') (hx _ (List.getElem_mem hj) x hx') h1
theorem Well.main0 {u : XApi_Unit} (h : Well u) : mainE u = ⟨0, 0⟩ := by
  have := h.eq
  unfold chk at this
  have h10 := h.ten
  rw [if_neg (by simp; omega), h.glob, h.head, h.body] at this
  exact this
theorem less_well {u : XApi_Unit} (h : Well u) (h1 : 1 ≤ u.Funcs.length) (hm : (u.Funcs[u.Funcs.length - 1].Name.toList == (ByteArray.mk #[109, 97, 105, 110]).toList) = false)
    (hx : ∀ i (hi : i < u.Funcs.length - 1), ∀ b ∈ u.Funcs[i].Blocks, ∀ x ∈ b.List, ¬ ((x.Op == 20) = true ∧ x.Func = (u.Funcs.length : Int) - 1)) : chk (less u) = ⟨0, 0⟩ := by
  have h10 := h.ten
  have hg : globE (less u) = none := h.glob
  have hh : headE (less u) = none := by
    refine findI_none_of fun j hj => ?_
    have hj' : j < u.Funcs.length - 1 := by rw [less_len] at hj; exact hj
    have := h.head0 j (by omega)
    have en : namesAt (less u) j = namesAt u j := by
      unfold namesAt less
      simp only [List.take_take]
      rw [Nat.min_eq_left (by omega)]
    rw [Nat.zero_add, less_get u j hj, en, this]; rfl
  have hb : bodyE (less u) = none := by
    refine findI_none_of fun j hj => ?_
    have hj' : j < u.Funcs.length - 1 := by rw [less_len] at hj; exact hj
    rw [less_get u j hj, less_body h10.2 h1 (h.body0 j (by omega)) (hx j hj')]; rfl
  unfold chk
  have hG : (less u).Globals.length = u.Globals.length := rfl
  rw [if_neg (by rw [less_len, hG]; simp only [Bool.or_eq_true, decide_eq_true_eq, not_or]; omega), hg, hh, hb]
  -- main
  have hmain := h.main0
  unfold mainE at hmain ⊢
  have hneg : ¬ decide (mainI u < 0) = true := by
    intro hn; rw [if_pos hn] at hmain; simp at hmain
  rw [if_neg hneg] at hmain
  have e : mainI (less u) = mainI u := by
    unfold mainI at hneg ⊢
    cases hf : findI (fun i (f : XApi_Func) => if f.Name.toList == (ByteArray.mk #[109, 97, 105, 110]).toList then some (i : Int) else none) 0 u.Funcs with
    | none => rw [hf] at hneg; simp at hneg
    | some r =>
      have := findI_take (n := u.Funcs.length - 1) hf fun j hj hle => by
        have : j = u.Funcs.length - 1 := by omega
        subst this
        rw [hm]; rfl
      have e2 : (less u).Funcs = u.Funcs.take (u.Funcs.length - 1) := rfl
      rw [e2, this]
  rw [e, if_neg hneg]
  obtain ⟨f, hf⟩ := mainI_idx u (by simpa using hneg)
  have hb2 := idx_bounds hf
  obtain ⟨m, hmm⟩ : ∃ m : Nat, mainI u = m := ⟨(mainI u).toNat, by omega⟩
  have hb3 := mainI_idx (less u) (by rw [e]; simpa using hneg)
  rw [e] at hb3
  obtain ⟨f', hf'⟩ := hb3
  have hb4 := idx_bounds hf'
  rw [hmm] at hf hf' hmain hb4 hb2 ⊢
  have hm1 : m < (less u).Funcs.length := by omega
  rw [idx_lt hm1, less_get u m hm1]
  rw [idx_lt (by omega)] at hmain
  exact hmain
theorem names_apart {u : XApi_Unit} (h : Well u) (i j : Nat) (hi : i < u.Funcs.length) (hj : j < i) : (u.Funcs[i].Name.toList == u.Funcs[j].Name.toList) = false := by
  have h0 := h.head0 i hi
  have ht : takenL (namesAt u i) u.Funcs[i].Name = false := by
    unfold headC at h0
    split at h0
    · simp at h0
    · split at h0
      · simp at h0
      · rename_i hn; simpa using hn
  unfold takenL at ht
  have := List.any_eq_false.1 ht u.Funcs[j].Name (by
    unfold namesAt
    refine List.mem_append_right _ (List.mem_map.2 ⟨u.Funcs[j], ?_, rfl⟩)
    exact List.mem_take_iff_getElem.2 ⟨j, by omega, rfl⟩)
  rw [beq_swap]
  simpa using this
def callsL (u : XApi_Unit) (x : XApi_Ins) : Bool := x.Op == 20 && x.Func == (u.Funcs.length : Int) - 1
/-- THE LAW. -/
theorem codeLess_true (u : XApi_Unit) (hu : UOk u) : turnerylaw2_CodeLess u = some true := by
  have hm := maxLen_big
  obtain ⟨h1, h2, h3, h4⟩ := id hu
  obtain ⟨vb, hvb⟩ := vast_some u hu
  unfold turnerylaw2_CodeLess
  simp only [fact_eq, Option.bind_some, Bool.not_true, Bool.false_eq_true, if_false, cCheck_eq u hu, hvb]
  by_cases hc : (chk u).Code = 0
  · have hw := chk_code u hc
    have h10 := hw.ten
    have hn1 : 1 ≤ u.Funcs.length := by
      have hmain := hw.main0
      rcases Nat.eq_zero_or_pos u.Funcs.length with h | h
      · have : u.Funcs = [] := List.length_eq_zero_iff.1 h
        unfold mainE mainI at hmain
        rw [this] at hmain
        simp [findI] at hmain
      · exact h
    have ew : w64 ((u.Funcs.length : Int) - 1) = (u.Funcs.length : Int) - 1 := w64_id (by omega) (by omega)
    simp only [hw.eq, bne_self_eq_false, Bool.false_eq_true, if_false, Option.bind_some]
    cases vb with
    | true => rfl
    | false =>
      have hneg : decide ((u.Funcs.length : Int) - 1 < 0) = false := by simp; omega
      simp only [Bool.false_eq_true, if_false, ew, hneg]
      have e1 : Loop (fun (s : XApi_Unit × Int) => turnerylaw2_CodeLess_L1 u s.1 s.2) (u, 0) = some (brOf2 u (findI (fun i (f : XApi_Func) => if (f.Blocks.any fun b => b.List.any (callsL u)) && decide ((i : Int) < (u.Funcs.length : Int) - 1) then some true else none) 0 u.Funcs)) := by
        refine Loop_find2 (l := u.Funcs) (S := XApi_Unit × Int) _ (fun i => (u, i)) u (fun i hi => ?_) ?_
        · have q1 : Loop (fun (s : XApi_Unit × Int) => turnerylaw2_CodeLess_L2 i s.1 s.2) (u, 0) = some (brOf2 u (findI (fun _ (_ : XApi_Func) => (none : Option Bool)) 0 (u.Funcs.take i))) := by
            refine Loop_find2 (l := u.Funcs.take i) (S := XApi_Unit × Int) _ (fun j => (u, j)) u (fun j hj => ?_) ?_
            · have hji : j < i := by simp at hj; omega
              unfold turnerylaw2_CodeLess_L2
              simp only [lt_dec hji, if_true, idx_lt hi, idx_lt (Nat.lt_trans hji hi), Option.bind_some, names_apart hw i j hi hji, w64_succ (i := j) (by omega)]
              rfl
            · unfold turnerylaw2_CodeLess_L2; rw [take_len (Nat.le_of_lt hi)]; simp only [lt_dec']; rfl
          have q4 : ∀ bi (hb : bi < u.Funcs[i].Blocks.length), Loop (fun (s : XApi_Unit × Int) => turnerylaw2_CodeLess_L4 u i u.Funcs[i] bi s.1 s.2) (u, 0) = some (brOf2 u (if (u.Funcs[i].Blocks[bi].List.any fun x => callsL u x && decide ((i : Int) < (u.Funcs.length : Int) - 1)) then some true else none)) := by
            intro bi hb
            have hbo := (h4 _ (List.getElem_mem hi)).2 _ (List.getElem_mem hb)
            have hbl := hbo.2.1
            rw [← findI_any _ _ _ 0]
            refine Loop_find2 (l := u.Funcs[i].Blocks[bi].List) (S := XApi_Unit × Int) (fun _ x => if callsL u x && decide ((i : Int) < (u.Funcs.length : Int) - 1) then some true else none) (fun j => (u, j)) u (fun j hj => ?_) ?_
            · unfold turnerylaw2_CodeLess_L4
              simp only [idx_lt hb, Option.bind_some, lt_dec hj, if_true, idx_lt hj, ew, ifF, w64_succ (i := j) (by omega)]
              have e2 : ∀ (a b : Bool), (if a = true then some b else some false) = some (a && b) := by intro a b; cases a <;> rfl
              simp only [e2, Option.bind_some]
              unfold callsL
              generalize (u.Funcs[i].Blocks[bi].List[j].Op == 20 && u.Funcs[i].Blocks[bi].List[j].Func == (u.Funcs.length : Int) - 1) = z1
              generalize decide ((i : Int) < (u.Funcs.length : Int) - 1) = z2
              cases z1 <;> cases z2 <;> rfl
            · unfold turnerylaw2_CodeLess_L4
              simp only [idx_lt hb, Option.bind_some, lt_dec']; rfl
          have q3 : Loop (fun (s : XApi_Unit × Int) => turnerylaw2_CodeLess_L3 u i u.Funcs[i] s.1 s.2) (u, 0) = some (brOf2 u (if (u.Funcs[i].Blocks.any fun b => b.List.any fun x => callsL u x && decide ((i : Int) < (u.Funcs.length : Int) - 1)) then some true else none)) := by
            have hbl := (h4 _ (List.getElem_mem hi)).1
            rw [← findI_any _ _ _ 0]
            refine Loop_find2 (l := u.Funcs[i].Blocks) (S := XApi_Unit × Int) (fun _ b => if (b.List.any fun x => callsL u x && decide ((i : Int) < (u.Funcs.length : Int) - 1)) then some true else none) (fun j => (u, j)) u (fun j hj => ?_) ?_
            · unfold turnerylaw2_CodeLess_L3
              simp only [lt_dec hj, if_true, q4 j hj, Option.bind_some, w64_succ (i := j) (by omega)]
              generalize (u.Funcs[i].Blocks[j].List.any fun x => callsL u x && decide ((i : Int) < (u.Funcs.length : Int) - 1)) = z
              cases z <;> rfl
            · unfold turnerylaw2_CodeLess_L3; simp only [lt_dec']; rfl
          have hle : decide ((i : Int) ≤ (u.Funcs.length : Int) - 1) = true := by simp; omega
          unfold turnerylaw2_CodeLess_L1
          simp only [ew, hle, if_true, q1, findI_none (fun _ _ _ => rfl), brOf2, Option.bind_some, idx_lt hi]
          rw [q3]
          have ez : (u.Funcs[i].Blocks.any fun b => b.List.any fun x => callsL u x && decide ((i : Int) < (u.Funcs.length : Int) - 1)) = ((u.Funcs[i].Blocks.any fun b => b.List.any (callsL u)) && decide ((i : Int) < (u.Funcs.length : Int) - 1)) := by
            cases decide ((i : Int) < (u.Funcs.length : Int) - 1) <;> simp
          rw [ez]
          generalize ((u.Funcs[i].Blocks.any fun b => b.List.any (callsL u)) && decide ((i : Int) < (u.Funcs.length : Int) - 1)) = z
          cases z
          · simp only [Bool.false_eq_true, if_false, brOf2, Option.bind_some, w64_succ (i := i) (by omega)]
          · rfl
        · have hle : decide ((u.Funcs.length : Int) ≤ (u.Funcs.length : Int) - 1) = false := by simp; omega
          unfold turnerylaw2_CodeLess_L1
          simp only [ew, hle]; rfl
      rw [e1, Option.bind_some]
      cases hf : findI (fun i (f : XApi_Func) => if (f.Blocks.any fun b => b.List.any (callsL u)) && decide ((i : Int) < (u.Funcs.length : Int) - 1) then some true else none) 0 u.Funcs with
      | some r =>
        obtain ⟨j, hj, hr⟩ := findI_some hf
        split at hr
        · simp only [Option.some.injEq] at hr; subst hr; rfl
        · cases hr
      | none =>
        simp only [brOf2]
        have hlast : u.Funcs.length - 1 < u.Funcs.length := by omega
        have el : ((u.Funcs.length : Int) - 1) = ((u.Funcs.length - 1 : Nat) : Int) := by omega
        rw [el, idx_lt hlast, Option.bind_some]
        cases hmn : (u.Funcs[u.Funcs.length - 1].Name.toList == (ByteArray.mk #[109, 97, 105, 110]).toList) with
        | true => rfl
        | false =>
          simp only [Bool.false_eq_true, if_false]
          have es : slc u.Funcs none (some ((u.Funcs.length - 1 : Nat) : Int)) = some (u.Funcs.take (u.Funcs.length - 1)) := by
            unfold slc bounds
            simp only [Option.map_none, Option.map_some]
            rw [if_pos (by omega)]
            simp
          have hul : UOk (less u) := ⟨h1, by rw [less_len]; omega, h3, fun f hf => h4 f (List.mem_of_mem_take hf)⟩
          rw [es, Option.bind_some]
          have ec := cCheck_eq (less u) hul
          have hwl := less_well hw hn1 hmn fun i hi b hb x hx hxx => by
            have := findI_none_get hf i (by omega)
            rw [Nat.zero_add] at this
            have hany : (u.Funcs[i].Blocks.any fun b => b.List.any (callsL u)) = true := List.any_eq_true.2 ⟨b, hb, List.any_eq_true.2 ⟨x, hx, by unfold callsL; rw [hxx.1, hxx.2]; simp⟩⟩
            have hlt : decide ((i : Int) < (u.Funcs.length : Int) - 1) = true := by simp; omega
            rw [hany, hlt] at this
            cases this
          rw [hwl] at ec
          have ed : less u = XApi_Unit.mk u.Globals (u.Funcs.take (u.Funcs.length - 1)) := rfl
          rw [← ed, ec]
          rfl
  · have : ((chk u).Code != 0) = true := by simpa using hc
    simp [this]
end Go.Ab
