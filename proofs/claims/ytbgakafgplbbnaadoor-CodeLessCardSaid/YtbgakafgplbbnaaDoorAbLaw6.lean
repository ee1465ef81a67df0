/-
  PLAIN LAWS: what is wrong with a unit: the program's answer and the reference's are one.
-/
import Derived.Test.YtbgakafgplbbnaaDoorAbLaw5
namespace Go.Ab
open Go Go.Proofs

/-! ### Names taken -/
def takenL (names : List ByteArray) (s : ByteArray) : Bool := names.any fun n => n.toList == s.toList
theorem findI_any {α ρ : Type} (p : α → Bool) (r : ρ) : ∀ (l : List α) (i : Nat), findI (fun _ x => if p x then some r else none) i l = if l.any p then some r else none
  | [], _ => rfl
  | x :: l, i => by
    simp only [findI, List.any_cons]
    by_cases hp : p x = true
    · simp [hp]
    · simpa [hp] using findI_any p r l (i + 1)
theorem take_len {α : Type} {l : List α} {k : Nat} (h : k ≤ l.length) : (l.take k).length = k := by simp; omega
theorem idx_take {α : Type} {l : List α} {k i : Nat} (h : i < (l.take k).length) : idx l (i : Int) = some (l.take k)[i] := by
  have h' : i < l.length := by simp at h; omega
  rw [idx_lt h']; simp
theorem rtaken_eq (u : XApi_Unit) (g k : Nat) (s : ByteArray) (hg : g ≤ u.Globals.length) (hk : k ≤ u.Funcs.length) (hgm : u.Globals.length ≤ maxLen) (hkm : u.Funcs.length ≤ maxLen) :
    turneryref2_taken u g k s = some (takenL ((u.Globals.take g).map (·.Name) ++ (u.Funcs.take k).map (·.Name)) s) := by
  have hm := maxLen_big
  have e1 : Loop (fun y => turneryref2_taken_L1 u g s y) 0 = some (brOf (if (u.Globals.take g).any (fun x => x.Name.toList == s.toList) then some true else none)) := by
    rw [← findI_any _ _ _ 0]
    refine Loop_find (l := u.Globals.take g) (fun _ x => if x.Name.toList == s.toList then some true else none) (fun i h => ?_) ?_
    · have hi : i < g := by rw [take_len hg] at h; exact h
      unfold turneryref2_taken_L1
      simp only [lt_dec hi, if_true, idx_take h, Option.bind_some, w64_succ (i := i) (by omega)]
      cases ((u.Globals.take g)[i].Name.toList == s.toList) <;> rfl
    · unfold turneryref2_taken_L1; rw [take_len hg]; simp only [lt_dec']; rfl
  have e2 : Loop (fun y => turneryref2_taken_L2 u k s y) 0 = some (brOf (if (u.Funcs.take k).any (fun x => x.Name.toList == s.toList) then some true else none)) := by
    rw [← findI_any _ _ _ 0]
    refine Loop_find (l := u.Funcs.take k) (fun _ x => if x.Name.toList == s.toList then some true else none) (fun i h => ?_) ?_
    · have hi : i < k := by rw [take_len hk] at h; exact h
      unfold turneryref2_taken_L2
      simp only [lt_dec hi, if_true, idx_take h, Option.bind_some, w64_succ (i := i) (by omega)]
      cases ((u.Funcs.take k)[i].Name.toList == s.toList) <;> rfl
    · unfold turneryref2_taken_L2; rw [take_len hk]; simp only [lt_dec']; rfl
  unfold turneryref2_taken
  rw [e1, Option.bind_some, e2]
  simp only [takenL, List.any_append, List.any_map, Function.comp_def]
  cases (u.Globals.take g).any (fun x => x.Name.toList == s.toList) <;> cases (u.Funcs.take k).any (fun x => x.Name.toList == s.toList) <;> rfl
theorem beq_swap (a b : ByteArray) : (a.toList == b.toList) = (b.toList == a.toList) := BEq.comm
theorem contains_eq (l : List ByteArray) (s : ByteArray) (hl : l.length ≤ maxLen) : slices_Contains_string_string l s = some (takenL l s) := by
  have hm := maxLen_big
  have e : Loop (fun y => slices_Index_string_string_L1 l s y) 0 = some (brOf (findI (fun i x => if s.toList == x.toList then some (i : Int) else none) 0 l)) := by
    refine Loop_find (l := l) _ (fun i h => ?_) ?_
    · unfold slices_Index_string_string_L1
      simp only [lt_dec h, idx_lt h, Option.bind_some, w64_succ (i := i) (by omega), if_true]
      cases (s.toList == l[i].toList) <;> rfl
    · unfold slices_Index_string_string_L1; simp only [lt_dec']; rfl
  unfold slices_Contains_string_string slices_Index_string_string
  rw [e]
  have key : ∀ (l : List ByteArray) (i : Nat), (findI (fun i x => if s.toList == x.toList then some (i : Int) else none) i l).isSome = takenL l s ∧ ∀ r, findI (fun i (x : ByteArray) => if s.toList == x.toList then some (i : Int) else none) i l = some r → 0 ≤ r := by
    intro l
    induction l with
    | nil => intro i; simp [findI, takenL]
    | cons x l ih =>
      intro i
      have ih := ih (i + 1)
      unfold takenL at ih
      simp only [findI, takenL, List.any_cons]
      rw [beq_swap x s]
      by_cases hx : (s.toList == x.toList) = true
      · simp [hx]
      · simpa [hx] using ih
  obtain ⟨k1, k2⟩ := key l 0
  cases hf : findI (fun i x => if s.toList == x.toList then some (i : Int) else none) 0 l with
  | none => rw [hf] at k1; simp only [brOf, Option.bind_some, ← k1]; rfl
  | some r => rw [hf] at k1; have := k2 r hf; simp only [brOf, Option.bind_some, ← k1, this]; rfl

/-! ### Heads -/
def insF (n : Int) : List XApi_Block → Int
  | [] => n
  | b :: l => insF (w64 (n + ((b.Phis.length : Int) + (b.List.length : Int)))) l
theorem run_insF : ∀ (l : List XApi_Block) (i : Nat) (n : Int), run (fun _ n (b : XApi_Block) => (.inr (w64 (n + ((b.Phis.length : Int) + (b.List.length : Int)))) : Int ⊕ Int)) (fun n => n) i n l = insF n l
  | [], _, _ => rfl
  | b :: l, i, n => run_insF l (i + 1) _
theorem rIns_eq (f : XApi_Func) (hf : f.Blocks.length ≤ maxLen) : turneryref2_Ins f = some (insF 0 f.Blocks) := by
  have hm := maxLen_big
  unfold turneryref2_Ins
  have := Loop_run (l := f.Blocks) (τ := Int) (S := Int × Int) (fun s i => (s, i)) (fun _ n b => .inr (w64 (n + ((b.Phis.length : Int) + (b.List.length : Int))))) (fun n => n) (fun _ _ => True) (step := fun s => turneryref2_Ins_L1 f s.1 s.2)
    (fun i n h _ => by
      refine ⟨?_, trivial⟩
      unfold turneryref2_Ins_L1
      simp only [lt_dec h, if_true, idx_lt h, Option.bind_some, w64_succ (i := i) (by omega), w64_add, Int.add_assoc]) (fun n _ => by
      unfold turneryref2_Ins_L1; simp only [lt_dec']; rfl) (s0 := 0) trivial
  rw [this, run_insF]; rfl
theorem cIns_eq (c : XCode_checker) (hf : c.f.Blocks.length ≤ maxLen) : Loop (fun (s : Int × Int) => code_checker_head_L1 c s.1 s.2) (0, 0) = some (insF 0 c.f.Blocks) := by
  have hm := maxLen_big
  have := Loop_run (l := c.f.Blocks) (τ := Int) (S := Int × Int) (fun s i => (s, i)) (fun _ n b => .inr (w64 (n + ((b.Phis.length : Int) + (b.List.length : Int))))) (fun n => n) (fun _ _ => True) (step := fun s => code_checker_head_L1 c s.1 s.2)
    (fun i n h _ => by
      refine ⟨?_, trivial⟩
      unfold code_checker_head_L1
      simp only [lt_dec h, if_true, idx_lt h, Option.bind_some, w64_succ (i := i) (by omega), w64_add']) (fun n _ => by
      unfold code_checker_head_L1; simp only [lt_dec']; rfl) (s0 := 0) trivial
  rw [this, run_insF]
def headC (names : List ByteArray) (f : XApi_Func) : Int :=
  if !nameOk f.Name then 12 else if takenL names f.Name then 7 else if !inb f.Params 0 6 || !inb f.Regs f.Params 100 then 3
  else if !inb (f.Blocks.length : Int) 1 40 || decide (300 < insF 0 f.Blocks) then 2 else 0
def nmG (u : XApi_Unit) (i : Nat) : List ByteArray := (u.Globals.take i).map (·.Name)
def globC (names : List ByteArray) (words : Int) (g : XApi_Global) : Int :=
  if !nameOk g.Name then 12 else if takenL names g.Name then 7 else if !inb g.Size 1 200 then 3 else if decide (g.Size < (g.Init.length : Int)) then 9 else if decide (200 < w64 (words + g.Size)) then 10 else 0
theorem bor (a b : Bool) : (if a = true then some true else some b) = some (a || b) := by cases a <;> rfl
theorem chead_eq (c : XCode_checker) (names : List ByteArray) (hf : c.f.Blocks.length ≤ maxLen) (hn : names.length ≤ maxLen) : code_checker_head c names = some (headC names c.f) := by
  unfold code_checker_head headC
  rw [cIns_eq c hf]
  simp only [Option.bind_some, cname_eq, contains_eq names c.f.Name hn, cin, bor, ifT]
  repeat' split
  all_goals rfl
theorem rhead_eq (u : XApi_Unit) (k : Nat) (hk : k < u.Funcs.length) (hu : UOk u) : turneryref2_head u k = some (headC (u.Globals.map (·.Name) ++ (u.Funcs.take k).map (·.Name)) u.Funcs[k]) := by
  obtain ⟨h1, h2, h3, h4⟩ := hu
  have ht := rtaken_eq u u.Globals.length k u.Funcs[k].Name (Nat.le_refl _) (by omega) h1 h2
  rw [List.take_length] at ht
  unfold turneryref2_head headC
  simp only [idx_lt hk, Option.bind_some, rname_eq, ht, rin2, bor, rIns_eq u.Funcs[k] (h4 _ (List.getElem_mem _)).1]
  repeat' split
  all_goals rfl
theorem rglob_eq (u : XApi_Unit) (k : Nat) (words : Int) (hk : k < u.Globals.length) (hu : UOk u) : turneryref2_global u k words = some (globC (nmG u k) words u.Globals[k]) := by
  obtain ⟨h1, h2, h3, h4⟩ := hu
  have ht := rtaken_eq u k 0 u.Globals[k].Name (by omega) (by omega) h1 h2
  unfold turneryref2_global globC nmG
  have e0 : ((0 : Nat) : Int) = 0 := rfl
  rw [e0] at ht
  simp only [List.take_zero, List.map_nil, List.append_nil] at ht
  simp only [idx_lt hk, Option.bind_some, rname_eq, ht, rin2]
  repeat' split
  all_goals rfl

/-! ### The whole -/
def globE (u : XApi_Unit) : Option XApi_Fault :=
  run (fun i (words : Int) (g : XApi_Global) => if globC (nmG u i) words g != 0 then .inl (some ⟨globC (nmG u i) words g, i⟩) else .inr (w64 (words + g.Size))) (fun _ => none) 0 0 u.Globals
def namesAt (u : XApi_Unit) (i : Nat) : List ByteArray := u.Globals.map (·.Name) ++ (u.Funcs.take i).map (·.Name)
def headE (u : XApi_Unit) : Option XApi_Fault := findI (fun i f => if headC (namesAt u i) f != 0 then some (XApi_Fault.mk (headC (namesAt u i) f) i) else none) 0 u.Funcs
def bodyE (u : XApi_Unit) : Option XApi_Fault := findI (fun i f => if bodyC u f != 0 then some (XApi_Fault.mk (bodyC u f) i) else none) 0 u.Funcs
def mainI (u : XApi_Unit) : Int := match findI (fun i (f : XApi_Func) => if f.Name.toList == (ByteArray.mk #[109, 97, 105, 110]).toList then some (i : Int) else none) 0 u.Funcs with | some i => i | none => -1
def mainE (u : XApi_Unit) : XApi_Fault := if decide (mainI u < 0) then ⟨6, 0⟩ else match idx u.Funcs (mainI u) with | some f => if decide (0 < f.Params) then ⟨5, mainI u⟩ else ⟨0, 0⟩ | none => ⟨0, 0⟩
def chk (u : XApi_Unit) : XApi_Fault :=
  if decide (10 < (u.Globals.length : Int)) || decide (10 < (u.Funcs.length : Int)) then ⟨2, 0⟩
  else match globE u with | some e => e | none => match headE u with | some e => e | none => match bodyE u with | some e => e | none => mainE u
theorem mainI_idx (u : XApi_Unit) (h : ¬ mainI u < 0) : ∃ f, idx u.Funcs (mainI u) = some f := by
  unfold mainI at h ⊢
  have key : ∀ (l : List XApi_Func) (i : Nat) (r : Int), findI (fun i (f : XApi_Func) => if f.Name.toList == (ByteArray.mk #[109, 97, 105, 110]).toList then some (i : Int) else none) i l = some r → ∃ j : Nat, j < l.length ∧ r = ((i + j : Nat) : Int) := by
    intro l
    induction l with
    | nil => intro i r hr; simp [findI] at hr
    | cons x l ih =>
      intro i r hr
      simp only [findI] at hr
      by_cases hx : (x.Name.toList == (ByteArray.mk #[109, 97, 105, 110]).toList) = true
      · simp only [hx, if_true, Option.some.injEq] at hr
        exact ⟨0, by simp, by simpa using hr.symm⟩
      · simp only [hx] at hr
        obtain ⟨j, hj, rfl⟩ := ih _ _ hr
        exact ⟨j + 1, by simpa using hj, by omega⟩
  split at h
  · rename_i i hi
    obtain ⟨j, hj, rfl⟩ := key _ _ _ hi
    rw [Nat.zero_add]
    exact ⟨_, idx_lt hj⟩
  · simp at h
theorem rmain_eq (u : XApi_Unit) (h : u.Funcs.length ≤ maxLen) : turneryref2_Main u = some (mainI u) := by
  have hm := maxLen_big
  unfold turneryref2_Main mainI
  have e : Loop (fun y => turneryref2_Main_L1 u y) 0 = some (brOf (findI (fun i (f : XApi_Func) => if f.Name.toList == (ByteArray.mk #[109, 97, 105, 110]).toList then some (i : Int) else none) 0 u.Funcs)) := by
    refine Loop_find (l := u.Funcs) _ (fun i h => ?_) ?_
    · unfold turneryref2_Main_L1
      simp only [lt_dec h, idx_lt h, Option.bind_some, w64_succ (i := i) (by omega), if_true]
      cases (u.Funcs[i].Name.toList == (ByteArray.mk #[109, 97, 105, 110]).toList) <;> rfl
    · unfold turneryref2_Main_L1; simp only [lt_dec']; rfl
  rw [e]
  cases findI (fun i (f : XApi_Func) => if f.Name.toList == (ByteArray.mk #[109, 97, 105, 110]).toList then some (i : Int) else none) 0 u.Funcs <;> rfl
theorem cmain_eq (u : XApi_Unit) (h : u.Funcs.length ≤ maxLen) : slices_IndexFunc_api_Func_api_Func__f41 u.Funcs = some (mainI u) := by
  have hm := maxLen_big
  unfold slices_IndexFunc_api_Func_api_Func__f41 mainI
  have e : Loop (fun y => slices_IndexFunc_api_Func_api_Func__f41_L1 u.Funcs y) 0 = some (brOf (findI (fun i (f : XApi_Func) => if f.Name.toList == (ByteArray.mk #[109, 97, 105, 110]).toList then some (i : Int) else none) 0 u.Funcs)) := by
    refine Loop_find (l := u.Funcs) _ (fun i h => ?_) ?_
    · unfold slices_IndexFunc_api_Func_api_Func__f41_L1 code_Check_1
      simp only [lt_dec h, idx_lt h, Option.bind_some, w64_succ (i := i) (by omega), if_true]
      cases (u.Funcs[i].Name.toList == (ByteArray.mk #[109, 97, 105, 110]).toList) <;> rfl
    · unfold slices_IndexFunc_api_Func_api_Func__f41_L1; simp only [lt_dec']; rfl
  rw [e]
  cases findI (fun i (f : XApi_Func) => if f.Name.toList == (ByteArray.mk #[109, 97, 105, 110]).toList then some (i : Int) else none) 0 u.Funcs <;> rfl
theorem heads_ok {u : XApi_Unit} (h : headE u = none) : ∀ f ∈ u.Funcs, inb (f.Blocks.length : Int) 1 40 = true := by
  intro f hf
  obtain ⟨i, hi, rfl⟩ := List.getElem_of_mem hf
  have := findI_none_get h i hi
  rw [Nat.zero_add] at this
  have h0 : headC (namesAt u i) u.Funcs[i] = 0 := by
    by_cases hz : headC (namesAt u i) u.Funcs[i] = 0
    · exact hz
    · simp [hz] at this
  unfold headC at h0
  by_cases hb : inb (u.Funcs[i].Blocks.length : Int) 1 40 = true
  · exact hb
  · exfalso
    simp only [hb] at h0
    repeat' split at h0
    all_goals simp_all

theorem rUnit_eq (u : XApi_Unit) (hu : UOk u) : turneryref2_Unit u = some (chk u) := by
  have hm := maxLen_big
  obtain ⟨h1, h2, h3, h4⟩ := id hu
  unfold turneryref2_Unit chk
  simp only [rfault, Option.bind_some, ifT]
  split
  · rfl
  · have e1 : Loop (fun (s : XApi_Fault × Int × Int) => turneryref2_Unit_L1 u s.1 s.2.1 s.2.2) (XApi_Fault.mk 0 0, 0, 0) = some (brOf2 (XApi_Fault.mk 0 0) (globE u)) := by
      have := Loop_run (l := u.Globals) (τ := Br XApi_Fault XApi_Fault) (S := XApi_Fault × Int × Int) (fun (w : Int) i => (XApi_Fault.mk 0 0, w, i)) (fun i (words : Int) (g : XApi_Global) => if globC (nmG u i) words g != 0 then .inl (.ret ⟨globC (nmG u i) words g, i⟩) else .inr (w64 (words + g.Size))) (fun _ => .brk (XApi_Fault.mk 0 0)) (fun _ _ => True) (step := fun s => turneryref2_Unit_L1 u s.1 s.2.1 s.2.2)
        (fun i w h _ => by
          have e : turneryref2_Unit_L1 u (XApi_Fault.mk 0 0) w i = some (if globC (nmG u i) w u.Globals[i] != 0 then .out (.ret ⟨globC (nmG u i) w u.Globals[i], i⟩) else .next (XApi_Fault.mk 0 0, w64 (w + u.Globals[i].Size), ((i + 1 : Nat) : Int))) := by
            unfold turneryref2_Unit_L1
            simp only [lt_dec h, if_true, rglob_eq u i w h hu, idx_lt h, Option.bind_some, rfault, w64_succ (i := i) (by omega)]
            split <;> rfl
          simp only [e]
          by_cases hz : globC (nmG u i) w u.Globals[i] = 0 <;> simp [hz]) (fun w _ => by
          unfold turneryref2_Unit_L1; simp only [lt_dec']; rfl) (s0 := 0) trivial
      rw [this]
      congr 1
      unfold globE
      have key : ∀ (l : List XApi_Global) (i : Nat) (w : Int) (names : Nat → List ByteArray), run (fun i (words : Int) (g : XApi_Global) => (if globC (names i) words g != 0 then .inl (.ret ⟨globC (names i) words g, i⟩) else .inr (w64 (words + g.Size)) : Br XApi_Fault XApi_Fault ⊕ Int)) (fun _ => .brk (XApi_Fault.mk 0 0)) i w l = brOf2 (XApi_Fault.mk 0 0) (run (fun i (words : Int) (g : XApi_Global) => if globC (names i) words g != 0 then .inl (some ⟨globC (names i) words g, i⟩) else .inr (w64 (words + g.Size))) (fun _ => none) i w l) := by
        intro l
        induction l with
        | nil => intro i w names; rfl
        | cons g l ih =>
          intro i w names
          simp only [run]
          by_cases hz : globC (names i) w g = 0
          · simpa [hz] using ih (i + 1) _ names
          · simp [hz, brOf2]
      exact key u.Globals 0 0 (nmG u)
    rw [e1, Option.bind_some]
    cases hg : globE u with
    | some e => rfl
    | none =>
      simp only [brOf2]
      have e2 : Loop (fun (s : XApi_Fault × Int) => turneryref2_Unit_L2 u s.1 s.2) (XApi_Fault.mk 0 0, 0) = some (brOf2 (XApi_Fault.mk 0 0) (headE u)) := by
        refine Loop_find2 (l := u.Funcs) (fun i f => if headC (namesAt u i) f != 0 then some (XApi_Fault.mk (headC (namesAt u i) f) i) else none) (fun i => (XApi_Fault.mk 0 0, i)) (XApi_Fault.mk 0 0) (fun i h => ?_) ?_
        · unfold turneryref2_Unit_L2
          simp only [lt_dec h, if_true, rhead_eq u i h hu, Option.bind_some, rfault, w64_succ (i := i) (by omega)]
          unfold namesAt
          generalize headC (u.Globals.map (·.Name) ++ (u.Funcs.take i).map (·.Name)) u.Funcs[i] = z
          by_cases hz : z = 0 <;> simp [hz]
        · unfold turneryref2_Unit_L2; simp only [lt_dec']; rfl
      rw [e2, Option.bind_some]
      cases hh : headE u with
      | some e => rfl
      | none =>
        simp only [brOf2]
        have hb := heads_ok hh
        have e3 : Loop (fun (s : XApi_Fault × Int) => turneryref2_Unit_L3 u s.1 s.2) (XApi_Fault.mk 0 0, 0) = some (brOf2 (XApi_Fault.mk 0 0) (bodyE u)) := by
          refine Loop_find2 (l := u.Funcs) (fun i f => if bodyC u f != 0 then some (XApi_Fault.mk (bodyC u f) i) else none) (fun i => (XApi_Fault.mk 0 0, i)) (XApi_Fault.mk 0 0) (fun i h => ?_) ?_
          · have hmem : u.Funcs[i] ∈ u.Funcs := List.getElem_mem _
            unfold turneryref2_Unit_L3
            simp only [lt_dec h, if_true, idx_lt h, rbody_eq u u.Funcs[i] h2 (h4 _ hmem) (hb _ hmem), Option.bind_some, rfault, w64_succ (i := i) (by omega)]
            by_cases hz : bodyC u u.Funcs[i] = 0 <;> simp [hz]
          · unfold turneryref2_Unit_L3; simp only [lt_dec']; rfl
        rw [e3, Option.bind_some]
        cases hbd : bodyE u with
        | some e => rfl
        | none =>
          simp only [brOf2, rmain_eq u h2, Option.bind_some]
          unfold mainE
          split
          · rfl
          · rename_i hneg
            obtain ⟨f, hf⟩ := mainI_idx u (by simpa using hneg)
            simp only [hf, Option.bind_some]
            split <;> rfl
end Go.Ab
