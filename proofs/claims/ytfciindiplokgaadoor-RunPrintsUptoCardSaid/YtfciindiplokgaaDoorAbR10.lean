/-
  PLAIN LAWS: loops over lists.
-/
/-
  PLAIN LAWS: the parts of a unit's form, in the program's text and in the reference's.
-/
/-
  PLAIN LAWS: a unit's form.
-/
/-
  PLAIN LAWS: instructions; which blocks are ahead of each.
-/
/-
  PLAIN LAWS: which blocks are ahead of each.
-/
/-
  PLAIN LAWS: functions of a unit.
-/
/-
  PLAIN LAWS: what is wrong with a unit: the program's answer and the reference's are one.
-/
/-
  PLAIN LAWS: the program's Check.
-/
/-
  PLAIN LAWS: Size, Ahead; the law CodeSays.
-/
/-
  PLAIN LAWS: who leads to a block.
-/
/-
  PLAIN LAWS: what a fine unit is like.
-/
import Derived.Test.YtfciindiplokgaaDoorAbV7
import Derived.Test.YtfciindiplokgaaDoorAbGen3
namespace Go.Ab
open Go
@[simp] theorem Br.go_ret {X ρ γ : Type} {f : X → Option γ} {g : ρ → Option γ} {r : ρ} : Br.go f g (.ret r) = g r := rfl
@[simp] theorem Br.go_brk {X ρ γ : Type} {f : X → Option γ} {g : ρ → Option γ} {r : X} : Br.go f g (.brk r : Br X ρ) = f r := rfl
theorem w64_id {n : Int} (h1 : -9223372036854775808 ≤ n) (h2 : n < 9223372036854775808) : w64 n = n := by
  simp only [w64, IntKind.wrap, IntKind.bits, IntKind.signed]
  simp
  split <;> omega
theorem w64_add (a b : Int) : w64 (w64 a + b) = w64 (a + b) := by
  simp only [w64, IntKind.wrap, IntKind.bits, IntKind.signed]
  simp
  split <;> split <;> split <;> omega
theorem w64_add' (a b : Int) : w64 (a + w64 b) = w64 (a + b) := by
  rw [Int.add_comm, w64_add, Int.add_comm]
theorem w64_succ {i : Nat} (h : i < 9223372036854775807) : w64 ((i : Int) + 1) = ((i + 1 : Nat) : Int) := by
  rw [w64_id (by omega) (by omega)]; rfl
theorem idx_lt {α : Type} {l : List α} {i : Nat} (h : i < l.length) : idx l (i : Int) = some l[i] := by
  unfold idx
  rw [if_pos (by omega)]
  simp [h]
theorem idx_0 {α : Type} {x : α} {l : List α} : idx (x :: l) 0 = some x := rfl
theorem idx_1 {α : Type} {x y : α} {l : List α} : idx (x :: y :: l) 1 = some y := rfl
def run {σ τ α : Type} (f : Nat → σ → α → τ ⊕ σ) (e : σ → τ) : Nat → σ → List α → τ
  | _, s, [] => e s
  | i, s, x :: l => match f i s x with | .inl o => o | .inr s' => run f e (i + 1) s' l
theorem Loop_run {σ τ α S : Type} {l : List α} (pack : σ → Int → S) (f : Nat → σ → α → τ ⊕ σ) (e : σ → τ) (Inv : Nat → σ → Prop) {step : S → Option (Lp S τ)}
    (hs : ∀ i s (h : i < l.length), Inv i s → match f i s l[i] with | .inl o => step (pack s (i : Int)) = some (.out o) | .inr s' => step (pack s (i : Int)) = some (.next (pack s' ((i + 1 : Nat) : Int))) ∧ Inv (i + 1) s')
    (he : ∀ s, Inv l.length s → step (pack s (l.length : Int)) = some (.out (e s))) {s0 : σ} (h0 : Inv 0 s0) : Loop step (pack s0 0) = some (run f e 0 s0 l) := by
  have key : ∀ k i s, l.length - i = k → i ≤ l.length → Inv i s → Loop step (pack s (i : Int)) = some (run f e i s (l.drop i)) := by
    intro k
    induction k with
    | zero =>
      intro i s hk hi hI
      obtain rfl : i = l.length := by omega
      rw [Loop_eq, he s hI, List.drop_length]; rfl
    | succ k ih =>
      intro i s hk hi hI
      have hlt : i < l.length := by omega
      have h1 := hs i s hlt hI
      rw [Loop_eq, List.drop_eq_getElem_cons hlt]
      unfold run
      split at h1
      · rw [h1]; rfl
      · rename_i s' ho
        rw [h1.1]
        exact ih (i + 1) s' (by omega) (by omega) h1.2
  exact key _ 0 s0 rfl (by omega) h0
def findI {α ρ : Type} (g : Nat → α → Option ρ) : Nat → List α → Option ρ
  | _, [] => none
  | i, x :: l => match g i x with | some r => some r | none => findI g (i + 1) l
def brOf {ρ : Type} : Option ρ → Br Unit ρ
  | some r => .ret r
  | none => .brk ()
theorem Loop_find {α ρ : Type} {l : List α} (g : Nat → α → Option ρ) {step : Int → Option (Lp Int (Br Unit ρ))}
    (hs : ∀ i (h : i < l.length), step (i : Int) = some (match g i l[i] with | some r => .out (.ret r) | none => .next ((i + 1 : Nat) : Int)))
    (he : step (l.length : Int) = some (.out (.brk ()))) : Loop (fun s => step s) 0 = some (brOf (findI g 0 l)) := by
  have := Loop_run (l := l) (σ := Unit) (τ := Br Unit ρ) (fun _ i => i) (fun i _ x => match g i x with | some r => .inl (.ret r) | none => .inr ()) (fun _ => .brk ()) (fun _ _ => True) (step := step)
    (fun i s h _ => by
      have := hs i h
      cases hg : g i l[i] with
      | some r => simp only [hg] at this ⊢; exact this
      | none => simp only [hg] at this ⊢; exact ⟨this, trivial⟩) (fun s _ => he) (s0 := ()) trivial
  rw [this]
  congr 1
  generalize 0 = i
  clear this hs he
  induction l generalizing i with
  | nil => rfl
  | cons x l ih =>
    simp only [run, findI]
    cases g i x with
    | some r => rfl
    | none => exact ih (i + 1)
def firstE {α : Type} (g : α → Int) : List α → Int
  | [] => 0
  | x :: l => if g x != 0 then g x else firstE g l
def brOf2 {X ρ : Type} (e : X) : Option ρ → Br X ρ
  | some r => .ret r
  | none => .brk e
theorem Loop_find2 {α ρ S X : Type} {l : List α} (g : Nat → α → Option ρ) (pack : Int → S) (e : X) {step : S → Option (Lp S (Br X ρ))}
    (hs : ∀ i (h : i < l.length), step (pack (i : Int)) = some (match g i l[i] with | some r => .out (.ret r) | none => .next (pack ((i + 1 : Nat) : Int))))
    (he : step (pack (l.length : Int)) = some (.out (.brk e))) : Loop step (pack 0) = some (brOf2 e (findI g 0 l)) := by
  have := Loop_run (l := l) (σ := Unit) (τ := Br X ρ) (fun _ i => pack i) (fun i _ x => match g i x with | some r => .inl (.ret r) | none => .inr ()) (fun _ => .brk e) (fun _ _ => True) (step := step)
    (fun i s h _ => by
      have := hs i h
      cases hg : g i l[i] with
      | some r => simp only [hg] at this ⊢; exact this
      | none => simp only [hg] at this ⊢; exact ⟨this, trivial⟩) (fun s _ => he) (s0 := ()) trivial
  rw [this]
  congr 1
  generalize 0 = i
  clear this hs he
  induction l generalizing i with
  | nil => rfl
  | cons x l ih =>
    simp only [run, findI]
    cases g i x with
    | some r => rfl
    | none => exact ih (i + 1)
theorem findI_none_get {α ρ : Type} {g : Nat → α → Option ρ} : ∀ {l : List α} {i : Nat}, findI g i l = none → ∀ j (h : j < l.length), g (i + j) l[j] = none
  | [], _, _, j, h => by simp at h
  | x :: l, i, hf, j, h => by
    simp only [findI] at hf
    cases hg : g i x with
    | some r => rw [hg] at hf; cases hf
    | none =>
      rw [hg] at hf
      cases j with
      | zero => simpa using hg
      | succ j =>
        have := findI_none_get hf j (by simpa using h)
        rw [Nat.add_assoc, Nat.add_comm 1 j] at this
        simpa using this
def firstEI {α : Type} (g : Nat → α → Int) : Nat → List α → Int
  | _, [] => 0
  | i, x :: l => if g i x != 0 then g i x else firstEI g (i + 1) l
theorem findI_firstEI {α : Type} (g : Nat → α → Int) : ∀ (l : List α) (i : Nat), findI (fun i x => if g i x != 0 then some (g i x) else none) i l = if firstEI g i l != 0 then some (firstEI g i l) else none
  | [], _ => rfl
  | x :: l, i => by
    simp only [findI, firstEI]
    by_cases hg : g i x = 0
    · simpa [hg] using findI_firstEI g l (i + 1)
    · simp [hg]
theorem firstE_0 {α : Type} {g : α → Int} : ∀ {l : List α}, firstE g l = 0 → ∀ x ∈ l, g x = 0
  | [], _, x, hx => by cases hx
  | y :: l, h, x, hx => by
    simp only [firstE] at h
    by_cases hg : g y = 0
    · simp [hg] at h
      rcases List.mem_cons.1 hx with rfl | hx
      · exact hg
      · exact firstE_0 h x hx
    · simp [hg] at h
theorem findI_none {α ρ : Type} {g : Nat → α → Option ρ} : ∀ {l : List α} {i : Nat}, (∀ x ∈ l, ∀ j, g j x = none) → findI g i l = none
  | [], _, _ => rfl
  | x :: l, i, h => by
    simp only [findI, h x (by simp)]
    exact findI_none fun y hy => h y (by simp [hy])
theorem findI_all {α ρ : Type} (p : α → Bool) (r : ρ) : ∀ (l : List α) (i : Nat), findI (fun _ x => if p x then none else some r) i l = if l.all p then none else some r
  | [], _ => rfl
  | x :: l, i => by
    simp only [findI, List.all_cons]
    by_cases hp : p x = true
    · simpa [hp] using findI_all p r l (i + 1)
    · simp [hp]
theorem findI_firstE {α : Type} (g : α → Int) : ∀ (l : List α) (i : Nat), findI (fun _ x => if g x != 0 then some (g x) else none) i l = if firstE g l != 0 then some (firstE g l) else none
  | [], _ => rfl
  | x :: l, i => by
    simp only [findI, firstE]
    by_cases hg : g x = 0
    · simpa [hg] using findI_firstE g l (i + 1)
    · simp [hg]
end Go.Ab
namespace Go.Ab
open Go Go.Proofs
def inb (a lo hi : Int) : Bool := decide (lo ≤ a) && decide (a ≤ hi)
theorem ifF (a b : Bool) : (if a then b else false) = (a && b) := by cases a <;> rfl
theorem ifT (a b : Bool) : (if a then true else b) = (a || b) := by cases a <;> rfl
@[simp] theorem rin1 (a b c : Int) : ref1_in a b c = some (inb a b c) := by simp only [ref1_in, inb, ifF]
@[simp] theorem rin2 (a b c : Int) : ref2_in a b c = some (inb a b c) := by simp only [ref2_in, inb, ifF]
@[simp] theorem lin2 (a b c : Int) : law2_in a b c = some (inb a b c) := by simp only [law2_in, inb, ifF]
@[simp] theorem cin (a b c : Int) : core_Within a b c = some (inb a b c) := by simp only [core_Within, inb, ifF]
@[simp] theorem rfault (a b : Int) : ref2_fault a b = some ⟨a, b⟩ := rfl
@[simp] theorem cfault (a b : Int) : core_Fault a b = some ⟨a, b⟩ := rfl
@[simp] theorem sfault (a b : Int) : same_Fault a b = some ⟨a, b⟩ := rfl
def letB (c : Int) : Bool := inb c 97 122 || inb c 65 90 || c == 95
def digB (c : Int) : Bool := inb c 48 57
def chB (c : UInt8) : Bool := letB c.toNat || digB c.toNat
def nameOk (s : ByteArray) : Bool := inb s.size 1 12 && (match s.data.toList with | [] => false | c :: _ => !digB c.toNat) && s.data.toList.all chB
@[simp] theorem rletter (c : Int) : ref1_letter c = some (letB c) := by
  simp only [ref1_letter, letB, inb, ifF, ifT]
@[simp] theorem rdigit (c : Int) : ref1_digit c = some (digB c) := by
  simp only [ref1_digit, digB, inb, ifF]
theorem sidx_lt {s : ByteArray} {i : Nat} (h : i < s.data.toList.length) : sidx s (i : Int) = some s.data.toList[i] := by
  unfold sidx
  rw [if_pos (by omega)]
  simp only [Int.toNat_natCast]
  have h' : i < s.size := by simpa using h
  rw [getElem?_pos s i h']
  rfl
theorem size_len (s : ByteArray) : s.size = s.data.toList.length := by simp
theorem rname_loop (s : ByteArray) (h12 : s.size ≤ 12) : Loop (fun i => ref1_Name_L1 s i) 0 = some (brOf (if s.data.toList.all chB then none else some false)) := by
  rw [← findI_all chB false s.data.toList 0]
  refine Loop_find (l := s.data.toList) (fun _ x => if chB x then none else some false) (fun i h => ?_) ?_
  · have hlt : i < s.size := by rw [size_len]; exact h
    unfold ref1_Name_L1
    simp only [sidx_lt h, Option.bind_some, rletter, rdigit, w64_succ (i := i) (by omega)]
    rw [if_pos (by simp; omega)]
    unfold chB
    cases letB (s.data.toList[i].toNat) <;> cases digB (s.data.toList[i].toNat) <;> rfl
  · unfold ref1_Name_L1
    rw [if_neg (by simp)]
theorem rname_eq (s : ByteArray) : ref1_Name s = some (nameOk s) := by
  unfold ref1_Name nameOk
  simp only [rin1, Option.bind_some]
  by_cases hs : inb s.size 1 12 = true
  · have hb : 1 ≤ s.size ∧ s.size ≤ 12 := by
      simp only [inb, Bool.and_eq_true, decide_eq_true_eq] at hs; omega
    simp only [hs, rname_loop s hb.2]
    cases hc : s.data.toList with
    | nil => rw [size_len, hc] at hb; simp at hb
    | cons c l =>
      have h0 : sidx s 0 = some c := by
        have := sidx_lt (s := s) (i := 0) (by rw [hc]; simp)
        simpa [hc] using this
      simp only [h0, Option.bind_some, rdigit, Bool.not_true, Bool.false_eq_true, if_false]
      cases digB c.toNat <;> cases hall : (c :: l).all chB <;> simp_all [brOf]
  · simp [hs]
theorem cname_loop (s : ByteArray) (h12 : s.size ≤ 12) : Loop (fun i => core_Name_L1 s i) 0 = some (brOf (findI (fun i c => if letB c.toNat || (decide (0 < i) && digB c.toNat) then none else some false) 0 s.data.toList)) := by
  refine Loop_find (l := s.data.toList) _ (fun i h => ?_) ?_
  · have hlt : i < s.size := by rw [size_len]; exact h
    unfold core_Name_L1
    simp only [sidx_lt h, Option.bind_some, w64_succ (i := i) (by omega), ifF, ifT]
    rw [if_pos (by simp; omega)]
    have e : (decide (97 ≤ (s.data.toList[i].toNat : Int)) && decide ((s.data.toList[i].toNat : Int) ≤ 122) || decide (65 ≤ (s.data.toList[i].toNat : Int)) && decide ((s.data.toList[i].toNat : Int) ≤ 90) || (s.data.toList[i].toNat : Int) == 95 || decide (0 < (i : Int)) && decide (48 ≤ (s.data.toList[i].toNat : Int)) && decide ((s.data.toList[i].toNat : Int) ≤ 57)) = (letB s.data.toList[i].toNat || (decide (0 < i) && digB s.data.toList[i].toNat)) := by
      simp only [letB, digB, inb, Bool.and_assoc]
      congr 2
      simp
    rw [e]
    cases letB s.data.toList[i].toNat || (decide (0 < i) && digB s.data.toList[i].toNat) <;> rfl
  · unfold core_Name_L1
    rw [if_neg (by simp)]
theorem cname_eq (s : ByteArray) : core_Name s = some (nameOk s) := by
  unfold core_Name nameOk
  simp only [ifT]
  by_cases hs : inb s.size 1 12 = true
  · have hb : 1 ≤ s.size ∧ s.size ≤ 12 := by
      simp only [inb, Bool.and_eq_true, decide_eq_true_eq] at hs; omega
    have hc0 : (decide ((s.size : Int) < 1) || decide (12 < (s.size : Int))) = false := by simp; omega
    simp only [hs, hc0, cname_loop s hb.2]
    cases hc : s.data.toList with
    | nil => rw [size_len, hc] at hb; simp at hb
    | cons c l =>
      have key : ∀ (l : List UInt8) (i : Nat), 0 < i → findI (fun i (c : UInt8) => if letB c.toNat || (decide (0 < i) && digB c.toNat) then none else some false) i l = if l.all chB then none else some false := by
        intro l
        induction l with
        | nil => intro i _; rfl
        | cons x l ih =>
          intro i hi
          have e : (letB x.toNat || (decide (0 < i) && digB x.toNat)) = chB x := by simp [chB, hi]
          rw [findI, ih (i + 1) (by omega), List.all_cons, e]
          by_cases hx : chB x = true <;> simp [hx]
      have hld : letB c.toNat = true → digB c.toNat = false := by
        simp only [letB, digB, inb]; simp; omega
      have e0 : (letB c.toNat || (decide (0 < 0) && digB c.toNat)) = letB c.toNat := by simp
      rw [findI, key l 1 (by omega), e0, List.all_cons]
      by_cases h1 : letB c.toNat = true
      · by_cases hl : l.all chB = true <;> simp [h1, hld h1, hl, brOf, chB] <;> simpa using hl
      · have h1' : letB c.toNat = false := by simpa using h1
        cases h2 : digB c.toNat <;> simp [h1', h2, brOf, chB]
  · have : (decide ((s.size : Int) < 1) || decide (12 < (s.size : Int))) = true := by
      simp only [inb, Bool.and_eq_true, decide_eq_true_eq] at hs
      simp; omega
    simp [hs, this]
end Go.Ab
namespace Go.Ab
open Go Go.Proofs
def BOk (b : XApi_Block) : Prop := b.Phis.length ≤ maxLen ∧ b.List.length ≤ maxLen ∧ b.End.To.length ≤ maxLen ∧ (∀ p ∈ b.Phis, p.From.length ≤ maxLen) ∧ (∀ x ∈ b.List, x.Args.length ≤ maxLen)
def FOk (f : XApi_Func) : Prop := f.Blocks.length ≤ maxLen ∧ ∀ b ∈ f.Blocks, BOk b
def UOk (u : XApi_Unit) : Prop := u.Globals.length ≤ maxLen ∧ u.Funcs.length ≤ maxLen ∧ (∀ g ∈ u.Globals, g.Init.length ≤ maxLen) ∧ ∀ f ∈ u.Funcs, FOk f
theorem maxLen_big : maxLen = 9223372036854775807 := rfl
theorem lt_dec {i : Nat} {n : Nat} (h : i < n) : decide ((i : Int) < (n : Int)) = true := by simp [h]
theorem lt_dec' {n : Nat} : decide ((n : Int) < (n : Int)) = false := by simp
def valOk (f : XApi_Func) (v : XApi_Val) : Bool := !v.Reg || inb v.N 0 (w64 (f.Regs - 1))
@[simp] theorem rval_eq (f : XApi_Func) (v : XApi_Val) : ref2_val f v = some (valOk f v) := by
  unfold ref2_val valOk
  cases v.Reg <;> simp
@[simp] theorem cval_eq (c : XCode_checker) (v : XApi_Val) : code_checker_val c v = some (if valOk c.f v then 0 else 3) := by
  unfold code_checker_val valOk
  cases v.Reg
  · simp
  · cases h : inb v.N 0 (w64 (c.f.Regs - 1)) <;> simp [h]
theorem rvals_eq (f : XApi_Func) (l : List XApi_Val) (hl : l.length ≤ maxLen) : ref2_vals f l = some (l.all (valOk f)) := by
  have := maxLen_big
  unfold ref2_vals
  have e : Loop (fun s => ref2_vals_L1 f l s) 0 = some (brOf (findI (fun _ x => if valOk f x then none else some false) 0 l)) := by
    refine Loop_find (l := l) _ (fun i h => ?_) ?_
    · unfold ref2_vals_L1
      simp only [lt_dec h, idx_lt h, Option.bind_some, rval_eq, w64_succ (i := i) (by omega), if_true]
      cases valOk f l[i] <;> rfl
    · unfold ref2_vals_L1; simp only [lt_dec']; rfl
  rw [e, findI_all]
  cases l.all (valOk f) <;> rfl
theorem cphi_loop (c : XCode_checker) (p : XApi_Phi) (hl : p.From.length ≤ maxLen) : Loop (fun s => code_checker_phi_L1 c p s) 0 = some (brOf (if p.From.all (valOk c.f) then none else some 3)) := by
  have := maxLen_big
  rw [← findI_all (valOk c.f) 3 p.From 0]
  refine Loop_find (l := p.From) (fun _ x => if valOk c.f x then none else some 3) (fun i h => ?_) ?_
  · unfold code_checker_phi_L1
    simp only [lt_dec h, idx_lt h, Option.bind_some, cval_eq, w64_succ (i := i) (by omega), if_true]
    cases valOk c.f p.From[i] <;> rfl
  · unfold code_checker_phi_L1; simp only [lt_dec']; rfl
theorem cargs_loop (x : XApi_Ins) (c : XCode_checker) (hl : x.Args.length ≤ maxLen) : Loop (fun s => code_checker_ins_3_L1 x c s) 0 = some (brOf (if x.Args.all (valOk c.f) then none else some 3)) := by
  have := maxLen_big
  rw [← findI_all (valOk c.f) 3 x.Args 0]
  refine Loop_find (l := x.Args) (fun _ x => if valOk c.f x then none else some 3) (fun i h => ?_) ?_
  · unfold code_checker_ins_3_L1
    simp only [lt_dec h, idx_lt h, Option.bind_some, cval_eq, w64_succ (i := i) (by omega), if_true]
    cases valOk c.f x.Args[i] <;> rfl
  · unfold code_checker_ins_3_L1; simp only [lt_dec']; rfl
def onZ (e : XApi_End) : Bool := e.On.Reg == false && e.On.N == 0
def toOk (f : XApi_Func) (n : Int) : Bool := inb n 1 (w64 ((f.Blocks.length : Int) - 1))
def endC (f : XApi_Func) (e : XApi_End) : Int :=
  if !inb e.Kind 1 3 then 4 else if (e.To.length : Int) != e.Kind - 1 then 9 else if !e.To.all (toOk f) then 3
  else if (e.Kind == 3 && e.To[0]? == e.To[1]?) || (e.Kind == 2 && !onZ e) then 5 else if !valOk f e.On then 3 else 0
theorem rend_loop (f : XApi_Func) (e : XApi_End) (hl : e.To.length ≤ maxLen) : Loop (fun s => ref2_end_L1 f e s) 0 = some (brOf (if e.To.all (toOk f) then none else some 3)) := by
  have := maxLen_big
  rw [← findI_all (toOk f) 3 e.To 0]
  refine Loop_find (l := e.To) (fun _ x => if toOk f x then none else some 3) (fun i h => ?_) ?_
  · unfold ref2_end_L1
    simp only [lt_dec h, idx_lt h, Option.bind_some, rin2, w64_succ (i := i) (by omega), if_true]
    unfold toOk
    cases inb e.To[i] 1 (w64 ((f.Blocks.length : Int) - 1)) <;> rfl
  · unfold ref2_end_L1; simp only [lt_dec']; rfl
theorem cend_loop (c : XCode_checker) (l : List Int) (hl : l.length ≤ maxLen) : slices_ContainsFunc_int_int__f77 l c = some (!l.all (toOk c.f)) := by
  have := maxLen_big
  have e : Loop (fun s => slices_IndexFunc_int_int__f77_L1 l c s) 0 = some (brOf (findI (fun i x => if toOk c.f x then none else some (i : Int)) 0 l)) := by
    refine Loop_find (l := l) _ (fun i h => ?_) ?_
    · unfold slices_IndexFunc_int_int__f77_L1 code_checker_end_1
      simp only [lt_dec h, idx_lt h, Option.bind_some, cin, w64_succ (i := i) (by omega), if_true]
      unfold toOk
      cases inb l[i] 1 (w64 ((c.f.Blocks.length : Int) - 1)) <;> rfl
    · unfold slices_IndexFunc_int_int__f77_L1; simp only [lt_dec']; rfl
  unfold slices_ContainsFunc_int_int__f77 slices_IndexFunc_int_int__f77
  rw [e]
  have key : ∀ (l : List Int) (i : Nat), (findI (fun i x => if toOk c.f x then none else some (i : Int)) i l).isSome = !l.all (toOk c.f) ∧ ∀ r, findI (fun i x => if toOk c.f x then none else some (i : Int)) i l = some r → 0 ≤ r := by
    intro l
    induction l with
    | nil => intro i; simp [findI]
    | cons x l ih =>
      intro i
      simp only [findI, List.all_cons]
      by_cases hx : toOk c.f x = true
      · simpa [hx] using ih (i + 1)
      · simp [hx]
  obtain ⟨k1, k2⟩ := key l 0
  cases hf : findI (fun i x => if toOk c.f x then none else some (i : Int)) 0 l with
  | none => rw [hf] at k1; simp only [brOf, Option.bind_some, ← k1]; rfl
  | some r => rw [hf] at k1; have := k2 r hf; simp [brOf, ← k1, this]
theorem kind_cases {k : Int} (h : inb k 1 3 = true) : k = 1 ∨ k = 2 ∨ k = 3 := by
  simp only [inb, Bool.and_eq_true, decide_eq_true_eq] at h; omega
theorem len1 {α : Type} {l : List α} (h : (l.length : Int) = 1) : ∃ a, l = [a] := by
  match l, h with
  | [a], _ => exact ⟨a, rfl⟩
  | [], h => simp at h
  | _ :: _ :: _, h => simp at h; omega
theorem len2 {α : Type} {l : List α} (h : (l.length : Int) = 2) : ∃ a b, l = [a, b] := by
  match l, h with
  | [a, b], _ => exact ⟨a, b, rfl⟩
  | [], h => simp at h
  | [_], h => simp at h
  | _ :: _ :: _ :: _, h => simp at h; omega
theorem rend_eq (f : XApi_Func) (e : XApi_End) (hl : e.To.length ≤ maxLen) : ref2_end f e = some (endC f e) := by
  unfold ref2_end endC onZ
  simp only [rin2, Option.bind_some, rend_loop f e hl, rval_eq, Bool.and_true]
  by_cases hk : inb e.Kind 1 3 = true
  · simp only [hk, Bool.not_true, Bool.false_eq_true, if_false]
    have hw : w64 (e.Kind - 1) = e.Kind - 1 := by rcases kind_cases hk with h | h | h <;> rw [h] <;> rfl
    rw [hw]
    by_cases hn : (e.To.length : Int) = e.Kind - 1
    · simp only [hn, bne_self_eq_false, Bool.false_eq_true, if_false]
      by_cases ha : e.To.all (toOk f) = true
      · simp only [ha, if_true, brOf, Bool.not_true, Bool.false_eq_true, if_false]
        rcases kind_cases hk with h | h | h
        · simp only [h]; cases valOk f e.On <;> rfl
        · simp only [h]; cases valOk f e.On <;> cases (e.On.Reg == false && e.On.N == 0) <;> rfl
        · rw [h] at hn
          obtain ⟨a, b, hab⟩ := len2 (by simpa using hn)
          simp only [h, hab, idx_0, idx_1, Option.bind_some]
          by_cases hq : a = b
          · simp [hq]
          · simp [hq]; cases valOk f e.On <;> rfl
      · simp only [ha]; rfl
    · have : ((e.To.length : Int) != e.Kind - 1) = true := by simpa using hn
      simp only [this, if_true]
  · simp [hk]
theorem cend_eq (c : XCode_checker) (e : XApi_End) (hl : e.To.length ≤ maxLen) : code_checker_end c e = some (endC c.f e) := by
  unfold code_checker_end endC onZ
  simp only [cin, Option.bind_some, cend_loop c e.To hl, cval_eq, Bool.and_true]
  by_cases hk : inb e.Kind 1 3 = true
  · simp only [hk, Bool.not_true, Bool.false_eq_true, if_false]
    have hi : idx ([0, 0, 1, 2] : List Int) e.Kind = some (e.Kind - 1) := by rcases kind_cases hk with h | h | h <;> rw [h] <;> rfl
    simp only [hi, Option.bind_some]
    by_cases hn : (e.To.length : Int) = e.Kind - 1
    · simp only [hn, bne_self_eq_false, Bool.false_eq_true, if_false]
      by_cases ha : e.To.all (toOk c.f) = true
      · simp only [ha, Bool.not_true, Bool.false_eq_true, if_false]
        rcases kind_cases hk with h | h | h
        · simp only [h]; cases valOk c.f e.On <;> rfl
        · simp only [h]; cases valOk c.f e.On <;> cases (e.On.Reg == false && e.On.N == 0) <;> rfl
        · rw [h] at hn
          obtain ⟨a, b, hab⟩ := len2 (by simpa using hn)
          simp only [h, hab, idx_0, idx_1, Option.bind_some]
          by_cases hq : a = b
          · simp [hq]
          · simp [hq]; cases valOk c.f e.On <;> rfl
      · simp only [ha]; rfl
    · have : ((e.To.length : Int) != e.Kind - 1) = true := by simpa using hn
      simp only [this, if_true]
  · simp [hk]
end Go.Ab
namespace Go.Ab
open Go Go.Proofs
def dstB (op : Int) : Bool := inb op 1 18 || op == 20 || op == 21
def aB (op : Int) : Bool := inb op 1 19 || op == 22
def bB (op : Int) : Bool := inb op 2 15 || op == 19
@[simp] theorem rDst (op : Int) : ref2_Dst op = some (dstB op) := by simp only [ref2_Dst, rin2, Option.bind_some, ifT, dstB]
@[simp] theorem rA (op : Int) : ref2_SpeaksA op = some (aB op) := by simp only [ref2_SpeaksA, rin2, Option.bind_some, ifT, aB]
@[simp] theorem rB (op : Int) : ref2_SpeaksB op = some (bB op) := by simp only [ref2_SpeaksB, rin2, Option.bind_some, ifT, bB]
theorem shapes_eq {op : Int} (h : inb op 1 22 = true) : core_Shapes op = some ⟨dstB op, aB op, bB op⟩ := by
  have h' : 1 ≤ op ∧ op ≤ 22 := by simp only [inb, Bool.and_eq_true, decide_eq_true_eq] at h; exact h
  have : op = 1 ∨ op = 2 ∨ op = 3 ∨ op = 4 ∨ op = 5 ∨ op = 6 ∨ op = 7 ∨ op = 8 ∨ op = 9 ∨ op = 10 ∨ op = 11 ∨ op = 12 ∨ op = 13 ∨ op = 14 ∨ op = 15 ∨ op = 16 ∨ op = 17 ∨ op = 18 ∨ op = 19 ∨ op = 20 ∨ op = 21 ∨ op = 22 := by omega
  rcases this with h | h | h | h | h | h | h | h | h | h | h | h | h | h | h | h | h | h | h | h | h | h <;> subst h <;> rfl
def vZ (v : XApi_Val) : Bool := v.Reg == false && v.N == 0
def insC (u : XApi_Unit) (f : XApi_Func) (x : XApi_Ins) : Int :=
  if !inb x.Op 1 22 then 4
  else if (!dstB x.Op && x.Dst != -1) || (!aB x.Op && !vZ x.A) || (!bB x.Op && !vZ x.B) || (!(x.Op == 20) && (x.Func != 0 || decide (0 < (x.Args.length : Int)))) then 5
  else if dstB x.Op && !inb x.Dst 0 (w64 (f.Regs - 1)) && (!(x.Op == 20) || x.Dst != -1) then 3
  else if !valOk f x.A || !valOk f x.B then 3
  else if !(x.Op == 20) then 0
  else if !inb x.Func 0 (w64 ((u.Funcs.length : Int) - 1)) then 3
  else match idx u.Funcs x.Func with
    | some g => if (x.Args.length : Int) != g.Params then 9 else if x.Args.all (valOk f) then 0 else 3
    | none => 0
theorem idx_in {α : Type} {l : List α} {k : Int} (hl : l.length ≤ maxLen) (h : inb k 0 (w64 ((l.length : Int) - 1)) = true) : ∃ x, idx l k = some x ∧ x ∈ l := by
  have hm := maxLen_big
  simp only [inb, Bool.and_eq_true, decide_eq_true_eq] at h
  rw [w64_id (by omega) (by omega)] at h
  have hlt : k.toNat < l.length := by omega
  refine ⟨l[k.toNat], ?_, List.getElem_mem _⟩
  unfold idx
  rw [if_pos h.1, List.getElem?_eq_getElem hlt]
theorem rins_eq (u : XApi_Unit) (f : XApi_Func) (x : XApi_Ins) (hu : u.Funcs.length ≤ maxLen) (hl : x.Args.length ≤ maxLen) : ref2_ins u f x = some (insC u f x) := by
  unfold ref2_ins insC vZ
  simp only [rin2, rDst, rA, rB, rval_eq, Option.bind_some, ifF, ifT, rvals_eq f x.Args hl, Bool.and_true]
  by_cases hop : inb x.Op 1 22 = true
  · simp only [hop, Bool.not_true, Bool.false_eq_true, if_false]
    have e1 : ∀ (a b : Bool), (if a = true then some true else some b) = some (a || b) := by intro a b; cases a <;> rfl
    have e2 : ∀ (a b : Bool), (if a = true then some b else some false) = some (a && b) := by intro a b; cases a <;> rfl
    simp only [e1, e2, Option.bind_some, Bool.or_assoc]
    by_cases hf : inb x.Func 0 (w64 ((u.Funcs.length : Int) - 1)) = true
    · obtain ⟨g, hg, _⟩ := idx_in hu hf
      simp only [hf, hg, Option.bind_some, Bool.not_true, Bool.false_eq_true, if_false]
      cases x.Args.all (valOk f) <;> (repeat' split) <;> first | rfl | (simp_all; done)
    · simp only [hf, Bool.not_false, if_true]
      (repeat' split) <;> first | rfl | (simp_all; done)
  · simp [hop]
theorem first_eq (c : XCode_checker) (x : XApi_Ins) (call : Bool) (a b d : Int) (h1 : code_checker_ins_1 c x = some a) (h2 : code_checker_ins_2 c x = some b) (h3 : code_checker_ins_3 call x c = some d) :
    code_first__f82_f83_f84 c x c x call x c = some (if a != 0 then a else if b != 0 then b else d) := by
  unfold code_first__f82_f83_f84
  have s0 : code_first__f82_f83_f84_L1 c x c x call x c 0 = some (if a != 0 then .out (.ret a) else .next 1) := by
    unfold code_first__f82_f83_f84_L1
    have i0 : idxF 3 0 = some 0 := rfl
    have e0 : w64 1 = 1 := w64_id (by omega) (by omega)
    by_cases hz : a = 0
    · subst hz; simp [i0, h1, e0]
    · simp [i0, h1, e0, hz]
  have s1 : code_first__f82_f83_f84_L1 c x c x call x c 1 = some (if b != 0 then .out (.ret b) else .next 2) := by
    unfold code_first__f82_f83_f84_L1
    have i0 : idxF 3 1 = some 1 := rfl
    have e0 : w64 2 = 2 := w64_id (by omega) (by omega)
    by_cases hz : b = 0
    · subst hz; simp [i0, h2, e0]
    · simp [i0, h2, e0, hz]
  have s2 : code_first__f82_f83_f84_L1 c x c x call x c 2 = some (if d != 0 then .out (.ret d) else .next 3) := by
    unfold code_first__f82_f83_f84_L1
    have i0 : idxF 3 2 = some 2 := rfl
    have e0 : w64 3 = 3 := w64_id (by omega) (by omega)
    by_cases hz : d = 0
    · subst hz; simp [i0, h3, e0]
    · simp [i0, h3, e0, hz]
  have s3 : code_first__f82_f83_f84_L1 c x c x call x c 3 = some (.out (.brk ())) := rfl
  rw [Loop_eq, s0]
  by_cases ha : a = 0
  · simp only [ha, bne_self_eq_false, Bool.false_eq_true, if_false, Option.bind_some]
    rw [Loop_eq, s1]
    by_cases hb : b = 0
    · simp only [hb, bne_self_eq_false, Bool.false_eq_true, if_false, Option.bind_some]
      rw [Loop_eq, s2]
      by_cases hd : d = 0
      · simp only [hd, bne_self_eq_false, Bool.false_eq_true, if_false, Option.bind_some]
        rw [Loop_eq, s3]; rfl
      · simp [hd]
    · simp [hb]
  · simp [ha]
theorem cins_eq (c : XCode_checker) (x : XApi_Ins) (hu : c.u.Funcs.length ≤ maxLen) (hl : x.Args.length ≤ maxLen) : code_checker_ins c x = some (insC c.u c.f x) := by
  have hJ : code_checker_ins_J1 c x = some (if !valOk c.f x.A || !valOk c.f x.B then 3
  else if !(x.Op == 20) then 0
  else if !inb x.Func 0 (w64 ((c.u.Funcs.length : Int) - 1)) then 3
  else match idx c.u.Funcs x.Func with
    | some g => if (x.Args.length : Int) != g.Params then 9 else if x.Args.all (valOk c.f) then 0 else 3
    | none => 0) := by
    unfold code_checker_ins_J1
    have h3 : code_checker_ins_3 (x.Op == 20) x c = some (if !(x.Op == 20) then 0
  else if !inb x.Func 0 (w64 ((c.u.Funcs.length : Int) - 1)) then 3
  else match idx c.u.Funcs x.Func with
    | some g => if (x.Args.length : Int) != g.Params then 9 else if x.Args.all (valOk c.f) then 0 else 3
    | none => 0) := by
      unfold code_checker_ins_3
      simp only [cin, Option.bind_some, cargs_loop x c hl]
      split
      · rfl
      · by_cases hf : inb x.Func 0 (w64 ((c.u.Funcs.length : Int) - 1)) = true
        · obtain ⟨g, hg, _⟩ := idx_in hu hf
          simp only [hf, hg, Option.bind_some, Bool.not_true, Bool.false_eq_true, if_false]
          split
          · rfl
          · cases x.Args.all (valOk c.f) <;> rfl
        · simp [hf]
    rw [first_eq c x _ (if valOk c.f x.A then 0 else 3) (if valOk c.f x.B then 0 else 3) _ (by simp [code_checker_ins_1]) (by simp [code_checker_ins_2]) h3]
    cases valOk c.f x.A <;> cases valOk c.f x.B <;> rfl
  unfold code_checker_ins insC vZ
  simp only [cin, Option.bind_some, hJ, ifF, ifT, Bool.and_true]
  by_cases hop : inb x.Op 1 22 = true
  · simp only [hop, shapes_eq hop, Bool.not_true, Bool.false_eq_true, if_false, Option.bind_some]
    split
    · rfl
    · unfold code_checker_dst
      simp only [cin, Option.bind_some]
      cases hd : dstB x.Op
      · simp
      · cases hi : inb x.Dst 0 (w64 (c.f.Regs - 1))
        · by_cases hc : (x.Op == 20) = true
          · by_cases hm : x.Dst = -1
            · simp [hc, hm]
            · simp [hc, hm]
          · simp [hc]
        · simp
  · simp [hop]
end Go.Ab
namespace Go.Ab
open Go Go.Proofs
def ah1 (k i : Int) (l : List Int) : List Int := (l.filter (· == k)).map fun _ => i
def ahS (k : Int) : Nat → List XApi_Block → List Int
  | _, [] => []
  | i, b :: l => ah1 k (i : Int) b.End.To ++ ahS k (i + 1) l
theorem ah1_cons (k i x : Int) (l : List Int) : ah1 k i (x :: l) = (if x == k then [i] else []) ++ ah1 k i l := by
  unfold ah1
  rw [List.filter_cons]
  split <;> simp
theorem ah1_len (k i : Int) (l : List Int) : (ah1 k i l).length ≤ l.length := by unfold ah1; simpa using List.length_filter_le _ _
theorem app_ok {α : Type} {a b : List α} (h : a.length + b.length ≤ 4294967296) : app a b = some (a ++ b) := if_pos h
def ToOk (f : XApi_Func) : Prop := f.Blocks.length ≤ 40 ∧ ∀ b ∈ f.Blocks, b.End.To.length ≤ 2 ∧ ∀ x ∈ b.End.To, 1 ≤ x ∧ x < f.Blocks.length
theorem rahead_eq (f : XApi_Func) (k : Int) (h : ToOk f) : ref2_Ahead f k = some (ahS k 0 f.Blocks) := by
  obtain ⟨h40, hto⟩ := h
  have inner : ∀ (i : Nat) (hi : i < f.Blocks.length) (acc : List Int), acc.length ≤ 2 * i → Loop (fun (s : List Int × Int) => ref2_Ahead_L2 f k i s.1 s.2) (acc, 0) = some (acc ++ ah1 k i f.Blocks[i].End.To) := by
    intro i hi acc hacc
    have hb := hto f.Blocks[i] (List.getElem_mem _)
    have := Loop_run (l := f.Blocks[i].End.To) (τ := List Int) (S := List Int × Int) (fun s i => (s, i)) (fun _ (s : List Int) x => .inr (s ++ if x == k then [(i : Int)] else [])) (fun s => s) (fun j s => s.length ≤ 2 * i + j) (step := fun s => ref2_Ahead_L2 f k i s.1 s.2)
      (fun j s hj hI => by
        refine ⟨?_, ?_⟩
        · unfold ref2_Ahead_L2
          simp only [ref2_Ahead_J1, idx_lt hi, Option.bind_some, lt_dec hj, if_true, idx_lt hj, w64_succ (i := j) (by omega)]
          by_cases hx : f.Blocks[i].End.To[j] = k
          · simp only [hx, beq_self_eq_true, if_true]
            rw [app_ok (by simp; omega)]; rfl
          · have : (f.Blocks[i].End.To[j] == k) = false := by simpa using hx
            simp only [this, Bool.false_eq_true, if_false, List.append_nil]
        · rw [List.length_append]; split <;> simp <;> omega) (fun s _ => by
        unfold ref2_Ahead_L2
        simp only [idx_lt hi, Option.bind_some, lt_dec']; rfl) (s0 := acc) (by omega)
    rw [this]
    congr 1
    generalize f.Blocks[i].End.To = l
    clear this hb hacc
    generalize 0 = j
    induction l generalizing acc j with
    | nil => simp [run, ah1]
    | cons x l ih => rw [run, ah1_cons, ← List.append_assoc]; exact ih _ _
  have := Loop_run (l := f.Blocks) (τ := List Int) (S := List Int × Int) (fun s i => (s, i)) (fun i (s : List Int) b => .inr (s ++ ah1 k (i : Int) b.End.To)) (fun s => s) (fun i s => s.length ≤ 2 * i) (step := fun s => ref2_Ahead_L1 f k s.1 s.2)
    (fun i s hi hI => by
      refine ⟨?_, ?_⟩
      · unfold ref2_Ahead_L1
        simp only [lt_dec hi, if_true, inner i hi s hI, Option.bind_some, w64_succ (i := i) (by omega)]
      · have := ah1_len k (i : Int) f.Blocks[i].End.To
        have := (hto f.Blocks[i] (List.getElem_mem _)).1
        rw [List.length_append]; omega) (fun s _ => by
      unfold ref2_Ahead_L1
      simp only [lt_dec']; rfl) (s0 := []) (by simp)
  unfold ref2_Ahead
  rw [this, Option.bind_some]
  congr 1
  have key : ∀ (l : List XApi_Block) (i : Nat) (s : List Int), run (fun i (s : List Int) (b : XApi_Block) => (.inr (s ++ ah1 k (i : Int) b.End.To) : List Int ⊕ List Int)) (fun s => s) i s l = s ++ ahS k i l := by
    intro l
    induction l with
    | nil => intro i s; simp [run, ahS]
    | cons b l ih => intro i s; rw [run, ahS, ← List.append_assoc]; exact ih _ _
  simpa using key f.Blocks 0 []
theorem map_range_get {α : Type} {g : Nat → α} {n k : Nat} (h : k < n) : ((List.range n).map g)[k]? = some (g k) := by simp [h]
theorem cahead_eq (f : XApi_Func) (h : ToOk f) : code_ahead f = some ((List.range f.Blocks.length).map fun k : Nat => ahS (k : Int) 0 f.Blocks) := by
  obtain ⟨h40, hto⟩ := h
  have inner : ∀ (i : Nat) (hi : i < f.Blocks.length) (g : Nat → List Int), (∀ k, (g k).length ≤ 2 * i) → Loop (fun (s : List (List Int) × Int) => code_ahead_L2 i f.Blocks[i] s.1 s.2) ((List.range f.Blocks.length).map g, 0) = some ((List.range f.Blocks.length).map fun k => g k ++ ah1 (k : Int) i f.Blocks[i].End.To) := by
    intro i hi g hg
    have hb := hto f.Blocks[i] (List.getElem_mem _)
    have := Loop_run (l := f.Blocks[i].End.To) (τ := List (List Int)) (S := List (List Int) × Int) (fun (g : Nat → List Int) i => ((List.range f.Blocks.length).map g, i)) (fun _ (g : Nat → List Int) x => .inr (fun k => g k ++ if x == (k : Int) then [(i : Int)] else [])) (fun g => (List.range f.Blocks.length).map g) (fun j g => ∀ k, (g k).length ≤ 2 * i + j) (step := fun s => code_ahead_L2 i f.Blocks[i] s.1 s.2)
      (fun j g hj hI => by
        refine ⟨?_, ?_⟩
        · unfold code_ahead_L2
          simp only [lt_dec hj, if_true, idx_lt hj, Option.bind_some, w64_succ (i := j) (by omega)]
          have hx := hb.2 f.Blocks[i].End.To[j] (List.getElem_mem _)
          generalize f.Blocks[i].End.To[j] = x at hx
          obtain ⟨m, rfl⟩ : ∃ m : Nat, x = m := ⟨x.toNat, by omega⟩
          have hm : m < f.Blocks.length := by omega
          have e1 : idx ((List.range f.Blocks.length).map g) (m : Int) = some (g m) := by
            rw [idx_lt (by simpa using hm)]; simp
          have := hI m
          simp only [e1, Option.bind_some]
          rw [app_ok (by simp; omega)]
          simp only [Option.bind_some]
          congr 3
          apply List.ext_getElem (by simp)
          intro q h1 h2
          rw [List.getElem_set]
          simp only [Int.toNat_natCast, List.getElem_map, List.getElem_range]
          by_cases hq : m = q
          · subst hq; simp
          · have : ¬ ((m : Int) = (q : Int)) := by omega
            simp [hq, this]
        · intro k
          have := hI k
          rw [List.length_append]; split <;> simp <;> omega) (fun g _ => by
        unfold code_ahead_L2
        simp only [lt_dec']; rfl) (s0 := g) (fun k => by have := hg k; omega)
    rw [this]
    congr 1
    have key : ∀ (l : List Int) (j : Nat) (g : Nat → List Int), run (fun _ (g : Nat → List Int) x => (.inr (fun k => g k ++ if x == (k : Int) then [(i : Int)] else []) : List (List Int) ⊕ (Nat → List Int))) (fun g => (List.range f.Blocks.length).map g) j g l = (List.range f.Blocks.length).map fun k => g k ++ ah1 (k : Int) i l := by
      intro l
      induction l with
      | nil => intro j g; simp [run, ah1]
      | cons x l ih =>
        intro j g
        rw [run]
        refine (ih _ _).trans ?_
        congr 1
        funext k
        rw [ah1_cons, List.append_assoc]
    exact key _ _ _
  have := Loop_run (l := f.Blocks) (τ := List (List Int)) (S := List (List Int) × Int) (fun (g : Nat → List Int) i => ((List.range f.Blocks.length).map g, i)) (fun i (g : Nat → List Int) b => .inr (fun k => g k ++ ah1 (k : Int) (i : Int) b.End.To)) (fun g => (List.range f.Blocks.length).map g) (fun i g => ∀ k, (g k).length ≤ 2 * i) (step := fun s => code_ahead_L1 f s.1 s.2)
    (fun i g hi hI => by
      refine ⟨?_, ?_⟩
      · unfold code_ahead_L1
        simp only [lt_dec hi, if_true, idx_lt hi, Option.bind_some, inner i hi g hI, w64_succ (i := i) (by omega)]
      · intro k
        have := ah1_len (k : Int) (i : Int) f.Blocks[i].End.To
        have := (hto f.Blocks[i] (List.getElem_mem _)).1
        have := hI k
        rw [List.length_append]; omega) (fun g _ => by
      unfold code_ahead_L1
      simp only [lt_dec']; rfl) (s0 := fun _ => []) (fun _ => by simp)
  unfold code_ahead
  have e0 : mks (f.Blocks.length : Int) ([] : List Int) = some ((List.range f.Blocks.length).map fun _ => []) := by
    unfold mks
    rw [if_pos (by omega)]
    congr 1
    apply List.ext_getElem <;> simp
  rw [e0, Option.bind_some, this, Option.bind_some]
  congr 1
  have key : ∀ (l : List XApi_Block) (i : Nat) (g : Nat → List Int), run (fun i (g : Nat → List Int) (b : XApi_Block) => (.inr (fun k => g k ++ ah1 (k : Int) (i : Int) b.End.To) : List (List Int) ⊕ (Nat → List Int))) (fun g => (List.range f.Blocks.length).map g) i g l = (List.range f.Blocks.length).map fun k => g k ++ ahS (k : Int) i l := by
    intro l
    induction l with
    | nil => intro i g; simp [run, ahS]
    | cons b l ih =>
      intro i g
      rw [run]
      refine (ih _ _).trans ?_
      congr 1
      funext k
      rw [ahS, List.append_assoc]
  simpa using key f.Blocks 0 (fun _ => [])
end Go.Ab
namespace Go.Ab
open Go Go.Proofs
def phiC (f : XApi_Func) (k : Nat) (p : XApi_Phi) : Int :=
  if k == 0 then 5 else if !inb p.Dst 0 (w64 (f.Regs - 1)) then 3 else if (p.From.length : Int) != ((ahS k 0 f.Blocks).length : Int) then 9 else if !p.From.all (valOk f) then 3 else 0
theorem rphi_eq (f : XApi_Func) (k : Nat) (p : XApi_Phi) (h : ToOk f) (hl : p.From.length ≤ maxLen) : ref2_phi f k p = some (phiC f k p) := by
  unfold ref2_phi phiC
  simp only [rin2, Option.bind_some, rahead_eq f k h, rvals_eq f p.From hl]
  by_cases hk : k = 0
  · simp [hk]
  · have : ((k : Int) == 0) = false := by simpa using hk
    have h2 : (k == 0) = false := by simpa using hk
    simp only [this, h2, Bool.false_eq_true, if_false]
    repeat' split
    all_goals rfl
theorem cphi_eq (u : XApi_Unit) (f : XApi_Func) (k : Nat) (hk : k < f.Blocks.length) (p : XApi_Phi) (hl : p.From.length ≤ maxLen) : code_checker_phi ⟨u, f, (List.range f.Blocks.length).map fun k : Nat => ahS (k : Int) 0 f.Blocks⟩ k p = some (phiC f k p) := by
  unfold code_checker_phi phiC code_checker_dst
  have e1 : idx ((List.range f.Blocks.length).map fun k : Nat => ahS (k : Int) 0 f.Blocks) (k : Int) = some (ahS k 0 f.Blocks) := by
    rw [idx_lt (by simpa using hk)]; simp
  simp only [cin, Option.bind_some, e1, cphi_loop _ p hl]
  by_cases hk : k = 0
  · simp [hk]
  · have : ((k : Int) == 0) = false := by simpa using hk
    have h2 : (k == 0) = false := by simpa using hk
    simp only [this, h2, Bool.false_eq_true, if_false]
    cases inb p.Dst 0 (w64 (f.Regs - 1))
    · rfl
    · simp only [Bool.not_true, Bool.false_eq_true, if_false, Option.bind_some, bne_self_eq_false]
      split
      · rfl
      · cases p.From.all (valOk f) <;> rfl
def blkC (u : XApi_Unit) (f : XApi_Func) (i : Nat) (b : XApi_Block) : Int := if firstE (phiC f i) b.Phis != 0 then firstE (phiC f i) b.Phis else firstE (insC u f) b.List
def bodyC (u : XApi_Unit) (f : XApi_Func) : Int := if firstE (fun b => endC f b.End) f.Blocks != 0 then firstE (fun b => endC f b.End) f.Blocks else firstEI (blkC u f) 0 f.Blocks
theorem toOk_of {f : XApi_Func} (h1 : inb (f.Blocks.length : Int) 1 40 = true) (he : firstE (fun b => endC f b.End) f.Blocks = 0) : ToOk f := by
  have hb : 1 ≤ f.Blocks.length ∧ f.Blocks.length ≤ 40 := by simp only [inb, Bool.and_eq_true, decide_eq_true_eq] at h1; omega
  refine ⟨hb.2, fun b hbm => ?_⟩
  have := firstE_0 he b hbm
  unfold endC at this
  by_cases hk : inb b.End.Kind 1 3 = true
  · simp only [hk, Bool.not_true, Bool.false_eq_true, if_false] at this
    by_cases hn : (b.End.To.length : Int) = b.End.Kind - 1
    · simp only [hn, bne_self_eq_false, Bool.false_eq_true, if_false] at this
      by_cases ha : b.End.To.all (toOk f) = true
      · refine ⟨by rcases kind_cases hk with h | h | h <;> omega, fun x hx => ?_⟩
        have := List.all_eq_true.1 ha x hx
        simp only [toOk, inb, Bool.and_eq_true, decide_eq_true_eq] at this
        rw [w64_id (by omega) (by omega)] at this
        omega
      · simp [ha] at this
    · simp [hn] at this
  · simp [hk] at this
theorem rbody_eq (u : XApi_Unit) (f : XApi_Func) (hu : u.Funcs.length ≤ maxLen) (hf : FOk f) (h1 : inb (f.Blocks.length : Int) 1 40 = true) : ref2_body u f = some (bodyC u f) := by
  have hm := maxLen_big
  obtain ⟨hf1, hf2⟩ := hf
  unfold ref2_body bodyC
  have e1 : Loop (fun s => ref2_body_L1 f s) 0 = some (brOf (if firstE (fun b => endC f b.End) f.Blocks != 0 then some (firstE (fun b => endC f b.End) f.Blocks) else none)) := by
    rw [← findI_firstE _ _ 0]
    refine Loop_find (l := f.Blocks) (fun _ b => if endC f b.End != 0 then some (endC f b.End) else none) (fun i h => ?_) ?_
    · have hb := hf2 f.Blocks[i] (List.getElem_mem _)
      unfold ref2_body_L1
      simp only [lt_dec h, if_true, idx_lt h, Option.bind_some, rend_eq f f.Blocks[i].End hb.2.2.1, w64_succ (i := i) (by omega)]
      by_cases hz : endC f f.Blocks[i].End = 0 <;> simp [hz]
    · unfold ref2_body_L1; simp only [lt_dec']; rfl
  rw [e1]
  by_cases he : firstE (fun b => endC f b.End) f.Blocks = 0
  · have hto := toOk_of h1 he
    simp only [he, bne_self_eq_false, Bool.false_eq_true, if_false, brOf, Option.bind_some]
    have e2 : Loop (fun s => ref2_body_L2 u f s) 0 = some (brOf (if firstEI (blkC u f) 0 f.Blocks != 0 then some (firstEI (blkC u f) 0 f.Blocks) else none)) := by
      rw [← findI_firstEI]
      refine Loop_find (l := f.Blocks) (fun i b => if blkC u f i b != 0 then some (blkC u f i b) else none) (fun i h => ?_) ?_
      · have hb := hf2 f.Blocks[i] (List.getElem_mem _)
        obtain ⟨b1, b2, b3, b4, b5⟩ := hb
        have p1 : Loop (fun s => ref2_body_L3 f i f.Blocks[i] s) 0 = some (brOf (if firstE (phiC f i) f.Blocks[i].Phis != 0 then some (firstE (phiC f i) f.Blocks[i].Phis) else none)) := by
          rw [← findI_firstE _ _ 0]
          refine Loop_find (l := f.Blocks[i].Phis) (fun _ p => if phiC f i p != 0 then some (phiC f i p) else none) (fun j hj => ?_) ?_
          · unfold ref2_body_L3
            simp only [lt_dec hj, if_true, idx_lt hj, Option.bind_some, rphi_eq f i _ hto (b4 _ (List.getElem_mem hj)), w64_succ (i := j) (by omega)]
            by_cases hz : phiC f i f.Blocks[i].Phis[j] = 0 <;> simp [hz]
          · unfold ref2_body_L3; simp only [lt_dec']; rfl
        have p2 : Loop (fun s => ref2_body_L4 u f f.Blocks[i] s) 0 = some (brOf (if firstE (insC u f) f.Blocks[i].List != 0 then some (firstE (insC u f) f.Blocks[i].List) else none)) := by
          rw [← findI_firstE _ _ 0]
          refine Loop_find (l := f.Blocks[i].List) (fun _ p => if insC u f p != 0 then some (insC u f p) else none) (fun j hj => ?_) ?_
          · unfold ref2_body_L4
            simp only [lt_dec hj, if_true, idx_lt hj, Option.bind_some, rins_eq u f _ hu (b5 _ (List.getElem_mem hj)), w64_succ (i := j) (by omega)]
            by_cases hz : insC u f f.Blocks[i].List[j] = 0 <;> simp [hz]
          · unfold ref2_body_L4; simp only [lt_dec']; rfl
        unfold ref2_body_L2
        simp only [lt_dec h, if_true, idx_lt h, Option.bind_some, p1, p2, w64_succ (i := i) (by omega)]
        unfold blkC
        by_cases hz : firstE (phiC f i) f.Blocks[i].Phis = 0
        · by_cases hy : firstE (insC u f) f.Blocks[i].List = 0 <;> simp [hz, hy, brOf]
        · simp [hz, brOf]
      · unfold ref2_body_L2; simp only [lt_dec']; rfl
    rw [e2]
    by_cases hz : firstEI (blkC u f) 0 f.Blocks = 0 <;> simp [hz, brOf]
  · simp [he, brOf]
theorem cbody_eq (u : XApi_Unit) (f : XApi_Func) (a : List (List Int)) (hu : u.Funcs.length ≤ maxLen) (hf : FOk f) (h1 : inb (f.Blocks.length : Int) 1 40 = true) : code_checker_body (XCode_checker.mk u f a) = some (bodyC u f) := by
  have hm := maxLen_big
  obtain ⟨hf1, hf2⟩ := hf
  unfold code_checker_body bodyC
  have e1 : Loop (fun s => code_checker_body_L1 (XCode_checker.mk u f a) s) 0 = some (brOf (if firstE (fun b => endC f b.End) f.Blocks != 0 then some (firstE (fun b => endC f b.End) f.Blocks) else none)) := by
    rw [← findI_firstE _ _ 0]
    refine Loop_find (l := f.Blocks) (fun _ b => if endC f b.End != 0 then some (endC f b.End) else none) (fun i h => ?_) ?_
    · have hb := hf2 f.Blocks[i] (List.getElem_mem _)
      unfold code_checker_body_L1
      simp only [lt_dec h, if_true, idx_lt h, Option.bind_some, cend_eq (XCode_checker.mk u f a) f.Blocks[i].End hb.2.2.1, w64_succ (i := i) (by omega)]
      by_cases hz : endC f f.Blocks[i].End = 0 <;> simp [hz]
    · unfold code_checker_body_L1; simp only [lt_dec']; rfl
  rw [e1]
  by_cases he : firstE (fun b => endC f b.End) f.Blocks = 0
  · have hto := toOk_of h1 he
    simp only [he, bne_self_eq_false, Bool.false_eq_true, if_false, brOf, Option.bind_some, Br.go_brk, cahead_eq f hto]
    generalize hA : (List.range f.Blocks.length).map (fun k : Nat => ahS (k : Int) 0 f.Blocks) = A
    have e2 : Loop (fun s => code_checker_body_L2 (XCode_checker.mk u f a) A s) 0 = some (brOf (if firstEI (blkC u f) 0 f.Blocks != 0 then some (firstEI (blkC u f) 0 f.Blocks) else none)) := by
      rw [← findI_firstEI]
      refine Loop_find (l := f.Blocks) (fun i b => if blkC u f i b != 0 then some (blkC u f i b) else none) (fun i h => ?_) ?_
      · have hb := hf2 f.Blocks[i] (List.getElem_mem _)
        obtain ⟨b1, b2, b3, b4, b5⟩ := hb
        have p1 : Loop (fun s => code_checker_body_L3 (XCode_checker.mk u f a) A i f.Blocks[i] s) 0 = some (brOf (if firstE (phiC f i) f.Blocks[i].Phis != 0 then some (firstE (phiC f i) f.Blocks[i].Phis) else none)) := by
          rw [← findI_firstE _ _ 0]
          refine Loop_find (l := f.Blocks[i].Phis) (fun _ p => if phiC f i p != 0 then some (phiC f i p) else none) (fun j hj => ?_) ?_
          · unfold code_checker_body_L3
            have := cphi_eq u f i h f.Blocks[i].Phis[j] (b4 _ (List.getElem_mem hj))
            rw [hA] at this
            simp only [lt_dec hj, if_true, idx_lt hj, Option.bind_some, this, w64_succ (i := j) (by omega)]
            by_cases hz : phiC f i f.Blocks[i].Phis[j] = 0 <;> simp [hz]
          · unfold code_checker_body_L3; simp only [lt_dec']; rfl
        have p2 : Loop (fun s => code_checker_body_L4 (XCode_checker.mk u f a) A f.Blocks[i] s) 0 = some (brOf (if firstE (insC u f) f.Blocks[i].List != 0 then some (firstE (insC u f) f.Blocks[i].List) else none)) := by
          rw [← findI_firstE _ _ 0]
          refine Loop_find (l := f.Blocks[i].List) (fun _ p => if insC u f p != 0 then some (insC u f p) else none) (fun j hj => ?_) ?_
          · unfold code_checker_body_L4
            simp only [lt_dec hj, if_true, idx_lt hj, Option.bind_some, cins_eq (XCode_checker.mk u f A) _ hu (b5 _ (List.getElem_mem hj)), w64_succ (i := j) (by omega)]
            by_cases hz : insC u f f.Blocks[i].List[j] = 0 <;> simp [hz]
          · unfold code_checker_body_L4; simp only [lt_dec']; rfl
        unfold code_checker_body_L2
        simp only [lt_dec h, if_true, idx_lt h, Option.bind_some, p1, p2, w64_succ (i := i) (by omega)]
        unfold blkC
        by_cases hz : firstE (phiC f i) f.Blocks[i].Phis = 0
        · by_cases hy : firstE (insC u f) f.Blocks[i].List = 0 <;> simp [hz, hy, brOf]
        · simp [hz, brOf]
      · unfold code_checker_body_L2; simp only [lt_dec']; rfl
    rw [e2]
    by_cases hz : firstEI (blkC u f) 0 f.Blocks = 0 <;> simp [hz, brOf]
  · simp [he, brOf]
end Go.Ab
namespace Go.Ab
open Go Go.Proofs
def takenL (names : List ByteArray) (s : ByteArray) : Bool := names.any fun n => n.toList == s.toList
theorem findI_any {α ρ : Type} (p : α → Bool) (r : ρ) : ∀ (l : List α) (i : Nat), findI (fun _ x => if p x then some r else none) i l = if l.any p then some r else none
  | [], _ => rfl
  | x :: l, i => by
    simp only [findI, List.any_cons]
    by_cases hp : p x = true
    · simp [hp]
    · simpa [hp] using findI_any p r l (i + 1)
theorem take_len {α : Type} {l : List α} {k : Nat} (h : k ≤ l.length) : (l.take k).length = k := by simp; omega
theorem idx_take {α : Type} {l : List α} {k i : Nat} (h : i < (l.take k).length) : idx l (i : Int) = some (l.take k)[i] := by
  have h' : i < l.length := by simp at h; omega
  rw [idx_lt h']; simp
theorem rtaken_eq (u : XApi_Unit) (g k : Nat) (s : ByteArray) (hg : g ≤ u.Globals.length) (hk : k ≤ u.Funcs.length) (hgm : u.Globals.length ≤ maxLen) (hkm : u.Funcs.length ≤ maxLen) :
    ref2_taken u g k s = some (takenL ((u.Globals.take g).map (·.Name) ++ (u.Funcs.take k).map (·.Name)) s) := by
  have hm := maxLen_big
  have e1 : Loop (fun y => ref2_taken_L1 u g s y) 0 = some (brOf (if (u.Globals.take g).any (fun x => x.Name.toList == s.toList) then some true else none)) := by
    rw [← findI_any _ _ _ 0]
    refine Loop_find (l := u.Globals.take g) (fun _ x => if x.Name.toList == s.toList then some true else none) (fun i h => ?_) ?_
    · have hi : i < g := by rw [take_len hg] at h; exact h
      unfold ref2_taken_L1
      simp only [lt_dec hi, if_true, idx_take h, Option.bind_some, w64_succ (i := i) (by omega)]
      cases ((u.Globals.take g)[i].Name.toList == s.toList) <;> rfl
    · unfold ref2_taken_L1; rw [take_len hg]; simp only [lt_dec']; rfl
  have e2 : Loop (fun y => ref2_taken_L2 u k s y) 0 = some (brOf (if (u.Funcs.take k).any (fun x => x.Name.toList == s.toList) then some true else none)) := by
    rw [← findI_any _ _ _ 0]
    refine Loop_find (l := u.Funcs.take k) (fun _ x => if x.Name.toList == s.toList then some true else none) (fun i h => ?_) ?_
    · have hi : i < k := by rw [take_len hk] at h; exact h
      unfold ref2_taken_L2
      simp only [lt_dec hi, if_true, idx_take h, Option.bind_some, w64_succ (i := i) (by omega)]
      cases ((u.Funcs.take k)[i].Name.toList == s.toList) <;> rfl
    · unfold ref2_taken_L2; rw [take_len hk]; simp only [lt_dec']; rfl
  unfold ref2_taken
  rw [e1, Option.bind_some, e2]
  simp only [takenL, List.any_append, List.any_map, Function.comp_def]
  cases (u.Globals.take g).any (fun x => x.Name.toList == s.toList) <;> cases (u.Funcs.take k).any (fun x => x.Name.toList == s.toList) <;> rfl
theorem beq_swap (a b : ByteArray) : (a.toList == b.toList) = (b.toList == a.toList) := BEq.comm
theorem contains_eq (l : List ByteArray) (s : ByteArray) (hl : l.length ≤ maxLen) : slices_Contains_string_string l s = some (takenL l s) := by
  have hm := maxLen_big
  have e : Loop (fun y => slices_Index_string_string_L1 l s y) 0 = some (brOf (findI (fun i x => if s.toList == x.toList then some (i : Int) else none) 0 l)) := by
    refine Loop_find (l := l) _ (fun i h => ?_) ?_
    · unfold slices_Index_string_string_L1
      simp only [lt_dec h, idx_lt h, Option.bind_some, w64_succ (i := i) (by omega), if_true]
      cases (s.toList == l[i].toList) <;> rfl
    · unfold slices_Index_string_string_L1; simp only [lt_dec']; rfl
  unfold slices_Contains_string_string slices_Index_string_string
  rw [e]
  have key : ∀ (l : List ByteArray) (i : Nat), (findI (fun i x => if s.toList == x.toList then some (i : Int) else none) i l).isSome = takenL l s ∧ ∀ r, findI (fun i (x : ByteArray) => if s.toList == x.toList then some (i : Int) else none) i l = some r → 0 ≤ r := by
    intro l
    induction l with
    | nil => intro i; simp [findI, takenL]
    | cons x l ih =>
      intro i
      have ih := ih (i + 1)
      unfold takenL at ih
      simp only [findI, takenL, List.any_cons]
      rw [beq_swap x s]
      by_cases hx : (s.toList == x.toList) = true
      · simp [hx]
      · simpa [hx] using ih
  obtain ⟨k1, k2⟩ := key l 0
  cases hf : findI (fun i x => if s.toList == x.toList then some (i : Int) else none) 0 l with
  | none => rw [hf] at k1; simp only [brOf, Option.bind_some, ← k1]; rfl
  | some r => rw [hf] at k1; have := k2 r hf; simp [brOf, ← k1, this]
def insF (n : Int) : List XApi_Block → Int
  | [] => n
  | b :: l => insF (w64 (n + ((b.Phis.length : Int) + (b.List.length : Int)))) l
theorem run_insF : ∀ (l : List XApi_Block) (i : Nat) (n : Int), run (fun _ n (b : XApi_Block) => (.inr (w64 (n + ((b.Phis.length : Int) + (b.List.length : Int)))) : Int ⊕ Int)) (fun n => n) i n l = insF n l
  | [], _, _ => rfl
  | b :: l, i, n => run_insF l (i + 1) _
theorem rIns_eq (f : XApi_Func) (hf : f.Blocks.length ≤ maxLen) : ref2_Ins f = some (insF 0 f.Blocks) := by
  have hm := maxLen_big
  unfold ref2_Ins
  have := Loop_run (l := f.Blocks) (τ := Int) (S := Int × Int) (fun s i => (s, i)) (fun _ n b => .inr (w64 (n + ((b.Phis.length : Int) + (b.List.length : Int))))) (fun n => n) (fun _ _ => True) (step := fun s => ref2_Ins_L1 f s.1 s.2)
    (fun i n h _ => by
      refine ⟨?_, trivial⟩
      unfold ref2_Ins_L1
      simp only [lt_dec h, if_true, idx_lt h, Option.bind_some, w64_succ (i := i) (by omega), w64_add, Int.add_assoc]) (fun n _ => by
      unfold ref2_Ins_L1; simp only [lt_dec']; rfl) (s0 := 0) trivial
  rw [this, run_insF]; rfl
theorem cIns_eq (c : XCode_checker) (hf : c.f.Blocks.length ≤ maxLen) : Loop (fun (s : Int × Int) => code_checker_head_L1 c s.1 s.2) (0, 0) = some (insF 0 c.f.Blocks) := by
  have hm := maxLen_big
  have := Loop_run (l := c.f.Blocks) (τ := Int) (S := Int × Int) (fun s i => (s, i)) (fun _ n b => .inr (w64 (n + ((b.Phis.length : Int) + (b.List.length : Int))))) (fun n => n) (fun _ _ => True) (step := fun s => code_checker_head_L1 c s.1 s.2)
    (fun i n h _ => by
      refine ⟨?_, trivial⟩
      unfold code_checker_head_L1
      simp only [lt_dec h, if_true, idx_lt h, Option.bind_some, w64_succ (i := i) (by omega), w64_add']) (fun n _ => by
      unfold code_checker_head_L1; simp only [lt_dec']; rfl) (s0 := 0) trivial
  rw [this, run_insF]
def headC (names : List ByteArray) (f : XApi_Func) : Int :=
  if !nameOk f.Name then 12 else if takenL names f.Name then 7 else if !inb f.Params 0 6 || !inb f.Regs f.Params 100 then 3
  else if !inb (f.Blocks.length : Int) 1 40 || decide (300 < insF 0 f.Blocks) then 2 else 0
def nmG (u : XApi_Unit) (i : Nat) : List ByteArray := (u.Globals.take i).map (·.Name)
def globC (names : List ByteArray) (words : Int) (g : XApi_Global) : Int :=
  if !nameOk g.Name then 12 else if takenL names g.Name then 7 else if !inb g.Size 1 200 then 3 else if decide (g.Size < (g.Init.length : Int)) then 9 else if decide (200 < w64 (words + g.Size)) then 10 else 0
theorem bor (a b : Bool) : (if a = true then some true else some b) = some (a || b) := by cases a <;> rfl
theorem chead_eq (c : XCode_checker) (names : List ByteArray) (hf : c.f.Blocks.length ≤ maxLen) (hn : names.length ≤ maxLen) : code_checker_head c names = some (headC names c.f) := by
  unfold code_checker_head headC
  rw [cIns_eq c hf]
  simp only [Option.bind_some, cname_eq, contains_eq names c.f.Name hn, cin, bor, ifT]
  repeat' split
  all_goals rfl
theorem rhead_eq (u : XApi_Unit) (k : Nat) (hk : k < u.Funcs.length) (hu : UOk u) : ref2_head u k = some (headC (u.Globals.map (·.Name) ++ (u.Funcs.take k).map (·.Name)) u.Funcs[k]) := by
  obtain ⟨h1, h2, h3, h4⟩ := hu
  have ht := rtaken_eq u u.Globals.length k u.Funcs[k].Name (Nat.le_refl _) (by omega) h1 h2
  rw [List.take_length] at ht
  unfold ref2_head headC
  simp only [idx_lt hk, Option.bind_some, rname_eq, ht, rin2, bor, rIns_eq u.Funcs[k] (h4 _ (List.getElem_mem _)).1]
  repeat' split
  all_goals rfl
theorem rglob_eq (u : XApi_Unit) (k : Nat) (words : Int) (hk : k < u.Globals.length) (hu : UOk u) : ref2_global u k words = some (globC (nmG u k) words u.Globals[k]) := by
  obtain ⟨h1, h2, h3, h4⟩ := hu
  have ht := rtaken_eq u k 0 u.Globals[k].Name (by omega) (by omega) h1 h2
  unfold ref2_global globC nmG
  have e0 : ((0 : Nat) : Int) = 0 := rfl
  rw [e0] at ht
  simp only [List.take_zero, List.map_nil, List.append_nil] at ht
  simp only [idx_lt hk, Option.bind_some, rname_eq, ht, rin2]
  repeat' split
  all_goals rfl
def globE (u : XApi_Unit) : Option XApi_Fault :=
  run (fun i (words : Int) (g : XApi_Global) => if globC (nmG u i) words g != 0 then .inl (some ⟨globC (nmG u i) words g, i⟩) else .inr (w64 (words + g.Size))) (fun _ => none) 0 0 u.Globals
def namesAt (u : XApi_Unit) (i : Nat) : List ByteArray := u.Globals.map (·.Name) ++ (u.Funcs.take i).map (·.Name)
def headE (u : XApi_Unit) : Option XApi_Fault := findI (fun i f => if headC (namesAt u i) f != 0 then some (XApi_Fault.mk (headC (namesAt u i) f) i) else none) 0 u.Funcs
def bodyE (u : XApi_Unit) : Option XApi_Fault := findI (fun i f => if bodyC u f != 0 then some (XApi_Fault.mk (bodyC u f) i) else none) 0 u.Funcs
def mainI (u : XApi_Unit) : Int := match findI (fun i (f : XApi_Func) => if f.Name.toList == (ByteArray.mk #[109, 97, 105, 110]).toList then some (i : Int) else none) 0 u.Funcs with | some i => i | none => -1
def mainE (u : XApi_Unit) : XApi_Fault := if decide (mainI u < 0) then ⟨6, 0⟩ else match idx u.Funcs (mainI u) with | some f => if decide (0 < f.Params) then ⟨5, mainI u⟩ else ⟨0, 0⟩ | none => ⟨0, 0⟩
def chk (u : XApi_Unit) : XApi_Fault :=
  if decide (10 < (u.Globals.length : Int)) || decide (10 < (u.Funcs.length : Int)) then ⟨2, 0⟩
  else match globE u with | some e => e | none => match headE u with | some e => e | none => match bodyE u with | some e => e | none => mainE u
theorem mainI_idx (u : XApi_Unit) (h : ¬ mainI u < 0) : ∃ f, idx u.Funcs (mainI u) = some f := by
  unfold mainI at h ⊢
  have key : ∀ (l : List XApi_Func) (i : Nat) (r : Int), findI (fun i (f : XApi_Func) => if f.Name.toList == (ByteArray.mk #[109, 97, 105, 110]).toList then some (i : Int) else none) i l = some r → ∃ j : Nat, j < l.length ∧ r = ((i + j : Nat) : Int) := by
    intro l
    induction l with
    | nil => intro i r hr; simp [findI] at hr
    | cons x l ih =>
      intro i r hr
      simp only [findI] at hr
      by_cases hx : (x.Name.toList == (ByteArray.mk #[109, 97, 105, 110]).toList) = true
      · simp only [hx, if_true, Option.some.injEq] at hr
        exact ⟨0, by simp, by simpa using hr.symm⟩
      · simp only [hx] at hr
        obtain ⟨j, hj, rfl⟩ := ih _ _ hr
        exact ⟨j + 1, by simpa using hj, by omega⟩
  split at h
  · rename_i i hi
    obtain ⟨j, hj, rfl⟩ := key _ _ _ hi
    rw [Nat.zero_add]
    exact ⟨_, idx_lt hj⟩
  · simp at h
theorem rmain_eq (u : XApi_Unit) (h : u.Funcs.length ≤ maxLen) : ref2_Main u = some (mainI u) := by
  have hm := maxLen_big
  unfold ref2_Main mainI
  have e : Loop (fun y => ref2_Main_L1 u y) 0 = some (brOf (findI (fun i (f : XApi_Func) => if f.Name.toList == (ByteArray.mk #[109, 97, 105, 110]).toList then some (i : Int) else none) 0 u.Funcs)) := by
    refine Loop_find (l := u.Funcs) _ (fun i h => ?_) ?_
    · unfold ref2_Main_L1
      simp only [lt_dec h, idx_lt h, Option.bind_some, w64_succ (i := i) (by omega), if_true]
      cases (u.Funcs[i].Name.toList == (ByteArray.mk #[109, 97, 105, 110]).toList) <;> rfl
    · unfold ref2_Main_L1; simp only [lt_dec']; rfl
  rw [e]
  cases findI (fun i (f : XApi_Func) => if f.Name.toList == (ByteArray.mk #[109, 97, 105, 110]).toList then some (i : Int) else none) 0 u.Funcs <;> rfl
theorem cmain_eq (u : XApi_Unit) (h : u.Funcs.length ≤ maxLen) : slices_IndexFunc_api_Func_api_Func__f50 u.Funcs = some (mainI u) := by
  have hm := maxLen_big
  unfold slices_IndexFunc_api_Func_api_Func__f50 mainI
  have e : Loop (fun y => slices_IndexFunc_api_Func_api_Func__f50_L1 u.Funcs y) 0 = some (brOf (findI (fun i (f : XApi_Func) => if f.Name.toList == (ByteArray.mk #[109, 97, 105, 110]).toList then some (i : Int) else none) 0 u.Funcs)) := by
    refine Loop_find (l := u.Funcs) _ (fun i h => ?_) ?_
    · unfold slices_IndexFunc_api_Func_api_Func__f50_L1 code_Check_1
      simp only [lt_dec h, idx_lt h, Option.bind_some, w64_succ (i := i) (by omega), if_true]
      cases (u.Funcs[i].Name.toList == (ByteArray.mk #[109, 97, 105, 110]).toList) <;> rfl
    · unfold slices_IndexFunc_api_Func_api_Func__f50_L1; simp only [lt_dec']; rfl
  rw [e]
  cases findI (fun i (f : XApi_Func) => if f.Name.toList == (ByteArray.mk #[109, 97, 105, 110]).toList then some (i : Int) else none) 0 u.Funcs <;> rfl
theorem heads_ok {u : XApi_Unit} (h : headE u = none) : ∀ f ∈ u.Funcs, inb (f.Blocks.length : Int) 1 40 = true := by
  intro f hf
  obtain ⟨i, hi, rfl⟩ := List.getElem_of_mem hf
  have := findI_none_get h i hi
  rw [Nat.zero_add] at this
  have h0 : headC (namesAt u i) u.Funcs[i] = 0 := by
    by_cases hz : headC (namesAt u i) u.Funcs[i] = 0
    · exact hz
    · simp [hz] at this
  unfold headC at h0
  by_cases hb : inb (u.Funcs[i].Blocks.length : Int) 1 40 = true
  · exact hb
  · exfalso
    simp only [hb] at h0
    repeat' split at h0
    all_goals simp_all
theorem rUnit_eq (u : XApi_Unit) (hu : UOk u) : ref2_Unit u = some (chk u) := by
  have hm := maxLen_big
  obtain ⟨h1, h2, h3, h4⟩ := id hu
  unfold ref2_Unit chk
  simp only [rfault, Option.bind_some, ifT]
  split
  · rfl
  · have e1 : Loop (fun (s : Int × Int) => ref2_Unit_L1 u s.1 s.2) (0, 0) = some (brOf (globE u)) := by
      have := Loop_run (l := u.Globals) (τ := Br Unit XApi_Fault) (S := Int × Int) (fun (w : Int) i => (w, i)) (fun i (words : Int) (g : XApi_Global) => if globC (nmG u i) words g != 0 then .inl (.ret ⟨globC (nmG u i) words g, i⟩) else .inr (w64 (words + g.Size))) (fun _ => .brk ()) (fun _ _ => True) (step := fun s => ref2_Unit_L1 u s.1 s.2)
        (fun i w h _ => by
          have e : ref2_Unit_L1 u w i = some (if globC (nmG u i) w u.Globals[i] != 0 then .out (.ret ⟨globC (nmG u i) w u.Globals[i], i⟩) else .next (w64 (w + u.Globals[i].Size), ((i + 1 : Nat) : Int))) := by
            unfold ref2_Unit_L1
            simp only [lt_dec h, if_true, rglob_eq u i w h hu, idx_lt h, Option.bind_some, rfault, w64_succ (i := i) (by omega)]
            split <;> rfl
          simp only [e]
          by_cases hz : globC (nmG u i) w u.Globals[i] = 0 <;> simp [hz]) (fun w _ => by
          unfold ref2_Unit_L1; simp only [lt_dec']; rfl) (s0 := 0) trivial
      rw [this]
      congr 1
      unfold globE
      have key : ∀ (l : List XApi_Global) (i : Nat) (w : Int) (names : Nat → List ByteArray), run (fun i (words : Int) (g : XApi_Global) => (if globC (names i) words g != 0 then .inl (.ret ⟨globC (names i) words g, i⟩) else .inr (w64 (words + g.Size)) : Br Unit XApi_Fault ⊕ Int)) (fun _ => .brk ()) i w l = brOf (run (fun i (words : Int) (g : XApi_Global) => if globC (names i) words g != 0 then .inl (some ⟨globC (names i) words g, i⟩) else .inr (w64 (words + g.Size))) (fun _ => none) i w l) := by
        intro l
        induction l with
        | nil => intro i w names; rfl
        | cons g l ih =>
          intro i w names
          simp only [run]
          by_cases hz : globC (names i) w g = 0
          · simpa [hz] using ih (i + 1) _ names
          · simp [hz, brOf]
      exact key u.Globals 0 0 (nmG u)
    rw [e1, Option.bind_some]
    cases hg : globE u with
    | some e => rfl
    | none =>
      simp only [brOf, Br.go_brk]
      have e2 : Loop (fun s => ref2_Unit_L2 u s) 0 = some (brOf (headE u)) := by
        refine Loop_find (l := u.Funcs) (fun i f => if headC (namesAt u i) f != 0 then some (XApi_Fault.mk (headC (namesAt u i) f) i) else none) (fun i h => ?_) ?_
        · unfold ref2_Unit_L2
          simp only [lt_dec h, if_true, rhead_eq u i h hu, Option.bind_some, rfault, w64_succ (i := i) (by omega)]
          unfold namesAt
          generalize headC (u.Globals.map (·.Name) ++ (u.Funcs.take i).map (·.Name)) u.Funcs[i] = z
          by_cases hz : z = 0 <;> simp [hz]
        · unfold ref2_Unit_L2; simp only [lt_dec']; rfl
      rw [e2, Option.bind_some]
      cases hh : headE u with
      | some e => rfl
      | none =>
        simp only [brOf, Br.go_brk]
        have hb := heads_ok hh
        have e3 : Loop (fun s => ref2_Unit_L3 u s) 0 = some (brOf (bodyE u)) := by
          refine Loop_find (l := u.Funcs) (fun i f => if bodyC u f != 0 then some (XApi_Fault.mk (bodyC u f) i) else none) (fun i h => ?_) ?_
          · have hmem : u.Funcs[i] ∈ u.Funcs := List.getElem_mem _
            unfold ref2_Unit_L3
            simp only [lt_dec h, if_true, idx_lt h, rbody_eq u u.Funcs[i] h2 (h4 _ hmem) (hb _ hmem), Option.bind_some, rfault, w64_succ (i := i) (by omega)]
            by_cases hz : bodyC u u.Funcs[i] = 0 <;> simp [hz]
          · unfold ref2_Unit_L3; simp only [lt_dec']; rfl
        rw [e3, Option.bind_some]
        cases hbd : bodyE u with
        | some e => rfl
        | none =>
          simp only [brOf, Br.go_brk, rmain_eq u h2, Option.bind_some]
          unfold mainE
          split
          · rfl
          · rename_i hneg
            obtain ⟨f, hf⟩ := mainI_idx u (by simpa using hneg)
            simp only [hf, Option.bind_some]
            split <;> rfl
end Go.Ab
namespace Go.Ab
open Go Go.Proofs
theorem nmG_succ (u : XApi_Unit) (i : Nat) (h : i < u.Globals.length) : nmG u i ++ [u.Globals[i].Name] = nmG u (i + 1) := by
  unfold nmG
  rw [List.take_succ_eq_append_getElem h, List.map_append]; rfl
theorem nmG_len (u : XApi_Unit) (i : Nat) (h : i ≤ u.Globals.length) : (nmG u i).length = i := by unfold nmG; simp; omega
theorem namesAt_succ (u : XApi_Unit) (i : Nat) (h : i < u.Funcs.length) : namesAt u i ++ [u.Funcs[i].Name] = namesAt u (i + 1) := by
  unfold namesAt
  rw [List.take_succ_eq_append_getElem h, List.map_append, ← List.append_assoc]; rfl
theorem namesAt_len (u : XApi_Unit) (i : Nat) (h : i ≤ u.Funcs.length) : (namesAt u i).length = u.Globals.length + i := by unfold namesAt; simp; omega
theorem cglob_step (u : XApi_Unit) (i : Nat) (w : Int) (h : i < u.Globals.length) (h10 : u.Globals.length ≤ 10) :
    code_Check_L1 u (nmG u i) w i = some (if globC (nmG u i) w u.Globals[i] != 0 then .out (.ret ⟨globC (nmG u i) w u.Globals[i], i⟩) else .next (nmG u (i + 1), w64 (w + u.Globals[i].Size), ((i + 1 : Nat) : Int))) := by
  have hm := maxLen_big
  have hl := nmG_len u i (by omega)
  have hJ : ∀ e : Int, code_Check_J1 (nmG u i) w i u.Globals[i] e = some (if e != 0 then .out (.ret ⟨e, i⟩) else .next (nmG u (i + 1), w64 (w + u.Globals[i].Size), ((i + 1 : Nat) : Int))) := by
    intro e
    unfold code_Check_J1
    rw [app_ok (by simp [hl]; omega), nmG_succ u i h]
    simp only [cfault, Option.bind_some, w64_succ (i := i) (by omega)]
    split <;> rfl
  unfold code_Check_L1 globC
  simp only [lt_dec h, if_true, idx_lt h, Option.bind_some, cname_eq, contains_eq (nmG u i) _ (by omega), cin, hJ]
  repeat' split
  all_goals first | rfl | simp_all
theorem cCheck_eq (u : XApi_Unit) (hu : UOk u) : code_Check u = some (chk u) := by
  have hm := maxLen_big
  obtain ⟨h1, h2, h3, h4⟩ := id hu
  unfold code_Check chk
  simp only [cfault, Option.bind_some, ifT]
  split
  · rfl
  · rename_i hten
    have h10 : u.Globals.length ≤ 10 ∧ u.Funcs.length ≤ 10 := by
      simp only [Bool.or_eq_true, decide_eq_true_eq, not_or] at hten; omega
    have e1 : Loop (fun (s : List ByteArray × Int × Int) => code_Check_L1 u s.1 s.2.1 s.2.2) ([], 0, 0) = some (brOf2 (nmG u u.Globals.length) (globE u)) := by
      have := Loop_run (l := u.Globals) (τ := Br (List ByteArray) XApi_Fault) (S := List ByteArray × Int × Int) (fun (w : Int) i => (nmG u i.toNat, w, i)) (fun i (words : Int) (g : XApi_Global) => if globC (nmG u i) words g != 0 then .inl (.ret ⟨globC (nmG u i) words g, i⟩) else .inr (w64 (words + g.Size))) (fun _ => .brk (nmG u u.Globals.length)) (fun _ _ => True) (step := fun s => code_Check_L1 u s.1 s.2.1 s.2.2)
        (fun i w h _ => by
          simp only [Int.toNat_natCast, cglob_step u i w h h10.1]
          by_cases hz : globC (nmG u i) w u.Globals[i] = 0 <;> simp [hz]) (fun w _ => by
          unfold code_Check_L1; simp only [lt_dec', Int.toNat_natCast]; rfl) (s0 := 0) trivial
      have e0 : nmG u (0 : Int).toNat = [] := rfl
      rw [e0] at this
      rw [this]
      congr 1
      unfold globE
      have key : ∀ (l : List XApi_Global) (i : Nat) (w : Int) (names : Nat → List ByteArray), run (fun i (words : Int) (g : XApi_Global) => (if globC (names i) words g != 0 then .inl (.ret ⟨globC (names i) words g, i⟩) else .inr (w64 (words + g.Size)) : Br (List ByteArray) XApi_Fault ⊕ Int)) (fun _ => .brk (nmG u u.Globals.length)) i w l = brOf2 (nmG u u.Globals.length) (run (fun i (words : Int) (g : XApi_Global) => if globC (names i) words g != 0 then .inl (some ⟨globC (names i) words g, i⟩) else .inr (w64 (words + g.Size))) (fun _ => none) i w l) := by
        intro l
        induction l with
        | nil => intro i w names; rfl
        | cons g l ih =>
          intro i w names
          simp only [run]
          by_cases hz : globC (names i) w g = 0
          · simpa [hz] using ih (i + 1) _ names
          · simp [hz, brOf2]
      exact key u.Globals 0 0 (nmG u)
    rw [e1, Option.bind_some]
    cases hg : globE u with
    | some e => rfl
    | none =>
      simp only [brOf2, Br.go_brk]
      have en : nmG u u.Globals.length = namesAt u 0 := by unfold nmG namesAt; simp
      rw [en]
      have e2 : Loop (fun (s : List ByteArray × Int) => code_Check_L2 u s.1 s.2) (namesAt u 0, 0) = some (brOf2 () (headE u)) := by
        refine Loop_find2 (l := u.Funcs) (S := List ByteArray × Int) (fun i f => if headC (namesAt u i) f != 0 then some (XApi_Fault.mk (headC (namesAt u i) f) i) else none) (fun i => (namesAt u i.toNat, i)) () (fun i h => ?_) ?_
        · have hl := namesAt_len u i (by omega)
          have hmem : u.Funcs[i] ∈ u.Funcs := List.getElem_mem _
          unfold code_Check_L2
          have hd := chead_eq (XCode_checker.mk u u.Funcs[i] []) (namesAt u i) (h4 _ hmem).1 (by omega)
          simp only [lt_dec h, if_true, idx_lt h, Int.toNat_natCast, hd, Option.bind_some, cfault, w64_succ (i := i) (by omega)]
          rw [app_ok (by simp [hl]; omega), namesAt_succ u i h]
          generalize headC (namesAt u i) u.Funcs[i] = z
          by_cases hz : z = 0 <;> simp [hz]
        · unfold code_Check_L2; simp only [lt_dec']; rfl
      rw [e2, Option.bind_some]
      cases hh : headE u with
      | some e => rfl
      | none =>
        simp only [brOf2, Br.go_brk]
        have hb := heads_ok hh
        have e3 : Loop (fun s => code_Check_L3 u s) 0 = some (brOf (bodyE u)) := by
          refine Loop_find (l := u.Funcs) (fun i f => if bodyC u f != 0 then some (XApi_Fault.mk (bodyC u f) i) else none) (fun i h => ?_) ?_
          · have hmem : u.Funcs[i] ∈ u.Funcs := List.getElem_mem _
            unfold code_Check_L3
            simp only [lt_dec h, if_true, idx_lt h, cbody_eq u u.Funcs[i] [] h2 (h4 _ hmem) (hb _ hmem), Option.bind_some, cfault, w64_succ (i := i) (by omega)]
            by_cases hz : bodyC u u.Funcs[i] = 0 <;> simp [hz]
          · unfold code_Check_L3; simp only [lt_dec']; rfl
        rw [e3, Option.bind_some]
        cases hbd : bodyE u with
        | some e => rfl
        | none =>
          simp only [brOf, Br.go_brk, cmain_eq u h2, Option.bind_some]
          unfold mainE
          split
          · rfl
          · rename_i hneg
            obtain ⟨f, hf⟩ := mainI_idx u (by simpa using hneg)
            simp only [hf, Option.bind_some]
            split <;> rfl
end Go.Ab
namespace Go.Ab
open Go Go.Proofs
theorem findI_some {α ρ : Type} {g : Nat → α → Option ρ} {r : ρ} : ∀ {l : List α} {i : Nat}, findI g i l = some r → ∃ j, ∃ h : j < l.length, g (i + j) l[j] = some r
  | [], _, h => by simp [findI] at h
  | x :: l, i, hf => by
    simp only [findI] at hf
    cases hg : g i x with
    | some r' => rw [hg] at hf; exact ⟨0, by simp, by simpa [hg] using hf⟩
    | none =>
      rw [hg] at hf
      obtain ⟨j, h, hj⟩ := findI_some hf
      refine ⟨j + 1, by simpa using h, ?_⟩
      rw [show i + (j + 1) = i + 1 + j by omega]
      simpa using hj
theorem globE_code {u : XApi_Unit} {e : XApi_Fault} (h : globE u = some e) : e.Code ≠ 0 := by
  unfold globE at h
  have key : ∀ (l : List XApi_Global) (i : Nat) (w : Int), run (fun i (words : Int) (g : XApi_Global) => if globC (nmG u i) words g != 0 then .inl (some (XApi_Fault.mk (globC (nmG u i) words g) i)) else .inr (w64 (words + g.Size))) (fun _ => none) i w l = some e → e.Code ≠ 0 := by
    intro l
    induction l with
    | nil => intro i w h; simp [run] at h
    | cons g l ih =>
      intro i w h
      simp only [run] at h
      by_cases hz : globC (nmG u i) w g = 0
      · simp [hz] at h; exact ih _ _ (by simpa using h)
      · simp [hz] at h; rw [← h]; exact hz
  exact key _ _ _ h
theorem headE_code {u : XApi_Unit} {e : XApi_Fault} (h : headE u = some e) : e.Code ≠ 0 := by
  obtain ⟨j, hj, he⟩ := findI_some h
  split at he
  · rename_i hz
    simp only [Option.some.injEq] at he
    rw [← he]; simpa using hz
  · cases he
theorem bodyE_code {u : XApi_Unit} {e : XApi_Fault} (h : bodyE u = some e) : e.Code ≠ 0 := by
  obtain ⟨j, hj, he⟩ := findI_some h
  split at he
  · rename_i hz
    simp only [Option.some.injEq] at he
    rw [← he]; simpa using hz
  · cases he
structure Well (u : XApi_Unit) : Prop where
  eq : chk u = ⟨0, 0⟩
  ten : u.Globals.length ≤ 10 ∧ u.Funcs.length ≤ 10
  glob : globE u = none
  head : headE u = none
  body : bodyE u = none
theorem chk_code (u : XApi_Unit) (h : (chk u).Code = 0) : Well u := by
  have h' := h
  unfold chk at h
  split at h
  · simp at h
  · rename_i hten
    have h10 : u.Globals.length ≤ 10 ∧ u.Funcs.length ≤ 10 := by
      simp only [Bool.or_eq_true, decide_eq_true_eq, not_or] at hten; omega
    cases h1 : globE u with
    | some e => rw [h1] at h; exact absurd h (globE_code h1)
    | none =>
      cases h2 : headE u with
      | some e => rw [h1, h2] at h; exact absurd h (headE_code h2)
      | none =>
        cases h3 : bodyE u with
        | some e => rw [h1, h2, h3] at h; exact absurd h (bodyE_code h3)
        | none =>
          rw [h1, h2, h3] at h
          refine ⟨?_, h10, h1, h2, h3⟩
          unfold chk
          rw [if_neg hten, h1, h2, h3]
          simp only at h ⊢
          unfold mainE at h ⊢
          split at h
          · simp at h
          · rename_i hneg
            rw [if_neg hneg]
            split at h
            · split at h
              · simp at h
              · rename_i hp; rw [if_neg hp]
            · rfl
theorem Well.toOk {u : XApi_Unit} (h : Well u) : ∀ f ∈ u.Funcs, ToOk f := by
  intro f hf
  have h1 := heads_ok h.head f hf
  refine toOk_of h1 ?_
  obtain ⟨i, hi, rfl⟩ := List.getElem_of_mem hf
  have := findI_none_get h.body i hi
  by_cases hz : bodyC u u.Funcs[i] = 0
  · unfold bodyC at hz
    by_cases he : firstE (fun b => endC u.Funcs[i] b.End) u.Funcs[i].Blocks = 0
    · exact he
    · simp [he] at hz
  · simp [hz] at this
def insS (l : List XApi_Block) : Int := (l.map fun b => (b.Phis.length : Int) + (b.List.length : Int)).sum
theorem insF_w64 : ∀ (l : List XApi_Block) (a : Int), insF (w64 a) l = w64 (a + insS l)
  | [], a => by simp [insF, insS]
  | b :: l, a => by
    have ih := insF_w64 l (a + ((b.Phis.length : Int) + (b.List.length : Int)))
    simp only [insF, w64_add]
    rw [ih]
    simp only [insS, List.map_cons, List.sum_cons]
    congr 1
    omega
theorem w64_0 : w64 0 = 0 := w64_id (by omega) (by omega)
theorem insF_0 (l : List XApi_Block) : insF 0 l = w64 (insS l) := by
  have := insF_w64 l 0
  rw [w64_0] at this
  simpa using this
theorem cAhead_eq (u : XApi_Unit) (k : Int) (hu : UOk u) : code_Ahead u k = some (if (chk u).Code = 0 then (match (if inb k 0 (w64 ((u.Funcs.length : Int) - 1)) then idx u.Funcs k else none) with
    | some f => ((List.range f.Blocks.length).map fun k : Nat => ahS (k : Int) 0 f.Blocks, ⟨0, 0⟩) | none => ([], ⟨3, -1⟩)) else ([], chk u)) := by
  obtain ⟨h1, h2, h3, h4⟩ := id hu
  unfold code_Ahead
  simp only [cCheck_eq u hu, Option.bind_some, Bool.and_true]
  by_cases hc : (chk u).Code = 0
  · have hw := chk_code u hc
    rw [if_pos hc, hw.eq]
    simp only [beq_self_eq_true, Bool.and_self, Bool.not_true, Bool.false_eq_true, if_false, cin, Option.bind_some, cfault]
    by_cases hk : inb k 0 (w64 ((u.Funcs.length : Int) - 1)) = true
    · obtain ⟨f, hf, hmem⟩ := idx_in h2 hk
      simp only [hk, Bool.not_true, Bool.false_eq_true, if_false, if_true, hf, Option.bind_some, cahead_eq f (hw.toOk f hmem)]
    · simp [hk]
  · have : ((chk u).Code == 0) = false := by simpa using hc
    simp [this, hc]
theorem vast_some (u : XApi_Unit) (hu : UOk u) : ∃ b, law2_vast u = some b := by
  have hm := maxLen_big
  obtain ⟨h1, h2, h3, h4⟩ := id hu
  unfold law2_vast
  have e : Loop (fun s => law2_vast_L1 u s) 0 = some (brOf (findI (fun _ (f : XApi_Func) => if decide (100 < (f.Blocks.length : Int)) || decide (700 < insF 0 f.Blocks) then some true else none) 0 u.Funcs)) := by
    refine Loop_find (l := u.Funcs) _ (fun i h => ?_) ?_
    · have hmem : u.Funcs[i] ∈ u.Funcs := List.getElem_mem _
      unfold law2_vast_L1
      simp only [lt_dec h, if_true, idx_lt h, Option.bind_some, rIns_eq u.Funcs[i] (h4 _ hmem).1, bor, w64_succ (i := i) (by omega)]
      cases (decide (100 < (u.Funcs[i].Blocks.length : Int)) || decide (700 < insF 0 u.Funcs[i].Blocks)) <;> rfl
    · unfold law2_vast_L1; simp only [lt_dec']; rfl
  rw [e]
  cases findI (fun _ (f : XApi_Func) => if decide (100 < (f.Blocks.length : Int)) || decide (700 < insF 0 f.Blocks) then some true else none) 0 u.Funcs with
  | some r => exact ⟨r, rfl⟩
  | none => exact ⟨_, rfl⟩
end Go.Ab
namespace Go.Ab
open Go
theorem ah1_mem {k i x : Int} {l : List Int} (h : x ∈ ah1 k i l) : x = i ∧ k ∈ l := by
  unfold ah1 at h
  simp only [List.mem_map, List.mem_filter, beq_iff_eq] at h
  obtain ⟨a, ⟨h1, rfl⟩, rfl⟩ := h
  exact ⟨rfl, h1⟩
theorem ahS_mem {k x : Int} : ∀ {l : List XApi_Block} {i : Nat}, x ∈ ahS k i l → ∃ j, ∃ h : j < l.length, x = ((i + j : Nat) : Int) ∧ k ∈ l[j].End.To
  | [], _, h => by simp [ahS] at h
  | b :: l, i, h => by
    simp only [ahS, List.mem_append] at h
    rcases h with h | h
    · obtain ⟨rfl, h2⟩ := ah1_mem h
      exact ⟨0, by simp, by simp, by simpa using h2⟩
    · obtain ⟨j, hj, h1, h2⟩ := ahS_mem h
      exact ⟨j + 1, by simpa using hj, by rw [h1]; omega, by simpa using h2⟩
def Nd (f : XApi_Func) : Prop := ∀ b ∈ f.Blocks, b.End.To.Nodup
theorem Well.nd {u : XApi_Unit} (h : Well u) : ∀ f ∈ u.Funcs, Nd f := by
  intro f hf b hb
  obtain ⟨i, hi, rfl⟩ := List.getElem_of_mem hf
  have := findI_none_get h.body i hi
  have hz : bodyC u u.Funcs[i] = 0 := by
    by_cases hz : bodyC u u.Funcs[i] = 0
    · exact hz
    · simp [hz] at this
  have he : firstE (fun b => endC u.Funcs[i] b.End) u.Funcs[i].Blocks = 0 := by
    unfold bodyC at hz
    by_cases he : firstE (fun b => endC u.Funcs[i] b.End) u.Funcs[i].Blocks = 0
    · exact he
    · simp [he] at hz
  have h0 := firstE_0 he b hb
  unfold endC at h0
  by_cases hk : inb b.End.Kind 1 3 = true
  · by_cases hn : (b.End.To.length : Int) = b.End.Kind - 1
    · rcases kind_cases hk with h | h | h
      · have : b.End.To = [] := by
          apply List.length_eq_zero_iff.1; omega
        rw [this]; exact List.nodup_nil
      · obtain ⟨a, ha⟩ := len1 (l := b.End.To) (by omega)
        rw [ha]; simp
      · obtain ⟨a, c, ha⟩ := len2 (l := b.End.To) (by omega)
        rw [ha]
        by_cases hac : a = c
        · exfalso
          rw [hk, h, ha] at h0
          simp only [hac] at h0
          simp at h0
          split at h0 <;> simp at h0
        · simp [hac]
    · simp [hk, hn] at h0
  · simp [hk] at h0
end Go.Ab
namespace Go.Ab
open Go
theorem firstEI_0 {α : Type} {g : Nat → α → Int} : ∀ {l : List α} {i : Nat}, firstEI g i l = 0 → ∀ j (h : j < l.length), g (i + j) l[j] = 0
  | [], _, _, j, h => by simp at h
  | x :: l, i, hf, j, h => by
    simp only [firstEI] at hf
    by_cases hg : g i x = 0
    · simp [hg] at hf
      cases j with
      | zero => simpa using hg
      | succ j =>
        have := firstEI_0 hf j (by simpa using h)
        rw [show i + (j + 1) = i + 1 + j by omega]
        simpa using this
    · simp [hg] at hf
theorem Well.body0 {u : XApi_Unit} (h : Well u) (i : Nat) (hi : i < u.Funcs.length) : bodyC u u.Funcs[i] = 0 := by
  have := findI_none_get h.body i hi
  by_cases hz : bodyC u u.Funcs[i] = 0
  · exact hz
  · simp [hz] at this
theorem Well.head0 {u : XApi_Unit} (h : Well u) (i : Nat) (hi : i < u.Funcs.length) : headC (namesAt u i) u.Funcs[i] = 0 := by
  have := findI_none_get h.head i hi
  rw [Nat.zero_add] at this
  by_cases hz : headC (namesAt u i) u.Funcs[i] = 0
  · exact hz
  · simp [hz] at this
theorem body0_parts {u : XApi_Unit} {f : XApi_Func} (h : bodyC u f = 0) : firstE (fun b => endC f b.End) f.Blocks = 0 ∧ ∀ j (hj : j < f.Blocks.length), firstE (phiC f j) f.Blocks[j].Phis = 0 ∧ ∀ x ∈ f.Blocks[j].List, insC u f x = 0 := by
  unfold bodyC at h
  by_cases he : firstE (fun b => endC f b.End) f.Blocks = 0
  · simp [he] at h
    refine ⟨he, fun j hj => ?_⟩
    have := firstEI_0 h j hj
    rw [Nat.zero_add] at this
    unfold blkC at this
    by_cases hp : firstE (phiC f j) f.Blocks[j].Phis = 0
    · simp [hp] at this
      exact ⟨hp, firstE_0 this⟩
    · simp [hp] at this
  · simp [he] at h
theorem Well.main0 {u : XApi_Unit} (h : Well u) : mainE u = ⟨0, 0⟩ := by
  have := h.eq
  unfold chk at this
  have h10 := h.ten
  rw [if_neg (by simp; omega), h.glob, h.head, h.body] at this
  exact this
end Go.Ab
