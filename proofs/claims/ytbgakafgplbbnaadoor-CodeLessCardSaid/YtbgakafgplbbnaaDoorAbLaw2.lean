/-
  PLAIN LAWS: a unit's form.
-/
import Derived.Test.YtbgakafgplbbnaaDoorAbLaw1
namespace Go.Ab
open Go Go.Proofs

def BOk (b : XApi_Block) : Prop := b.Phis.length ≤ maxLen ∧ b.List.length ≤ maxLen ∧ b.End.To.length ≤ maxLen ∧ (∀ p ∈ b.Phis, p.From.length ≤ maxLen) ∧ (∀ x ∈ b.List, x.Args.length ≤ maxLen)
def FOk (f : XApi_Func) : Prop := f.Blocks.length ≤ maxLen ∧ ∀ b ∈ f.Blocks, BOk b
def UOk (u : XApi_Unit) : Prop := u.Globals.length ≤ maxLen ∧ u.Funcs.length ≤ maxLen ∧ (∀ g ∈ u.Globals, g.Init.length ≤ maxLen) ∧ ∀ f ∈ u.Funcs, FOk f
theorem maxLen_big : maxLen = 9223372036854775807 := rfl
theorem lt_dec {i : Nat} {n : Nat} (h : i < n) : decide ((i : Int) < (n : Int)) = true := by simp [h]
theorem lt_dec' {n : Nat} : decide ((n : Int) < (n : Int)) = false := by simp

/-! ### Values -/
def valOk (f : XApi_Func) (v : XApi_Val) : Bool := !v.Reg || inb v.N 0 (w64 (f.Regs - 1))
@[simp] theorem rval_eq (f : XApi_Func) (v : XApi_Val) : turneryref2_val f v = some (valOk f v) := by
  unfold turneryref2_val valOk
  cases v.Reg <;> simp
@[simp] theorem cval_eq (c : XCode_checker) (v : XApi_Val) : code_checker_val c v = some (if valOk c.f v then 0 else 3) := by
  unfold code_checker_val valOk
  cases v.Reg
  · simp
  · cases h : inb v.N 0 (w64 (c.f.Regs - 1)) <;> simp [h]
theorem rvals_eq (f : XApi_Func) (l : List XApi_Val) (hl : l.length ≤ maxLen) : turneryref2_vals f l = some (l.all (valOk f)) := by
  have := maxLen_big
  unfold turneryref2_vals
  have e : Loop (fun s => turneryref2_vals_L1 f l s) 0 = some (brOf (findI (fun _ x => if valOk f x then none else some false) 0 l)) := by
    refine Loop_find (l := l) _ (fun i h => ?_) ?_
    · unfold turneryref2_vals_L1
      simp only [lt_dec h, idx_lt h, Option.bind_some, rval_eq, w64_succ (i := i) (by omega), if_true]
      cases valOk f l[i] <;> rfl
    · unfold turneryref2_vals_L1; simp only [lt_dec']; rfl
  rw [e, findI_all]
  cases l.all (valOk f) <;> rfl
theorem cphi_loop (c : XCode_checker) (p : XApi_Phi) (hl : p.From.length ≤ maxLen) : Loop (fun s => code_checker_phi_L1 c p s) 0 = some (brOf (if p.From.all (valOk c.f) then none else some 3)) := by
  have := maxLen_big
  rw [← findI_all (valOk c.f) 3 p.From 0]
  refine Loop_find (l := p.From) (fun _ x => if valOk c.f x then none else some 3) (fun i h => ?_) ?_
  · unfold code_checker_phi_L1
    simp only [lt_dec h, idx_lt h, Option.bind_some, cval_eq, w64_succ (i := i) (by omega), if_true]
    cases valOk c.f p.From[i] <;> rfl
  · unfold code_checker_phi_L1; simp only [lt_dec']; rfl
theorem cargs_loop (x : XApi_Ins) (c : XCode_checker) (hl : x.Args.length ≤ maxLen) : Loop (fun s => code_checker_ins_3_L1 x c s) 0 = some (brOf (if x.Args.all (valOk c.f) then none else some 3)) := by
  have := maxLen_big
  rw [← findI_all (valOk c.f) 3 x.Args 0]
  refine Loop_find (l := x.Args) (fun _ x => if valOk c.f x then none else some 3) (fun i h => ?_) ?_
  · unfold code_checker_ins_3_L1
    simp only [lt_dec h, idx_lt h, Option.bind_some, cval_eq, w64_succ (i := i) (by omega), if_true]
    cases valOk c.f x.Args[i] <;> rfl
  · unfold code_checker_ins_3_L1; simp only [lt_dec']; rfl

/-! ### Ends -/
def onZ (e : XApi_End) : Bool := e.On.Reg == false && e.On.N == 0
def toOk (f : XApi_Func) (n : Int) : Bool := inb n 1 (w64 ((f.Blocks.length : Int) - 1))
def endC (f : XApi_Func) (e : XApi_End) : Int :=
  if !inb e.Kind 1 3 then 4 else if (e.To.length : Int) != e.Kind - 1 then 9 else if !e.To.all (toOk f) then 3
  else if (e.Kind == 3 && e.To[0]? == e.To[1]?) || (e.Kind == 2 && !onZ e) then 5 else if !valOk f e.On then 3 else 0
theorem rend_loop (f : XApi_Func) (e : XApi_End) (hl : e.To.length ≤ maxLen) : Loop (fun s => turneryref2_end_L1 f e s) 0 = some (brOf (if e.To.all (toOk f) then none else some 3)) := by
  have := maxLen_big
  rw [← findI_all (toOk f) 3 e.To 0]
  refine Loop_find (l := e.To) (fun _ x => if toOk f x then none else some 3) (fun i h => ?_) ?_
  · unfold turneryref2_end_L1
    simp only [lt_dec h, idx_lt h, Option.bind_some, rin2, w64_succ (i := i) (by omega), if_true]
    unfold toOk
    cases inb e.To[i] 1 (w64 ((f.Blocks.length : Int) - 1)) <;> rfl
  · unfold turneryref2_end_L1; simp only [lt_dec']; rfl
theorem cend_loop (c : XCode_checker) (l : List Int) (hl : l.length ≤ maxLen) : slices_ContainsFunc_int_int__f77 l c = some (!l.all (toOk c.f)) := by
  have := maxLen_big
  have e : Loop (fun s => slices_IndexFunc_int_int__f77_L1 l c s) 0 = some (brOf (findI (fun i x => if toOk c.f x then none else some (i : Int)) 0 l)) := by
    refine Loop_find (l := l) _ (fun i h => ?_) ?_
    · unfold slices_IndexFunc_int_int__f77_L1 code_checker_end_1
      simp only [lt_dec h, idx_lt h, Option.bind_some, cin, w64_succ (i := i) (by omega), if_true]
      unfold toOk
      cases inb l[i] 1 (w64 ((c.f.Blocks.length : Int) - 1)) <;> rfl
    · unfold slices_IndexFunc_int_int__f77_L1; simp only [lt_dec']; rfl
  unfold slices_ContainsFunc_int_int__f77 slices_IndexFunc_int_int__f77
  rw [e]
  have key : ∀ (l : List Int) (i : Nat), (findI (fun i x => if toOk c.f x then none else some (i : Int)) i l).isSome = !l.all (toOk c.f) ∧ ∀ r, findI (fun i x => if toOk c.f x then none else some (i : Int)) i l = some r → 0 ≤ r := by
    intro l
    induction l with
    | nil => intro i; simp [findI]
    | cons x l ih =>
      intro i
      simp only [findI, List.all_cons]
      by_cases hx : toOk c.f x = true
      · simpa [hx] using ih (i + 1)
      · simp [hx]
  obtain ⟨k1, k2⟩ := key l 0
  cases hf : findI (fun i x => if toOk c.f x then none else some (i : Int)) 0 l with
  | none => rw [hf] at k1; simp only [brOf, Option.bind_some, ← k1]; rfl
  | some r => rw [hf] at k1; have := k2 r hf; simp only [brOf, Option.bind_some, ← k1, this]; rfl
theorem kind_cases {k : Int} (h : inb k 1 3 = true) : k = 1 ∨ k = 2 ∨ k = 3 := by
  simp only [inb, Bool.and_eq_true, decide_eq_true_eq] at h; omega
theorem len1 {α : Type} {l : List α} (h : (l.length : Int) = 1) : ∃ a, l = [a] := by
  match l, h with
  | [a], _ => exact ⟨a, rfl⟩
  | [], h => simp at h
  | _ :: _ :: _, h => simp at h; omega
theorem len2 {α : Type} {l : List α} (h : (l.length : Int) = 2) : ∃ a b, l = [a, b] := by
  match l, h with
  | [a, b], _ => exact ⟨a, b, rfl⟩
  | [], h => simp at h
  | [_], h => simp at h
  | _ :: _ :: _ :: _, h => simp at h; omega
theorem rend_eq (f : XApi_Func) (e : XApi_End) (hl : e.To.length ≤ maxLen) : turneryref2_end f e = some (endC f e) := by
  unfold turneryref2_end endC onZ
  simp only [rin2, Option.bind_some, rend_loop f e hl, rval_eq, Bool.and_true]
  by_cases hk : inb e.Kind 1 3 = true
  · simp only [hk, Bool.not_true, Bool.false_eq_true, if_false]
    have hw : w64 (e.Kind - 1) = e.Kind - 1 := by rcases kind_cases hk with h | h | h <;> rw [h] <;> rfl
    rw [hw]
    by_cases hn : (e.To.length : Int) = e.Kind - 1
    · simp only [hn, bne_self_eq_false, Bool.false_eq_true, if_false]
      by_cases ha : e.To.all (toOk f) = true
      · simp only [ha, if_true, brOf, Bool.not_true, Bool.false_eq_true, if_false]
        rcases kind_cases hk with h | h | h
        · simp only [h]; cases valOk f e.On <;> rfl
        · simp only [h]; cases valOk f e.On <;> cases (e.On.Reg == false && e.On.N == 0) <;> rfl
        · rw [h] at hn
          obtain ⟨a, b, hab⟩ := len2 (by simpa using hn)
          simp only [h, hab, idx_0, idx_1, Option.bind_some]
          by_cases hq : a = b
          · simp [hq]
          · simp [hq]; cases valOk f e.On <;> rfl
      · simp only [ha]; rfl
    · have : ((e.To.length : Int) != e.Kind - 1) = true := by simpa using hn
      simp only [this, if_true]
  · simp [hk]
theorem cend_eq (c : XCode_checker) (e : XApi_End) (hl : e.To.length ≤ maxLen) : code_checker_end c e = some (endC c.f e) := by
  unfold code_checker_end endC onZ
  simp only [cin, Option.bind_some, cend_loop c e.To hl, cval_eq, Bool.and_true]
  by_cases hk : inb e.Kind 1 3 = true
  · simp only [hk, Bool.not_true, Bool.false_eq_true, if_false]
    have hi : idx ([0, 0, 1, 2] : List Int) e.Kind = some (e.Kind - 1) := by rcases kind_cases hk with h | h | h <;> rw [h] <;> rfl
    simp only [hi, Option.bind_some]
    by_cases hn : (e.To.length : Int) = e.Kind - 1
    · simp only [hn, bne_self_eq_false, Bool.false_eq_true, if_false]
      by_cases ha : e.To.all (toOk c.f) = true
      · simp only [ha, Bool.not_true, Bool.false_eq_true, if_false]
        rcases kind_cases hk with h | h | h
        · simp only [h]; cases valOk c.f e.On <;> rfl
        · simp only [h]; cases valOk c.f e.On <;> cases (e.On.Reg == false && e.On.N == 0) <;> rfl
        · rw [h] at hn
          obtain ⟨a, b, hab⟩ := len2 (by simpa using hn)
          simp only [h, hab, idx_0, idx_1, Option.bind_some]
          by_cases hq : a = b
          · simp [hq]
          · simp [hq]; cases valOk c.f e.On <;> rfl
      · simp only [ha]; rfl
    · have : ((e.To.length : Int) != e.Kind - 1) = true := by simpa using hn
      simp only [this, if_true]
  · simp [hk]
end Go.Ab
