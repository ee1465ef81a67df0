/-
  PLAIN LAWS: instructions; which blocks are ahead of each.
-/
import Derived.Test.YtbgakafgplbbnaaDoorAbLaw2
namespace Go.Ab
open Go Go.Proofs

def dstB (op : Int) : Bool := inb op 1 18 || op == 20 || op == 21
def aB (op : Int) : Bool := inb op 1 19 || op == 22
def bB (op : Int) : Bool := inb op 2 15 || op == 19
@[simp] theorem rDst (op : Int) : turneryref2_Dst op = some (dstB op) := by simp only [turneryref2_Dst, rin2, Option.bind_some, ifT, dstB]
@[simp] theorem rA (op : Int) : turneryref2_SpeaksA op = some (aB op) := by simp only [turneryref2_SpeaksA, rin2, Option.bind_some, ifT, aB]
@[simp] theorem rB (op : Int) : turneryref2_SpeaksB op = some (bB op) := by simp only [turneryref2_SpeaksB, rin2, Option.bind_some, ifT, bB]
theorem shapes_eq {op : Int} (h : inb op 1 22 = true) : core_Shapes op = some ⟨dstB op, aB op, bB op⟩ := by
  have h' : 1 ≤ op ∧ op ≤ 22 := by simp only [inb, Bool.and_eq_true, decide_eq_true_eq] at h; exact h
  have : op = 1 ∨ op = 2 ∨ op = 3 ∨ op = 4 ∨ op = 5 ∨ op = 6 ∨ op = 7 ∨ op = 8 ∨ op = 9 ∨ op = 10 ∨ op = 11 ∨ op = 12 ∨ op = 13 ∨ op = 14 ∨ op = 15 ∨ op = 16 ∨ op = 17 ∨ op = 18 ∨ op = 19 ∨ op = 20 ∨ op = 21 ∨ op = 22 := by omega
  rcases this with h | h | h | h | h | h | h | h | h | h | h | h | h | h | h | h | h | h | h | h | h | h <;> subst h <;> rfl
def vZ (v : XApi_Val) : Bool := v.Reg == false && v.N == 0
def insC (u : XApi_Unit) (f : XApi_Func) (x : XApi_Ins) : Int :=
  if !inb x.Op 1 22 then 4
  else if (!dstB x.Op && x.Dst != -1) || (!aB x.Op && !vZ x.A) || (!bB x.Op && !vZ x.B) || (!(x.Op == 20) && (x.Func != 0 || decide (0 < (x.Args.length : Int)))) then 5
  else if dstB x.Op && !inb x.Dst 0 (w64 (f.Regs - 1)) && (!(x.Op == 20) || x.Dst != -1) then 3
  else if !valOk f x.A || !valOk f x.B then 3
  else if !(x.Op == 20) then 0
  else if !inb x.Func 0 (w64 ((u.Funcs.length : Int) - 1)) then 3
  else match idx u.Funcs x.Func with
    | some g => if (x.Args.length : Int) != g.Params then 9 else if x.Args.all (valOk f) then 0 else 3
    | none => 0
theorem idx_in {α : Type} {l : List α} {k : Int} (hl : l.length ≤ maxLen) (h : inb k 0 (w64 ((l.length : Int) - 1)) = true) : ∃ x, idx l k = some x ∧ x ∈ l := by
  have hm := maxLen_big
  simp only [inb, Bool.and_eq_true, decide_eq_true_eq] at h
  rw [w64_id (by omega) (by omega)] at h
  have hlt : k.toNat < l.length := by omega
  refine ⟨l[k.toNat], ?_, List.getElem_mem _⟩
  unfold idx
  rw [if_pos h.1, List.getElem?_eq_getElem hlt]
theorem rins_eq (u : XApi_Unit) (f : XApi_Func) (x : XApi_Ins) (hu : u.Funcs.length ≤ maxLen) (hl : x.Args.length ≤ maxLen) : turneryref2_ins u f x = some (insC u f x) := by
  unfold turneryref2_ins insC vZ
  simp only [rin2, rDst, rA, rB, rval_eq, Option.bind_some, ifF, ifT, rvals_eq f x.Args hl, Bool.and_true]
  by_cases hop : inb x.Op 1 22 = true
  · simp only [hop, Bool.not_true, Bool.false_eq_true, if_false]
    have e1 : ∀ (a b : Bool), (if a = true then some true else some b) = some (a || b) := by intro a b; cases a <;> rfl
    have e2 : ∀ (a b : Bool), (if a = true then some b else some false) = some (a && b) := by intro a b; cases a <;> rfl
    simp only [e1, e2, Option.bind_some]
    split
    · rfl
    · split
      · rfl
      · split
        · rfl
        · split
          · rfl
          · by_cases hf : inb x.Func 0 (w64 ((u.Funcs.length : Int) - 1)) = true
            · obtain ⟨g, hg, _⟩ := idx_in hu hf
              simp only [hf, hg, Option.bind_some, Bool.not_true, Bool.false_eq_true, if_false]
              split
              · rfl
              · cases x.Args.all (valOk f) <;> rfl
            · simp [hf]
  · simp [hop]
theorem first_eq (c : XCode_checker) (x : XApi_Ins) (call : Bool) (a b d : Int) (h1 : code_checker_ins_1 c x = some a) (h2 : code_checker_ins_2 c x = some b) (h3 : code_checker_ins_3 call x c = some d) :
    code_first__f82_f83_f84 c x c x call x c = some (if a != 0 then a else if b != 0 then b else d) := by
  unfold code_first__f82_f83_f84
  have s0 : code_first__f82_f83_f84_L1 c x c x call x c 0 = some (if a != 0 then .out (.ret a) else .next 1) := by
    unfold code_first__f82_f83_f84_L1
    have i0 : idx ([0, 1, 2] : List Nat) 0 = some 0 := rfl
    have e0 : w64 1 = 1 := w64_id (by omega) (by omega)
    by_cases hz : a = 0
    · subst hz; simp [i0, h1, e0]
    · simp [i0, h1, e0, hz]
  have s1 : code_first__f82_f83_f84_L1 c x c x call x c 1 = some (if b != 0 then .out (.ret b) else .next 2) := by
    unfold code_first__f82_f83_f84_L1
    have i0 : idx ([0, 1, 2] : List Nat) 1 = some 1 := rfl
    have e0 : w64 2 = 2 := w64_id (by omega) (by omega)
    by_cases hz : b = 0
    · subst hz; simp [i0, h2, e0]
    · simp [i0, h2, e0, hz]
  have s2 : code_first__f82_f83_f84_L1 c x c x call x c 2 = some (if d != 0 then .out (.ret d) else .next 3) := by
    unfold code_first__f82_f83_f84_L1
    have i0 : idx ([0, 1, 2] : List Nat) 2 = some 2 := rfl
    have e0 : w64 3 = 3 := w64_id (by omega) (by omega)
    by_cases hz : d = 0
    · subst hz; simp [i0, h3, e0]
    · simp [i0, h3, e0, hz]
  have s3 : code_first__f82_f83_f84_L1 c x c x call x c 3 = some (.out (.brk ())) := rfl
  rw [Loop_eq, s0]
  by_cases ha : a = 0
  · simp only [ha, bne_self_eq_false, Bool.false_eq_true, if_false, Option.bind_some]
    rw [Loop_eq, s1]
    by_cases hb : b = 0
    · simp only [hb, bne_self_eq_false, Bool.false_eq_true, if_false, Option.bind_some]
      rw [Loop_eq, s2]
      by_cases hd : d = 0
      · simp only [hd, bne_self_eq_false, Bool.false_eq_true, if_false, Option.bind_some]
        rw [Loop_eq, s3]; rfl
      · simp [hd]
    · simp [hb]
  · simp [ha]
theorem cins_eq (c : XCode_checker) (x : XApi_Ins) (hu : c.u.Funcs.length ≤ maxLen) (hl : x.Args.length ≤ maxLen) : code_checker_ins c x = some (insC c.u c.f x) := by
  have hJ : code_checker_ins_J1 c x = some (if !valOk c.f x.A || !valOk c.f x.B then 3
  else if !(x.Op == 20) then 0
  else if !inb x.Func 0 (w64 ((c.u.Funcs.length : Int) - 1)) then 3
  else match idx c.u.Funcs x.Func with
    | some g => if (x.Args.length : Int) != g.Params then 9 else if x.Args.all (valOk c.f) then 0 else 3
    | none => 0) := by
    unfold code_checker_ins_J1
    have h3 : code_checker_ins_3 (x.Op == 20) x c = some (if !(x.Op == 20) then 0
  else if !inb x.Func 0 (w64 ((c.u.Funcs.length : Int) - 1)) then 3
  else match idx c.u.Funcs x.Func with
    | some g => if (x.Args.length : Int) != g.Params then 9 else if x.Args.all (valOk c.f) then 0 else 3
    | none => 0) := by
      unfold code_checker_ins_3
      simp only [cin, Option.bind_some, cargs_loop x c hl]
      split
      · rfl
      · by_cases hf : inb x.Func 0 (w64 ((c.u.Funcs.length : Int) - 1)) = true
        · obtain ⟨g, hg, _⟩ := idx_in hu hf
          simp only [hf, hg, Option.bind_some, Bool.not_true, Bool.false_eq_true, if_false]
          split
          · rfl
          · cases x.Args.all (valOk c.f) <;> rfl
        · simp [hf]
    rw [first_eq c x _ (if valOk c.f x.A then 0 else 3) (if valOk c.f x.B then 0 else 3) _ (by simp [code_checker_ins_1]) (by simp [code_checker_ins_2]) h3]
    cases valOk c.f x.A <;> cases valOk c.f x.B <;> rfl
  unfold code_checker_ins insC vZ
  simp only [cin, Option.bind_some, hJ, ifF, ifT, Bool.and_true]
  by_cases hop : inb x.Op 1 22 = true
  · simp only [hop, shapes_eq hop, Bool.not_true, Bool.false_eq_true, if_false, Option.bind_some]
    split
    · rfl
    · unfold code_checker_dst
      simp only [cin, Option.bind_some]
      cases hd : dstB x.Op
      · simp
      · cases hi : inb x.Dst 0 (w64 (c.f.Regs - 1))
        · by_cases hc : (x.Op == 20) = true
          · by_cases hm : x.Dst = -1
            · simp [hc, hm]
            · simp [hc, hm]
          · simp [hc]
        · simp
  · simp [hop]
end Go.Ab
