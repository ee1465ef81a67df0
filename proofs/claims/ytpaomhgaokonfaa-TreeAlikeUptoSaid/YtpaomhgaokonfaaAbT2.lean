/-
  PLAIN LAWS: nodes of trees, each by itself.
-/
import Derived.Test.YtpaomhgaokonfaaAbT1
namespace Go.Ab
open Go Go.Proofs

def exprB (k : Int) : Bool := inb k 31 40
def stmtB (k : Int) : Bool := inb k 11 18 || inb k 21 24
def knownB (k : Int) : Bool := inb k 1 4 || inb k 11 24 || exprB k
def namedB (k : Int) : Bool := k == 2 || k == 3 || k == 4 || k == 12 || k == 32 || k == 33
@[simp] theorem rexpr (k : Int) : ref1_Expression k = some (exprB k) := by simp only [ref1_Expression, rin1, Option.bind_some, exprB]
@[simp] theorem aexpr (k : Int) : ast_Expression k = some (exprB k) := by simp only [ast_Expression, exprB, inb, ifF]
@[simp] theorem rstmt (k : Int) : ref1_Statement k = some (stmtB k) := by
  simp only [ref1_Statement, rin1, Option.bind_some, stmtB, bifs]
@[simp] theorem astmt (k : Int) : ast_Statement k = some (stmtB k) := by simp only [ast_Statement, stmtB, inb, ifF, ifT]
@[simp] theorem tknown (k : Int) : tree_known k = some (knownB k) := by
  simp only [tree_known, aexpr, Option.bind_some, ifF, ifT, bifs, knownB, inb]
@[simp] theorem rnamed (k : Int) : ref1_Named k = some (namedB k) := by simp only [ref1_Named, ifT, namedB]
@[simp] theorem tnamed (k : Int) : tree_named k = some (namedB k) := by simp only [tree_named, ifT, namedB]

/-- How many kids at least, and at most. -/
def kidsS (k : Int) : Int × Int :=
  if k == 1 || k == 11 || k == 33 then (0, 1099511627776) else if k == 3 || k == 18 then (1, 1099511627776) else if k == 2 then (0, 200)
  else if k == 12 || k == 23 then (0, 1) else if k == 13 || k == 19 || k == 35 || k == 40 then (1, 1) else if k == 14 then (2, 3)
  else if k == 15 || k == 16 || k == 34 || k == 36 || k == 37 || k == 39 then (2, 2) else if k == 38 then (3, 3) else if k == 17 then (4, 4) else (0, 0)
theorem rkids_eq (k : Int) : ref1_kids k = some (kidsS k) := by
  unfold ref1_kids kidsS
  simp only [ifT]
  repeat' split
  all_goals rfl
theorem kindIn {P : Int → Prop} {k : Int} (h : ∀ n : _root_.Fin 41, P ((n : Nat) : Int)) (h2 : k < 0 ∨ 40 < k → P k) : P k := by
  by_cases hk : 0 ≤ k ∧ k ≤ 40
  · have := h ⟨k.toNat, by omega⟩
    simpa [Int.toNat_of_nonneg hk.1] using this
  · exact h2 (by omega)
theorem tshape_eq (k : Int) : tree_shape k = some ((kidsS k).1, if (kidsS k).2 = 1099511627776 then -1 else (kidsS k).2) := by
  refine kindIn (P := fun k => tree_shape k = some ((kidsS k).1, if (kidsS k).2 = 1099511627776 then -1 else (kidsS k).2)) (by decide +kernel) fun h => ?_
  have hn : ∀ c : Int, 0 ≤ c → c ≤ 40 → (k == c) = false := fun c h1 h2 => by simp; omega
  simp [tree_shape, tree_shape_J1, tree_shape_J2, tree_shape_J3, tree_shape_J4, tree_shape_J5, kidsS, hn]
theorem kidsS_hi (k : Int) : (kidsS k).2 = 1099511627776 ∨ (0 ≤ (kidsS k).2 ∧ (kidsS k).2 ≤ 200) := by
  unfold kidsS
  repeat' split
  all_goals simp
/-- So many kids, at least and at most. -/
def cntB (k m : Int) : Bool := decide ((kidsS k).1 ≤ m) && ((kidsS k).2 == 1099511627776 || decide (m ≤ (kidsS k).2))
theorem cntB_in {k m : Int} (hm : m ≤ 1099511627776) : inb m (kidsS k).1 (kidsS k).2 = cntB k m := by
  unfold inb cntB
  rcases kidsS_hi k with h | h
  · rw [h]; simp; omega
  · have : ((kidsS k).2 == 1099511627776) = false := by simp; omega
    rw [this]; simp
theorem kids_same {k m : Int} : (if (decide (m < (kidsS k).1)) then true else (if (decide (0 ≤ (if (kidsS k).2 = 1099511627776 then -1 else (kidsS k).2))) then (decide ((if (kidsS k).2 = 1099511627776 then -1 else (kidsS k).2) < m)) else false)) = !cntB k m := by
  simp only [ifT, ifF, cntB]
  rcases kidsS_hi k with h | h
  · rw [h, Bool.eq_iff_iff]; simp
  · rw [if_neg (by omega)]
    have : ((kidsS k).2 == 1099511627776) = false := by simp; omega
    rw [this, Bool.eq_iff_iff]; simp; omega

/-- May the kid i of m be of kind c? -/
def goesS (k i m c : Int) : Bool :=
  if k == 1 then c == 2 || c == 3
  else if k == 3 then (if i == w64 (m - 1) then c == 11 else c == 4)
  else if k == 11 then stmtB c
  else if k == 18 && decide (0 < i) then stmtB c || c == 19 || c == 20
  else if (((k == 14 || k == 15) && decide (0 < i)) || (k == 16 && i == 0)) || (k == 17 && i == 3) then c == 11
  else if k == 17 && i == 0 then c == 12 || c == 13 || c == 24
  else if k == 17 && i == 1 then exprB c || c == 24
  else if k == 17 && i == 2 then c == 13 || c == 24
  else exprB c
@[simp] theorem rgoes (k i m c : Int) : ref1_goes k i m c = some (goesS k i m c) := by
  unfold ref1_goes goesS
  simp only [rstmt, rexpr, Option.bind_some, ifT, ifF]
  repeat' split
  all_goals rfl
theorem tkid_eq (n : XApi_Node) (i c : Int) (hi : 0 ≤ i) (hl : i < n.Kids.length) (hs : cntB n.Kind n.Kids.length = true) : tree_kid n i c = some (goesS n.Kind i n.Kids.length c) := by
  unfold tree_kid tree_kid_J1 goesS
  simp only [astmt, aexpr, Option.bind_some, ifT, ifF]
  generalize n.Kids.length = m at *
  generalize n.Kind = k at *
  by_cases h1 : k = 1
  · subst h1; rfl
  by_cases h3 : k = 3
  · subst h3
    by_cases hx : i = w64 ((m : Int) - 1)
    · simp [← hx]
    · have hb : (i == w64 ((m : Int) - 1)) = false := beq_eq_false_iff_ne.2 hx
      simp [hb]
  by_cases h11 : k = 11
  · subst h11; rfl
  have b1 : (k == 1) = false := by simpa using h1
  have b3 : (k == 3) = false := by simpa using h3
  have b11 : (k == 11) = false := by simpa using h11
  simp only [b1, b3, b11, Bool.false_eq_true, if_false]
  by_cases h18 : k = 18
  · subst h18
    by_cases h0 : i = 0
    · subst h0; simp
      cases exprB c <;> rfl
    · have : 0 < i := by omega
      simp [h0, this]
  have b18 : (k == 18) = false := by simpa using h18
  simp only [b18, Bool.false_eq_true, if_false, Bool.false_and]
  by_cases h14 : k = 14
  · subst h14
    by_cases h0 : i = 0
    · subst h0; simp
    · have : 0 < i := by omega
      simp [h0, this]
  by_cases h15 : k = 15
  · subst h15
    by_cases h0 : i = 0
    · subst h0; simp
    · have : 0 < i := by omega
      simp [h0, this]
  have b14 : (k == 14) = false := by simpa using h14
  have b15 : (k == 15) = false := by simpa using h15
  simp only [b14, b15, Bool.false_eq_true, if_false, Bool.false_and, Bool.false_or]
  by_cases h16 : k = 16
  · subst h16
    have hm : (m : Int) = 2 := by
      have : kidsS 16 = (2, 2) := by decide +kernel
      simp [cntB, this] at hs; omega
    have : i = 0 ∨ i = 1 := by omega
    rcases this with rfl | rfl <;> simp
  by_cases h17 : k = 17
  · subst h17
    have hm : (m : Int) = 4 := by
      have : kidsS 17 = (4, 4) := by decide +kernel
      simp [cntB, this] at hs; omega
    have : i = 0 ∨ i = 1 ∨ i = 2 ∨ i = 3 := by omega
    rcases this with rfl | rfl | rfl | rfl <;> simp
  have b16 : (k == 16) = false := by simpa using h16
  have b17 : (k == 17) = false := by simpa using h17
  simp [b16, b17]

/-! ### Numbers -/
def numS (n : XApi_Node) : Bool :=
  if n.Kind == 2 && n.N == 3 then inb n.Size 1 200 && decide ((n.Kids.length : Int) ≤ n.Size)
  else if n.Size != 0 then false
  else if n.Kind == 2 then inb n.N 1 2 && decide ((n.Kids.length : Int) < 2)
  else if n.Kind == 3 then inb n.N 0 2
  else if n.Kind == 4 || n.Kind == 12 then inb n.N 1 2
  else if n.Kind == 31 then decide (0 ≤ n.N)
  else if n.Kind == 40 then inb n.N 0 1
  else n.N == 0
@[simp] theorem rnum (n : XApi_Node) : ref1_numbers n = some (numS n) := by
  unfold ref1_numbers numS
  simp only [rin1, Option.bind_some, ifT, ifF]
  repeat' split
  all_goals rfl
@[simp] theorem tnum (n : XApi_Node) : tree_numbers n = some (numS n) := by
  unfold tree_numbers tree_numbers_J1 numS
  simp only [cin, Option.bind_some, ifT, ifF]
  generalize n.Kids.length = m
  generalize n.Kind = k
  generalize n.N = x
  generalize n.Size = z
  by_cases h2 : k = 2
  · subst h2
    by_cases hx : x = 3
    · subst hx; simp
    · have : (x == 3) = false := by simpa using hx
      simp only [this, Bool.and_false, Bool.false_eq_true, if_false, beq_self_eq_true, if_true]
      by_cases hz : z = 0
      · subst hz
        simp only [beq_self_eq_true, bne, Bool.not_true, Bool.false_eq_true, if_false, Bool.and_true, inb]
        congr 1
        rw [Bool.eq_iff_iff]; simp; omega
      · have hz' : (z == 0) = false := by simpa using hz
        simp [hz', bne]
  have b2 : (k == 2) = false := by simpa using h2
  simp only [b2, Bool.false_eq_true, if_false, Bool.false_and]
  by_cases hz : z = 0
  · subst hz
    simp only [bne, beq_self_eq_true, Bool.not_true, Bool.and_true, Bool.false_eq_true, if_false]
    by_cases h4 : k = 4
    · subst h4; rfl
    have b4 : (k == 4) = false := by simpa using h4
    by_cases h12 : k = 12
    · subst h12; rfl
    have b12 : (k == 12) = false := by simpa using h12
    simp only [b4, b12, Bool.false_eq_true, if_false, Bool.or_self]
    repeat' split
    all_goals rfl
  · have hz' : (z == 0) = false := by simpa using hz
    simp only [hz', bne, Bool.not_false, if_true, Bool.and_false]
    repeat' split
    all_goals rfl
end Go.Ab
