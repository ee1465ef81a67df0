/-
  PLAIN LAWS: names; loops, each of which comes to an end.
-/
/-
  PLAIN LAWS: nodes of trees, each by itself.
-/
/-
  PLAIN LAWS: signs.
-/
/-
  PLAIN LAWS: how many nodes a part has; what is wrong with a node whose kids are fine.
-/
/-
  PLAIN LAWS: what is wrong with a node, and with a tree.
-/
/-
  PLAIN LAWS: how deep a tree is; what is wrong with one.
-/
/-
  PLAIN LAWS: the program and the reference find the same wrong with a tree.
-/
import Derived.Test.YtbhpblokoecoaaaAbL0
import Derived.Test.YtbhpblokoecoaaaAbGen4
namespace Go.Ab
open Go Go.Proofs
@[simp] theorem go_brk {τ ρ β : Type} (f : τ → Option β) (g : ρ → Option β) (x : τ) : Br.go f g (.brk x) = f x := rfl
@[simp] theorem go_ret {τ ρ β : Type} (f : τ → Option β) (g : ρ → Option β) (x : ρ) : Br.go f g (.ret x) = g x := rfl
abbrev big : Nat := 9223372036854775807
def inb (a lo hi : Int) : Bool := decide (lo ≤ a) && decide (a ≤ hi)
theorem ifF (a b : Bool) : (if a then b else false) = (a && b) := by cases a <;> rfl
theorem ifT (a b : Bool) : (if a then true else b) = (a || b) := by cases a <;> rfl
@[simp] theorem rin1 (a b c : Int) : ref1_in a b c = some (inb a b c) := by simp only [ref1_in, inb, ifF]
@[simp] theorem cin (a b c : Int) : core_Within a b c = some (inb a b c) := by simp only [core_Within, inb, ifF]
@[simp] theorem cfault (a b : Int) : core_Fault a b = some ⟨a, b⟩ := rfl
@[simp] theorem rfault (a b : Int) : ref1_fault a b = some ⟨a, b⟩ := rfl
theorem maxLen_big : maxLen = 9223372036854775807 := rfl
theorem lt_dec {i : Nat} {n : Nat} (h : i < n) : decide ((i : Int) < (n : Int)) = true := by simp [h]
theorem lt_dec' {n : Nat} : decide ((n : Int) < (n : Int)) = false := by simp
theorem app_ok {α : Type} {a b : List α} (h : a.length + b.length ≤ 4294967296) : app a b = some (a ++ b) := if_pos h
theorem bifs (a b : Bool) : (if a = true then some true else some b) = some (a || b) := by cases a <;> rfl
theorem Loop_ind {σ τ : Type} {step : σ → Option (Lp σ τ)} (Inv : Nat → σ → Prop) (post : τ → Prop)
    (hs : ∀ n s, Inv n s → ∃ y, step s = some y ∧ (match y with | .next s' => ∃ m, m < n ∧ Inv m s' | .out x => post x)) : ∀ {n s}, Inv n s → ∃ x, Loop step s = some x ∧ post x := by
  intro n
  induction n using Nat.strongRecOn with
  | ind n ih =>
    intro s h
    obtain ⟨y, h1, h2⟩ := hs n s h
    rw [Loop_eq, h1]
    cases y with
    | next s' => obtain ⟨m, hm, h3⟩ := h2; exact ih m hm h3
    | out x => exact ⟨x, rfl, h2⟩
theorem Loop_down {σ τ S : Type} (pack : σ → Int → S) (f : Nat → σ → τ) {step : S → Option (Lp S τ)} (N : Nat) (Inv : Nat → σ → Prop)
    (hs : ∀ k s, k < N → Inv (k + 1) s → step (pack s (k : Int)) = some (.out (f (k + 1) s)) ∨ ∃ s', step (pack s (k : Int)) = some (.next (pack s' ((k : Int) - 1))) ∧ f (k + 1) s = f k s' ∧ Inv k s')
    (he : ∀ s, Inv 0 s → step (pack s (-1)) = some (.out (f 0 s))) : ∀ k s, k ≤ N → Inv k s → Loop step (pack s ((k : Int) - 1)) = some (f k s) := by
  intro k
  induction k with
  | zero => intro s _ hI; rw [Loop_eq]; simp only [Int.natCast_zero, Int.zero_sub]; rw [he s hI]; rfl
  | succ k ih =>
    intro s hk hI
    rw [Loop_eq, show ((k + 1 : Nat) : Int) - 1 = (k : Int) by omega]
    rcases hs k s (by omega) hI with h | ⟨s', h1, h2, h3⟩
    · rw [h]; rfl
    · rw [h1, h2]; exact ih s' (by omega) h3
def letB (c : Int) : Bool := inb c 97 122 || inb c 65 90 || c == 95
def digB (c : Int) : Bool := inb c 48 57
def chB (c : UInt8) : Bool := letB c.toNat || digB c.toNat
def nameOk (s : ByteArray) : Bool := inb s.size 1 12 && (match s.data.toList with | [] => false | c :: _ => !digB c.toNat) && s.data.toList.all chB
@[simp] theorem rletter (c : Int) : ref1_letter c = some (letB c) := by
  simp only [ref1_letter, letB, inb, ifF, ifT]
@[simp] theorem rdigit (c : Int) : ref1_digit c = some (digB c) := by
  simp only [ref1_digit, digB, inb, ifF]
theorem sidx_lt {s : ByteArray} {i : Nat} (h : i < s.data.toList.length) : sidx s (i : Int) = some s.data.toList[i] := by
  unfold sidx
  rw [if_pos (by omega)]
  simp only [Int.toNat_natCast]
  have h' : i < s.size := by simpa using h
  rw [getElem?_pos s i h']
  rfl
theorem size_len (s : ByteArray) : s.size = s.data.toList.length := by simp
theorem rname_loop (s : ByteArray) (h12 : s.size ≤ 12) : Loop (fun i => ref1_Name_L1 s i) 0 = some (brOf (if s.data.toList.all chB then none else some false)) := by
  rw [← findI_all chB false s.data.toList 0]
  refine Loop_find (l := s.data.toList) (fun _ x => if chB x then none else some false) (fun i h => ?_) ?_
  · have hlt : i < s.size := by rw [size_len]; exact h
    unfold ref1_Name_L1
    simp only [sidx_lt h, Option.bind_some, rletter, rdigit, w64_succ (i := i) (by omega)]
    rw [if_pos (by simp; omega)]
    unfold chB
    cases letB (s.data.toList[i].toNat) <;> cases digB (s.data.toList[i].toNat) <;> rfl
  · unfold ref1_Name_L1
    rw [if_neg (by simp)]
theorem rname_eq (s : ByteArray) : ref1_Name s = some (nameOk s) := by
  unfold ref1_Name nameOk
  simp only [rin1, Option.bind_some]
  by_cases hs : inb s.size 1 12 = true
  · have hb : 1 ≤ s.size ∧ s.size ≤ 12 := by
      simp only [inb, Bool.and_eq_true, decide_eq_true_eq] at hs; omega
    simp only [hs, rname_loop s hb.2]
    cases hc : s.data.toList with
    | nil => rw [size_len, hc] at hb; simp at hb
    | cons c l =>
      have h0 : sidx s 0 = some c := by
        have := sidx_lt (s := s) (i := 0) (by rw [hc]; simp)
        simpa [hc] using this
      simp only [h0, Option.bind_some, rdigit, Bool.not_true, Bool.false_eq_true, if_false]
      cases digB c.toNat <;> cases hall : (c :: l).all chB <;> simp_all [brOf]
  · simp [hs]
theorem cname_loop (s : ByteArray) (h12 : s.size ≤ 12) : Loop (fun i => core_Name_L1 s i) 0 = some (brOf (findI (fun i c => if letB c.toNat || (decide (0 < i) && digB c.toNat) then none else some false) 0 s.data.toList)) := by
  refine Loop_find (l := s.data.toList) _ (fun i h => ?_) ?_
  · have hlt : i < s.size := by rw [size_len]; exact h
    unfold core_Name_L1
    simp only [sidx_lt h, Option.bind_some, w64_succ (i := i) (by omega), ifF, ifT]
    rw [if_pos (by simp; omega)]
    have e : (decide (97 ≤ (s.data.toList[i].toNat : Int)) && decide ((s.data.toList[i].toNat : Int) ≤ 122) || decide (65 ≤ (s.data.toList[i].toNat : Int)) && decide ((s.data.toList[i].toNat : Int) ≤ 90) || (s.data.toList[i].toNat : Int) == 95 || decide (0 < (i : Int)) && decide (48 ≤ (s.data.toList[i].toNat : Int)) && decide ((s.data.toList[i].toNat : Int) ≤ 57)) = (letB s.data.toList[i].toNat || (decide (0 < i) && digB s.data.toList[i].toNat)) := by
      simp only [letB, digB, inb, Bool.and_assoc]
      congr 2
      simp
    rw [e]
    cases letB s.data.toList[i].toNat || (decide (0 < i) && digB s.data.toList[i].toNat) <;> rfl
  · unfold core_Name_L1
    rw [if_neg (by simp)]
theorem cname_eq (s : ByteArray) : core_Name s = some (nameOk s) := by
  unfold core_Name nameOk
  simp only [ifT]
  by_cases hs : inb s.size 1 12 = true
  · have hb : 1 ≤ s.size ∧ s.size ≤ 12 := by
      simp only [inb, Bool.and_eq_true, decide_eq_true_eq] at hs; omega
    have hc0 : (decide ((s.size : Int) < 1) || decide (12 < (s.size : Int))) = false := by simp; omega
    simp only [hs, hc0, cname_loop s hb.2]
    cases hc : s.data.toList with
    | nil => rw [size_len, hc] at hb; simp at hb
    | cons c l =>
      have key : ∀ (l : List UInt8) (i : Nat), 0 < i → findI (fun i (c : UInt8) => if letB c.toNat || (decide (0 < i) && digB c.toNat) then none else some false) i l = if l.all chB then none else some false := by
        intro l
        induction l with
        | nil => intro i _; rfl
        | cons x l ih =>
          intro i hi
          have e : (letB x.toNat || (decide (0 < i) && digB x.toNat)) = chB x := by simp [chB, hi]
          rw [findI, ih (i + 1) (by omega), List.all_cons, e]
          by_cases hx : chB x = true <;> simp [hx]
      have hld : letB c.toNat = true → digB c.toNat = false := by
        simp only [letB, digB, inb]; simp; omega
      have e0 : (letB c.toNat || (decide (0 < 0) && digB c.toNat)) = letB c.toNat := by simp
      rw [findI, key l 1 (by omega), e0, List.all_cons]
      by_cases h1 : letB c.toNat = true
      · by_cases hl : l.all chB = true <;> simp [h1, hld h1, hl, brOf, chB] <;> simpa using hl
      · have h1' : letB c.toNat = false := by simpa using h1
        cases h2 : digB c.toNat <;> simp [h1', h2, brOf, chB]
  · have : (decide ((s.size : Int) < 1) || decide (12 < (s.size : Int))) = true := by
      simp only [inb, Bool.and_eq_true, decide_eq_true_eq] at hs
      simp; omega
    simp [hs, this]
end Go.Ab
namespace Go.Ab
open Go Go.Proofs
def exprB (k : Int) : Bool := inb k 31 40
def stmtB (k : Int) : Bool := inb k 11 18 || inb k 21 24
def knownB (k : Int) : Bool := inb k 1 4 || inb k 11 24 || exprB k
def namedB (k : Int) : Bool := k == 2 || k == 3 || k == 4 || k == 12 || k == 32 || k == 33
@[simp] theorem rexpr (k : Int) : ref1_Expression k = some (exprB k) := by simp only [ref1_Expression, rin1, Option.bind_some, exprB]
@[simp] theorem aexpr (k : Int) : ast_Expression k = some (exprB k) := by simp only [ast_Expression, exprB, inb, ifF]
@[simp] theorem rstmt (k : Int) : ref1_Statement k = some (stmtB k) := by
  simp only [ref1_Statement, rin1, Option.bind_some, stmtB, bifs]
@[simp] theorem astmt (k : Int) : ast_Statement k = some (stmtB k) := by simp only [ast_Statement, stmtB, inb, ifF, ifT]
@[simp] theorem tknown (k : Int) : tree_known k = some (knownB k) := by
  simp only [tree_known, aexpr, Option.bind_some, ifF, ifT, bifs, knownB, inb]
@[simp] theorem rnamed (k : Int) : ref1_Named k = some (namedB k) := by simp only [ref1_Named, ifT, namedB]
@[simp] theorem tnamed (k : Int) : tree_named k = some (namedB k) := by simp only [tree_named, ifT, namedB]
def kidsS (k : Int) : Int × Int :=
  if k == 1 || k == 11 || k == 33 then (0, 1099511627776) else if k == 3 || k == 18 then (1, 1099511627776) else if k == 2 then (0, 200)
  else if k == 12 || k == 23 then (0, 1) else if k == 13 || k == 19 || k == 35 || k == 40 then (1, 1) else if k == 14 then (2, 3)
  else if k == 15 || k == 16 || k == 34 || k == 36 || k == 37 || k == 39 then (2, 2) else if k == 38 then (3, 3) else if k == 17 then (4, 4) else (0, 0)
theorem rkids_eq (k : Int) : ref1_kids k = some (kidsS k) := by
  unfold ref1_kids kidsS
  simp only [ifT]
  repeat' split
  all_goals rfl
theorem kindIn {P : Int → Prop} {k : Int} (h : ∀ n : _root_.Fin 41, P ((n : Nat) : Int)) (h2 : k < 0 ∨ 40 < k → P k) : P k := by
  by_cases hk : 0 ≤ k ∧ k ≤ 40
  · have := h ⟨k.toNat, by omega⟩
    simpa [Int.toNat_of_nonneg hk.1] using this
  · exact h2 (by omega)
theorem tshape_eq (k : Int) : tree_shape k = some ((kidsS k).1, if (kidsS k).2 = 1099511627776 then -1 else (kidsS k).2) := by
  refine kindIn (P := fun k => tree_shape k = some ((kidsS k).1, if (kidsS k).2 = 1099511627776 then -1 else (kidsS k).2)) (by decide +kernel) fun h => ?_
  have hn : ∀ c : Int, 0 ≤ c → c ≤ 40 → (k == c) = false := fun c h1 h2 => by simp; omega
  simp [tree_shape, tree_shape_J1, tree_shape_J2, tree_shape_J3, tree_shape_J4, tree_shape_J5, kidsS, hn]
theorem kidsS_hi (k : Int) : (kidsS k).2 = 1099511627776 ∨ (0 ≤ (kidsS k).2 ∧ (kidsS k).2 ≤ 200) := by
  unfold kidsS
  repeat' split
  all_goals simp
def cntB (k m : Int) : Bool := decide ((kidsS k).1 ≤ m) && ((kidsS k).2 == 1099511627776 || decide (m ≤ (kidsS k).2))
theorem cntB_in {k m : Int} (hm : m ≤ 1099511627776) : inb m (kidsS k).1 (kidsS k).2 = cntB k m := by
  unfold inb cntB
  rcases kidsS_hi k with h | h
  · rw [h]; simp; omega
  · have : ((kidsS k).2 == 1099511627776) = false := by simp; omega
    rw [this]; simp
theorem kids_same {k m : Int} : (if (decide (m < (kidsS k).1)) then true else (if (decide (0 ≤ (if (kidsS k).2 = 1099511627776 then -1 else (kidsS k).2))) then (decide ((if (kidsS k).2 = 1099511627776 then -1 else (kidsS k).2) < m)) else false)) = !cntB k m := by
  simp only [ifT, ifF, cntB]
  rcases kidsS_hi k with h | h
  · rw [h, Bool.eq_iff_iff]; simp
  · rw [if_neg (by omega)]
    have : ((kidsS k).2 == 1099511627776) = false := by simp; omega
    rw [this, Bool.eq_iff_iff]; simp; omega
def goesS (k i m c : Int) : Bool :=
  if k == 1 then c == 2 || c == 3
  else if k == 3 then (if i == w64 (m - 1) then c == 11 else c == 4)
  else if k == 11 then stmtB c
  else if k == 18 && decide (0 < i) then stmtB c || c == 19 || c == 20
  else if (((k == 14 || k == 15) && decide (0 < i)) || (k == 16 && i == 0)) || (k == 17 && i == 3) then c == 11
  else if k == 17 && i == 0 then c == 12 || c == 13 || c == 24
  else if k == 17 && i == 1 then exprB c || c == 24
  else if k == 17 && i == 2 then c == 13 || c == 24
  else exprB c
@[simp] theorem rgoes (k i m c : Int) : ref1_goes k i m c = some (goesS k i m c) := by
  unfold ref1_goes goesS
  simp only [rstmt, rexpr, Option.bind_some, ifT, ifF]
  repeat' split
  all_goals rfl
theorem tkid_eq (n : XApi_Node) (i c : Int) (hi : 0 ≤ i) (hl : i < n.Kids.length) (hs : cntB n.Kind n.Kids.length = true) : tree_kid n i c = some (goesS n.Kind i n.Kids.length c) := by
  unfold tree_kid tree_kid_J1 goesS
  simp only [astmt, aexpr, Option.bind_some, ifT, ifF]
  generalize n.Kids.length = m at *
  generalize n.Kind = k at *
  by_cases h1 : k = 1
  · subst h1; rfl
  by_cases h3 : k = 3
  · subst h3
    by_cases hx : i = w64 ((m : Int) - 1)
    · simp [← hx]
    · have hb : (i == w64 ((m : Int) - 1)) = false := beq_eq_false_iff_ne.2 hx
      simp [hb]
  by_cases h11 : k = 11
  · subst h11; rfl
  have b1 : (k == 1) = false := by simpa using h1
  have b3 : (k == 3) = false := by simpa using h3
  have b11 : (k == 11) = false := by simpa using h11
  simp only [b1, b3, b11, Bool.false_eq_true, if_false]
  by_cases h18 : k = 18
  · subst h18
    by_cases h0 : i = 0
    · subst h0; simp
      cases exprB c <;> rfl
    · have : 0 < i := by omega
      simp [h0, this]
  have b18 : (k == 18) = false := by simpa using h18
  simp only [b18, Bool.false_eq_true, if_false, Bool.false_and]
  by_cases h14 : k = 14
  · subst h14
    by_cases h0 : i = 0
    · subst h0; simp
    · have : 0 < i := by omega
      simp [h0, this]
  by_cases h15 : k = 15
  · subst h15
    by_cases h0 : i = 0
    · subst h0; simp
    · have : 0 < i := by omega
      simp [h0, this]
  have b14 : (k == 14) = false := by simpa using h14
  have b15 : (k == 15) = false := by simpa using h15
  simp only [b14, b15, Bool.false_eq_true, if_false, Bool.false_and, Bool.false_or]
  by_cases h16 : k = 16
  · subst h16
    have hm : (m : Int) = 2 := by
      have : kidsS 16 = (2, 2) := by decide +kernel
      simp [cntB, this] at hs; omega
    have : i = 0 ∨ i = 1 := by omega
    rcases this with rfl | rfl <;> simp
  by_cases h17 : k = 17
  · subst h17
    have hm : (m : Int) = 4 := by
      have : kidsS 17 = (4, 4) := by decide +kernel
      simp [cntB, this] at hs; omega
    have : i = 0 ∨ i = 1 ∨ i = 2 ∨ i = 3 := by omega
    rcases this with rfl | rfl | rfl | rfl <;> simp
  have b16 : (k == 16) = false := by simpa using h16
  have b17 : (k == 17) = false := by simpa using h17
  simp [b16, b17]
def numS (n : XApi_Node) : Bool :=
  if n.Kind == 2 && n.N == 3 then inb n.Size 1 200 && decide ((n.Kids.length : Int) ≤ n.Size)
  else if n.Size != 0 then false
  else if n.Kind == 2 then inb n.N 1 2 && decide ((n.Kids.length : Int) < 2)
  else if n.Kind == 3 then inb n.N 0 2
  else if n.Kind == 4 || n.Kind == 12 then inb n.N 1 2
  else if n.Kind == 31 then decide (0 ≤ n.N)
  else if n.Kind == 40 then inb n.N 0 1
  else n.N == 0
@[simp] theorem rnum (n : XApi_Node) : ref1_numbers n = some (numS n) := by
  unfold ref1_numbers numS
  simp only [rin1, Option.bind_some, ifT, ifF]
  repeat' split
  all_goals rfl
@[simp] theorem tnum (n : XApi_Node) : tree_numbers n = some (numS n) := by
  unfold tree_numbers tree_numbers_J1 numS
  simp only [cin, Option.bind_some, ifT, ifF]
  generalize n.Kids.length = m
  generalize n.Kind = k
  generalize n.N = x
  generalize n.Size = z
  by_cases h2 : k = 2
  · subst h2
    by_cases hx : x = 3
    · subst hx; simp
    · have : (x == 3) = false := by simpa using hx
      simp only [this, Bool.and_false, Bool.false_eq_true, if_false, beq_self_eq_true, if_true]
      by_cases hz : z = 0
      · subst hz
        simp only [beq_self_eq_true, bne, Bool.not_true, Bool.false_eq_true, if_false, Bool.and_true, inb]
        congr 1
        rw [Bool.eq_iff_iff]; simp; omega
      · have hz' : (z == 0) = false := by simpa using hz
        simp [hz', bne]
  have b2 : (k == 2) = false := by simpa using h2
  simp only [b2, Bool.false_eq_true, if_false, Bool.false_and]
  by_cases hz : z = 0
  · subst hz
    simp only [bne, beq_self_eq_true, Bool.not_true, Bool.and_true, Bool.false_eq_true, if_false]
    by_cases h4 : k = 4
    · subst h4; rfl
    have b4 : (k == 4) = false := by simpa using h4
    by_cases h12 : k = 12
    · subst h12; rfl
    have b12 : (k == 12) = false := by simpa using h12
    simp only [b4, b12, Bool.false_eq_true, if_false, Bool.or_self]
    repeat' split
    all_goals rfl
  · have hz' : (z == 0) = false := by simpa using hz
    simp only [hz', bne, Bool.not_false, if_true, Bool.and_false]
    repeat' split
    all_goals rfl
end Go.Ab
namespace Go.Ab
open Go Go.Proofs
def amongB (l : List ByteArray) (s : ByteArray) : Bool := l.any fun x => x.toList == s.toList
theorem findI_any {α ρ : Type} (p : α → Bool) (r : ρ) : ∀ (l : List α) (i : Nat), findI (fun _ x => if p x then some r else none) i l = if l.any p then some r else none
  | [], _ => rfl
  | x :: l, i => by
    simp only [findI, List.any_cons]
    by_cases hp : p x = true
    · simp [hp]
    · simpa [hp] using findI_any p r l (i + 1)
theorem ramong (l : List ByteArray) (s : ByteArray) (hl : l.length ≤ maxLen) : ref1_among l s = some (amongB l s) := by
  have hm := maxLen_big
  have : Loop (fun i => ref1_among_L1 l s i) 0 = some (brOf (if amongB l s then some true else none)) := by
    unfold amongB
    rw [← findI_any _ true l 0]
    refine Loop_find (l := l) (fun _ x => if x.toList == s.toList then some true else none) (fun i h => ?_) ?_
    · unfold ref1_among_L1
      simp only [lt_dec h, if_true, idx_lt h, Option.bind_some, w64_succ (i := i) (by omega)]
      cases l[i].toList == s.toList <;> rfl
    · unfold ref1_among_L1
      simp only [lt_dec']; rfl
  unfold ref1_among
  rw [this]
  cases amongB l s <;> rfl
theorem sindex (l : List ByteArray) (s : ByteArray) (hl : l.length ≤ maxLen) : ∃ n : Int, slices_Index_string_string l s = some n ∧ decide (0 ≤ n) = amongB l s := by
  have hm := maxLen_big
  have h : Loop (fun i => slices_Index_string_string_L1 l s i) 0 = some (brOf (findI (fun i (x : ByteArray) => if s.toList == x.toList then some (i : Int) else none) 0 l)) := by
    refine Loop_find (l := l) (fun i x => if s.toList == x.toList then some (i : Int) else none) (fun i h => ?_) ?_
    · unfold slices_Index_string_string_L1
      simp only [lt_dec h, if_true, idx_lt h, Option.bind_some, w64_succ (i := i) (by omega)]
      cases s.toList == l[i].toList <;> rfl
    · unfold slices_Index_string_string_L1
      simp only [lt_dec']; rfl
  have h2 : ∀ (l : List ByteArray) (i : Nat), match findI (fun i (x : ByteArray) => if s.toList == x.toList then some (i : Int) else none) i l with | some n => 0 ≤ n ∧ amongB l s = true | none => amongB l s = false := by
    intro l
    induction l with
    | nil => intro i; rfl
    | cons x l ih =>
      intro i
      simp only [findI]
      by_cases hx : (s.toList == x.toList) = true
      · have : s.toList = x.toList := by simpa using hx
        simp [this, amongB]
      · have hx' : (s.toList == x.toList) = false := by simpa using hx
        have hx2 : (x.toList == s.toList) = false := by rw [BEq.comm]; exact hx'
        simp only [hx', Bool.false_eq_true, if_false]
        have := ih (i + 1)
        simp only [amongB, List.any_cons, hx2, Bool.false_or]
        exact this
  unfold slices_Index_string_string
  rw [h]
  have := h2 l 0
  generalize findI (fun i (x : ByteArray) => if s.toList == x.toList then some (i : Int) else none) 0 l = o at this
  cases o with
  | some n => exact ⟨n, rfl, by rw [this.2]; simpa using this.1⟩
  | none => exact ⟨-1, rfl, by simp only at this; rw [this]; rfl⟩
theorem scontains (l : List ByteArray) (s : ByteArray) (hl : l.length ≤ maxLen) : slices_Contains_string_string l s = some (amongB l s) := by
  obtain ⟨n, h1, h2⟩ := sindex l s hl
  unfold slices_Contains_string_string
  rw [h1, Option.bind_some, h2]
abbrev twosL : List ByteArray := [(ByteArray.mk #[43]), (ByteArray.mk #[45]), (ByteArray.mk #[42]), (ByteArray.mk #[47]), (ByteArray.mk #[37]), (ByteArray.mk #[38]), (ByteArray.mk #[124]), (ByteArray.mk #[94]), (ByteArray.mk #[60, 60]), (ByteArray.mk #[62, 62])]
abbrev cmpsL : List ByteArray := [(ByteArray.mk #[61, 61]), (ByteArray.mk #[33, 61]), (ByteArray.mk #[60]), (ByteArray.mk #[60, 61]), (ByteArray.mk #[62]), (ByteArray.mk #[62, 61])]
abbrev onesL : List ByteArray := [(ByteArray.mk #[45]), (ByteArray.mk #[33]), (ByteArray.mk #[126]), (ByteArray.mk #[42]), (ByteArray.mk #[38])]
theorem twoOf_eq (s : ByteArray) : ∃ t, ast_TwoOf s = some (t, amongB twosL s || amongB cmpsL s) ∧ ((amongB twosL s || amongB cmpsL s) && decide (t.Op ≤ 11)) = amongB twosL s := by
  have hc : ∀ x : ByteArray, (x.toList == s.toList) = (s.toList == x.toList) := fun x => BEq.comm
  unfold ast_TwoOf amongB
  simp only [List.any_cons, List.any_nil, Bool.or_false, hc]
  generalize (s.toList == (ByteArray.mk #[43]).toList) = b1
  generalize (s.toList == (ByteArray.mk #[45]).toList) = b2
  generalize (s.toList == (ByteArray.mk #[42]).toList) = b3
  generalize (s.toList == (ByteArray.mk #[47]).toList) = b4
  generalize (s.toList == (ByteArray.mk #[37]).toList) = b5
  generalize (s.toList == (ByteArray.mk #[38]).toList) = b6
  generalize (s.toList == (ByteArray.mk #[124]).toList) = b7
  generalize (s.toList == (ByteArray.mk #[94]).toList) = b8
  generalize (s.toList == (ByteArray.mk #[60, 60]).toList) = b9
  generalize (s.toList == (ByteArray.mk #[62, 62]).toList) = b10
  generalize (s.toList == (ByteArray.mk #[61, 61]).toList) = b11
  generalize (s.toList == (ByteArray.mk #[33, 61]).toList) = b12
  generalize (s.toList == (ByteArray.mk #[60]).toList) = b13
  generalize (s.toList == (ByteArray.mk #[60, 61]).toList) = b14
  generalize (s.toList == (ByteArray.mk #[62]).toList) = b15
  generalize (s.toList == (ByteArray.mk #[62, 61]).toList) = b16
  cases b1; cases b2; cases b3; cases b4; cases b5; cases b6; cases b7; cases b8; cases b9; cases b10; cases b11; cases b12; cases b13; cases b14; cases b15; cases b16
  all_goals exact ⟨_, rfl, rfl⟩
theorem sslc_to {s : ByteArray} {n : Nat} (h : n ≤ s.size) : sslc s none (some (n : Int)) = some (s.extract 0 n) := by
  unfold sslc bounds
  simp [h]
theorem nil_among {s : ByteArray} (h : s.toList = []) : amongB twosL s = false ∧ amongB cmpsL s = false := by
  unfold amongB
  rw [h]
  exact ⟨by decide +kernel, by decide +kernel⟩
theorem extract0 (s : ByteArray) : (s.extract 0 0).toList = [] := by
  have : s.extract 0 0 = ByteArray.empty := by
    apply ByteArray.ext; simp
  rw [this]; decide +kernel
def signS (k : Int) (s : ByteArray) : Bool :=
  if k == 35 then amongB onesL s
  else if k == 36 then amongB twosL s || amongB cmpsL s
  else if k == 37 then (s.toList == (ByteArray.mk #[38, 38]).toList || s.toList == (ByteArray.mk #[124, 124]).toList)
  else if k == 39 then (s.toList == (ByteArray.mk #[61]).toList || (decide (1 < s.size) && (match s[s.size - 1]? with | some c => c.toNat == 61 | none => false) && amongB twosL (s.extract 0 (s.size - 1))))
  else if k == 40 then (s.toList == (ByteArray.mk #[43, 43]).toList || s.toList == (ByteArray.mk #[45, 45]).toList)
  else s.toList == (ByteArray.mk #[]).toList
theorem sidx_last {s : ByteArray} (h : 0 < s.size) (hl : s.size ≤ maxLen) : ∃ c, sidx s (w64 ((s.size : Int) - 1)) = some c ∧ s[s.size - 1]? = some c := by
  have hm := maxLen_big
  rw [w64_id (by omega) (by omega)]
  unfold sidx
  rw [if_pos (by omega), show ((s.size : Int) - 1).toNat = s.size - 1 by omega]
  rw [getElem?_pos s (s.size - 1) (by omega)]
  exact ⟨_, rfl, rfl⟩
theorem rtexts (k : Int) (s : ByteArray) (hl : s.size ≤ maxLen) : ref1_texts k s = some (signS k s) := by
  have hm := maxLen_big
  unfold ref1_texts signS
  rw [ramong onesL s (by decide), ramong twosL s (by decide), ramong cmpsL s (by decide)]
  simp only [Option.bind_some, bifs, ifT]
  split
  · rfl
  · split
    · rfl
    · split
      · rfl
      · split
        · by_cases h1 : (s.toList == (ByteArray.mk #[61]).toList) = true
          · simp only [h1, if_true, Bool.true_or, Option.bind_some]
          · have h1' : (s.toList == (ByteArray.mk #[61]).toList) = false := by simpa using h1
            simp only [h1', Bool.false_eq_true, if_false, Bool.false_or]
            by_cases h2 : 1 < s.size
            · obtain ⟨c, hc, hc2⟩ := sidx_last (s := s) (by omega) hl
              rw [if_pos (by simp only [decide_eq_true_eq]; omega), hc, hc2, Option.bind_some]
              by_cases h3 : c.toNat = 61
              · have h3' : ((c.toNat : Int) == 61) = true := by simpa using (by omega : (c.toNat : Int) = 61)
                have e : w64 ((s.size : Int) - 1) = ((s.size - 1 : Nat) : Int) := by rw [w64_id (by omega) (by omega)]; omega
                rw [if_pos h3', e, sslc_to (by omega), Option.bind_some, ramong twosL _ (by decide)]
                simp [h2, h3]
              · have h3' : ((c.toNat : Int) == 61) = false := by simpa using (by omega : ¬ (c.toNat : Int) = 61)
                simp [h3', h3]
            · have : ¬ (1 < (s.size : Int)) := by omega
              simp [h2, this]
        · split <;> rfl
theorem tsign (k : Int) (s : ByteArray) (hl : s.size ≤ maxLen) : tree_sign k s = some (signS k s) := by
  have hm := maxLen_big
  obtain ⟨t, ht, _⟩ := twoOf_eq s
  unfold tree_sign signS
  rw [ht, scontains onesL s (by decide)]
  simp only [Option.bind_some, ifT]
  split
  · rfl
  · split
    · rfl
    · split
      · rfl
      · split
        · by_cases h1 : (s.toList == (ByteArray.mk #[61]).toList) = true
          · simp only [h1, if_true, Bool.true_or, Option.bind_some]
          · have h1' : (s.toList == (ByteArray.mk #[61]).toList) = false := by simpa using h1
            simp only [h1', Bool.false_eq_true, if_false, Bool.false_or]
            have e : max 0 (w64 ((s.size : Int) - 1)) = ((s.size - 1 : Nat) : Int) := by rw [w64_id (by omega) (by omega)]; omega
            rw [e, sslc_to (by omega), Option.bind_some]
            obtain ⟨t2, ht2, ho2⟩ := twoOf_eq (s.extract 0 (s.size - 1))
            rw [ht2, Option.bind_some]
            by_cases h2 : 1 < s.size
            · obtain ⟨c, hc, hc2⟩ := sidx_last (s := s) (by omega) hl
              rw [hc, hc2, Option.bind_some]
              simp only
              have hT : ((c.toNat : Int) == 61) = (c.toNat == 61) := by rw [Bool.eq_iff_iff]; simp; omega
              rw [hT, decide_eq_true h2]
              generalize (c.toNat == 61) = T
              generalize amongB twosL (s.extract 0 (s.size - 1)) = A at *
              generalize amongB cmpsL (s.extract 0 (s.size - 1)) = B at *
              generalize decide (t2.Op ≤ 11) = D at *
              revert ho2
              cases A <;> cases B <;> cases D <;> cases T <;> decide
            · have h0 : s.size - 1 = 0 := by omega
              obtain ⟨n1, n2⟩ := nil_among (extract0 s)
              rw [h0]
              simp only [h2, n1, n2, decide_false, Bool.false_and, Bool.or_self, Bool.false_eq_true, if_false, Option.bind_some]
        · split <;> rfl
end Go.Ab
namespace Go.Ab
open Go Go.Proofs
theorem Loop_traj {S τ : Type} {step : S → Option (Lp S τ)} {s0 : S} (st : Nat → S) (n : Nat) (r : τ) (h0 : st 0 = s0) (hs : ∀ i, i < n → step (st i) = some (.next (st (i + 1)))) (he : step (st n) = some (.out r)) : Loop step s0 = some r := by
  subst h0
  have key : ∀ k i, n - i = k → i ≤ n → Loop step (st i) = some r := by
    intro k
    induction k with
    | zero => intro i hk hi; obtain rfl : i = n := by omega
              rw [Loop_eq, he]; rfl
    | succ k ih => intro i hk hi; rw [Loop_eq, hs i (by omega)]; exact ih (i + 1) (by omega) (by omega)
  exact key _ 0 rfl (by omega)
abbrev Ns := List XApi_Node
def nd (N : Ns) (k : Nat) : XApi_Node := N.getD k default
theorem nd_idx {N : Ns} {k : Nat} (h : k < N.length) : idx N (k : Int) = some (nd N k) := by
  rw [idx_lt h]; simp [nd, h]
def MF (N : Ns) : Nat → Nat → Nat
  | 0, _ => 0
  | f + 1, k => 1 + ((nd N k).Kids.map fun x => MF N f x.toNat).sum
def M (N : Ns) (k : Nat) : Nat := MF N (k + 1) k
def DF (N : Ns) : Nat → Nat → Nat
  | 0, _ => 0
  | f + 1, k => ((nd N k).Kids.map fun x => DF N f x.toNat).foldl max 0 + 1
def D (N : Ns) (k : Nat) : Nat := DF N (k + 1) k
def kidsC (N : Ns) (n : XApi_Node) : Nat → Nat → Option Nat
  | 0, a => some a
  | i + 1, a => if a = 0 ∨ n.Kids.getD i 0 ≠ (a : Int) - 1 ∨ goesS n.Kind i n.Kids.length (nd N (a - 1)).Kind = false then none else kidsC N n i (a - M N (a - 1))
def selfC (n : XApi_Node) : Int :=
  if namedB n.Kind && !nameOk n.Text then 12 else if !namedB n.Kind && !signS n.Kind n.Text then 1 else if !numS n || decide (n.At < 0) then 3 else 0
def nodeC (N : Ns) (k : Nat) : Int :=
  if !knownB (nd N k).Kind then 4
  else if !cntB (nd N k).Kind (nd N k).Kids.length then 9
  else match kidsC N (nd N k) (nd N k).Kids.length k with
    | none => 5
    | some _ => selfC (nd N k)
def GoodTo (N : Ns) (k : Nat) : Prop := ∀ j, j < k → nodeC N j = 0
theorem GoodTo.le {N : Ns} {j k : Nat} (h : GoodTo N k) (hj : j ≤ k) : GoodTo N j := fun i hi => h i (by omega)
theorem take_sum {g : Int → Nat} {l : List Int} {i : Nat} (h : i < l.length) : ((l.take (i + 1)).map g).sum = ((l.take i).map g).sum + g (l.getD i 0) := by
  rw [List.take_add_one, List.getElem?_eq_getElem h, List.map_append, List.sum_append]
  simp [h]
theorem len_le_sum {g : Int → Nat} : ∀ {l : List Int}, (∀ t, t < l.length → 1 ≤ g (l.getD t 0)) → l.length ≤ (l.map g).sum
  | [], _ => by simp
  | x :: l, h => by
    have h0 := h 0 (by simp)
    have := len_le_sum (l := l) fun t ht => by simpa using h (t + 1) (by simpa using ht)
    simp at h0 ⊢; omega
theorem take_sum_le {g : Int → Nat} {l : List Int} (i : Nat) : ((l.take i).map g).sum ≤ (l.map g).sum := by
  conv => rhs; rw [← List.take_append_drop i l]
  rw [List.map_append, List.sum_append]; omega
theorem kidsC_facts {N : Ns} {n : XApi_Node} : ∀ {i a b : Nat}, kidsC N n i a = some b → (∀ j, j < a → 1 ≤ M N j ∧ M N j ≤ j + 1) → i ≤ n.Kids.length →
    b ≤ a ∧ (∀ t, t < i → ∃ c : Nat, n.Kids.getD t 0 = (c : Int) ∧ b ≤ c ∧ c < a) ∧ ((n.Kids.take i).map fun x => M N x.toNat).sum + b = a
  | 0, a, b, h, _, _ => by
    simp only [kidsC, Option.some.injEq] at h; subst h
    exact ⟨Nat.le_refl _, fun t ht => by omega, by simp⟩
  | i + 1, a, b, h, hM, hi => by
    unfold kidsC at h
    split at h
    · cases h
    · rename_i hc
      have ha : a ≠ 0 := fun e => hc (.inl e)
      have hk : n.Kids.getD i 0 = (a : Int) - 1 := by
        by_cases hk : n.Kids.getD i 0 = (a : Int) - 1
        · exact hk
        · exact absurd (.inr (.inl hk)) hc
      obtain ⟨h1, h2⟩ := hM (a - 1) (by omega)
      obtain ⟨e1, e2, e3⟩ := kidsC_facts h (fun j hj => hM j (by omega)) (by omega)
      refine ⟨by omega, fun t ht => ?_, ?_⟩
      · by_cases htt : t = i
        · subst htt
          exact ⟨a - 1, by rw [hk]; omega, by omega, by omega⟩
        · obtain ⟨c, q1, q2, q3⟩ := e2 t (by omega)
          exact ⟨c, q1, q2, by omega⟩
      · rw [take_sum (by omega), hk, show ((a : Int) - 1).toNat = a - 1 by omega]
        omega
theorem nodeC_kids {N : Ns} {k : Nat} (h : nodeC N k = 0) : ∃ b, kidsC N (nd N k) (nd N k).Kids.length k = some b ∧ selfC (nd N k) = 0 ∧ knownB (nd N k).Kind = true ∧ cntB (nd N k).Kind (nd N k).Kids.length = true := by
  unfold nodeC at h
  split at h
  · cases h
  · split at h
    · cases h
    · rename_i h1 h2
      split at h
      · cases h
      · rename_i b hb
        exact ⟨b, hb, h, by simpa using h1, by simpa using h2⟩
theorem getD_map_sum (l : List Int) (g g' : Int → Nat) (h : ∀ t, t < l.length → g (l.getD t 0) = g' (l.getD t 0)) : l.map g = l.map g' := by
  refine List.map_congr_left fun x hx => ?_
  obtain ⟨t, ht, rfl⟩ := List.mem_iff_getElem.1 hx
  have := h t ht
  simpa [ht] using this
theorem good_facts {N : Ns} {k : Nat} (h : GoodTo N k) : ∀ j, j < k → (∀ f, j < f → MF N f j = M N j ∧ DF N f j = D N j) ∧ 1 ≤ M N j ∧ M N j ≤ j + 1 ∧ kidsC N (nd N j) (nd N j).Kids.length j = some (j + 1 - M N j) ∧
    M N j = 1 + ((nd N j).Kids.map fun x => M N x.toNat).sum ∧ D N j = ((nd N j).Kids.map fun x => D N x.toNat).foldl max 0 + 1 ∧
    ∀ t, t < (nd N j).Kids.length → ∃ c : Nat, (nd N j).Kids.getD t 0 = (c : Int) ∧ j + 1 - M N j ≤ c ∧ c < j := by
  intro j
  induction j using Nat.strongRecOn with
  | ind j ih =>
    intro hj
    obtain ⟨b, hb, _⟩ := nodeC_kids (h j hj)
    obtain ⟨e1, e2, e3⟩ := kidsC_facts hb (fun i hi => ⟨(ih i hi (by omega)).2.1, (ih i hi (by omega)).2.2.1⟩) (Nat.le_refl _)
    rw [List.take_length] at e3
    have hf : ∀ f, j < f → MF N f j = 1 + ((nd N j).Kids.map fun x => M N x.toNat).sum ∧ DF N f j = ((nd N j).Kids.map fun x => D N x.toNat).foldl max 0 + 1 := by
      intro f hf
      obtain ⟨f, rfl⟩ : ∃ g, f = g + 1 := ⟨f - 1, by omega⟩
      constructor
      · rw [MF, getD_map_sum _ _ (fun x => M N x.toNat)]
        intro t ht
        obtain ⟨c, q1, q2, q3⟩ := e2 t ht
        rw [q1, Int.toNat_natCast]
        exact ((ih c q3 (by omega)).1 f (by omega)).1
      · rw [DF, getD_map_sum _ _ (fun x => D N x.toNat)]
        intro t ht
        obtain ⟨c, q1, q2, q3⟩ := e2 t ht
        rw [q1, Int.toNat_natCast]
        exact ((ih c q3 (by omega)).1 f (by omega)).2
    have hM := (hf (j + 1) (by omega)).1
    have hD := (hf (j + 1) (by omega)).2
    have hMb : M N j + b = j + 1 := by unfold M; omega
    have e : j + 1 - M N j = b := by omega
    refine ⟨fun f h1 => ⟨(hf f h1).1.trans hM.symm, (hf f h1).2.trans hD.symm⟩, by omega, by omega, by rw [e]; exact hb, hM, hD, fun t ht => ?_⟩
    rw [e]; exact e2 t ht
theorem kids_len {N : Ns} {k : Nat} (h : GoodTo N k) {j : Nat} (hj : j < k) : (nd N j).Kids.length ≤ j := by
  obtain ⟨_, h1, h2, _, hM, _, hk⟩ := good_facts h j hj
  have := len_le_sum (g := fun x => M N x.toNat) (l := (nd N j).Kids) fun t ht => by
    obtain ⟨c, q1, q2, q3⟩ := hk t ht
    rw [q1, Int.toNat_natCast]
    exact (good_facts h c (by omega)).2.1
  omega
theorem many_eq {N : Ns} {k : Nat} (h : GoodTo N k) (hN : k ≤ N.length) (hb : N.length ≤ big) : ∀ j f, j < k → j < f → ref1_Many f ⟨N⟩ (j : Int) = some (M N j : Int) := by
  have hbg : N.length ≤ 9223372036854775807 := hb
  intro j
  induction j using Nat.strongRecOn with
  | ind j ih =>
    intro f hj hf
    obtain ⟨f, rfl⟩ : ∃ g, f = g + 1 := ⟨f - 1, by omega⟩
    obtain ⟨_, h1, h2, _, hM, _, hk⟩ := good_facts h j hj
    show ref1_Many_B (ref1_Many f) ⟨N⟩ (j : Int) = _
    unfold ref1_Many_B
    have hlen := kids_len h hj
    have hl := Loop_traj (step := fun s => ref1_Many_L1 (ref1_Many f) ⟨N⟩ (j : Int) s.1 s.2) (s0 := (1, 0)) (fun i => ((1 : Int) + ((((nd N j).Kids.take i).map fun x => M N x.toNat).sum : Nat), (i : Int))) (nd N j).Kids.length (M N j : Int) (by simp) (fun i hi => by
      obtain ⟨c, q1, q2, q3⟩ := hk i hi
      have hs := take_sum_le (g := fun x => M N x.toNat) (l := (nd N j).Kids) (i + 1)
      rw [take_sum hi, q1, Int.toNat_natCast] at hs
      have hg : (nd N j).Kids[i] = (c : Int) := by rw [← q1]; simp [hi]
      unfold ref1_Many_L1
      simp only [nd_idx (show j < N.length by omega), Option.bind_some, lt_dec hi, if_true, idx_lt hi, hg, ih c q3 f (by omega) (by omega)]
      rw [take_sum hi, q1, Int.toNat_natCast, w64_id (by omega) (by omega), w64_succ (by omega)]
      congr 3
      omega) (by
      unfold ref1_Many_L1
      simp only [nd_idx (show j < N.length by omega), Option.bind_some, lt_dec', List.take_length, Bool.false_eq_true, if_false]
      congr 2
      omega)
    rw [hl]; rfl
theorem foldl_take {g : Int → Nat} {l : List Int} {i : Nat} (h : i < l.length) : ((l.take (i + 1)).map g).foldl max 0 = max (((l.take i).map g).foldl max 0) (g (l.getD i 0)) := by
  rw [List.take_add_one, List.getElem?_eq_getElem h, List.map_append, List.foldl_append]
  simp [h]
theorem D_le {N : Ns} {k : Nat} (h : GoodTo N k) : ∀ j, j < k → 1 ≤ D N j ∧ D N j ≤ j + 1 := by
  intro j
  induction j using Nat.strongRecOn with
  | ind j ih =>
    intro hj
    obtain ⟨_, h1, h2, _, _, hD, hk⟩ := good_facts h j hj
    have : ∀ i, i ≤ (nd N j).Kids.length → (((nd N j).Kids.take i).map fun x => D N x.toNat).foldl max 0 ≤ j := by
      intro i
      induction i with
      | zero => intro _; simp
      | succ i ih2 =>
        intro hi
        obtain ⟨c, q1, q2, q3⟩ := hk i (by omega)
        rw [foldl_take (by omega), q1, Int.toNat_natCast]
        have := ih2 (by omega)
        have := (ih c q3 (by omega)).2
        omega
    have := this _ (Nat.le_refl _)
    rw [List.take_length] at this
    omega
theorem deep_eq {N : Ns} {k : Nat} (h : GoodTo N k) (hN : k ≤ N.length) (hb : N.length ≤ big) : ∀ j f, j < k → j < f → ref1_Deep f ⟨N⟩ (j : Int) = some (D N j : Int) := by
  have hbg : N.length ≤ 9223372036854775807 := hb
  intro j
  induction j using Nat.strongRecOn with
  | ind j ih =>
    intro f hj hf
    obtain ⟨f, rfl⟩ : ∃ g, f = g + 1 := ⟨f - 1, by omega⟩
    obtain ⟨_, h1, h2, _, _, hD, hk⟩ := good_facts h j hj
    show ref1_Deep_B (ref1_Deep f) ⟨N⟩ (j : Int) = _
    unfold ref1_Deep_B
    have hlen := kids_len h hj
    have hl := Loop_traj (step := fun s => ref1_Deep_L1 (ref1_Deep f) ⟨N⟩ (j : Int) s.1 s.2) (s0 := (0, 0)) (fun i => (((((nd N j).Kids.take i).map fun x => D N x.toNat).foldl max 0 : Nat), (i : Int))) (nd N j).Kids.length (((nd N j).Kids.map fun x => D N x.toNat).foldl max 0 : Nat) (by simp) (fun i hi => by
      obtain ⟨c, q1, q2, q3⟩ := hk i hi
      have hg : (nd N j).Kids[i] = (c : Int) := by rw [← q1]; simp [hi]
      unfold ref1_Deep_L1 ref1_Deep_J1
      simp only [nd_idx (show j < N.length by omega), Option.bind_some, lt_dec hi, if_true, idx_lt hi, hg, ih c q3 f (by omega) (by omega)]
      rw [foldl_take hi, q1, Int.toNat_natCast, w64_succ (by omega)]
      generalize (((nd N j).Kids.take i).map fun x => D N x.toNat).foldl max 0 = a
      generalize D N c = b
      by_cases hab : a < b
      · rw [if_pos (by simpa using hab), show max a b = b by omega]
      · rw [if_neg (by simpa using hab), show max a b = a by omega]) (by
      unfold ref1_Deep_L1
      simp only [nd_idx (show j < N.length by omega), Option.bind_some, lt_dec', List.take_length, Bool.false_eq_true, if_false])
    rw [hl, Option.bind_some, hD]
    have := (D_le h j hj).2
    rw [w64_succ (by omega)]
def brC : Option Nat → Br Unit Int
  | none => .ret 5
  | some _ => .brk ()
theorem wrong_loop {N : Ns} {k f : Nat} (h : GoodTo N k) (hk : k < N.length) (hf : k ≤ f) (hb : N.length ≤ big) (n : XApi_Node) (hl : n.Kids.length ≤ big) :
    ∀ i a, i ≤ n.Kids.length → a ≤ k → Loop (fun s => ref1_wrong_L1 f ⟨N⟩ n s.1 s.2) ((a : Int), (i : Int) - 1) = some (brC (kidsC N n i a)) := by
  have hbg : N.length ≤ 9223372036854775807 := hb
  have hlg : n.Kids.length ≤ 9223372036854775807 := hl
  refine Loop_down (pack := fun (a : Nat) (i : Int) => ((a : Int), i)) (fun i a => brC (kidsC N n i a)) n.Kids.length (fun _ a => a ≤ k) (fun i a hi ha => ?_) (fun a ha => ?_)
  · unfold ref1_wrong_L1
    rw [if_pos (by simp)]
    simp only [kidsC]
    by_cases ha0 : a = 0
    · subst ha0
      exact .inl (by simp [brC])
    · have hx : ((a : Int) == 0) = false := by simpa using ha0
      have hw : w64 ((a : Int) - 1) = ((a - 1 : Nat) : Int) := by rw [w64_id (by omega) (by omega)]; omega
      have hw2 : w64 ((i : Int) - 1) = (i : Int) - 1 := w64_id (by omega) (by omega)
      have hgd : n.Kids.getD i 0 = n.Kids[i] := by simp [hi]
      simp only [hx, Bool.false_eq_true, if_false, idx_lt hi, Option.bind_some, hw, nd_idx (show a - 1 < N.length by omega), rgoes, hgd]
      by_cases hq : n.Kids[i] = (a : Int) - 1
      · have hq' : (n.Kids[i] != ((a - 1 : Nat) : Int)) = false := by simp; omega
        rw [hq', hq]
        simp only [Bool.false_eq_true, if_false, Option.bind_some, ha0, false_or, ne_eq, not_true_eq_false]
        cases hg : goesS n.Kind i n.Kids.length (nd N (a - 1)).Kind
        · exact .inl (by simp [brC])
        · obtain ⟨_, h1, h2, _⟩ := good_facts h (a - 1) (by omega)
          refine .inr ⟨a - M N (a - 1), ?_, by simp, by omega⟩
          simp only [Bool.not_true, Bool.false_eq_true, if_false, many_eq h (by omega) hb (a - 1) f (by omega) (by omega), Option.bind_some, hw2]
          rw [w64_id (by omega) (by omega)]
          congr 3
          omega
      · have hq' : (n.Kids[i] != ((a - 1 : Nat) : Int)) = true := by simp; omega
        rw [hq']
        exact .inl (by simp [brC, hq, ha0])
  · unfold ref1_wrong_L1
    rw [if_neg (by simp)]; rfl
end Go.Ab
namespace Go.Ab
open Go Go.Proofs
def TrOk (N : Ns) : Prop := N.length ≤ big ∧ ∀ n ∈ N, n.Kids.length ≤ big ∧ n.Text.size ≤ maxLen
def TrKids (N : Ns) : Prop := ∀ n ∈ N, (n.Kids.length : Int) ≤ 1099511627776
theorem nd_mem {N : Ns} {k : Nat} (h : k < N.length) : nd N k ∈ N := by
  have : nd N k = N[k] := by simp [nd, h]
  rw [this]; exact List.getElem_mem _
theorem inb_known (n : XApi_Node) : (if (!inb n.Kind 1 4) = true then (if (!inb n.Kind 11 24) = true then some (!exprB n.Kind) else some false) else some false : Option Bool) = some (!knownB n.Kind) := by
  unfold knownB
  cases inb n.Kind 1 4 <;> cases inb n.Kind 11 24 <;> cases exprB n.Kind <;> rfl
theorem ifsome {α : Type} {a : Bool} {x y : α} : (if a = true then some x else some y) = some (if a = true then x else y) := by cases a <;> rfl
theorem wrong_eq {N : Ns} {k f : Nat} (h : GoodTo N k) (hk : k < N.length) (hf : k ≤ f) (hN : TrOk N) (hK : TrKids N) : ref1_wrong f ⟨N⟩ (k : Int) = some (nodeC N k) := by
  obtain ⟨hl, ht⟩ := hN.2 _ (nd_mem hk)
  have hlg : (nd N k).Kids.length ≤ 9223372036854775807 := hl
  have hml := maxLen_big
  unfold ref1_wrong nodeC
  simp only [nd_idx hk, Option.bind_some, rin1, rexpr, rkids_eq, cntB_in (hK _ (nd_mem hk))]
  simp only [rnamed, rname_eq, rtexts _ _ ht, rnum, inb_known, Option.bind_some]
  by_cases hkn : knownB (nd N k).Kind = true
  · simp only [hkn, Bool.not_true, Bool.false_eq_true, if_false]
    by_cases hin : cntB (nd N k).Kind (nd N k).Kids.length = true
    · simp only [hin, Bool.not_true, Bool.false_eq_true, if_false]
      rw [w64_id (by omega) (by omega), wrong_loop h hk hf hN.1 (nd N k) hl _ _ (Nat.le_refl _) (Nat.le_refl _), Option.bind_some]
      cases kidsC N (nd N k) (nd N k).Kids.length k with
      | none => rfl
      | some b =>
        simp only [brC, go_brk, selfC, ifT, ifF, ifsome, Option.bind_some]
    · simp [hin]
  · simp [hkn]
def FirstTo (N : Ns) (F : List Int) (k : Nat) : Prop := F.length = N.length ∧ ∀ j, j < k → F[j]? = some ((j + 1 - M N j : Nat) : Int)
def brN (N : Ns) (F : List Int) : Option Nat → Br Int (Int × XTree_checker)
  | none => .ret (5, ⟨⟨N⟩, F⟩)
  | some b => .brk (b : Int)
theorem node_loop {N : Ns} {k : Nat} {F : List Int} (h : GoodTo N k) (hF : FirstTo N F k) (hk : k < N.length) (hb : N.length ≤ big) (n : XApi_Node) (hl : n.Kids.length ≤ big) (hs : cntB n.Kind n.Kids.length = true) :
    ∀ i a, i ≤ n.Kids.length → a ≤ k → Loop (fun s => tree_checker_node_L1 ⟨⟨N⟩, F⟩ n s.1 s.2) ((a : Int), (i : Int) - 1) = some (brN N F (kidsC N n i a)) := by
  have hbg : N.length ≤ 9223372036854775807 := hb
  have hlg : n.Kids.length ≤ 9223372036854775807 := hl
  refine Loop_down (pack := fun (a : Nat) (i : Int) => ((a : Int), i)) (fun i a => brN N F (kidsC N n i a)) n.Kids.length (fun _ a => a ≤ k) (fun i a hi ha => ?_) (fun a ha => ?_)
  · unfold tree_checker_node_L1
    rw [if_pos (by simp)]
    simp only [kidsC]
    by_cases ha0 : a = 0
    · subst ha0
      exact .inl (by simp [brN])
    · have hx : ((a : Int) == 0) = false := by simpa using ha0
      have hw : w64 ((a : Int) - 1) = ((a - 1 : Nat) : Int) := by rw [w64_id (by omega) (by omega)]; omega
      have hw2 : w64 ((i : Int) - 1) = (i : Int) - 1 := w64_id (by omega) (by omega)
      have hgd : n.Kids.getD i 0 = n.Kids[i] := by simp [hi]
      simp only [hx, Bool.false_eq_true, if_false, idx_lt hi, Option.bind_some, hw, hgd]
      by_cases hq : n.Kids[i] = (a : Int) - 1
      · have hq2 : n.Kids[i] = ((a - 1 : Nat) : Int) := by omega
        have hq' : (n.Kids[i] != ((a - 1 : Nat) : Int)) = false := by simp; omega
        have hfst : idx F ((a - 1 : Nat) : Int) = some ((a - 1 + 1 - M N (a - 1) : Nat) : Int) := by
          unfold idx
          rw [if_pos (by omega), Int.toNat_natCast]; exact hF.2 (a - 1) (by omega)
        rw [hq']
        simp only [Bool.false_eq_true, if_false, hfst, Option.bind_some, hq2, nd_idx (show a - 1 < N.length by omega), tkid_eq n (i : Int) _ (by omega) (by omega) hs, ha0, false_or]
        have hq3 : ¬ (((a - 1 : Nat) : Int) ≠ (a : Int) - 1) := by omega
        simp only [hq3, false_or]
        cases hg : goesS n.Kind i n.Kids.length (nd N (a - 1)).Kind
        · exact .inl (by simp [brN])
        · obtain ⟨_, h1, h2, _⟩ := good_facts h (a - 1) (by omega)
          refine .inr ⟨a - M N (a - 1), ?_, by simp, by omega⟩
          simp only [Bool.not_true, Bool.false_eq_true, if_false, hw2]
          congr 3
          omega
      · have hq' : (n.Kids[i] != ((a - 1 : Nat) : Int)) = true := by simp; omega
        rw [hq']
        exact .inl (by simp [brN, hq, ha0])
  · unfold tree_checker_node_L1
    rw [if_neg (by simp)]; rfl
theorem node_eq {N : Ns} {k : Nat} {F : List Int} (h : GoodTo N k) (hF : FirstTo N F k) (hk : k < N.length) (hN : TrOk N) :
    ∃ F', tree_checker_node ⟨⟨N⟩, F⟩ (k : Int) = some (nodeC N k, ⟨⟨N⟩, F'⟩) ∧ F'.length = N.length ∧ (nodeC N k = 0 → F' = F.set k ((k + 1 - M N k : Nat) : Int)) := by
  obtain ⟨hl, ht⟩ := hN.2 _ (nd_mem hk)
  have hlg : (nd N k).Kids.length ≤ 9223372036854775807 := hl
  have hml := maxLen_big
  have hb := hN.1
  have hbg : N.length ≤ 9223372036854775807 := hb
  unfold tree_checker_node nodeC
  simp only [nd_idx hk, Option.bind_some, tknown, tshape_eq, kids_same]
  by_cases hkn : knownB (nd N k).Kind = true
  · simp only [hkn, Bool.not_true, Bool.false_eq_true, if_false]
    by_cases hin : cntB (nd N k).Kind (nd N k).Kids.length = true
    · simp only [hin, Bool.not_true, Bool.false_eq_true, if_false]
      rw [w64_id (by omega) (by omega), node_loop h hF hk hN.1 (nd N k) hl hin _ _ (Nat.le_refl _) (Nat.le_refl _), Option.bind_some]
      cases hkc : kidsC N (nd N k) (nd N k).Kids.length k with
      | none => exact ⟨F, by simp [brN], hF.1, fun h0 => by simp at h0⟩
      | some b =>
        have hfi : idx F (k : Int) = some (F[k]'(by rw [hF.1]; exact hk)) := idx_lt _
        simp only [brN, go_brk, hfi, Option.bind_some, tnamed, cname_eq, tsign _ _ ht, tnum, ifT, ifF, ifsome, Int.toNat_natCast]
        refine ⟨F.set k (b : Int), ?_, by rw [List.length_set]; exact hF.1, fun h0 => ?_⟩
        · unfold selfC
          cases (namedB (nd N k).Kind && !nameOk (nd N k).Text) <;> cases (!namedB (nd N k).Kind && !signS (nd N k).Kind (nd N k).Text) <;> cases (!numS (nd N k) || decide ((nd N k).At < 0)) <;> rfl
        · have hg : nodeC N k = 0 := by
            unfold nodeC
            simp only [hkn, hin, hkc, Bool.not_true, Bool.false_eq_true, if_false]; exact h0
          have hG : GoodTo N (k + 1) := fun j hj => by
            by_cases e : j = k
            · rw [e]; exact hg
            · exact h j (by omega)
          obtain ⟨_, _, _, e, _⟩ := good_facts hG k (by omega)
          rw [hkc] at e
          rw [Option.some.inj e]
    · exact ⟨F, by simp [hin], hF.1, fun h0 => by simp [hin] at h0⟩
  · exact ⟨F, by simp [hkn], hF.1, fun h0 => by simp [hkn] at h0⟩
end Go.Ab
namespace Go.Ab
open Go Go.Proofs
def dlx (N : Ns) (i : Nat) (v : Int) : List Int := (List.range N.length).map fun j => if j < i then (D N j : Int) else if j = i then v else 0
theorem dlx_len (N : Ns) (i : Nat) (v : Int) : (dlx N i v).length = N.length := by simp [dlx]
theorem dlx_get {N : Ns} {i j : Nat} {v : Int} (h : j < N.length) : idx (dlx N i v) (j : Int) = some (if j < i then (D N j : Int) else if j = i then v else 0) := by
  rw [idx_lt (by rw [dlx_len]; exact h)]
  simp [dlx]
theorem dlx_set {N : Ns} {i : Nat} {v w : Int} : (dlx N i v).set i w = dlx N i w := by
  apply List.ext_getElem?
  intro j
  rw [List.getElem?_set]
  by_cases hj : j < N.length
  · simp only [dlx, List.getElem?_map, List.getElem?_range hj, Option.map_some, List.length_map, List.length_range]
    by_cases e : i = j
    · subst e; simp [hj]
    · have : j ≠ i := fun h => e h.symm
      simp [e, this]
  · have h1 : (dlx N i w)[j]? = none := List.getElem?_eq_none (by rw [dlx_len]; omega)
    have h2 : (dlx N i v)[j]? = none := List.getElem?_eq_none (by rw [dlx_len]; omega)
    rw [h1, h2, dlx_len]
    split
    · rw [if_neg (by omega)]
    · rfl
theorem dlx_next {N : Ns} {i : Nat} : dlx N i (D N i : Int) = dlx N (i + 1) 0 := by
  refine List.map_congr_left fun j _ => ?_
  by_cases h1 : j < i
  · rw [if_pos h1, if_pos (by omega)]
  · by_cases h2 : j = i
    · subst h2; simp
    · rw [if_neg h1, if_neg h2, if_neg (by omega)]; simp
theorem dlx_0 {N : Ns} : List.replicate N.length (0 : Int) = dlx N 0 0 := by
  apply List.ext_getElem?
  intro j
  by_cases hj : j < N.length
  · simp [dlx, hj]
  · simp [dlx, hj]
def mostD (N : Ns) : Nat → Nat
  | 0 => 0
  | i + 1 => max (mostD N i) (D N i)
theorem deepL_eq {N : Ns} (h : GoodTo N N.length) (h6 : N.length ≤ 600) : ast_Deep ⟨N⟩ = some (mostD N N.length : Int) := by
  unfold ast_Deep
  have hm : mks (N.length : Int) (0 : Int) = some (dlx N 0 0) := by
    unfold mks
    rw [if_pos (by omega), Int.toNat_natCast, dlx_0]
  rw [hm, Option.bind_some]
  have inner : ∀ i, i < N.length → Loop (fun s => ast_Deep_L2 (i : Int) (nd N i) s.1 s.2) (dlx N i 0, 0) = some (dlx N i (((nd N i).Kids.map fun x => D N x.toNat).foldl max 0 : Nat)) := by
    intro i hi
    obtain ⟨_, h1, h2, _, _, hD, hk⟩ := good_facts h i hi
    have hlen := kids_len h hi
    refine Loop_traj (step := fun s => ast_Deep_L2 (i : Int) (nd N i) s.1 s.2) (fun t => (dlx N i (((nd N i).Kids.take t |>.map fun x => D N x.toNat).foldl max 0 : Nat), (t : Int))) (nd N i).Kids.length _ (by simp) (fun t ht => ?_) ?_
    · obtain ⟨c, q1, q2, q3⟩ := hk t ht
      have hg : (nd N i).Kids[t] = (c : Int) := by rw [← q1]; simp [ht]
      unfold ast_Deep_L2
      simp only [lt_dec ht, if_true, idx_lt ht, Option.bind_some, hg, dlx_get hi, dlx_get (show c < N.length by omega), q3, Nat.lt_irrefl, if_false, Int.toNat_natCast, dlx_set]
      rw [foldl_take ht, q1, Int.toNat_natCast, w64_succ (by omega)]
      congr 4
      omega
    · unfold ast_Deep_L2
      simp only [lt_dec', Bool.false_eq_true, if_false, List.take_length]
  rw [Loop_traj (step := fun s => ast_Deep_L1 ⟨N⟩ s.1 s.2.1 s.2.2) (s0 := (dlx N 0 0, 0, 0)) (fun i => (dlx N i 0, (mostD N i : Int), (i : Int))) N.length (mostD N N.length : Int) (by simp [mostD]) (fun i hi => ?_) ?_]
  · rfl
  · unfold ast_Deep_L1
    simp only [lt_dec', Bool.false_eq_true, if_false]
  · obtain ⟨_, h1, h2, _, _, hD, hk⟩ := good_facts h i hi
    have hd := (D_le h i hi).2
    unfold ast_Deep_L1
    have e : w64 ((((nd N i).Kids.map fun x => D N x.toNat).foldl max 0 : Nat) + 1) = (D N i : Int) := by rw [w64_succ (by omega), hD]
    simp only [lt_dec hi, if_true, nd_idx hi, Option.bind_some, inner i hi, dlx_get hi, Nat.lt_irrefl, if_false, Int.toNat_natCast, dlx_set, e]
    rw [w64_succ (by omega), dlx_next, mostD]
    congr 4
    omega
theorem kidsC_cover {N : Ns} {n : XApi_Node} : ∀ {i a b : Nat}, kidsC N n i a = some b → ∀ j, b ≤ j → j < a → ∃ t c : Nat, t < i ∧ n.Kids.getD t 0 = (c : Int) ∧ c + 1 - M N c ≤ j ∧ j ≤ c
  | 0, a, b, h, j, h1, h2 => by simp only [kidsC, Option.some.injEq] at h; omega
  | i + 1, a, b, h, j, h1, h2 => by
    unfold kidsC at h
    split at h
    · cases h
    · rename_i hc
      have hk : n.Kids.getD i 0 = (a : Int) - 1 := by
        by_cases hk : n.Kids.getD i 0 = (a : Int) - 1
        · exact hk
        · exact absurd (.inr (.inl hk)) hc
      by_cases hj : a - M N (a - 1) ≤ j
      · exact ⟨i, a - 1, by omega, by rw [hk]; omega, by omega, by omega⟩
      · obtain ⟨t, c, e1, e2, e3, e4⟩ := kidsC_cover h j h1 (by omega)
        exact ⟨t, c, by omega, e2, e3, e4⟩
theorem foldl_max_mem {g : Int → Nat} : ∀ {l : List Int} {s t : Nat}, t < l.length → g (l.getD t 0) ≤ (l.map g).foldl max s := by
  have mono : ∀ (l : List Nat) (s : Nat), s ≤ l.foldl max s := by
    intro l
    induction l with
    | nil => intro s; simp
    | cons x l ih => intro s; simp only [List.foldl_cons]; exact Nat.le_trans (Nat.le_max_left ..) (ih _)
  intro l
  induction l with
  | nil => intro s t h; simp at h
  | cons x l ih =>
    intro s t h
    cases t with
    | zero => simp only [List.getD_cons_zero, List.map_cons, List.foldl_cons]; exact Nat.le_trans (Nat.le_max_right ..) (mono _ _)
    | succ t => simp only [List.getD_cons_succ, List.map_cons, List.foldl_cons]; exact ih (by simpa using h)
theorem D_part {N : Ns} {k : Nat} (h : GoodTo N k) : ∀ j, j < k → ∀ i, j + 1 - M N j ≤ i → i ≤ j → D N i ≤ D N j := by
  intro j
  induction j using Nat.strongRecOn with
  | ind j ih =>
    intro hj i h1 h2
    by_cases e : i = j
    · rw [e]; exact Nat.le_refl _
    · obtain ⟨_, _, _, hkc, _, hD, hk⟩ := good_facts h j hj
      obtain ⟨t, c, e1, e2, e3, e4⟩ := kidsC_cover hkc i h1 (by omega)
      obtain ⟨c', q1, q2, q3⟩ := hk t e1
      obtain rfl : c = c' := by rw [e2] at q1; exact_mod_cast q1
      have := ih c q3 (by omega) i e3 e4
      have hm := foldl_max_mem (g := fun x => D N x.toNat) (s := 0) e1
      rw [e2, Int.toNat_natCast] at hm
      omega
theorem mostD_eq {N : Ns} (h : GoodTo N N.length) (h1 : 1 ≤ N.length) (hM : M N (N.length - 1) = N.length) : mostD N N.length = D N (N.length - 1) := by
  have : ∀ i, i ≤ N.length → mostD N i ≤ D N (N.length - 1) := by
    intro i
    induction i with
    | zero => intro _; simp [mostD]
    | succ i ih =>
      intro hi
      have h1 := ih (by omega)
      have h2 := D_part h (N.length - 1) (by omega) i (by omega) (by omega)
      rw [mostD]; omega
  have h2 := this N.length (Nat.le_refl _)
  have h3 : D N (N.length - 1) ≤ mostD N N.length := by
    rw [show N.length = N.length - 1 + 1 by omega, mostD]
    simp only [Nat.add_sub_cancel]; omega
  omega
def Whole (N : Ns) : Prop := 1 ≤ N.length ∧ N.length ≤ 600 ∧ GoodTo N N.length ∧ M N (N.length - 1) = N.length ∧ D N (N.length - 1) ≤ 40
theorem first_bad (N : Ns) : ∀ n, GoodTo N n ∨ ∃ k, k < n ∧ GoodTo N k ∧ nodeC N k ≠ 0
  | 0 => .inl fun j hj => by omega
  | n + 1 => by
    rcases first_bad N n with h | ⟨k, h1, h2, h3⟩
    · by_cases e : nodeC N n = 0
      · exact .inl fun j hj => by
          by_cases ej : j = n
          · rw [ej]; exact e
          · exact h j (by omega)
      · exact .inr ⟨n, by omega, h, e⟩
    · exact .inr ⟨k, by omega, h2, h3⟩
end Go.Ab
namespace Go.Ab
open Go Go.Proofs
def fl (N : Ns) (i : Nat) : List Int := (List.range N.length).map fun j => if j < i then ((j + 1 - M N j : Nat) : Int) else 0
theorem fl_first (N : Ns) (i : Nat) : i ≤ N.length → FirstTo N (fl N i) i := fun hi => by
  refine ⟨by simp [fl], fun j hj => ?_⟩
  have : j < N.length := by omega
  simp [fl, this, hj]
theorem fl_set {N : Ns} {i : Nat} : (fl N i).set i ((i + 1 - M N i : Nat) : Int) = fl N (i + 1) := by
  apply List.ext_getElem?
  intro j
  rw [List.getElem?_set]
  by_cases hj : j < N.length
  · simp only [fl, List.getElem?_map, List.getElem?_range hj, Option.map_some, List.length_map, List.length_range]
    by_cases e : i = j
    · subst e; simp [hj]
    · have h2 : (j < i + 1) = (j < i) := by rw [eq_iff_iff]; omega
      simp [e, h2]
  · have hl : ∀ i, (fl N i).length = N.length := fun i => by simp [fl]
    have h1 : ∀ i, (fl N i)[j]? = none := fun i => List.getElem?_eq_none (by rw [hl]; omega)
    rw [h1, h1, hl]
    split
    · rw [if_neg (by omega)]
    · rfl
theorem fl_0 {N : Ns} : List.replicate N.length (0 : Int) = fl N 0 := by
  apply List.ext_getElem?
  intro j
  by_cases hj : j < N.length
  · simp [fl, hj]
  · simp [fl, hj]
theorem check_step {N : Ns} {i : Nat} (h : GoodTo N i) (hi : i < N.length) (hN : TrOk N) :
    tree_Check_L1 ⟨N⟩ ⟨⟨N⟩, fl N i⟩ (i : Int) = if nodeC N i = 0 then some (.next (⟨⟨N⟩, fl N (i + 1)⟩, ((i + 1 : Nat) : Int))) else some (.out (.ret ⟨nodeC N i, (i : Int)⟩)) := by
  have hbg : N.length ≤ 9223372036854775807 := hN.1
  obtain ⟨F', h1, h2, h3⟩ := node_eq h (fl_first N i (by omega)) hi hN
  unfold tree_Check_L1
  have he : eqLen F' (fl N i) = some () := by
    unfold eqLen; rw [if_pos (by rw [h2]; simp [fl])]
  simp only [lt_dec hi, if_true, h1, Option.bind_some, he, cfault]
  by_cases e : nodeC N i = 0
  · rw [if_pos e, h3 e, fl_set, w64_succ (by omega)]
    simp [e]
  · rw [if_neg e, if_pos (by simpa using e)]
theorem tree_step {N : Ns} {i f : Nat} (h : GoodTo N i) (hi : i < N.length) (hf : i ≤ f) (hN : TrOk N) (hK : TrKids N) :
    ref1_Tree_L1 f ⟨N⟩ (i : Int) = if nodeC N i = 0 then some (.next ((i + 1 : Nat) : Int)) else some (.out (.ret ⟨nodeC N i, (i : Int)⟩)) := by
  have hbg : N.length ≤ 9223372036854775807 := hN.1
  unfold ref1_Tree_L1
  simp only [lt_dec hi, if_true, wrong_eq h hi hf hN hK, Option.bind_some, rfault]
  by_cases e : nodeC N i = 0
  · rw [if_pos e, w64_succ (by omega)]
    simp [e]
  · rw [if_neg e, if_pos (by simpa using e)]
theorem tree_check {N : Ns} (hN : TrOk N) : ∃ r, tree_Check ⟨N⟩ = some r ∧ (r.Code = 0 ↔ Whole N) ∧ (r.Code = 0 → r = ⟨0, 0⟩) ∧ (TrKids N → ∀ f, N.length ≤ f → ref1_Tree f ⟨N⟩ = some r) := by
  have hbg : N.length ≤ 9223372036854775807 := hN.1
  unfold tree_Check ref1_Tree
  simp only [cin, rin1, Option.bind_some, cfault, rfault]
  by_cases h6 : inb (N.length : Int) 1 600 = true
  · have h6' : 1 ≤ N.length ∧ N.length ≤ 600 := by
      simp only [inb, Bool.and_eq_true, decide_eq_true_eq] at h6; omega
    have hm : mks (N.length : Int) (0 : Int) = some (fl N 0) := by
      unfold mks
      rw [if_pos (by omega), Int.toNat_natCast, fl_0]
    simp only [h6, Bool.not_true, Bool.false_eq_true, if_false, hm, Option.bind_some]
    have hw : w64 ((N.length : Int) - 1) = ((N.length - 1 : Nat) : Int) := by rw [w64_id (by omega) (by omega)]; omega
    rcases first_bad N N.length with hG | ⟨k, hk, hG, hbad⟩
    · have c1 := Loop_traj (step := fun s => tree_Check_L1 ⟨N⟩ s.1 s.2) (s0 := (⟨⟨N⟩, fl N 0⟩, 0)) (fun i => (⟨⟨N⟩, fl N i⟩, (i : Int))) N.length (.brk ⟨⟨N⟩, fl N N.length⟩) rfl (fun i hi => by
        show tree_Check_L1 ⟨N⟩ ⟨⟨N⟩, fl N i⟩ (i : Int) = _
        rw [check_step (hG.le (by omega)) hi hN, if_pos (hG i hi)]) (by
        unfold tree_Check_L1
        simp only [lt_dec', Bool.false_eq_true, if_false])
      have c2 : TrKids N → ∀ f, N.length ≤ f → Loop (fun s => ref1_Tree_L1 f ⟨N⟩ s) 0 = some (.brk ()) := fun hK f hf =>
        Loop_traj (step := fun s => ref1_Tree_L1 f ⟨N⟩ s) (s0 := 0) (fun i => (i : Int)) N.length (.brk ()) rfl (fun i hi => by
          show ref1_Tree_L1 f ⟨N⟩ (i : Int) = _
          rw [tree_step (hG.le (by omega)) hi (by omega) hN hK, if_pos (hG i hi)]) (by
          unfold ref1_Tree_L1
          simp only [lt_dec', Bool.false_eq_true, if_false])
      have hlast : idx (fl N N.length) ((N.length - 1 : Nat) : Int) = some ((N.length - M N (N.length - 1) : Nat) : Int) := by
        unfold idx
        rw [if_pos (by omega), Int.toNat_natCast, (fl_first N N.length (Nat.le_refl _)).2 _ (by omega)]
        congr 3
        omega
      obtain ⟨_, m1, m2, _⟩ := good_facts hG (N.length - 1) (by omega)
      simp only [c1, Option.bind_some, go_brk, hw, hlast]
      by_cases hM : M N (N.length - 1) = N.length
      · have e1 : (((N.length - M N (N.length - 1) : Nat) : Int) != 0) = false := by simp; omega
        simp only [e1, Bool.false_eq_true, if_false, deepL_eq hG h6'.2, Option.bind_some, mostD_eq hG h6'.1 hM]
        by_cases hD : D N (N.length - 1) ≤ 40
        · refine ⟨⟨0, 0⟩, by rw [if_neg (by simp; omega)], ⟨fun _ => ⟨h6'.1, h6'.2, hG, hM, hD⟩, fun _ => rfl⟩, fun _ => rfl, fun hK f hf => ?_⟩
          rw [c2 hK f hf, Option.bind_some, go_brk, many_eq hG (Nat.le_refl _) hN.1 _ f (by omega) (by omega), Option.bind_some, if_neg (by simp; omega), deep_eq hG (Nat.le_refl _) hN.1 _ f (by omega) (by omega), Option.bind_some, if_neg (by simp; omega)]
        · refine ⟨⟨10, 0⟩, by rw [if_pos (by simp; omega)], ⟨fun h => by simp at h, fun h => absurd h.2.2.2.2 hD⟩, fun h => by simp at h, fun hK f hf => ?_⟩
          rw [c2 hK f hf, Option.bind_some, go_brk, many_eq hG (Nat.le_refl _) hN.1 _ f (by omega) (by omega), Option.bind_some, if_neg (by simp; omega), deep_eq hG (Nat.le_refl _) hN.1 _ f (by omega) (by omega), Option.bind_some, if_pos (by simp; omega)]
      · have e1 : (((N.length - M N (N.length - 1) : Nat) : Int) != 0) = true := by simp; omega
        simp only [e1, if_true]
        refine ⟨⟨5, ((N.length - 1 : Nat) : Int)⟩, rfl, ⟨fun h => by simp at h, fun h => absurd h.2.2.2.1 hM⟩, fun h => by simp at h, fun hK f hf => ?_⟩
        rw [c2 hK f hf, Option.bind_some, go_brk, many_eq hG (Nat.le_refl _) hN.1 _ f (by omega) (by omega), Option.bind_some, if_pos (by simp; omega)]
    · have c1 := Loop_traj (step := fun s => tree_Check_L1 ⟨N⟩ s.1 s.2) (s0 := (⟨⟨N⟩, fl N 0⟩, 0)) (fun i => (⟨⟨N⟩, fl N i⟩, (i : Int))) k (.ret ⟨nodeC N k, (k : Int)⟩) rfl (fun i hi => by
        show tree_Check_L1 ⟨N⟩ ⟨⟨N⟩, fl N i⟩ (i : Int) = _
        rw [check_step (hG.le (by omega)) (by omega) hN, if_pos (hG i hi)]) (by
        show tree_Check_L1 ⟨N⟩ ⟨⟨N⟩, fl N k⟩ (k : Int) = _
        rw [check_step hG hk hN, if_neg hbad])
      have c2 : TrKids N → ∀ f, N.length ≤ f → Loop (fun s => ref1_Tree_L1 f ⟨N⟩ s) 0 = some (.ret ⟨nodeC N k, (k : Int)⟩) := fun hK f hf =>
        Loop_traj (step := fun s => ref1_Tree_L1 f ⟨N⟩ s) (s0 := 0) (fun i => (i : Int)) k (.ret ⟨nodeC N k, (k : Int)⟩) rfl (fun i hi => by
          show ref1_Tree_L1 f ⟨N⟩ (i : Int) = _
          rw [tree_step (hG.le (by omega)) (by omega) (by omega) hN hK, if_pos (hG i hi)]) (by
          show ref1_Tree_L1 f ⟨N⟩ (k : Int) = _
          rw [tree_step hG hk (by omega) hN hK, if_neg hbad])
      refine ⟨⟨nodeC N k, (k : Int)⟩, by rw [c1]; rfl, ⟨fun h => absurd h hbad, fun h => absurd (h.2.2.1 k hk) hbad⟩, fun h => absurd h hbad, fun hK f hf => by rw [c2 hK f hf]; rfl⟩
  · have h6' : inb (N.length : Int) 1 600 = false := by simpa using h6
    refine ⟨⟨2, 0⟩, by simp [h6'], ⟨fun h => by simp at h, fun h => ?_⟩, fun h => by simp at h, fun _ f _ => by simp [h6']⟩
    exact absurd (by simp only [inb, Bool.and_eq_true, decide_eq_true_eq]; exact ⟨by have := h.1; omega, by have := h.2.1; omega⟩) h6
end Go.Ab
