/-
  PLAIN LAWS (words): keys, names, quoted bytes, signs.
-/
/-
  PLAIN LAWS (words): signs; the next word.
-/
/-
  PLAIN LAWS (words): what says nothing; all words of a text.
-/
/-
  PLAIN LAWS (words): the reference's scanner; TokenSays.
-/
import Derived.Test.YtkgjhnmpcnjooaaDoorAbK7
namespace Go.Ab.Tk
open Go

/-! ### One of some -/
def amongB (L : List ByteArray) (s : ByteArray) : Bool := L.any fun x => x.toList == s.toList
theorem findI_any {α : Type} (p : α → Bool) : ∀ (l : List α) (i : Nat), findI (fun _ x => if p x then some true else none) i l = if l.any p then some true else none
  | [], _ => rfl
  | x :: l, i => by
    by_cases h : p x = true
    · simp [findI, List.any_cons, h]
    · simp only [Bool.not_eq_true] at h
      simp [findI, List.any_cons, h, findI_any p l (i + 1)]
theorem ref_among {L : List ByteArray} (hL : L.length < 1000) (s : ByteArray) : ref1_among L s = some (amongB L s) := by
  unfold ref1_among
  have := Loop_find (l := L) (fun _ x => if x.toList == s.toList then some true else none) (step := ref1_among_L1 L s) (fun i h => by
    unfold ref1_among_L1
    rw [if_pos (by simp only [decide_eq_true_eq]; omega), idx_lt h, Option.bind_some, w64_succ (by omega)]
    cases L[i].toList == s.toList <;> rfl) (by unfold ref1_among_L1; rw [if_neg (by simp)])
  have h2 := findI_any (fun x : ByteArray => x.toList == s.toList) L 0
  rw [this, h2]
  unfold amongB
  cases L.any (fun x => x.toList == s.toList) <;> rfl
theorem key_among (s : ByteArray) : token_key s = some (amongB Gkeys s) := by
  unfold token_key
  have := Loop_find (l := Gkeys) (fun _ x => if x.toList == s.toList then some true else none) (step := token_key_L1 s) (fun i h => by
    have h13 : i < 13 := h
    unfold token_key_L1
    rw [if_pos (by simp only [decide_eq_true_eq]; omega), idx_lt h, Option.bind_some, w64_succ (by omega)]
    cases Gkeys[i].toList == s.toList <;> rfl) (by unfold token_key_L1; rw [if_neg (by decide)])
  have h2 := findI_any (fun x : ByteArray => x.toList == s.toList) Gkeys 0
  rw [this, h2]
  unfold amongB
  cases Gkeys.any (fun x => x.toList == s.toList) <;> rfl
theorem ref_key (s : ByteArray) : ref1_Key s = some (amongB Gkeys s) := by
  unfold ref1_Key
  show (ref1_among Gkeys s).bind _ = _
  rw [ref_among (by decide)]; rfl
theorem ref_sign (s : ByteArray) : ref1_sign s = some (amongB Gsigns s) := by
  unfold ref1_sign
  show (ref1_among Gsigns s).bind _ = _
  rw [ref_among (by decide)]; rfl

/-! ### Names -/
theorem let_not_dig {c : UInt8} (h : isLet c = true) : isDig c = false := by
  unfold isLet at h; unfold isDig
  simp only [Bool.or_eq_true, Bool.and_eq_true, decide_eq_true_eq, beq_iff_eq] at h
  simp only [Bool.and_eq_false_iff, decide_eq_false_iff_not]
  omega
theorem core_name {a : UInt8} {w : L8} (hl : Sm (a :: w)) (ha : isLet a = true) (hw : (a :: w).all isBoth = true) : core_Name (mkS (a :: w)) = some (decide ((a :: w).length ≤ 12)) := by
  unfold core_Name
  rw [size_mkS]
  have h1 : decide (((a :: w).length : Int) < 1) = false := by simp; omega
  rw [h1]
  simp only [Bool.false_eq_true, if_false]
  by_cases h12 : (a :: w).length ≤ 12
  · have h2 : decide ((12 : Int) < ((a :: w).length : Int)) = false := by simp only [decide_eq_false_iff_not]; omega
    rw [h2, if_neg (by simp)]
    have := Loop_find (l := a :: w) (ρ := Bool) (fun _ _ => none) (step := core_Name_L1 (mkS (a :: w))) (fun i h => by
      unfold core_Name_L1
      rw [if_pos (by simp only [decide_eq_true_eq, size_mkS]; omega), sidx_mkS h, Option.bind_some, w64_succ (by unfold Sm at hl; omega)]
      have hb := List.all_eq_true.1 hw _ (List.getElem_mem h)
      rw [if_neg]
      simp only [ite_or, ite_and, Bool.not_eq_true', Bool.not_eq_false]
      unfold isBoth at hb
      rw [Bool.or_eq_true] at hb
      rcases hb with hb | hb
      · cases i with
        | zero =>
          rw [List.getElem_cons_zero] at hb
          rw [let_not_dig ha] at hb; cases hb
        | succ i =>
          unfold isDig at hb
          have : decide ((0 : Int) < ((i + 1 : Nat) : Int)) = true := by simp
          rw [this, Bool.true_and]
          simp only [ch] at hb
          rw [hb, Bool.or_true]
      · unfold isLet at hb
        simp only [ch] at hb
        rw [hb, Bool.true_or]) (by unfold core_Name_L1; rw [if_neg (by simp)])
    rw [this, findI_none (fun _ _ _ => rfl)]
    simp only [brOf, Br.go, h12, decide_true, Option.bind_some]
  · have h2 : decide ((12 : Int) < ((a :: w).length : Int)) = true := by simp only [decide_eq_true_eq]; omega
    rw [h2, if_pos rfl]
    simp only [h12, decide_false]
theorem ref_name {a : UInt8} {w : L8} (hl : Sm (a :: w)) (ha : isLet a = true) (hw : (a :: w).all isBoth = true) : ref1_Name (mkS (a :: w)) = some (decide ((a :: w).length ≤ 12)) := by
  unfold ref1_Name ref1_in
  rw [size_mkS]
  have h1 : decide (1 ≤ ((a :: w).length : Int)) = true := by simp; omega
  simp only [h1, if_true, Option.bind_some, sidx0, rdigit1, let_not_dig ha]
  by_cases h12 : (a :: w).length ≤ 12
  · have h2 : decide (((a :: w).length : Int) ≤ 12) = true := by simp only [decide_eq_true_eq]; omega
    simp only [h2, Bool.not_true, Bool.false_eq_true, if_false, Option.bind_some]
    have := Loop_find (l := a :: w) (ρ := Bool) (fun _ _ => none) (step := ref1_Name_L1 (mkS (a :: w))) (fun i h => by
      unfold ref1_Name_L1
      rw [if_pos (by simp only [decide_eq_true_eq, size_mkS]; omega), sidx_mkS h, w64_succ (by unfold Sm at hl; omega)]
      have hb := List.all_eq_true.1 hw _ (List.getElem_mem h)
      simp only [Option.bind_some, rletter1, rdigit1]
      unfold isBoth at hb
      cases h3 : isLet (a :: w)[i] with
      | true => rfl
      | false =>
        rw [h3, Bool.or_false] at hb
        rw [hb]; rfl) (by unfold ref1_Name_L1; rw [if_neg (by simp)])
    rw [this, findI_none (fun _ _ _ => rfl)]
    simp only [brOf, Br.go, h12, decide_true, Option.bind_some]
  · have h2 : decide (((a :: w).length : Int) ≤ 12) = false := by simp only [decide_eq_false_iff_not]; omega
    simp only [h2, Bool.not_false, if_true, Option.bind_some, h12, decide_false]

/-! ### Quoted bytes -/
def escP (c : UInt8) : Option Int := if ch c == 110 then some 10 else if ch c == 48 then some 0 else if ch c == 92 || ch c == 39 then some (ch c) else none
def quoP : L8 → Option (Int × Nat)
  | _ :: b :: c :: l => if ch c == 39 && decide (32 ≤ ch b) && decide (ch b < 127) && ch b != 92 && ch b != 39 then some (ch b, 3) else match l with
    | d :: _ => if ch d == 39 && ch b == 92 then (escP c).map fun n => (n, 4) else none
    | [] => none
  | _ => none
noncomputable def esc2 (c : UInt8) : Option (Int × Int × Bool) :=
 (indexByteS (ByteArray.mk #[110, 48, 92, 39]) (ch c)).bind fun x4 =>
 if (decide (0 ≤ x4)) then
 ((sidx (ByteArray.mk #[10, 0, 92, 39]) x4).bind fun x5 =>
 some ((w64 (x5.toNat : Int)), 4, true))
 else
 (token_quoted_J1)
theorem esc_all : ∀ c, (esc2 c == match escP c with | some n => some (n, 4, true) | none => some (0, 0, false)) = true := all256 (by decide +kernel)
theorem esc_eq (c : UInt8) : esc2 c = match escP c with | some n => some (n, 4, true) | none => some (0, 0, false) := by simpa using esc_all c
theorem w64_ch (c : UInt8) : w64 (ch c) = ch c := by
  have h1 := ch_lt c; have h0 := ch_ge c
  exact w64_id (by omega) (by omega)
theorem sidx2 {c d e : UInt8} {l : L8} : sidx (mkS (c :: d :: e :: l)) 2 = some e := sidx_mkS (i := 2) (by simp)
theorem sidx3 {c d e f : UInt8} {l : L8} : sidx (mkS (c :: d :: e :: f :: l)) 3 = some f := sidx_mkS (i := 3) (by simp)
set_option maxRecDepth 10000 in
theorem tok_quoted (l : L8) : token_quoted (mkS l) = some (match quoP l with | some (n, k) => (n, (k : Int), true) | none => (0, 0, false)) := by
  unfold token_quoted
  match l with
  | [] => rfl
  | [_] => rfl
  | [_, _] => rfl
  | [a, b, c] =>
    have e3 : decide (3 < (((([a, b, c] : L8).length : Nat)) : Int)) = false := by simp
    have e2 : decide (2 < (((([a, b, c] : L8).length : Nat)) : Int)) = true := by simp
    simp only [size_mkS, e3, e2, Bool.false_eq_true, if_false, if_true, Option.bind_some, sidx1, sidx2, w64_ch, quoP, token_quoted_J1]
    generalize (ch c == 39) = p1; generalize decide (32 ≤ ch b) = p2; generalize decide (ch b < 127) = p3; generalize (ch b != 92) = p4; generalize (ch b != 39) = p5
    cases p1 <;> cases p2 <;> cases p3 <;> cases p4 <;> cases p5 <;> rfl
  | a :: b :: c :: d :: l =>
    have e3 : decide (3 < (((a :: b :: c :: d :: l).length : Nat) : Int)) = true := by simp; omega
    have e2 : decide (2 < (((a :: b :: c :: d :: l).length : Nat) : Int)) = true := by simp; omega
    simp only [size_mkS, e3, e2, if_true, Option.bind_some, sidx1, sidx2, sidx3, quoP]
    have he := esc_eq c
    unfold esc2 at he
    rw [he]
    simp only [w64_ch]
    cases h92 : (ch b == 92) with
    | true =>
      have h92' : (ch b != 92) = false := by simp only [bne, h92]; rfl
      simp only [h92', Bool.and_false, Bool.false_and, Bool.false_eq_true, if_false, if_true, Option.bind_some, Bool.and_true]
      cases h39 : (ch d == 39) with
      | true =>
        simp only [if_true]
        cases escP c <;> rfl
      | false =>
        simp only [Bool.false_eq_true, if_false, token_quoted_J1]
        generalize (ch c == 39) = p1; generalize decide (32 ≤ ch b) = p2; generalize decide (ch b < 127) = p3
        cases p1 <;> cases p2 <;> cases p3 <;> rfl
    | false =>
      have h92' : (ch b != 92) = true := by simp only [bne, h92]; rfl
      simp only [h92', Bool.and_true, Bool.and_false, Bool.false_eq_true, if_false, if_true, Option.bind_some, token_quoted_J1]
      generalize (ch c == 39) = p1; generalize decide (32 ≤ ch b) = p2; generalize decide (ch b < 127) = p3; generalize (ch b != 39) = p5
      cases p1 <;> cases p2 <;> cases p3 <;> cases p5 <;> rfl
set_option maxRecDepth 10000 in
theorem ref_quoted (l : L8) : ref1_quoted (mkS l) = some (match quoP l with | some (n, k) => (n, (k : Int)) | none => (0, 0)) := by
  unfold ref1_quoted
  match l with
  | [] => rfl
  | [_] => rfl
  | [_, _] => rfl
  | [a, b, c] =>
    have e3 : decide (3 < (((([a, b, c] : L8).length : Nat)) : Int)) = false := by simp
    have e2 : decide (2 < (((([a, b, c] : L8).length : Nat)) : Int)) = true := by simp
    simp only [size_mkS, e3, e2, Bool.false_eq_true, if_false, if_true, Option.bind_some, sidx1, sidx2, w64_ch, quoP, ref1_quoted_J1]
    generalize (ch c == 39) = p1; generalize decide (32 ≤ ch b) = p2; generalize decide (ch b < 127) = p3; generalize (ch b != 92) = p4; generalize (ch b != 39) = p5
    cases p1 <;> cases p2 <;> cases p3 <;> cases p4 <;> cases p5 <;> rfl
  | a :: b :: c :: d :: l =>
    have e3 : decide (3 < (((a :: b :: c :: d :: l).length : Nat) : Int)) = true := by simp; omega
    have e2 : decide (2 < (((a :: b :: c :: d :: l).length : Nat) : Int)) = true := by simp; omega
    simp only [size_mkS, e3, e2, if_true, Option.bind_some, sidx1, sidx2, sidx3, w64_ch, quoP, ref1_quoted_J1, escP]
    cases h92 : (ch b == 92) with
    | true =>
      have h92' : (ch b != 92) = false := by simp only [bne, h92]; rfl
      simp only [h92', Bool.and_false, Bool.false_and, Bool.false_eq_true, if_false, Bool.and_true]
      generalize decide (32 ≤ ch b) = p2; generalize decide (ch b < 127) = p3; generalize (ch d == 39) = p6; generalize (ch c == 110) = p7; generalize (ch c == 48) = p8; generalize (ch c == 92) = p9; generalize (ch c == 39) = p1
      cases p1 <;> cases p2 <;> cases p3 <;> cases p6 <;> cases p7 <;> cases p8 <;> cases p9 <;> rfl
    | false =>
      have h92' : (ch b != 92) = true := by simp only [bne, h92]; rfl
      simp only [h92', Bool.and_true, Bool.and_false, if_true]
      generalize (ch c == 39) = p1; generalize decide (32 ≤ ch b) = p2; generalize decide (ch b < 127) = p3; generalize (ch b != 39) = p5; generalize (ch d == 39) = p6
      cases p1 <;> cases p2 <;> cases p3 <;> cases p5 <;> cases p6 <;> rfl
end Go.Ab.Tk

namespace Go.Ab.Tk
open Go

def S3 : List L8 := [[60, 60, 61], [62, 62, 61]]
def S2 : List L8 := [[60, 60], [62, 62], [60, 61], [62, 61], [61, 61], [33, 61], [38, 38], [124, 124], [43, 61], [45, 61], [42, 61], [47, 61], [37, 61], [38, 61], [94, 61], [124, 61], [43, 43], [45, 45]]
def S1 : List L8 := [[43], [45], [42], [47], [37], [38], [124], [94], [126], [33], [60], [62], [61], [63], [58], [59], [44], [40], [41], [91], [93], [123], [125]]
theorem signs_eq : Gsigns = (S3 ++ (S2 ++ S1)).map mkS := by rfl
def gk (G : List L8) (k : Nat) (l : L8) : Option L8 := if decide (k ≤ l.length) && G.contains (l.take k) then some (l.take k) else none
def signP (l : L8) : Option L8 := (gk S3 3 l).or ((gk S2 2 l).or (gk S1 1 l))
theorem find_gk {k : Nat} {l : L8} : ∀ {G : List L8}, (∀ x ∈ G, x.length = k) → G.find? (fun x => x.isPrefixOf l) = gk G k l
  | [], _ => by simp [gk]
  | x :: G, h => by
    have ih := find_gk (l := l) (G := G) fun y hy => h y (List.mem_cons_of_mem _ hy)
    have hx := h x (List.mem_cons_self ..)
    rw [List.find?_cons]
    unfold gk at ih ⊢
    rw [List.contains_cons]
    cases hp : x.isPrefixOf l with
    | true =>
      have h1 := List.prefix_iff_eq_take.1 (List.isPrefixOf_iff_prefix.1 hp)
      have h2 := (List.isPrefixOf_iff_prefix.1 hp).length_le
      rw [hx] at h1 h2
      rw [← h1]
      simp [h2]
    | false =>
      rw [ih]
      have : (decide (k ≤ l.length) && (l.take k == x)) = false := by
        cases hk : decide (k ≤ l.length) with
        | false => rfl
        | true =>
          rw [Bool.true_and, beq_eq_false_iff_ne]
          intro he
          have : x.isPrefixOf l = true := List.isPrefixOf_iff_prefix.2 (by rw [← he]; exact List.take_prefix k l)
          rw [this] at hp; cases hp
      cases hk : decide (k ≤ l.length) with
      | false => rfl
      | true =>
        rw [hk, Bool.true_and] at this
        rw [this]; rfl
theorem len3 : ∀ x ∈ S3, x.length = 3 := by decide
theorem len2 : ∀ x ∈ S2, x.length = 2 := by decide
theorem len1 : ∀ x ∈ S1, x.length = 1 := by decide
theorem findI_find {α β : Type} (p : α → Bool) (q : α → β) : ∀ (l : List α) (i : Nat), findI (fun _ x => if p x then some (q x) else none) i l = (l.find? p).map q
  | [], _ => rfl
  | x :: l, i => by
    by_cases h : p x = true
    · simp [findI, List.find?_cons, h]
    · simp only [Bool.not_eq_true] at h
      simp [findI, List.find?_cons, h, findI_find p q l (i + 1)]
theorem find_map {α β : Type} (f : α → β) (p : β → Bool) : ∀ l : List α, (l.map f).find? p = (l.find? (fun x => p (f x))).map f
  | [] => rfl
  | x :: l => by
    rw [List.map_cons, List.find?_cons, List.find?_cons, find_map f p l]
    cases p (f x) <;> rfl
theorem find_app {α : Type} (p : α → Bool) : ∀ a b : List α, (a ++ b).find? p = (a.find? p).or (b.find? p)
  | [], b => by simp
  | x :: a, b => by
    rw [List.cons_append, List.find?_cons, List.find?_cons, find_app p a b]
    cases p x <;> rfl
theorem tok_sign (l : L8) : token_sign (mkS l) = some (match signP l with | some s => mkS s | none => mkS []) := by
  unfold token_sign
  have := Loop_find (l := Gsigns) (fun _ x => if Lib.hasPrefix l (bl x) then some x else none) (step := token_sign_L1 (mkS l)) (fun i h => by
    have h43 : i < 43 := h
    unfold token_sign_L1
    rw [if_pos (by simp only [decide_eq_true_eq]; omega), idx_lt h, Option.bind_some, w64_succ (by omega)]
    show (some (Lib.hasPrefix l (bl Gsigns[i]))).bind _ = _
    rw [Option.bind_some]
    cases Lib.hasPrefix l (bl Gsigns[i]) <;> rfl) (by unfold token_sign_L1; rw [if_neg (by decide)])
  have h2 := findI_find (fun x : ByteArray => Lib.hasPrefix l (bl x)) (fun x => x) Gsigns 0
  rw [this, h2, signs_eq, find_map]
  have h3 : (S3 ++ (S2 ++ S1)).find? (fun x => Lib.hasPrefix l (bl (mkS x))) = signP l := by
    show (S3 ++ (S2 ++ S1)).find? (fun x => x.isPrefixOf l) = _
    rw [find_app, find_app, find_gk len3, find_gk len2, find_gk len1]; rfl
  rw [h3]
  cases signP l <;> rfl
theorem among_signs (y : L8) : amongB Gsigns (mkS y) = (S3.contains y || (S2.contains y || S1.contains y)) := by
  unfold amongB
  rw [signs_eq, List.any_map, List.any_append, List.any_append]
  have h : ∀ G : List L8, G.any ((fun x => x.toList == (mkS y).toList) ∘ mkS) = G.contains y := fun G => by
    induction G with
    | nil => rfl
    | cons x G ih =>
      rw [List.any_cons, List.contains_cons, ih]
      simp only [Function.comp, beq_mkS]
      rw [Bool.beq_comm (a := x)]
  rw [h, h, h]
theorem contains_len {G : List L8} {k : Nat} (h : ∀ x ∈ G, x.length = k) {y : L8} (hy : y.length ≠ k) : G.contains y = false := by
  rw [Bool.eq_false_iff]
  intro hc
  exact hy (h y (List.contains_iff_mem.1 hc))
abbrev Tok := XApi_Token
theorem rs_step {l : L8} (hl : Sm l) {k : Nat} (h0 : 0 < k) : ref1_next_L2 (mkS l) (k : Int) = some (if decide (k ≤ l.length) && (S3.contains (l.take k) || (S2.contains (l.take k) || S1.contains (l.take k))) then .out (.ret (⟨4, mkS (l.take k), 0, 0⟩, (k : Int), 0)) else .next (w64 ((k : Int) - 1))) := by
  unfold ref1_next_L2
  rw [if_pos (by simp only [decide_eq_true_eq]; omega)]
  by_cases hk : k ≤ l.length
  · have e : decide ((k : Int) ≤ ((mkS l).size : Int)) = true := by rw [size_mkS]; simp only [decide_eq_true_eq]; omega
    rw [e, if_pos rfl, sslc_take hk, Option.bind_some, ref_sign, among_signs]
    simp only [hk, decide_true, Bool.true_and, Option.bind_some]
    cases (S3.contains (l.take k) || (S2.contains (l.take k) || S1.contains (l.take k))) <;> rfl
  · have e : decide ((k : Int) ≤ ((mkS l).size : Int)) = false := by rw [size_mkS]; simp only [decide_eq_false_iff_not]; omega
    rw [e]
    simp [hk]
theorem ref_signs {l : L8} (hl : Sm l) : Loop (fun (s : Int) => ref1_next_L2 (mkS l) s) 3 = some (match signP l with | some s => .ret (⟨4, mkS s, 0, 0⟩, (s.length : Int), 0) | none => .brk ()) := by
  have c3 : decide (3 ≤ l.length) = true → (l.take 3).length = 3 := fun h => by rw [List.length_take]; simp at h; omega
  have c2 : decide (2 ≤ l.length) = true → (l.take 2).length = 2 := fun h => by rw [List.length_take]; simp at h; omega
  have c1 : decide (1 ≤ l.length) = true → (l.take 1).length = 1 := fun h => by rw [List.length_take]; simp at h; omega
  have g3 : (decide (3 ≤ l.length) && (S3.contains (l.take 3) || (S2.contains (l.take 3) || S1.contains (l.take 3)))) = (decide (3 ≤ l.length) && S3.contains (l.take 3)) := by
    cases h : decide (3 ≤ l.length) with
    | false => rfl
    | true => rw [contains_len len2 (by rw [c3 h]; omega), contains_len len1 (by rw [c3 h]; omega)]; simp
  have g2 : (decide (2 ≤ l.length) && (S3.contains (l.take 2) || (S2.contains (l.take 2) || S1.contains (l.take 2)))) = (decide (2 ≤ l.length) && S2.contains (l.take 2)) := by
    cases h : decide (2 ≤ l.length) with
    | false => rfl
    | true => rw [contains_len len3 (by rw [c2 h]; omega), contains_len len1 (by rw [c2 h]; omega)]; simp
  have g1 : (decide (1 ≤ l.length) && (S3.contains (l.take 1) || (S2.contains (l.take 1) || S1.contains (l.take 1)))) = (decide (1 ≤ l.length) && S1.contains (l.take 1)) := by
    cases h : decide (1 ≤ l.length) with
    | false => rfl
    | true => rw [contains_len len3 (by rw [c1 h]; omega), contains_len len2 (by rw [c1 h]; omega)]; simp
  have s3 := rs_step hl (k := 3) (by omega); rw [g3] at s3
  have s2 := rs_step hl (k := 2) (by omega); rw [g2] at s2
  have s1 := rs_step hl (k := 1) (by omega); rw [g1] at s1
  have w3 : w64 (((3 : Nat) : Int) - 1) = ((2 : Nat) : Int) := by decide
  have w2 : w64 (((2 : Nat) : Int) - 1) = ((1 : Nat) : Int) := by decide
  have w1 : w64 (((1 : Nat) : Int) - 1) = 0 := by decide
  rw [w3] at s3; rw [w2] at s2; rw [w1] at s1
  unfold signP gk
  rw [show (3 : Int) = ((3 : Nat) : Int) from rfl, Loop_eq, s3]
  cases h3 : (decide (3 ≤ l.length) && S3.contains (l.take 3)) with
  | true =>
    simp only [Bool.and_eq_true] at h3
    simp [c3 h3.1]
  | false =>
    simp only [Bool.false_eq_true, if_false, Option.bind_some, Option.none_or]
    rw [Loop_eq, s2]
    cases h2 : (decide (2 ≤ l.length) && S2.contains (l.take 2)) with
    | true =>
      simp only [Bool.and_eq_true] at h2
      simp [c2 h2.1]
    | false =>
      simp only [Bool.false_eq_true, if_false, Option.bind_some, Option.none_or]
      rw [Loop_eq, s1]
      cases h1 : (decide (1 ≤ l.length) && S1.contains (l.take 1)) with
      | true =>
        simp only [Bool.and_eq_true] at h1
        simp [c1 h1.1]
      | false =>
        simp only [Bool.false_eq_true, if_false, Option.bind_some]
        rw [Loop_eq]
        rfl

/-! ### The next word: its kind, how long it is, its number; or what is wrong -/
def keyB (w : L8) : Bool := amongB Gkeys (mkS w)
def nextP (l : L8) : (Int × Nat × Int) ⊕ Int :=
  let a := l.headD 0
  let w := l.takeWhile isBoth
  if isLet a then (if keyB w then .inl (3, w.length, 0) else if decide (w.length ≤ 12) then .inl (1, w.length, 0) else .inr 12)
  else if isDig a then (if (numR w).2 = 0 then .inl (2, w.length, (numR w).1) else if (numR w).2 = 3 then .inr 3 else .inr 1)
  else if ch a == 39 then (match quoP l with | some (n, k) => .inl (2, k, n) | none => .inr 1)
  else match signP l with | some s => .inl (4, s.length, 0) | none => .inr 1
theorem key1 (w : L8) : token_key (mkS w) = some (keyB w) := key_among _
theorem rkey1 (w : L8) : ref1_Key (mkS w) = some (keyB w) := ref_key _
theorem nextP_cons (a : UInt8) (t : L8) : nextP (a :: t) = if isLet a then (if keyB ((a :: t).takeWhile isBoth) then .inl (3, ((a :: t).takeWhile isBoth).length, 0) else if decide (((a :: t).takeWhile isBoth).length ≤ 12) then .inl (1, ((a :: t).takeWhile isBoth).length, 0) else .inr 12)
  else if isDig a then (if (numR ((a :: t).takeWhile isBoth)).2 = 0 then .inl (2, ((a :: t).takeWhile isBoth).length, (numR ((a :: t).takeWhile isBoth)).1) else if (numR ((a :: t).takeWhile isBoth)).2 = 3 then .inr 3 else .inr 1)
  else if ch a == 39 then (match quoP (a :: t) with | some (n, k) => .inl (2, k, n) | none => .inr 1)
  else match signP (a :: t) with | some s => .inl (4, s.length, 0) | none => .inr 1 := rfl
theorem quoP_le {l : L8} {n : Int} {k : Nat} (h : quoP l = some (n, k)) : k ≤ l.length ∧ 0 < k := by
  unfold quoP at h
  split at h
  · split at h
    · simp only [Option.some.injEq, Prod.mk.injEq] at h
      obtain ⟨_, rfl⟩ := h
      exact ⟨by simp, by omega⟩
    · split at h
      · split at h
        · simp only [Option.map_eq_some_iff, Prod.mk.injEq] at h
          obtain ⟨_, _, _, rfl⟩ := h
          exact ⟨by simp, by omega⟩
        · cases h
      · cases h
  · cases h
theorem gk_eq {G : List L8} {k : Nat} {l s : L8} (h : gk G k l = some s) : s = l.take k ∧ k ≤ l.length ∧ s.length = k ∧ G.contains s = true := by
  unfold gk at h
  split at h
  · rename_i hc
    simp only [Bool.and_eq_true, decide_eq_true_eq] at hc
    obtain rfl := Option.some.inj h
    exact ⟨rfl, hc.1, by rw [List.length_take]; omega, hc.2⟩
  · cases h
theorem signP_eq {l s : L8} (h : signP l = some s) : s = l.take s.length ∧ s.length ≤ l.length ∧ 0 < s.length := by
  unfold signP at h
  cases h3 : gk S3 3 l with
  | some t =>
    rw [h3, Option.some_or] at h
    obtain rfl := Option.some.inj h
    obtain ⟨a, b, c, _⟩ := gk_eq h3
    rw [c]; exact ⟨a, b, by omega⟩
  | none =>
    rw [h3, Option.none_or] at h
    cases h2 : gk S2 2 l with
    | some t =>
      rw [h2, Option.some_or] at h
      obtain rfl := Option.some.inj h
      obtain ⟨a, b, c, _⟩ := gk_eq h2
      rw [c]; exact ⟨a, b, by omega⟩
    | none =>
      rw [h2, Option.none_or] at h
      obtain ⟨a, b, c, _⟩ := gk_eq h
      rw [c]; exact ⟨a, b, by omega⟩
def nextOut (l : L8) (x : (Int × Nat × Int) ⊕ Int) (y : Tok × Int × Int) : Prop := match x with
  | .inl (kd, k, n) => y = (⟨kd, mkS (l.take k), n, 0⟩, (k : Int), 0)
  | .inr e => y.2.2 = e
theorem tw_cons {a : UInt8} {t : L8} (h : isBoth a = true) : (a :: t).takeWhile isBoth = a :: t.takeWhile isBoth := by rw [List.takeWhile_cons, if_pos h]
theorem tw_all (t : L8) : (t.takeWhile isBoth).all isBoth = true := by
  rw [List.all_eq_true]
  intro c hc
  induction t with
  | nil => simp at hc
  | cons x t ih =>
    rw [List.takeWhile_cons] at hc
    cases hx : isBoth x with
    | true =>
      rw [hx, if_pos rfl, List.mem_cons] at hc
      rcases hc with rfl | hc
      · exact hx
      · exact ih hc
    | false => rw [hx, if_neg (by simp)] at hc; simp at hc
theorem tok_next {a : UInt8} {t : L8} (hl : Sm (a :: t)) : ∃ y, token_next (mkS (a :: t)) = some y ∧ nextOut (a :: t) (nextP (a :: t)) y := by
  unfold token_next
  rw [nextP_cons]
  simp only [sidx0, Option.bind_some, letter1, digit1]
  have htk : sslc (mkS (a :: t)) none (some (spanL isBoth (a :: t) : Int)) = some (mkS ((a :: t).takeWhile isBoth)) := by rw [sslc_take (spanL_le _ _), take_spanL]
  have hsp : (a :: t).take ((a :: t).takeWhile isBoth).length = (a :: t).takeWhile isBoth := take_spanL isBoth (a :: t)
  have hsm : Sm ((a :: t).takeWhile isBoth) := by rw [← take_spanL]; exact hl.take _
  cases hla : isLet a with
  | true =>
    have hb : isBoth a = true := by unfold isBoth; rw [hla]; simp
    simp only [if_true, span31 hl, Option.bind_some, htk, key1, size_mkS]
    cases hk : keyB ((a :: t).takeWhile isBoth) with
    | true => exact ⟨_, rfl, by simp only [if_true, nextOut, hsp]⟩
    | false =>
      rw [tw_cons hb] at *
      simp only [Bool.false_eq_true, if_false, core_name hsm hla (by rw [List.all_cons, hb, tw_all]; rfl), Option.bind_some]
      cases decide ((a :: t.takeWhile isBoth).length ≤ 12) with
      | true => exact ⟨_, rfl, by simp only [if_true, nextOut, hsp]⟩
      | false => exact ⟨_, rfl, rfl⟩
  | false =>
    simp only [Bool.false_eq_true, if_false]
    cases hda : isDig a with
    | true =>
      have hb : isBoth a = true := by unfold isBoth; rw [hda]; rfl
      simp only [if_true]
      have hw := tw_cons (t := t) hb
      rw [tok_number hl hw rfl hda, Option.bind_some, ← hw]
      unfold numP
      split
      · have : sslc (mkS (a :: t)) none (some (((a :: t).takeWhile isBoth).length : Int)) = some (mkS ((a :: t).takeWhile isBoth)) := htk
        simp only [this, Option.bind_some]
        exact ⟨_, rfl, by simp only [nextOut, hsp]⟩
      · split
        · have : sslc (mkS (a :: t)) none (some (0 : Int)) = some (mkS []) := sslc_take (k := 0) (by omega)
          simp only [this, Option.bind_some]
          exact ⟨_, rfl, rfl⟩
        · have : sslc (mkS (a :: t)) none (some (0 : Int)) = some (mkS []) := sslc_take (k := 0) (by omega)
          simp only [this, Option.bind_some]
          exact ⟨_, rfl, rfl⟩
    | false =>
      simp only [Bool.false_eq_true, if_false]
      cases hq : ch a == 39 with
      | true =>
        simp only [if_true]
        have : token_number (mkS (a :: t)) = some (match quoP (a :: t) with | some (n, k) => (n, (k : Int), 0) | none => (0, 0, 1)) := by
          unfold token_number
          rw [sidx0, Option.bind_some, hq, if_pos rfl, tok_quoted, Option.bind_some]
          cases quoP (a :: t) with
          | none => rfl
          | some x => obtain ⟨n, k⟩ := x; rfl
        rw [this, Option.bind_some]
        cases hqp : quoP (a :: t) with
        | none =>
          have : sslc (mkS (a :: t)) none (some (0 : Int)) = some (mkS []) := sslc_take (k := 0) (by omega)
          simp only [this, Option.bind_some]
          exact ⟨_, rfl, rfl⟩
        | some x =>
          obtain ⟨n, k⟩ := x
          simp only [sslc_take (quoP_le hqp).1, Option.bind_some]
          exact ⟨_, rfl, rfl⟩
      | false =>
        simp only [Bool.false_eq_true, if_false, tok_sign, Option.bind_some]
        cases hs : signP (a :: t) with
        | none =>
          have e : ((mkS []).toList == (ByteArray.mk #[]).toList) = true := by rw [show (ByteArray.mk #[]) = mkS [] from rfl, beq_mkS]; rfl
          simp only [e, if_true]
          exact ⟨_, rfl, rfl⟩
        | some s =>
          obtain ⟨h1, h2, h3⟩ := signP_eq hs
          have e : ((mkS s).toList == (ByteArray.mk #[]).toList) = false := by
            rw [show (ByteArray.mk #[]) = mkS [] from rfl, beq_mkS]
            cases s with
            | nil => simp at h3
            | cons _ _ => rfl
          simp only [e, Bool.false_eq_true, if_false, size_mkS]
          exact ⟨_, rfl, by simp only [nextOut]; rw [← h1]⟩
theorem ref_next {a : UInt8} {t : L8} (hl : Sm (a :: t)) : ∃ y, ref1_next (mkS (a :: t)) = some y ∧ nextOut (a :: t) (nextP (a :: t)) (y.1, y.2.1, if y.2.2 = 2 then 1 else y.2.2) := by
  unfold ref1_next
  rw [nextP_cons]
  simp only [sidx0, Option.bind_some, rletter1, rdigit1]
  have htk : sslc (mkS (a :: t)) none (some (spanL isBoth (a :: t) : Int)) = some (mkS ((a :: t).takeWhile isBoth)) := by rw [sslc_take (spanL_le _ _), take_spanL]
  have hsp : (a :: t).take ((a :: t).takeWhile isBoth).length = (a :: t).takeWhile isBoth := take_spanL isBoth (a :: t)
  have hsm : Sm ((a :: t).takeWhile isBoth) := by rw [← take_spanL]; exact hl.take _
  cases hla : isLet a with
  | true =>
    have hb : isBoth a = true := by unfold isBoth; rw [hla]; simp
    simp only [if_true, Option.bind_some, rspanW hl, htk, let_not_dig hla, Bool.false_eq_true, if_false, rkey1]
    cases hk : keyB ((a :: t).takeWhile isBoth) with
    | true => exact ⟨_, rfl, by simp only [if_true, nextOut, hsp]; rfl⟩
    | false =>
      rw [tw_cons hb] at *
      simp only [Bool.false_eq_true, if_false, ref_name hsm hla (by rw [List.all_cons, hb, tw_all]; rfl), Option.bind_some]
      cases decide ((a :: t.takeWhile isBoth).length ≤ 12) with
      | true =>
        refine ⟨_, rfl, ?_⟩
        simp only [if_true, nextOut, hsp]
        unfold spanL
        rw [tw_cons hb]; rfl
      | false => exact ⟨_, rfl, rfl⟩
  | false =>
    simp only [Bool.false_eq_true, if_false, Option.bind_some]
    cases hda : isDig a with
    | true =>
      have hb : isBoth a = true := by unfold isBoth; rw [hda]; rfl
      have hne : (a :: t).takeWhile isBoth ≠ [] := by rw [tw_cons hb]; exact List.cons_ne_nil _ _
      simp only [if_true, rspanW hl, Option.bind_some, htk, ref_number hsm hne]
      refine ⟨_, rfl, ?_⟩
      have hn : (numR ((a :: t).takeWhile isBoth)).2 = 0 ∨ (numR ((a :: t).takeWhile isBoth)).2 = 2 ∨ (numR ((a :: t).takeWhile isBoth)).2 = 3 := by
        have hd : ∀ b ds, (digs b ds).2 = 0 ∨ (digs b ds).2 = 2 ∨ (digs b ds).2 = 3 := fun b ds => by
          unfold digs
          split
          · split
            · exact .inl rfl
            · exact .inr (.inr rfl)
          · exact .inr (.inl rfl)
        unfold numR
        split
        · exact hd _ _
        · split
          · exact .inr (.inl rfl)
          · exact hd _ _
      rcases hn with h | h | h
      · simp only [h, if_true, nextOut, hsp]; rfl
      · simp only [h]; rfl
      · simp only [h]; rfl
    | false =>
      simp only [Bool.false_eq_true, if_false]
      cases hq : ch a == 39 with
      | true =>
        simp only [if_true, ref_quoted, Option.bind_some]
        cases hqp : quoP (a :: t) with
        | none => exact ⟨_, rfl, rfl⟩
        | some x =>
          obtain ⟨n, k⟩ := x
          have hk := quoP_le hqp
          have e : ((k : Int) == 0) = false := by rw [beq_eq_false_iff_ne]; omega
          simp only [e, Bool.false_eq_true, if_false, sslc_take hk.1, Option.bind_some]
          exact ⟨_, rfl, rfl⟩
      | false =>
        simp only [Bool.false_eq_true, if_false, ref_signs hl, Option.bind_some]
        cases hs : signP (a :: t) with
        | none => exact ⟨_, rfl, rfl⟩
        | some s =>
          obtain ⟨h1, h2, h3⟩ := signP_eq hs
          refine ⟨_, rfl, ?_⟩
          simp only [nextOut]
          rw [← h1]; rfl
end Go.Ab.Tk

namespace Go.Ab.Tk
open Go

def pre2 (a b : Int) : L8 → Bool
  | c :: d :: _ => ch c == a && ch d == b
  | _ => false
theorem pre2_eq (a b : Nat) (ha : a < 256) (hb : b < 256) (r : L8) : Lib.hasPrefix r [UInt8.ofNat a, UInt8.ofNat b] = pre2 a b r := by
  show ([UInt8.ofNat a, UInt8.ofNat b] : L8).isPrefixOf r = _
  match r with
  | [] => rfl
  | [c] => simp [pre2, List.isPrefixOf]
  | c :: d :: r =>
    simp only [pre2, ch_eq ha, ch_eq hb, List.isPrefixOf, Bool.and_true]
    rw [Bool.beq_comm (a := UInt8.ofNat a), Bool.beq_comm (a := UInt8.ofNat b)]
/-- Where a remark ends: as many bytes behind it as it has; none: it does not. -/
def endR : L8 → Option Nat
  | c :: d :: l => if ch c == 42 && ch d == 47 then some 0 else (endR (d :: l)).map (· + 1)
  | _ => none
theorem endR_le : ∀ {l : L8} {i : Nat}, endR l = some i → i + 2 ≤ l.length
  | c :: d :: l, i, h => by
    unfold endR at h
    split at h
    · obtain rfl := Option.some.inj h; simp
    · simp only [Option.map_eq_some_iff] at h
      obtain ⟨j, hj, rfl⟩ := h
      have := endR_le hj
      simp at this ⊢; omega
  | [_], _, h => by cases h
  | [], _, h => by cases h
theorem index_endR : ∀ l : L8, Lib.index l [42, 47] = match endR l with | some i => (i : Int) | none => -1
  | [] => rfl
  | [c] => by
    have hi : Lib.index [c] [42, 47] = if ([42, 47] : L8).isPrefixOf [c] then 0 else if Lib.index [] [42, 47] == -1 then -1 else Lib.index [] [42, 47] + 1 := rfl
    rw [hi]
    have e : ([42, 47] : L8).isPrefixOf [c] = false := by simp [List.isPrefixOf]
    rw [e]; rfl
  | c :: d :: l => by
    have ih := index_endR (d :: l)
    have hi : Lib.index (c :: d :: l) [42, 47] = if ([42, 47] : L8).isPrefixOf (c :: d :: l) then 0 else if Lib.index (d :: l) [42, 47] == -1 then -1 else Lib.index (d :: l) [42, 47] + 1 := rfl
    rw [hi]
    have e : ([42, 47] : L8).isPrefixOf (c :: d :: l) = (ch c == 42 && ch d == 47) := pre2_eq 42 47 (by omega) (by omega) (c :: d :: l)
    rw [e]
    unfold endR
    cases ch c == 42 && ch d == 47 with
    | true => rfl
    | false =>
      simp only [Bool.false_eq_true, if_false]
      rw [ih]
      cases endR (d :: l) with
      | none => rfl
      | some i =>
        have : ((i : Int) == -1) = false := by rw [beq_eq_false_iff_ne]; omega
        simp [this]

/-- How many bytes say nothing; false: a remark does not end. -/
def skipF : Nat → L8 → Nat × Bool
  | 0, _ => (0, true)
  | n + 1, l =>
    if pre2 47 47 (l.drop (spanL isBl l)) then (spanL isBl l + spanL notLF (l.drop (spanL isBl l)) + (skipF n ((l.drop (spanL isBl l)).drop (spanL notLF (l.drop (spanL isBl l))))).1, (skipF n ((l.drop (spanL isBl l)).drop (spanL notLF (l.drop (spanL isBl l))))).2)
    else if pre2 47 42 (l.drop (spanL isBl l)) then (match endR ((l.drop (spanL isBl l)).drop 2) with
      | none => (spanL isBl l, false)
      | some i => (spanL isBl l + (i + 4) + (skipF n ((l.drop (spanL isBl l)).drop (i + 4))).1, (skipF n ((l.drop (spanL isBl l)).drop (i + 4))).2))
    else (spanL isBl l, true)
theorem notLF_pos {r : L8} (h : pre2 47 47 r = true) : 0 < spanL notLF r := by
  match r, h with
  | c :: d :: r, h =>
    simp only [pre2, Bool.and_eq_true, beq_iff_eq] at h
    rw [spanL_cons]
    have : notLF c = true := by unfold notLF; rw [h.1]; rfl
    rw [this, if_pos rfl]; omega
theorem pre2_len {a b : Int} {r : L8} (h : pre2 a b r = true) : 2 ≤ r.length := by
  match r, h with
  | c :: d :: r, _ => simp
theorem skip_le : ∀ n l, (skipF n l).1 ≤ l.length := by
  intro n
  induction n with
  | zero => intro l; simp [skipF]
  | succ n ih =>
    intro l
    have h1 := spanL_le isBl l
    have h2 := spanL_le notLF (l.drop (spanL isBl l))
    unfold skipF
    split
    · have := ih ((l.drop (spanL isBl l)).drop (spanL notLF (l.drop (spanL isBl l))))
      simp only [List.length_drop] at this h2 ⊢
      omega
    · split
      · cases he : endR ((l.drop (spanL isBl l)).drop 2) with
        | none => exact h1
        | some i =>
          have h3 := endR_le he
          have := ih ((l.drop (spanL isBl l)).drop (i + 4))
          simp only [List.length_drop] at this h3 ⊢
          omega
      · exact h1
theorem skip_fuel : ∀ n m l, l.length < n → l.length < m → skipF n l = skipF m l := by
  intro n
  induction n with
  | zero => intro m l h; omega
  | succ n ih =>
    intro m l h1 h2
    cases m with
    | zero => omega
    | succ m =>
      have k1 := spanL_le isBl l
      have k2 := spanL_le notLF (l.drop (spanL isBl l))
      unfold skipF
      cases hp : pre2 47 47 (l.drop (spanL isBl l)) with
      | true =>
        have := notLF_pos hp
        simp only [List.length_drop] at k2
        simp only [if_true]
        rw [ih m _ (by simp only [List.length_drop]; omega) (by simp only [List.length_drop]; omega)]
      | false =>
        cases hp2 : pre2 47 42 (l.drop (spanL isBl l)) with
        | true =>
          simp only [Bool.false_eq_true, if_false, if_true]
          cases he : endR ((l.drop (spanL isBl l)).drop 2) with
          | none => rfl
          | some i =>
            have h3 := endR_le he
            simp only [List.length_drop] at h3
            simp only
            rw [ih m _ (by simp only [List.length_drop]; omega) (by simp only [List.length_drop]; omega)]
        | false => rfl
def skipP (l : L8) : Nat × Bool := skipF (l.length + 1) l
theorem drop_add {l : L8} {a b : Nat} : (l.drop a).drop b = l.drop (a + b) := by rw [List.drop_drop]

/-! ### The program -/
theorem blank_loop {l : L8} (hl : Sm l) : ∀ n p, p ≤ l.length → (l.drop p).length < n → Loop (fun (s : Int) => token_blank_L1 (mkS l) s) (p : Int) = some (.ret (((p + (skipF n (l.drop p)).1 : Nat) : Int), (skipF n (l.drop p)).2)) := by
  intro n
  induction n with
  | zero => intro p _ h; omega
  | succ n ih =>
    intro p hp hn
    rw [Loop_eq]
    have hs := hl
    unfold Sm at hs
    have k1 := spanL_le isBl (l.drop p)
    simp only [List.length_drop] at k1 hn
    have e1 : w64 ((p : Int) + (spanL isBl (l.drop p) : Int)) = ((p + spanL isBl (l.drop p) : Nat) : Int) := by rw [w64_id (by omega) (by omega)]; omega
    have hb : token_blank_L1 (mkS l) (p : Int) = (hasPrefixS (mkS ((l.drop p).drop (spanL isBl (l.drop p)))) (ByteArray.mk #[47, 47])).bind fun x4 =>
      if x4 then ((token_span__f28 (mkS ((l.drop p).drop (spanL isBl (l.drop p))))).bind fun x5 => some (.next (w64 (((p + spanL isBl (l.drop p) : Nat) : Int) + x5))))
      else ((hasPrefixS (mkS ((l.drop p).drop (spanL isBl (l.drop p)))) (ByteArray.mk #[47, 42])).bind fun x6 =>
        if x6 then ((sslc (mkS ((l.drop p).drop (spanL isBl (l.drop p)))) (some 2) none).bind fun x7 => (indexS x7 (ByteArray.mk #[42, 47])).bind fun x8 =>
          if (decide (x8 < 0)) then (some (.out (.ret (((p + spanL isBl (l.drop p) : Nat) : Int), false))))
          else (some (.next (w64 (((p + spanL isBl (l.drop p) : Nat) : Int) + (w64 (x8 + 4)))))))
        else (some (.out (.ret (((p + spanL isBl (l.drop p) : Nat) : Int), true))))) := by
      unfold token_blank_L1
      rw [sslc_drop hp, Option.bind_some, span26 (hl.drop p), Option.bind_some, e1, sslc_drop (by omega), Option.bind_some, drop_add]
    show (token_blank_L1 (mkS l) (p : Int)).bind _ = _
    rw [hb]
    have hpre : ∀ r : L8, hasPrefixS (mkS r) (ByteArray.mk #[47, 47]) = some (pre2 47 47 r) := fun r => congrArg some (pre2_eq 47 47 (by omega) (by omega) r)
    have hpre' : ∀ r : L8, hasPrefixS (mkS r) (ByteArray.mk #[47, 42]) = some (pre2 47 42 r) := fun r => congrArg some (pre2_eq 47 42 (by omega) (by omega) r)
    rw [hpre, hpre', Option.bind_some, Option.bind_some]
    unfold skipF
    generalize hr : (l.drop p).drop (spanL isBl (l.drop p)) = r
    generalize hk : spanL isBl (l.drop p) = k at *
    have hrl : r.length = l.length - p - k := by rw [← hr]; simp only [List.length_drop]
    have hrd : ∀ j, l.drop (p + k + j) = r.drop j := fun j => by rw [← hr]; simp only [List.drop_drop]
    have hsr : Sm r := by rw [← hr]; exact (hl.drop _).drop _
    cases hc : pre2 47 47 r with
    | true =>
      have k2 := spanL_le notLF r
      have k3 := notLF_pos hc
      simp only [if_true, span28 hsr, Option.bind_some]
      have e2 : w64 (((p + k : Nat) : Int) + (spanL notLF r : Int)) = ((p + k + spanL notLF r : Nat) : Int) := by rw [w64_id (by omega) (by omega)]; omega
      have := ih (p + k + spanL notLF r) (by omega) (by rw [hrd, List.length_drop]; omega)
      rw [hrd] at this
      rw [e2, this]
      congr 3; omega
    | false =>
      simp only [Bool.false_eq_true, if_false]
      cases hc2 : pre2 47 42 r with
      | false => rfl
      | true =>
        have k2 := pre2_len hc2
        have e3 : indexS (mkS (r.drop 2)) (ByteArray.mk #[42, 47]) = some (match endR (r.drop 2) with | some i => (i : Int) | none => -1) := by
          unfold indexS
          rw [if_pos (by rw [size_mkS, List.length_drop]; omega), ← index_endR]; rfl
        have e4 : sslc (mkS r) (some 2) none = some (mkS (r.drop 2)) := sslc_drop (k := 2) k2
        simp only [if_true, e4, e3, Option.bind_some]
        cases he : endR (r.drop 2) with
        | none => rfl
        | some i =>
          have k3 := endR_le he
          simp only [List.length_drop] at k3
          have e5 : decide ((i : Int) < 0) = false := by simp only [decide_eq_false_iff_not]; omega
          have e6 : w64 (((p + k : Nat) : Int) + w64 ((i : Int) + 4)) = ((p + k + (i + 4) : Nat) : Int) := by
            rw [w64_id (n := (i : Int) + 4) (by omega) (by omega), w64_id (by omega) (by omega)]; omega
          simp only [e5, Bool.false_eq_true, if_false, Option.bind_some, e6]
          have := ih (p + k + (i + 4)) (by omega) (by rw [hrd, List.length_drop]; omega)
          rw [hrd] at this
          rw [this]
          congr 3; omega
theorem tok_blank {l : L8} (hl : Sm l) : token_blank (mkS l) = some (((skipP l).1 : Int), (skipP l).2) := by
  unfold token_blank
  have := blank_loop hl (l.length + 1) 0 (by omega) (by simp)
  rw [show ((0 : Nat) : Int) = 0 from rfl, List.drop_zero, Nat.zero_add] at this
  rw [this]; rfl

/-! ### All words -/
abbrev Flt := XApi_Fault
def scanF : Nat → Nat → List Tok → L8 → List Tok × Flt
  | 0, _, _, _ => ([], ⟨0, 0⟩)
  | n + 1, at_, out, l =>
    if !(skipP l).2 then ([], ⟨1, ((at_ + (skipP l).1 : Nat) : Int)⟩)
    else if (l.drop (skipP l).1).length = 0 then (out, ⟨0, 0⟩)
    else if out.length = 800 then ([], ⟨10, ((at_ + (skipP l).1 : Nat) : Int)⟩)
    else match nextP (l.drop (skipP l).1) with
      | .inr e => ([], ⟨e, ((at_ + (skipP l).1 : Nat) : Int)⟩)
      | .inl (kd, j, m) => scanF n (at_ + (skipP l).1 + j) (out ++ [⟨kd, mkS ((l.drop (skipP l).1).take j), m, ((at_ + (skipP l).1 : Nat) : Int)⟩]) ((l.drop (skipP l).1).drop j)
theorem nextP_len {r : L8} (hr : r ≠ []) {kd m : Int} {j : Nat} (h : nextP r = .inl (kd, j, m)) : 0 < j ∧ j ≤ r.length := by
  match r, hr with
  | a :: t, _ =>
    rw [nextP_cons] at h
    have hw : isBoth a = true → 0 < ((a :: t).takeWhile isBoth).length ∧ ((a :: t).takeWhile isBoth).length ≤ (a :: t).length := fun hb => ⟨by rw [tw_cons hb]; simp, (List.takeWhile_prefix _).length_le⟩
    split at h
    · have hb : isBoth a = true := by unfold isBoth; rename_i hh; rw [hh]; simp
      split at h
      · simp only [Sum.inl.injEq, Prod.mk.injEq] at h
        rw [← h.2.1]; exact hw hb
      · split at h
        · simp only [Sum.inl.injEq, Prod.mk.injEq] at h
          rw [← h.2.1]; exact hw hb
        · cases h
    · split at h
      · have hb : isBoth a = true := by unfold isBoth; rename_i hh; rw [hh]; rfl
        split at h
        · simp only [Sum.inl.injEq, Prod.mk.injEq] at h
          rw [← h.2.1]; exact hw hb
        · split at h <;> cases h
      · split at h
        · split at h
          · rename_i hq
            simp only [Sum.inl.injEq, Prod.mk.injEq] at h
            obtain ⟨_, rfl, _⟩ := h
            exact ⟨(quoP_le hq).2, (quoP_le hq).1⟩
          · cases h
        · split at h
          · rename_i hs
            simp only [Sum.inl.injEq, Prod.mk.injEq] at h
            obtain ⟨_, rfl, _⟩ := h
            exact ⟨(signP_eq hs).2.2, (signP_eq hs).2.1⟩
          · cases h
theorem nextP_err {r : L8} {e : Int} (h : nextP r = .inr e) : e = 12 ∨ e = 3 ∨ e = 1 := by
  unfold nextP at h
  simp only at h
  repeat' (split at h)
  all_goals first | (simp only [Sum.inr.injEq] at h; omega) | cases h
theorem scan_loop {l : L8} (hl : Sm l) : ∀ n p out, p ≤ l.length → out.length ≤ 800 → (l.drop p).length < n → Loop (fun (s : ((List XApi_Token) × Int)) => token_Scan_L1 (mkS l) s.1 s.2) (out, (p : Int)) = some (.ret (scanF n p out (l.drop p))) := by
  intro n
  induction n with
  | zero => intro p out _ _ h; omega
  | succ n ih =>
    intro p out hp ho hn
    rw [Loop_eq]
    have hs := hl
    unfold Sm at hs
    have k1 := skip_le ((l.drop p).length + 1) (l.drop p)
    change (skipP (l.drop p)).1 ≤ _ at k1
    simp only [List.length_drop] at k1 hn
    have e1 : w64 ((p : Int) + ((skipP (l.drop p)).1 : Int)) = ((p + (skipP (l.drop p)).1 : Nat) : Int) := by rw [w64_id (by omega) (by omega)]; omega
    show (token_Scan_L1 (mkS l) out (p : Int)).bind _ = _
    unfold token_Scan_L1 scanF
    rw [sslc_drop hp, Option.bind_some, tok_blank (hl.drop p), Option.bind_some]
    simp only [e1]
    generalize hk : skipP (l.drop p) = sk at *
    obtain ⟨k, ok⟩ := sk
    simp only at k1 ⊢
    cases ok with
    | false => rfl
    | true =>
      simp only [Bool.not_true, Bool.false_eq_true, if_false, size_mkS, drop_add, List.length_drop]
      by_cases hend : l.length - (p + k) = 0
      · have e2 : (((p + k : Nat) : Int) == (l.length : Int)) = true := by rw [beq_iff_eq]; omega
        simp only [e2, hend, if_true]; rfl
      · have e2 : (((p + k : Nat) : Int) == (l.length : Int)) = false := by rw [beq_eq_false_iff_ne]; omega
        simp only [e2, hend, Bool.false_eq_true, if_false]
        by_cases h8 : out.length = 800
        · have e3 : ((out.length : Int) == 800) = true := by rw [beq_iff_eq]; omega
          simp only [e3, h8, if_true]; rfl
        · have e3 : ((out.length : Int) == 800) = false := by rw [beq_eq_false_iff_ne]; omega
          simp only [e3, h8, Bool.false_eq_true, if_false]
          rw [sslc_drop (by omega), Option.bind_some]
          have hne : l.drop (p + k) ≠ [] := fun h => by
            have := congrArg List.length h
            rw [List.length_drop] at this
            exact hend this
          obtain ⟨y, hy, hout⟩ : ∃ y, token_next (mkS (l.drop (p + k))) = some y ∧ nextOut (l.drop (p + k)) (nextP (l.drop (p + k))) y := by
            cases hd : l.drop (p + k) with
            | nil => exact absurd hd hne
            | cons a t => exact tok_next (by rw [← hd]; exact hl.drop _)
          rw [hy, Option.bind_some]
          cases hN : nextP (l.drop (p + k)) with
          | inr e =>
            rw [hN] at hout
            simp only [nextOut] at hout
            have he := nextP_err hN
            have e4 : (y.2.2 != 0) = true := by rw [hout]; rcases he with rfl | rfl | rfl <;> rfl
            rw [e4, if_pos rfl, hout]; rfl
          | inl x =>
            obtain ⟨kd, j, m⟩ := x
            rw [hN] at hout
            simp only [nextOut] at hout
            subst hout
            obtain ⟨j0, j1⟩ := nextP_len hne hN
            rw [List.length_drop] at j1
            have e4 : ((0 : Int) != 0) = false := by decide
            simp only [e4, Bool.false_eq_true, if_false]
            have ea : ∀ x : Tok, app out [x] = some (out ++ [x]) := fun x => by unfold app; rw [if_pos (by simp; omega)]
            have e5 : w64 (((p + k : Nat) : Int) + (j : Int)) = ((p + k + j : Nat) : Int) := by rw [w64_id (by omega) (by omega)]; omega
            rw [ea, Option.bind_some, e5]
            exact ih (p + k + j) _ (by omega) (by simp; omega) (by rw [List.length_drop]; omega)
def scanP (l : L8) : List Tok × Flt := if decide (2000 < l.length) then ([], ⟨2, 0⟩) else scanF (l.length + 1) 0 [] l
theorem tok_scan {l : L8} (hl : Sm l) : token_Scan (mkS l) = some (scanP l) := by
  unfold token_Scan scanP
  rw [size_mkS]
  have e : decide ((2000 : Int) < (l.length : Int)) = decide (2000 < l.length) := by apply decide_eq_decide.2; omega
  rw [e]
  cases decide (2000 < l.length) with
  | true => rfl
  | false =>
    have := scan_loop hl (l.length + 1) 0 [] (by omega) (by simp) (by simp)
    rw [show ((0 : Nat) : Int) = 0 from rfl, List.drop_zero] at this
    simp only [Bool.false_eq_true, if_false]
    rw [this]; rfl
end Go.Ab.Tk

namespace Go.Ab.Tk
open Go

theorem cons_drop {l : L8} {p : Nat} {c : UInt8} {t : L8} (h : l.drop p = c :: t) : p < l.length ∧ l.length = p + 1 + t.length ∧ sidx (mkS l) (p : Int) = some c ∧ l.drop (p + 1) = t := by
  have hlen := congrArg List.length h
  rw [List.length_drop, List.length_cons] at hlen
  have hp : p < l.length := by omega
  refine ⟨hp, by omega, ?_, ?_⟩
  · rw [sidx_mkS hp]
    have := List.drop_eq_getElem_cons hp
    rw [h] at this
    simp only [List.cons.injEq] at this
    rw [this.1]
  · rw [← drop_add, h]; rfl
theorem r3 {l : L8} (hl : Sm l) : ∀ n q, l.length - q = n → q ≤ l.length → ∃ v : Nat, Loop (fun (s : Int) => ref1_Scan_L3 (mkS l) s) (q : Int) = some (v : Int) ∧ v ≤ l.length ∧ (match endR (l.drop q) with | some i => v = q + i | none => l.length ≤ v + 1) := by
  intro n
  have hs := hl
  unfold Sm at hs
  induction n with
  | zero =>
    intro q hk hq
    obtain rfl : q = l.length := by omega
    refine ⟨l.length, ?_, Nat.le_refl _, ?_⟩
    · rw [Loop_eq]
      unfold ref1_Scan_L3
      rw [w64_succ (by omega), if_neg (by rw [size_mkS]; simp only [decide_eq_true_eq]; omega)]; rfl
    · rw [List.drop_length]; show l.length ≤ l.length + 1; omega
  | succ n ih =>
    intro q hk hq
    cases hd : l.drop q with
    | nil =>
      have := congrArg List.length hd
      rw [List.length_drop] at this
      simp at this; omega
    | cons c t =>
      obtain ⟨hp, hlen, hc, ht⟩ := cons_drop hd
      cases t with
      | nil =>
        simp only [List.length_nil] at hlen
        refine ⟨q, ?_, hq, ?_⟩
        · rw [Loop_eq]
          unfold ref1_Scan_L3
          rw [w64_succ (by omega), if_neg (by rw [size_mkS]; simp only [decide_eq_true_eq]; omega)]; rfl
        · show l.length ≤ q + 1; omega
      | cons d t =>
        simp only [List.length_cons] at hlen
        obtain ⟨hp', hlen', hc', ht'⟩ := cons_drop ht
        have hstep : ref1_Scan_L3 (mkS l) (q : Int) = some (if ch c == 42 && ch d == 47 then .out (q : Int) else .next ((q + 1 : Nat) : Int)) := by
          unfold ref1_Scan_L3
          rw [w64_succ (by omega), if_pos (by rw [size_mkS]; simp only [decide_eq_true_eq]; omega), hc, hc']
          simp only [Option.bind_some]
          have b1 : (ch c != 42) = !(ch c == 42) := rfl
          have b2 : (ch d != 47) = !(ch d == 47) := rfl
          rw [b1, b2]
          cases ch c == 42 <;> cases ch d == 47 <;> rfl
        rw [Loop_eq, hstep]
        unfold endR
        cases ch c == 42 && ch d == 47 with
        | true => exact ⟨q, rfl, hq, rfl⟩
        | false =>
          simp only [Bool.false_eq_true, if_false, Option.bind_some]
          obtain ⟨v, h1, h2, h3⟩ := ih (q + 1) (by omega) (by omega)
          refine ⟨v, h1, h2, ?_⟩
          rw [ht] at h3
          cases he : endR (d :: t) with
          | none => rw [he] at h3; exact h3
          | some i =>
            rw [he] at h3
            simp only [Option.map_some] at h3 ⊢
            omega
theorem pre2_cons (a b : Int) (c : UInt8) (t : L8) : pre2 a b (c :: t) = (ch c == a && match t with | d :: _ => ch d == b | [] => false) := by
  cases t with
  | nil => simp [pre2]
  | cons d t => rfl
/-- The reference's test whether a remark begins. -/
theorem rp {l : L8} (hl : Sm l) {p : Nat} {c : UInt8} {t : L8} (hd : l.drop p = c :: t) (b : Int) : (if (if (ch c == 47) then (decide ((w64 ((p : Int) + 1)) < ((mkS l).size : Int))) else false) then
 ((sidx (mkS l) (w64 ((p : Int) + 1))).bind fun x3 => some ((x3.toNat : Int) == b)) else (some false)) = some (pre2 47 b (c :: t)) := by
  obtain ⟨hp, hlen, hc, ht⟩ := cons_drop hd
  have hs := hl
  unfold Sm at hs
  rw [w64_succ (by omega), pre2_cons, size_mkS]
  cases h47 : ch c == 47 with
  | false => rfl
  | true =>
    cases t with
    | nil =>
      simp only [List.length_nil] at hlen
      have : decide (((p + 1 : Nat) : Int) < (l.length : Int)) = false := by simp only [decide_eq_false_iff_not]; omega
      simp only [if_true, this, Bool.false_eq_true, if_false]; rfl
    | cons d t =>
      simp only [List.length_cons] at hlen
      obtain ⟨_, _, hc', _⟩ := cons_drop ht
      have : decide (((p + 1 : Nat) : Int) < (l.length : Int)) = true := by simp only [decide_eq_true_eq]; omega
      simp only [this, if_true, hc', Option.bind_some, Bool.true_and]
noncomputable def RLoop (l : L8) (out : List Tok) (p : Nat) := Loop (fun (s : ((List XApi_Token) × Int)) => ref1_Scan_L1 (mkS l) s.1 s.2) (out, (p : Int))
abbrev BrS := Br (List XApi_Token) ((List XApi_Token) × XApi_Fault)
theorem ref_blanks {l : L8} (hl : Sm l) (out : List Tok) : ∀ n p, l.length - p = n → p ≤ l.length → RLoop l out p = RLoop l out (p + spanL isBl (l.drop p)) := by
  intro n
  have hs := hl
  unfold Sm at hs
  induction n with
  | zero =>
    intro p hk hp
    obtain rfl : p = l.length := by omega
    rw [List.drop_length]; rfl
  | succ n ih =>
    intro p hk hp
    cases hd : l.drop p with
    | nil => rfl
    | cons c t =>
      obtain ⟨hp', hlen, hc, ht⟩ := cons_drop hd
      rw [spanL_cons]
      cases hb : isBl c with
      | false => rfl
      | true =>
        rw [if_pos rfl]
        have : RLoop l out p = RLoop l out (p + 1) := by
          unfold RLoop
          rw [Loop_eq]
          have hst : ref1_Scan_L1 (mkS l) out (p : Int) = some (.next (out, ((p + 1 : Nat) : Int))) := by
            unfold ref1_Scan_L1
            rw [if_pos (by rw [size_mkS]; simp only [decide_eq_true_eq]; omega), hc, Option.bind_some, ite_or, ite_or]
            rw [if_pos (show ((ch c == 32) || (ch c == 9) || (ch c == 10)) = true from hb), w64_succ (by omega)]
          simp only
          rw [hst]; rfl
        rw [this, ih (p + 1) (by omega) (by omega), ht]
        congr 1; omega
theorem ref_skip {l : L8} (hl : Sm l) (out : List Tok) : ∀ n p, p ≤ l.length → (l.drop p).length < n →
    (if (skipF n (l.drop p)).2 then RLoop l out p = RLoop l out (p + (skipF n (l.drop p)).1) ∧ (match l.drop (p + (skipF n (l.drop p)).1) with | [] => True | c :: t => isBl c = false ∧ pre2 47 47 (c :: t) = false ∧ pre2 47 42 (c :: t) = false)
     else RLoop l out p = some (.ret ([], ⟨1, ((p + (skipF n (l.drop p)).1 : Nat) : Int)⟩))) := by
  intro n
  have hs := hl
  unfold Sm at hs
  induction n with
  | zero => intro p _ h; omega
  | succ n ih =>
    intro p hp hn
    have k1 := spanL_le isBl (l.drop p)
    simp only [List.length_drop] at k1 hn
    have hbl := ref_blanks hl out _ p rfl hp
    unfold skipF
    generalize hk : spanL isBl (l.drop p) = k at *
    generalize hr : (l.drop p).drop k = r
    have hr' : l.drop (p + k) = r := by rw [← hr, drop_add]
    have hrd : ∀ j, l.drop (p + k + j) = r.drop j := fun j => by rw [← hr', drop_add]
    have hrl : r.length = l.length - p - k := by rw [← hr']; simp only [List.length_drop]; omega
    cases hr0 : r with
    | nil =>
      simp only [pre2, Bool.false_eq_true, if_false, if_true]
      refine ⟨hbl, ?_⟩
      rw [hr', hr0]; trivial
    | cons c t =>
      rw [hr0] at hr'
      obtain ⟨hp', hlen, hc, ht⟩ := cons_drop hr'
      have hnb : isBl c = false := by
        have h1 : (l.drop p).drop (spanL isBl (l.drop p)) = c :: t := by rw [hk, drop_add]; exact hr'
        clear ih hbl hk
        generalize l.drop p = m at h1
        induction m with
        | nil => simp at h1
        | cons x m ihm =>
          rw [spanL_cons] at h1
          cases hx : isBl x with
          | true =>
            rw [hx, if_pos rfl, List.drop_succ_cons] at h1
            exact ihm h1
          | false =>
            rw [hx, if_neg (by simp), List.drop_zero] at h1
            simp only [List.cons.injEq] at h1
            rw [← h1.1]; exact hx
      have h0 : (if (if (ch c == 32) = true then true else (ch c == 9)) = true then true else (ch c == 10)) = false := by rw [ite_or, ite_or]; exact hnb
      cases hc1 : pre2 47 47 (c :: t) with
      | true =>
        have k2 := spanL_le notLF r
        have k3 := notLF_pos hc1
        rw [← hr0] at k3 ⊢
        simp only [if_true]
        have hst : RLoop l out (p + k) = RLoop l out (p + k + spanL notLF r) := by
          unfold RLoop
          rw [Loop_eq]
          have hst : ref1_Scan_L1 (mkS l) out ((p + k : Nat) : Int) = some (.next (out, ((p + k + spanL notLF r : Nat) : Int))) := by
            unfold ref1_Scan_L1
            rw [if_pos (by rw [size_mkS]; simp only [decide_eq_true_eq]; omega), hc, Option.bind_some, if_neg (by rw [h0]; simp)]
            have := rp hl hr' 47
            rw [hc1] at this
            simp only [this, Option.bind_some, if_true]
            rw [rspanLF hl (by omega), Option.bind_some, hr', ← hr0]
          simp only
          rw [hst]; rfl
        have := ih (p + k + spanL notLF r) (by omega) (by rw [hrd, List.length_drop]; omega)
        rw [hrd] at this
        rw [hbl, hst]
        have e : p + (k + spanL notLF r + (skipF n (r.drop (spanL notLF r))).1) = p + k + spanL notLF r + (skipF n (r.drop (spanL notLF r))).1 := by omega
        rw [e]; exact this
      | false =>
        simp only [Bool.false_eq_true, if_false]
        cases hc2 : pre2 47 42 (c :: t) with
        | false =>
          simp only [Bool.false_eq_true, if_false, if_true]
          refine ⟨hbl, ?_⟩
          rw [hr']; exact ⟨hnb, hc1, hc2⟩
        | true =>
          have k2 := pre2_len hc2
          rw [← hr0] at k2 ⊢
          simp only [if_true]
          obtain ⟨v, hv, hv2, hv3⟩ := r3 hl _ (p + k + 2) rfl (by omega)
          rw [hrd] at hv3
          have e2 : w64 (((p + k : Nat) : Int) + 2) = ((p + k + 2 : Nat) : Int) := by rw [w64_id (by omega) (by omega)]; omega
          have hst : ref1_Scan_L1 (mkS l) out ((p + k : Nat) : Int) = if (decide (((mkS l).size : Int) ≤ ((v + 1 : Nat) : Int))) then some (.out (.ret ([], ⟨1, ((p + k : Nat) : Int)⟩))) else some (.next (out, ((v + 2 : Nat) : Int))) := by
            unfold ref1_Scan_L1
            rw [if_pos (by rw [size_mkS]; simp only [decide_eq_true_eq]; omega), hc, Option.bind_some, if_neg (by rw [h0]; simp)]
            have h1 := rp hl hr' 47
            have h2 := rp hl hr' 42
            rw [hc1] at h1
            rw [hc2] at h2
            have e3 : w64 ((v : Int) + 2) = ((v + 2 : Nat) : Int) := by rw [w64_id (by omega) (by omega)]; omega
            simp only [h1, h2, Option.bind_some, Bool.false_eq_true, if_false, if_true, e2, hv, w64_succ (i := v) (by omega), e3]
            rfl
          cases he : endR (r.drop 2) with
          | none =>
            rw [he] at hv3
            simp only at hv3
            simp only [Bool.false_eq_true, if_false]
            rw [hbl]
            unfold RLoop
            rw [Loop_eq]
            simp only
            rw [hst, if_pos (by rw [size_mkS]; simp only [decide_eq_true_eq]; omega)]; rfl
          | some i =>
            have k3 := endR_le he
            rw [List.length_drop] at k3
            rw [he] at hv3
            simp only at hv3
            subst hv3
            simp only
            have hst2 : RLoop l out (p + k) = RLoop l out (p + k + (i + 4)) := by
              unfold RLoop
              rw [Loop_eq]
              simp only
              rw [hst, if_neg (by rw [size_mkS]; simp only [decide_eq_true_eq]; omega)]
              show Loop _ (out, ((p + k + 2 + i + 2 : Nat) : Int)) = _
              congr 2; omega
            have := ih (p + k + (i + 4)) (by omega) (by rw [hrd, List.length_drop]; omega)
            rw [hrd] at this
            rw [hbl, hst2]
            have e : p + (k + (i + 4) + (skipF n (r.drop (i + 4))).1) = p + k + (i + 4) + (skipF n (r.drop (i + 4))).1 := by omega
            rw [e]; exact this
theorem rscan_loop {l : L8} (hl : Sm l) : ∀ n p out, p ≤ l.length → out.length ≤ 800 → (l.drop p).length < n → (RLoop l out p).bind (Br.go (fun v3 => some (v3, XApi_Fault.mk 0 0)) (fun r1 => some r1)) = some (scanF n p out (l.drop p)) := by
  intro n
  have hs := hl
  unfold Sm at hs
  induction n with
  | zero => intro p out _ _ h; omega
  | succ n ih =>
    intro p out hp ho hn
    have hsk := ref_skip hl out ((l.drop p).length + 1) p hp (Nat.lt_succ_self _)
    have k1 := skip_le ((l.drop p).length + 1) (l.drop p)
    change (if (skipP (l.drop p)).2 = true then RLoop l out p = RLoop l out (p + (skipP (l.drop p)).1) ∧ (match l.drop (p + (skipP (l.drop p)).1) with | [] => True | c :: t => isBl c = false ∧ pre2 47 47 (c :: t) = false ∧ pre2 47 42 (c :: t) = false)
     else RLoop l out p = some (.ret ([], ⟨1, ((p + (skipP (l.drop p)).1 : Nat) : Int)⟩))) at hsk
    change (skipP (l.drop p)).1 ≤ _ at k1
    simp only [List.length_drop] at k1 hn
    unfold scanF
    generalize hk : skipP (l.drop p) = sk at *
    obtain ⟨k, ok⟩ := sk
    simp only at k1 hsk ⊢
    cases ok with
    | false =>
      simp only [Bool.false_eq_true, if_false] at hsk
      rw [hsk]; rfl
    | true =>
      simp only [if_true] at hsk
      obtain ⟨h1, h2⟩ := hsk
      rw [h1]
      simp only [Bool.not_true, Bool.false_eq_true, if_false, drop_add]
      cases hd : l.drop (p + k) with
      | nil =>
        have := congrArg List.length hd
        rw [List.length_drop, List.length_nil] at this
        simp only [List.length_nil, if_true]
        unfold RLoop
        rw [Loop_eq]
        have : ref1_Scan_L1 (mkS l) out ((p + k : Nat) : Int) = some (.out (.brk out)) := by
          unfold ref1_Scan_L1
          rw [if_neg (by rw [size_mkS]; simp only [decide_eq_true_eq]; omega)]
        simp only
        rw [this]; rfl
      | cons c t =>
        rw [hd] at h2
        simp only at h2
        obtain ⟨hnb, hc1, hc2⟩ := h2
        obtain ⟨hp', hlen, hc, ht⟩ := cons_drop hd
        have hz : ¬ ((c :: t).length = 0) := by simp
        rw [if_neg hz]
        have h0 : (if (if (ch c == 32) = true then true else (ch c == 9)) = true then true else (ch c == 10)) = false := by rw [ite_or, ite_or]; exact hnb
        have hst : ref1_Scan_L1 (mkS l) out ((p + k : Nat) : Int) = if ((out.length : Int) == 800) then some (.out (.ret ([], ⟨10, ((p + k : Nat) : Int)⟩))) else (ref1_next (mkS (c :: t))).bind fun x11 => if (x11.2.2 == 2) then (ref1_Scan_J1 out ((p + k : Nat) : Int) x11 1) else (ref1_Scan_J1 out ((p + k : Nat) : Int) x11 x11.2.2) := by
          unfold ref1_Scan_L1
          rw [if_pos (by rw [size_mkS]; simp only [decide_eq_true_eq]; omega), hc, Option.bind_some, if_neg (by rw [h0]; simp)]
          have e1 := rp hl hd 47
          have e2 := rp hl hd 42
          rw [hc1] at e1
          rw [hc2] at e2
          simp only [e1, e2, Option.bind_some, Bool.false_eq_true, if_false]
          rw [sslc_drop (by omega), Option.bind_some, hd]; rfl
        unfold RLoop
        rw [Loop_eq]
        simp only
        rw [hst]
        by_cases h8 : out.length = 800
        · have e3 : ((out.length : Int) == 800) = true := by rw [beq_iff_eq]; omega
          simp only [e3, h8, if_true]; rfl
        · have e3 : ((out.length : Int) == 800) = false := by rw [beq_eq_false_iff_ne]; omega
          simp only [e3, h8, Bool.false_eq_true, if_false]
          obtain ⟨y, hy, hout⟩ := ref_next (a := c) (t := t) (by rw [← hd]; exact hl.drop _)
          rw [hy, Option.bind_some]
          have hj : (if (y.2.2 == 2) then (ref1_Scan_J1 out ((p + k : Nat) : Int) y 1) else (ref1_Scan_J1 out ((p + k : Nat) : Int) y y.2.2)) = ref1_Scan_J1 out ((p + k : Nat) : Int) y (if y.2.2 = 2 then 1 else y.2.2) := by
            by_cases h : y.2.2 = 2
            · simp [h]
            · have : (y.2.2 == 2) = false := beq_eq_false_iff_ne.2 h
              simp [this, h]
          rw [hj]
          generalize (if y.2.2 = 2 then 1 else y.2.2) = e at hout
          have hne : c :: t ≠ [] := List.cons_ne_nil _ _
          cases hN : nextP (c :: t) with
          | inr e' =>
            rw [hN] at hout
            simp only [nextOut] at hout
            have he := nextP_err hN
            subst hout
            unfold ref1_Scan_J1
            have e4 : (e != 0) = true := by rcases he with rfl | rfl | rfl <;> rfl
            rw [e4, if_pos rfl]; rfl
          | inl x =>
            obtain ⟨kd, j, m⟩ := x
            rw [hN] at hout
            simp only [nextOut, Prod.mk.injEq] at hout
            obtain ⟨hy1, hy2, rfl⟩ := hout
            obtain ⟨j0, j1⟩ := nextP_len hne hN
            have j2 : (c :: t).length = l.length - (p + k) := by rw [← hd, List.length_drop]
            unfold ref1_Scan_J1
            have e4 : ((0 : Int) != 0) = false := by decide
            have ea : ∀ x : Tok, app out [x] = some (out ++ [x]) := fun x => by unfold app; rw [if_pos (by simp; omega)]
            have e5 : w64 (((p + k : Nat) : Int) + (j : Int)) = ((p + k + j : Nat) : Int) := by rw [w64_id (by omega) (by omega)]; omega
            simp only [e4, Bool.false_eq_true, if_false, ea, Option.bind_some, hy1, hy2, e5]
            exact ih (p + k + j) _ (by omega) (by simp; omega) (by rw [List.length_drop]; omega)
theorem ref_scan {l : L8} (hl : Sm l) : ref1_Scan (mkS l) = some (scanP l) := by
  unfold ref1_Scan scanP
  rw [size_mkS]
  have e : decide ((2000 : Int) < (l.length : Int)) = decide (2000 < l.length) := by apply decide_eq_decide.2; omega
  rw [e]
  cases decide (2000 < l.length) with
  | true => rfl
  | false =>
    have := rscan_loop hl (l.length + 1) 0 [] (by omega) (by simp) (by simp)
    rw [List.drop_zero] at this
    simp only [Bool.false_eq_true, if_false]
    exact this
/-! ### Words compared -/
def sameT (x y : Tok) : Bool := (x.Kind == y.Kind) && ((x.Text.toList == y.Text.toList) && ((x.N == y.N) && ((x.At == y.At) && true)))
theorem sameT_eq {x y : Tok} (h : sameT x y = true) : x = y := by
  unfold sameT at h
  simp only [Bool.and_eq_true, beq_iff_eq, ba_toList, and_true] at h
  obtain ⟨h1, h2, h3, h4⟩ := h
  obtain ⟨k, t, n, a⟩ := x
  obtain ⟨k', t', n', a'⟩ := y
  simp only at h1 h2 h3 h4
  have : t = t' := by rw [← mkS_bl t, ← mkS_bl t', h2]
  simp [h1, this, h3, h4]
theorem sameT_refl (x : Tok) : sameT x x = true := by simp [sameT]
theorem same_tokens {a b : List Tok} (ha : a.length ≤ 4000000) : same_Tokens a b = some (decide (a = b)) := by
  unfold same_Tokens
  by_cases hlen : a.length = b.length
  · have e : ((a.length : Int) != (b.length : Int)) = false := by
      rw [show ((a.length : Int) != (b.length : Int)) = !((a.length : Int) == (b.length : Int)) from rfl, Bool.not_eq_false', beq_iff_eq]; omega
    rw [e, if_neg (by simp)]
    have := Loop_find (l := a.zip b) (fun _ (x : Tok × Tok) => if sameT x.1 x.2 then none else some false) (step := same_Tokens_L1 a b) (fun i h => by
      have hz : i < a.length ∧ i < b.length := by rw [List.length_zip] at h; omega
      unfold same_Tokens_L1
      rw [if_pos (by simp only [decide_eq_true_eq]; omega), idx_lt hz.1, Option.bind_some, idx_lt hz.2, Option.bind_some, w64_succ (by omega)]
      have hg : (a.zip b)[i] = (a[i]'hz.1, b[i]'hz.2) := List.getElem_zip
      rw [hg]
      show (if (!sameT a[i] b[i]) = true then _ else _) = _
      cases sameT (a[i]'hz.1) (b[i]'hz.2) <;> rfl) (by
      have hz : (a.zip b).length = a.length := by rw [List.length_zip]; omega
      unfold same_Tokens_L1
      rw [hz, if_neg (by simp)])
    have h2 := findI_all (fun x : Tok × Tok => sameT x.1 x.2) false (a.zip b) 0
    rw [this, h2]
    have h3 : (a.zip b).all (fun x => sameT x.1 x.2) = decide (a = b) := by
      clear this h2 e ha
      induction a generalizing b with
      | nil => cases b with
        | nil => rfl
        | cons y b => simp at hlen
      | cons x a ih =>
        cases b with
        | nil => simp at hlen
        | cons y b =>
          rw [List.zip_cons_cons, List.all_cons, ih (by simpa using hlen)]
          cases hx : sameT x y with
          | true => rw [sameT_eq hx]; simp
          | false =>
            have : ¬ (x :: a = y :: b) := fun h => by
              simp only [List.cons.injEq] at h
              rw [h.1, sameT_refl] at hx; cases hx
            simp [this]
    rw [h3]
    cases decide (a = b) <;> rfl
  · have e : ((a.length : Int) != (b.length : Int)) = true := by
      rw [show ((a.length : Int) != (b.length : Int)) = !((a.length : Int) == (b.length : Int)) from rfl, Bool.not_eq_true', beq_eq_false_iff_ne]; omega
    rw [e, if_pos rfl]
    have : a ≠ b := fun h => hlen (by rw [h])
    simp [this]
theorem scanF_len : ∀ n at_ out l, out.length ≤ 800 → (scanF n at_ out l).1.length ≤ 800 := by
  intro n
  induction n with
  | zero => intro at_ out l h; simp [scanF]
  | succ n ih =>
    intro at_ out l h
    unfold scanF
    split
    · simp
    · split
      · exact h
      · split
        · simp
        · split
          · simp
          · exact ih _ _ _ (by simp; omega)
theorem scanP_len (l : L8) : (scanP l).1.length ≤ 800 := by
  unfold scanP
  split
  · simp
  · exact scanF_len _ _ _ _ (by simp)
theorem tokenSays_true (s : ByteArray) : law1_TokenSays s = some true := by
  unfold law1_TokenSays
  by_cases h3 : 3000 < s.size
  · rw [if_pos (by simp only [decide_eq_true_eq]; omega)]
  · rw [if_neg (by simp only [decide_eq_true_eq]; omega)]
    have hl : Sm (bl s) := by unfold Sm; rw [← size_bl]; omega
    have h1 := tok_scan hl
    have h2 := ref_scan hl
    rw [mkS_bl] at h1 h2
    rw [h1, h2, Option.bind_some, Option.bind_some, same_tokens (by have := scanP_len (bl s); omega)]
    simp
end Go.Ab.Tk
