/-
  PLAIN LAWS (words): strings as lists of bytes; spans.
-/
/-
  PLAIN LAWS (words): bytes' classes, spans, what says nothing.
-/
/-
  PLAIN LAWS (words): numbers.
-/
/-
  PLAIN LAWS (words): the library's numbers.
-/
import Derived.Test.YtkgjhnmpcnjooaaDoorAbV6
import Derived.Test.YtkgjhnmpcnjooaaDoorAbL0
import Derived.Test.YtkgjhnmpcnjooaaDoorAbGen4
namespace Go.Ab.Tk
open Go

abbrev L8 := List UInt8
def mkS (l : L8) : ByteArray := ⟨l.toArray⟩
def bl (s : ByteArray) : L8 := s.data.toList
@[simp] theorem bl_mkS (l : L8) : bl (mkS l) = l := rfl
@[simp] theorem mkS_bl (s : ByteArray) : mkS (bl s) = s := by cases s; simp [mkS, bl]
@[simp] theorem size_mkS (l : L8) : (mkS l).size = l.length := by simp [mkS, ByteArray.size]
theorem size_bl (s : ByteArray) : s.size = (bl s).length := by cases s; simp [bl, ByteArray.size]
theorem mkS_inj {a b : L8} (h : mkS a = mkS b) : a = b := by
  have := congrArg bl h
  simpa using this
theorem bal_loop (s : ByteArray) : ∀ (k i : Nat) (r : L8), s.size - i = k → i ≤ s.size → ByteArray.toList.loop s i r = r.reverse ++ (bl s).drop i := by
  intro k
  induction k with
  | zero =>
    intro i r hk hi
    unfold ByteArray.toList.loop
    rw [if_neg (by omega), List.drop_eq_nil_of_le (by rw [← size_bl]; omega)]; simp
  | succ k ih =>
    intro i r hk hi
    unfold ByteArray.toList.loop
    have hlt : i < s.size := by omega
    have hlt' : i < (bl s).length := by rw [← size_bl]; exact hlt
    rw [if_pos hlt, ih (i + 1) _ (by omega) (by omega), List.drop_eq_getElem_cons hlt']
    have : s.get! i = (bl s)[i] := by
      have : s.get! i = s.data[i]! := by cases s; rfl
      rw [this]
      have h2 : i < s.data.size := hlt
      simp only [bl, Array.getElem_toList]
      exact getElem!_pos s.data i h2
    simp [this]
theorem ba_toList (s : ByteArray) : s.toList = bl s := by
  unfold ByteArray.toList
  rw [bal_loop s _ 0 [] rfl (Nat.zero_le _)]; simp
theorem beq_mkS (a b : L8) : ((mkS a).toList == (mkS b).toList) = (a == b) := by rw [ba_toList, ba_toList]; rfl
theorem sidx_mkS {l : L8} {i : Nat} (h : i < l.length) : sidx (mkS l) (i : Int) = some l[i] := by
  unfold sidx
  rw [if_pos (by omega)]
  show (mkS l)[(i : Int).toNat]? = _
  have h' : (i : Int).toNat < (mkS l).size := by simpa using h
  rw [getElem?_pos (mkS l) ((i : Int).toNat) h']
  show some ((mkS l).data[(i : Int).toNat]) = _
  simp [mkS]
theorem sidx0 {c : UInt8} {l : L8} : sidx (mkS (c :: l)) 0 = some c := sidx_mkS (i := 0) (by simp)
theorem sidx1 {c d : UInt8} {l : L8} : sidx (mkS (c :: d :: l)) 1 = some d := sidx_mkS (i := 1) (by simp)
theorem extract_mkS (l : L8) (a b : Nat) : (mkS l).extract a b = mkS ((l.take b).drop a) := by
  have h : ∀ s t : ByteArray, s.data = t.data → s = t := fun s t h => by cases s; cases t; simp_all
  apply h
  rw [ByteArray.data_extract]
  simp [mkS, List.extract_eq_take_drop]
  rw [List.drop_take]
theorem sslc_drop {l : L8} {k : Nat} (h : k ≤ l.length) : sslc (mkS l) (some (k : Int)) none = some (mkS (l.drop k)) := by
  unfold sslc bounds
  simp [extract_mkS]
  omega
theorem sslc_take {l : L8} {k : Nat} (h : k ≤ l.length) : sslc (mkS l) none (some (k : Int)) = some (mkS (l.take k)) := by
  unfold sslc bounds
  simp [extract_mkS]
  omega
/-! ### Spans -/
def spanL (p : UInt8 → Bool) (l : L8) : Nat := (l.takeWhile p).length
theorem spanL_le (p : UInt8 → Bool) (l : L8) : spanL p l ≤ l.length := by
  unfold spanL
  exact (List.takeWhile_prefix p).length_le
theorem spanL_cons (p : UInt8 → Bool) (c : UInt8) (l : L8) : spanL p (c :: l) = if p c then spanL p l + 1 else 0 := by
  unfold spanL
  rw [List.takeWhile_cons]
  cases p c <;> simp
theorem take_spanL (p : UInt8 → Bool) (l : L8) : l.take (spanL p l) = l.takeWhile p := by
  unfold spanL
  exact (List.prefix_iff_eq_take.1 (List.takeWhile_prefix p)).symm
/-- A loop that goes on while the bytes are so; from the place k on. -/
theorem Loop_span {σ τ : Type} {l : L8} (p : UInt8 → Bool) (pack : Int → σ) (out : Int → τ) {step : σ → Option (Lp σ τ)}
    (hs : ∀ i (h : i < l.length), step (pack (i : Int)) = some (if p l[i] then .next (pack ((i + 1 : Nat) : Int)) else .out (out (i : Int)))) (he : step (pack (l.length : Int)) = some (.out (out (l.length : Int)))) :
    ∀ k, k ≤ l.length → Loop step (pack (k : Int)) = some (out ((k + spanL p (l.drop k) : Nat) : Int)) := by
  have key : ∀ n k, l.length - k = n → k ≤ l.length → Loop step (pack (k : Int)) = some (out ((k + spanL p (l.drop k) : Nat) : Int)) := by
    intro n
    induction n with
    | zero =>
      intro k hk hle
      obtain rfl : k = l.length := by omega
      rw [Loop_eq, he, List.drop_length]; rfl
    | succ n ih =>
      intro k hk hle
      have hlt : k < l.length := by omega
      rw [Loop_eq, hs k hlt, List.drop_eq_getElem_cons hlt, spanL_cons]
      cases p l[k]
      · rfl
      · simp only [if_true, Option.bind_some]
        rw [ih (k + 1) (by omega) (by omega)]
        congr 3; omega
  exact fun k => key _ k rfl
end Go.Ab.Tk

namespace Go.Ab.Tk
open Go

theorem bsf {α : Type} {o : Option α} : (o.bind fun x => some x) = o := by cases o <;> rfl
abbrev ch (c : UInt8) : Int := (c.toNat : Int)
def isBl (c : UInt8) : Bool := ch c == 32 || ch c == 9 || ch c == 10
def notLF (c : UInt8) : Bool := ch c != 10
def isDig (c : UInt8) : Bool := decide (48 ≤ ch c) && decide (ch c ≤ 57)
def isLet (c : UInt8) : Bool := (decide (97 ≤ ch c) && decide (ch c ≤ 122)) || (decide (65 ≤ ch c) && decide (ch c ≤ 90)) || ch c == 95
def isBoth (c : UInt8) : Bool := isDig c || isLet c
def isHex (c : UInt8) : Bool := isDig c || (decide (97 ≤ ch c) && decide (ch c ≤ 102)) || (decide (65 ≤ ch c) && decide (ch c ≤ 70))
theorem ite_or {a b : Bool} : (if a = true then true else b) = (a || b) := by cases a <;> rfl
theorem ite_and {a b : Bool} : (if a = true then b else false) = (a && b) := by cases a <;> rfl
theorem ch_lt (c : UInt8) : ch c < 256 := by have := c.toNat_lt; simp only [ch]; omega
theorem ch_ge (c : UInt8) : 0 ≤ ch c := by simp only [ch]; omega

theorem blank1 (c : UInt8) : token_blank_1 (ch c) = some (isBl c) := by simp only [token_blank_1, ite_or, isBl]
theorem blank2 (c : UInt8) : token_blank_2 (ch c) = some (notLF c) := rfl
theorem digit1 (c : UInt8) : token_digit (ch c) = some (isDig c) := by simp only [token_digit, ite_and, isDig]
theorem letter1 (c : UInt8) : token_letter (ch c) = some (isLet c) := by simp only [token_letter, ite_or, ite_and, isLet]
theorem both1 (c : UInt8) : token_both (ch c) = some (isBoth c) := by
  simp only [token_both, digit1, letter1, Option.bind_some, isBoth]
  cases isDig c <;> rfl
theorem hex1 (c : UInt8) : token_number_1 (ch c) = some (isHex c) := by simp only [token_number_1, digit1, Option.bind_some, ite_or, ite_and, isHex]
theorem rdigit1 (c : UInt8) : ref1_digit (ch c) = some (isDig c) := by simp only [ref1_digit, ite_and, isDig]
theorem rletter1 (c : UInt8) : ref1_letter (ch c) = some (isLet c) := by simp only [ref1_letter, ite_or, ite_and, isLet]

abbrev Sm (l : L8) : Prop := l.length ≤ 4000000
theorem Sm.drop {l : L8} (h : Sm l) (k : Nat) : Sm (l.drop k) := by unfold Sm at *; rw [List.length_drop]; omega
theorem Sm.take {l : L8} (h : Sm l) (k : Nat) : Sm (l.take k) := by unfold Sm at *; rw [List.length_take]; omega

theorem span_of {l : L8} {p : UInt8 → Bool} {f : ByteArray → Int → Option (Lp Int Int)} {q : UInt8 → Option Bool} (hl : Sm l) (hq : ∀ c, q c = some (p c))
    (hf : ∀ y, f (mkS l) y = (if (decide (y < ((mkS l).size : Int))) then ((sidx (mkS l) y).bind fun x1 => q x1) else (some false)).bind fun p1 => if p1 then (some (.next (w64 (y + 1)))) else (some (.out y))) :
    ∀ k, k ≤ l.length → Loop (fun s => f (mkS l) s) (k : Int) = some ((k + spanL p (l.drop k) : Nat) : Int) := by
  refine Loop_span p (fun i => i) (fun i => i) (fun i h => ?_) ?_
  · show f (mkS l) i = _
    rw [hf, if_pos (by simpa using h), sidx_mkS h, Option.bind_some, hq, Option.bind_some, w64_succ (by unfold Sm at hl; omega)]
    cases p l[i] <;> rfl
  · show f (mkS l) _ = _
    rw [hf, if_neg (by simp)]; rfl
theorem span26 {l : L8} (hl : Sm l) : token_span__f26 (mkS l) = some (spanL isBl l : Int) := by
  unfold token_span__f26
  have := span_of (f := token_span__f26_L1) hl blank1 (fun y => by unfold token_span__f26_L1; simp only [bsf]) 0 (by omega)
  rw [show ((0 : Nat) : Int) = 0 from rfl, List.drop_zero, Nat.zero_add] at this
  rw [this]; rfl
theorem span28 {l : L8} (hl : Sm l) : token_span__f28 (mkS l) = some (spanL notLF l : Int) := by
  unfold token_span__f28
  have := span_of (f := token_span__f28_L1) hl blank2 (fun y => by unfold token_span__f28_L1; simp only [bsf]) 0 (by omega)
  rw [show ((0 : Nat) : Int) = 0 from rfl, List.drop_zero, Nat.zero_add] at this
  rw [this]; rfl
theorem span31 {l : L8} (hl : Sm l) : token_span__f31 (mkS l) = some (spanL isBoth l : Int) := by
  unfold token_span__f31
  have := span_of (f := token_span__f31_L1) hl both1 (fun y => by unfold token_span__f31_L1; simp only [bsf]) 0 (by omega)
  rw [show ((0 : Nat) : Int) = 0 from rfl, List.drop_zero, Nat.zero_add] at this
  rw [this]; rfl
theorem span34 {l : L8} (hl : Sm l) : token_span__f34 (mkS l) = some (spanL isDig l : Int) := by
  unfold token_span__f34
  have := span_of (f := token_span__f34_L1) hl digit1 (fun y => by unfold token_span__f34_L1; simp only [bsf]) 0 (by omega)
  rw [show ((0 : Nat) : Int) = 0 from rfl, List.drop_zero, Nat.zero_add] at this
  rw [this]; rfl
theorem span53 {l : L8} (hl : Sm l) : token_span__f53 (mkS l) = some (spanL isHex l : Int) := by
  unfold token_span__f53
  have := span_of (f := token_span__f53_L1) hl hex1 (fun y => by unfold token_span__f53_L1; simp only [bsf]) 0 (by omega)
  rw [show ((0 : Nat) : Int) = 0 from rfl, List.drop_zero, Nat.zero_add] at this
  rw [this]; rfl
theorem rspanW {l : L8} (hl : Sm l) : Loop (fun (s : Int) => ref1_next_L1 (mkS l) s) 0 = some (spanL isBoth l : Int) := by
  have := span_of (f := ref1_next_L1) (q := fun c => some (isBoth c)) hl (fun _ => rfl) (fun y => by
    unfold ref1_next_L1
    split
    · cases hc : sidx (mkS l) y with
      | none => rfl
      | some c =>
        simp only [Option.bind_some, rletter1, rdigit1, isBoth]
        cases isLet c <;> cases isDig c <;> rfl
    · rfl) 0 (by omega)
  rw [show ((0 : Nat) : Int) = 0 from rfl, List.drop_zero, Nat.zero_add] at this
  exact this
theorem rspanLF {l : L8} (hl : Sm l) {k : Nat} (hk : k ≤ l.length) : Loop (fun (s : Int) => ref1_Scan_L2 (mkS l) s) (k : Int) = some ((k + spanL notLF (l.drop k) : Nat) : Int) :=
  span_of (f := ref1_Scan_L2) (q := fun c => some (notLF c)) hl (fun _ => rfl) (fun y => rfl) k hk
end Go.Ab.Tk

namespace Go.Ab.Tk
open Go

theorem Loop_tot {σ τ : Type} {step : σ → Option (Lp σ τ)} (Inv : σ → Prop) (μ : σ → Nat) (hs : ∀ s, Inv s → ∃ y, step s = some y ∧ ∀ s', y = .next s' → Inv s' ∧ μ s' < μ s) : ∀ {s}, Inv s → ∃ x, Loop step s = some x := by
  have key : ∀ n s, μ s = n → Inv s → ∃ x, Loop step s = some x := by
    intro n
    induction n using Nat.strongRecOn with
    | ind n ih =>
      intro s hn hI
      obtain ⟨y, h1, h2⟩ := hs s hI
      rw [Loop_eq, h1]
      cases y with
      | next s' => obtain ⟨h3, h4⟩ := h2 s' rfl; exact ih _ (hn ▸ h4) s' rfl h3
      | out x => exact ⟨x, rfl⟩
  intro s h
  exact key _ _ rfl h

def MX : Int := 9223372036854775807
def UM : Int := 18446744073709551615
theorem u64_id {x : Int} (h0 : 0 ≤ x) (h1 : x ≤ 18446744073709551615) : IntKind.u64.wrap x = x := by
  simp only [IntKind.wrap, IntKind.bits, IntKind.signed]
  simp
  omega
theorem u64_over {x : Int} (h0 : 18446744073709551616 ≤ x) (h1 : x ≤ 36893488147419103231) : IntKind.u64.wrap x = x - 18446744073709551616 := by
  simp only [IntKind.wrap, IntKind.bits, IntKind.signed]
  simp
  omega
theorem u8_id {x : Int} (h0 : 0 ≤ x) (h1 : x ≤ 255) : IntKind.u8.wrap x = x := by
  simp only [IntKind.wrap, IntKind.bits, IntKind.signed]
  simp
  omega

/-! ### Digits -/
def valD (c : UInt8) : Int := if isDig c then ch c - 48 else if decide (97 ≤ ch c) && decide (ch c ≤ 102) then ch c - 87 else if decide (65 ≤ ch c) && decide (ch c ≤ 70) then ch c - 55 else -1
def vok (b : Int) (c : UInt8) : Bool := decide (0 ≤ valD c) && decide (valD c < b)
def lowC (c : UInt8) : Int := orK .u8 (ch c) 32
theorem lower1 (c : UInt8) : internal_strconv_lower (ch c) = some (lowC c) := rfl
def pv (c : UInt8) : Option Int := if isDig c then some (ch c - 48) else if decide (97 ≤ lowC c) && decide (lowC c ≤ 122) then some (lowC c - 97 + 10) else none
theorem all256 {P : UInt8 → Bool} (h : (List.range 256).all (fun n => P (UInt8.ofNat n)) = true) (c : UInt8) : P c = true := by
  have := List.all_eq_true.1 h c.toNat (List.mem_range.2 c.toNat_lt)
  simpa using this
theorem pv_ok : ∀ c, (match pv c with | some d => decide (0 ≤ d) && decide (d < 36) && (if vok 16 c then d == valD c else decide (16 ≤ d)) && (if vok 10 c then d == valD c else decide (10 ≤ d)) | none => !vok 16 c && !vok 10 c) = true := all256 (by decide +kernel)
theorem low_rng : ∀ c, (decide (0 ≤ lowC c) && decide (lowC c ≤ 255)) = true := all256 (by decide +kernel)
theorem value1 (c : UInt8) : ref1_value (ch c) = some (valD c) := by
  have h1 := ch_lt c; have h0 := ch_ge c
  unfold ref1_value valD
  simp only [rdigit1, Option.bind_some, ite_and]
  have e1 : w64 (ch c) = ch c := w64_id (by omega) (by omega)
  rw [e1]
  split
  · rw [w64_id (by omega) (by omega)]
  · split
    · rw [w64_id (by omega) (by omega)]
    · split
      · rw [w64_id (by omega) (by omega)]
      · rfl

/-! ### The reference's number -/
def acc (b : Int) : Int → L8 → Int
  | n, [] => n
  | n, c :: l => acc b (n * b + valD c) l
theorem acc_ge {b : Int} (hb : 1 ≤ b) : ∀ {l : L8} {n : Int}, 0 ≤ n → l.all (vok b) = true → n ≤ acc b n l
  | [], n, _, _ => Int.le_refl _
  | c :: l, n, hn, h => by
    simp only [List.all_cons, Bool.and_eq_true] at h
    have hv := h.1
    simp only [vok, Bool.and_eq_true, decide_eq_true_eq] at hv
    have h1 : n * 1 ≤ n * b := Int.mul_le_mul_of_nonneg_left hb hn
    have := acc_ge hb (l := l) (n := n * b + valD c) (by omega) h.2
    simp only [acc]
    omega
abbrev BrN := Br (Int × Bool) (Int × Int)
theorem rstep {l : L8} {b : Int} (hl : Sm l) (hb : b = 10 ∨ b = 16) {k : Nat} (h : k < l.length) {n : Int} {big : Bool} (hn : 0 ≤ n ∧ n ≤ MX) :
    ref1_number_L1 (mkS l) b n big (k : Int) = some (if !vok b l[k] then .out (.ret (0, 2)) else if big || decide (MX < n * b + valD l[k]) then .next (n, true, ((k + 1 : Nat) : Int)) else .next (n * b + valD l[k], false, ((k + 1 : Nat) : Int))) := by
  unfold ref1_number_L1
  rw [if_pos (by simpa using h), sidx_mkS h, Option.bind_some, value1, Option.bind_some]
  have e0 : (if decide (valD l[k] < 0) = true then true else decide (b ≤ valD l[k])) = !vok b l[k] := by
    rw [ite_or]; unfold vok
    by_cases h1 : valD l[k] < 0
    · have : ¬ (0 ≤ valD l[k]) := by omega
      simp [h1, this]
    · by_cases h2 : b ≤ valD l[k]
      · have : ¬ (valD l[k] < b) := by omega
        simp [h1, h2, this]
      · have a1 : 0 ≤ valD l[k] := by omega
        have a2 : valD l[k] < b := by omega
        simp [h1, h2, a1, a2]
  rw [e0]
  cases hv : vok b l[k] with
  | false => rfl
  | true =>
    simp only [Bool.not_true, Bool.false_eq_true, if_false]
    have hv' := hv
    simp only [vok, Bool.and_eq_true, decide_eq_true_eq] at hv'
    have hm := hn.2
    simp only [MX] at hm
    have es : w64 ((k : Int) + 1) = ((k + 1 : Nat) : Int) := w64_succ (by unfold Sm at hl; omega)
    cases big with
    | true => simp only [if_true, Option.bind_some, ref1_number_J2, es, Bool.true_or]
    | false =>
      have e1 : w64 (9223372036854775807 - valD l[k]) = 9223372036854775807 - valD l[k] := w64_id (by rcases hb with rfl | rfl <;> omega) (by omega)
      have e2 : qdiv .i64 (w64 (9223372036854775807 - valD l[k])) b = some ((9223372036854775807 - valD l[k]) / b) := by
        rw [e1]
        unfold qdiv
        rw [if_neg (by rcases hb with rfl | rfl <;> omega)]
        congr 1
        rw [Int.tdiv_eq_ediv_of_nonneg (by rcases hb with rfl | rfl <;> omega)]
        exact w64_id (by rcases hb with rfl | rfl <;> omega) (by rcases hb with rfl | rfl <;> omega)
      have e3 : decide ((9223372036854775807 - valD l[k]) / b < n) = decide (MX < n * b + valD l[k]) := by
        apply decide_eq_decide.2
        simp only [MX]
        rcases hb with rfl | rfl <;> omega
      simp only [Bool.false_eq_true, if_false, e2, Option.bind_some, e3, Bool.false_or]
      by_cases hg : MX < n * b + valD l[k]
      · simp only [hg, decide_true, if_true, ref1_number_J2, es]
      · simp only [hg, decide_false, Bool.false_eq_true, if_false, ref1_number_J2, es]
        simp only [MX] at hg
        have e4 : w64 (n * b) = n * b := w64_id (by rcases hb with rfl | rfl <;> omega) (by rcases hb with rfl | rfl <;> omega)
        rw [e4, w64_id (by rcases hb with rfl | rfl <;> omega) (by rcases hb with rfl | rfl <;> omega)]
theorem rbig {l : L8} {b : Int} (hl : Sm l) (hb : b = 10 ∨ b = 16) {n : Int} (hn : 0 ≤ n ∧ n ≤ MX) : ∀ m k, l.length - k = m → k ≤ l.length →
    Loop (fun (s : (Int × Bool × Int)) => ref1_number_L1 (mkS l) b s.1 s.2.1 s.2.2) (n, true, (k : Int)) = some (if (l.drop k).all (vok b) then .brk (n, true) else .ret (0, 2)) := by
  intro m
  induction m with
  | zero =>
    intro k hk hle
    obtain rfl : k = l.length := by omega
    rw [Loop_eq, List.drop_length]
    simp [ref1_number_L1]
  | succ m ih =>
    intro k hk hle
    have hlt : k < l.length := by omega
    rw [Loop_eq]
    simp only
    rw [rstep hl hb hlt hn, List.drop_eq_getElem_cons hlt, List.all_cons]
    cases hv : vok b l[k] with
    | false => simp
    | true =>
      simp only [Bool.not_true, Bool.false_eq_true, if_false, Bool.true_or, if_true, Option.bind_some, Bool.true_and]
      exact ih (k + 1) (by omega) (by omega)
theorem rsm {l : L8} {b : Int} (hl : Sm l) (hb : b = 10 ∨ b = 16) : ∀ m k n, l.length - k = m → k ≤ l.length → 0 ≤ n → n ≤ MX →
    ∃ z, Loop (fun (s : (Int × Bool × Int)) => ref1_number_L1 (mkS l) b s.1 s.2.1 s.2.2) (n, false, (k : Int)) = some (if (l.drop k).all (vok b) then (if acc b n (l.drop k) ≤ MX then .brk (acc b n (l.drop k), false) else .brk (z, true)) else .ret (0, 2)) := by
  intro m
  induction m with
  | zero =>
    intro k n hk hle h0 h1
    obtain rfl : k = l.length := by omega
    refine ⟨0, ?_⟩
    rw [Loop_eq, List.drop_length]
    simp [ref1_number_L1, acc, h1]
  | succ m ih =>
    intro k n hk hle h0 h1
    have hlt : k < l.length := by omega
    rw [Loop_eq]
    simp only
    rw [rstep hl hb hlt ⟨h0, h1⟩, List.drop_eq_getElem_cons hlt, List.all_cons]
    cases hv : vok b l[k] with
    | false => exact ⟨0, by simp⟩
    | true =>
      have hv' := hv
      simp only [vok, Bool.and_eq_true, decide_eq_true_eq] at hv'
      have hnb : 0 ≤ n * b := by rcases hb with rfl | rfl <;> omega
      have ea : acc b n (l[k] :: l.drop (k + 1)) = acc b (n * b + valD l[k]) (l.drop (k + 1)) := rfl
      rw [ea]
      simp only [Bool.not_true, Bool.false_eq_true, if_false, Bool.false_or, Bool.true_and]
      by_cases hg : MX < n * b + valD l[k]
      · refine ⟨n, ?_⟩
        simp only [hg, decide_true, if_true, Option.bind_some]
        rw [rbig hl hb ⟨h0, h1⟩ _ (k + 1) rfl (by omega)]
        cases ha : (l.drop (k + 1)).all (vok b) with
        | false => rfl
        | true =>
          have := acc_ge (b := b) (by rcases hb with rfl | rfl <;> omega) (n := n * b + valD l[k]) (by omega) ha
          rw [if_pos rfl, if_pos rfl, if_neg (by omega)]
      · simp only [hg, decide_false, Bool.false_eq_true, if_false, Option.bind_some]
        exact ih (k + 1) _ (by omega) (by omega) (by omega) (by omega)
def digs (b : Int) (ds : L8) : Int × Int := if ds.all (vok b) then (if acc b 0 ds ≤ MX then (acc b 0 ds, 0) else (0, 3)) else (0, 2)
theorem rnum {l : L8} {b : Int} (hl : Sm l) (hb : b = 10 ∨ b = 16) {k : Nat} (hk : k ≤ l.length) : ref1_number_J1 (mkS l) b (k : Int) = some (digs b (l.drop k)) := by
  unfold ref1_number_J1
  obtain ⟨z, hz⟩ := rsm hl hb _ k 0 rfl hk (by omega) (by unfold MX; omega)
  rw [hz]
  unfold digs
  cases (l.drop k).all (vok b) with
  | false => rfl
  | true =>
    by_cases h : acc b 0 (l.drop k) ≤ MX
    · simp [h, Br.go]
    · simp [h, Br.go]
def hexP : L8 → Bool
  | a :: b :: _ :: _ => ch a == 48 && (ch b == 120 || ch b == 88)
  | _ => false
def numR (w : L8) : Int × Int := if hexP w then digs 16 (w.drop 2) else if decide (1 < w.length) && ch (w.headD 0) == 48 then (0, 2) else digs 10 w
theorem ref_number {w : L8} (hl : Sm w) (hw : w ≠ []) : ref1_number (mkS w) = some (numR w) := by
  unfold ref1_number numR
  have h10 := rnum (b := 10) hl (.inl rfl) (k := 0) (by omega)
  rw [show ((0 : Nat) : Int) = 0 from rfl, List.drop_zero] at h10
  match w, hw, hl with
  | [a], _, hl => simp [h10, hexP]
  | [a, b], _, hl =>
    simp only [size_mkS, List.length_cons, List.length_nil, sidx0, Option.bind_some, h10, hexP]
    simp
    cases hc : ch a == 48 <;> simp_all
  | a :: b :: c :: w, _, hl =>
    have h16 := rnum (b := 16) hl (.inr rfl) (k := 2) (by simp)
    rw [show ((2 : Nat) : Int) = 2 from rfl] at h16
    have e2 : decide (2 < (((a :: b :: c :: w).length : Nat) : Int)) = true := by simp; omega
    have e1 : decide (1 < (((a :: b :: c :: w).length : Nat) : Int)) = true := by simp; omega
    have e3 : decide (1 < (a :: b :: c :: w).length) = true := by simp
    simp only [size_mkS, e2, e1, e3, if_true, sidx0, sidx1, Option.bind_some, h10, h16, hexP, List.headD_cons]
    generalize (ch a == 48) = p; generalize (ch b == 120) = q; generalize (ch b == 88) = r
    cases p <;> cases q <;> cases r <;> rfl
end Go.Ab.Tk

namespace Go.Ab.Tk
open Go

abbrev BrU := Br (Bool × Int) (Int × Er)
def baseOk (b : Int) : Prop := b = 2 ∨ b = 8 ∨ b = 10 ∨ b = 16
theorem bytesI_mkS (l : L8) : bytesI (mkS l) = l.map ch := rfl
/-- What a byte does to the number so far. -/
def uStep (b : Int) (n : Int) (c : UInt8) : Option Int ⊕ (Int × Er) :=
  if ch c == 95 then .inl none else match pv c with
    | none => .inr (0, .code 2)
    | some d => if b ≤ d then .inr (0, .code 2) else if UM < n * b + d then .inr (UM, .code 1) else .inl (some (n * b + d))
theorem pv_lt {c : UInt8} {d : Int} (h : pv c = some d) : 0 ≤ d ∧ d < 36 := by
  have := pv_ok c
  rw [h] at this
  simp only [Bool.and_eq_true, decide_eq_true_eq] at this
  exact this.1.1
def J5out (u : Bool) (k : Nat) (b n d : Int) : Lp (Bool × Int × Int) BrU :=
  if b ≤ d then .out (.ret (0, .code 2)) else if UM < n * b + d then .out (.ret (UM, .code 1)) else .next (u, n * b + d, ((k + 1 : Nat) : Int))
theorem j5 {b cut n d : Int} {u : Bool} {k : Nat} (hk : k < 4000000) (hb : baseOk b) (hc : cut = UM / b + 1) (hn : 0 ≤ n ∧ n ≤ UM) (hd : 0 ≤ d ∧ d < 36) :
    internal_strconv_ParseUint_J5 b cut 0 u n (k : Int) d = some (J5out u k b n d) := by
  subst hc
  have hn2 := hn.2
  simp only [UM] at hn2
  unfold internal_strconv_ParseUint_J5 J5out
  have eb : IntKind.u8.wrap b = b := u8_id (by rcases hb with rfl | rfl | rfl | rfl <;> omega) (by rcases hb with rfl | rfl | rfl | rfl <;> omega)
  have eb2 : IntKind.u64.wrap b = b := u64_id (by rcases hb with rfl | rfl | rfl | rfl <;> omega) (by rcases hb with rfl | rfl | rfl | rfl <;> omega)
  have ed : IntKind.u64.wrap d = d := u64_id (by omega) (by omega)
  have em : IntKind.u64.wrap (0 - 1) = UM := by decide
  rw [eb, eb2, ed, em]
  by_cases h1 : b ≤ d
  · simp [h1]
  · simp only [h1, decide_false, Bool.false_eq_true, if_false]
    by_cases h2 : UM / b + 1 ≤ n
    · have h3 : UM < n * b + d := by simp only [UM] at h2 ⊢; rcases hb with rfl | rfl | rfl | rfl <;> omega
      simp [h2, h3]
    · simp only [h2, decide_false, Bool.false_eq_true, if_false]
      simp only [UM] at h2
      have enb : IntKind.u64.wrap (n * b) = n * b := u64_id (by rcases hb with rfl | rfl | rfl | rfl <;> omega) (by rcases hb with rfl | rfl | rfl | rfl <;> omega)
      rw [enb]
      by_cases h3 : UM < n * b + d
      · have e1 : IntKind.u64.wrap (n * b + d) = n * b + d - 18446744073709551616 := u64_over (by simp only [UM] at h3; omega) (by rcases hb with rfl | rfl | rfl | rfl <;> omega)
        have h4 : n * b + d - 18446744073709551616 < n * b := by omega
        simp [e1, h4, h3]
      · have e1 : IntKind.u64.wrap (n * b + d) = n * b + d := u64_id (by rcases hb with rfl | rfl | rfl | rfl <;> omega) (by simp only [UM] at h3; omega)
        have h4 : ¬ (n * b + d < n * b) := by omega
        rw [e1]
        simp only [h4, h3, decide_false, Bool.false_eq_true, if_false, internal_strconv_ParseUint_J4]
        rw [w64_succ (by omega)]
theorem ustep {l : L8} {b cut : Int} (hl : Sm l) (hb : baseOk b) (hc : cut = UM / b + 1) {k : Nat} (h : k < l.length) {n : Int} {u : Bool} (hn : 0 ≤ n ∧ n ≤ UM) :
    internal_strconv_ParseUint_L1 0 (mkS l) b cut 0 u n (k : Int) = some (if ch l[k] == 95 then .next (true, n, ((k + 1 : Nat) : Int)) else match pv l[k] with | none => .out (.ret (0, .code 2)) | some d => J5out u k b n d) := by
  unfold internal_strconv_ParseUint_L1
  have hk : k < 4000000 := by unfold Sm at hl; omega
  have hi : idx (bytesI (mkS l)) (k : Int) = some (ch l[k]) := by
    rw [bytesI_mkS, idx_lt (by simpa using h)]; simp
  rw [if_pos (by simpa [bytesI_mkS] using h), hi, Option.bind_some]
  have h1 := ch_lt l[k]; have h0 := ch_ge l[k]
  generalize hcc : l[k] = c at *
  by_cases hu : ch c == 95
  · have : ((0 : Int) == 0) = true := rfl
    simp only [hu, if_true, this, internal_strconv_ParseUint_J4, w64_succ (by omega : k < 9223372036854775807)]
  · simp only [hu, Bool.false_eq_true, if_false]
    unfold pv
    by_cases hd : isDig c = true
    · have hd2 := hd
      unfold isDig at hd2
      simp only [Bool.and_eq_true, decide_eq_true_eq] at hd2
      have e1 : (if decide (48 ≤ ch c) = true then decide (ch c ≤ 57) else false) = true := by rw [ite_and]; exact hd
      rw [if_pos e1, if_pos hd, u8_id (by omega) (by omega)]
      exact j5 hk hb hc hn (by omega)
    · have hd2 := hd
      unfold isDig at hd2
      have e1 : ¬ (if decide (48 ≤ ch c) = true then decide (ch c ≤ 57) else false) = true := by rw [ite_and]; exact hd
      rw [if_neg e1, if_neg hd]
      simp only [lower1, Option.bind_some]
      have hr := low_rng c
      simp only [Bool.and_eq_true, decide_eq_true_eq] at hr
      by_cases h97 : 97 ≤ lowC c
      · simp only [h97, decide_true, if_true, Option.bind_some, Bool.true_and]
        by_cases h122 : lowC c ≤ 122
        · simp only [h122, decide_true, if_true]
          rw [u8_id (x := lowC c - 97) (by omega) (by omega), u8_id (by omega) (by omega)]
          exact j5 hk hb hc hn (by omega)
        · simp [h122]
      · simp [h97]
theorem J5_rng {u u' : Bool} {k : Nat} {b n d n' k' : Int} (hb : baseOk b) (hn : 0 ≤ n ∧ n ≤ UM) (hd : 0 ≤ d ∧ d < 36) (h : J5out u k b n d = .next (u', n', k')) : (0 ≤ n' ∧ n' ≤ UM) ∧ k' = ((k + 1 : Nat) : Int) := by
  unfold J5out at h
  split at h
  · cases h
  · split at h
    · cases h
    · simp only [Lp.next.injEq, Prod.mk.injEq] at h
      obtain ⟨_, rfl, rfl⟩ := h
      have : 0 ≤ n * b := by rcases hb with rfl | rfl | rfl | rfl <;> omega
      exact ⟨⟨by omega, by omega⟩, rfl⟩
/-- The loop ends, with a number that fits or with one of two errors. -/
theorem utot {l : L8} {b cut : Int} (hl : Sm l) (hb : baseOk b) (hc : cut = UM / b + 1) : ∀ m k u n, l.length - k = m → k ≤ l.length → 0 ≤ n → n ≤ UM →
    ∃ x, Loop (fun (s : (Bool × Int × Int)) => internal_strconv_ParseUint_L1 0 (mkS l) b cut 0 s.1 s.2.1 s.2.2) (u, n, (k : Int)) = some x ∧ (match x with | .brk (_, n') => 0 ≤ n' ∧ n' ≤ UM | .ret r => r = (0, .code 2) ∨ r = (UM, .code 1)) := by
  intro m
  induction m with
  | zero =>
    intro k u n hk hle h0 h1
    obtain rfl : k = l.length := by omega
    refine ⟨.brk (u, n), ?_, h0, h1⟩
    rw [Loop_eq]
    simp [internal_strconv_ParseUint_L1, bytesI_mkS]
  | succ m ih =>
    intro k u n hk hle h0 h1
    have hlt : k < l.length := by omega
    rw [Loop_eq]
    simp only
    rw [ustep hl hb hc hlt ⟨h0, h1⟩]
    cases hu : ch l[k] == 95 with
    | true =>
      simp only [if_true, Option.bind_some]
      exact ih (k + 1) _ _ (by omega) (by omega) h0 h1
    | false =>
      simp only [Bool.false_eq_true, if_false]
      cases hp : pv l[k] with
      | none => exact ⟨_, rfl, .inl rfl⟩
      | some d =>
        simp only [Option.bind_some]
        have hd := pv_lt hp
        cases hj : J5out u k b n d with
        | next s =>
          obtain ⟨u', n', k'⟩ := s
          obtain ⟨⟨a1, a2⟩, rfl⟩ := J5_rng hb ⟨h0, h1⟩ hd hj
          exact ih (k + 1) _ _ (by omega) (by omega) a1 a2
        | out x =>
          refine ⟨x, rfl, ?_⟩
          unfold J5out at hj
          split at hj
          · cases hj; exact .inl rfl
          · split at hj
            · cases hj; exact .inr rfl
            · cases hj
/-- Where no byte is '_': what the loop says of digits of the base ten or sixteen. -/
theorem uexact {l : L8} {b cut : Int} (hl : Sm l) (hb : b = 10 ∨ b = 16) (hc : cut = UM / b + 1) (h95 : ∀ c ∈ l, (ch c == 95) = false) : ∀ m k u n, l.length - k = m → k ≤ l.length → 0 ≤ n → n ≤ UM →
    ∃ x, Loop (fun (s : (Bool × Int × Int)) => internal_strconv_ParseUint_L1 0 (mkS l) b cut 0 s.1 s.2.1 s.2.2) (u, n, (k : Int)) = some x ∧ (if (l.drop k).all (vok b) then (if acc b n (l.drop k) ≤ UM then x = .brk (u, acc b n (l.drop k)) else x = .ret (UM, .code 1)) else x = .ret (0, .code 2) ∨ x = .ret (UM, .code 1)) := by
  have hb4 : baseOk b := by rcases hb with rfl | rfl <;> simp [baseOk]
  intro m
  induction m with
  | zero =>
    intro k u n hk hle h0 h1
    obtain rfl : k = l.length := by omega
    refine ⟨.brk (u, n), ?_, ?_⟩
    · rw [Loop_eq]
      simp [internal_strconv_ParseUint_L1, bytesI_mkS]
    · rw [List.drop_length]; simp [acc, h1]
  | succ m ih =>
    intro k u n hk hle h0 h1
    have hlt : k < l.length := by omega
    rw [Loop_eq]
    simp only
    rw [ustep hl hb4 hc hlt ⟨h0, h1⟩, List.drop_eq_getElem_cons hlt, List.all_cons, h95 _ (List.getElem_mem hlt)]
    simp only [Bool.false_eq_true, if_false]
    have ea : acc b n (l[k] :: l.drop (k + 1)) = acc b (n * b + valD l[k]) (l.drop (k + 1)) := rfl
    rw [ea]
    have hpo := pv_ok l[k]
    have hnb : 0 ≤ n * b := by rcases hb with rfl | rfl <;> omega
    cases hp : pv l[k] with
    | none =>
      rw [hp] at hpo
      simp only [Bool.and_eq_true, Bool.not_eq_true'] at hpo
      have hv : vok b l[k] = false := by rcases hb with rfl | rfl <;> simp [hpo]
      refine ⟨_, rfl, ?_⟩
      rw [hv]; simp
    | some d =>
      rw [hp] at hpo
      simp only [Bool.and_eq_true, decide_eq_true_eq] at hpo
      obtain ⟨⟨⟨hd0, hd1⟩, h16⟩, h10⟩ := hpo
      cases hv : vok b l[k] with
      | false =>
        have hbd : b ≤ d := by
          rcases hb with rfl | rfl
          · rw [hv] at h10; simpa using h10
          · rw [hv] at h16; simpa using h16
        refine ⟨.ret (0, .code 2), ?_, ?_⟩
        · simp [J5out, hbd]
        · simp
      | true =>
        have hdv : d = valD l[k] := by
          rcases hb with rfl | rfl
          · rw [hv] at h10; simpa using h10
          · rw [hv] at h16; simpa using h16
        have hv' := hv
        simp only [vok, Bool.and_eq_true, decide_eq_true_eq] at hv'
        subst hdv
        simp only [Bool.true_and]
        by_cases hg : UM < n * b + valD l[k]
        · refine ⟨.ret (UM, .code 1), ?_, ?_⟩
          · have ej : J5out u k b n (valD l[k]) = .out (.ret (UM, .code 1)) := by
              unfold J5out
              rw [if_neg (by omega), if_pos hg]
            simp only [ej]; rfl
          · cases ha : (l.drop (k + 1)).all (vok b) with
            | false => simp
            | true =>
              have := acc_ge (b := b) (by rcases hb with rfl | rfl <;> omega) (n := n * b + valD l[k]) (by omega) ha
              rw [if_pos rfl, if_neg (by omega)]
        · have ej : J5out u k b n (valD l[k]) = .next (u, n * b + valD l[k], ((k + 1 : Nat) : Int)) := by
            unfold J5out
            rw [if_neg (by omega), if_neg hg]
          simp only [ej, Option.bind_some]
          exact ih (k + 1) _ _ (by omega) (by omega) (by omega) (by omega)
end Go.Ab.Tk
