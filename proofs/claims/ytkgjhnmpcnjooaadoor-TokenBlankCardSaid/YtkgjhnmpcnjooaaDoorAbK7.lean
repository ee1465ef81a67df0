/-
  PLAIN LAWS (words): the library's numbers (2).
-/
/-
  PLAIN LAWS (words): numbers of a text.
-/
/-
  PLAIN LAWS (words): a number with which a text begins.
-/
import Derived.Test.YtkgjhnmpcnjooaaDoorAbK4
namespace Go.Ab.Tk
open Go

theorem under_step {l : L8} (hl : Sm l) (hex : Bool) (saw : Int) {k : Nat} (h : k < l.length) : ∃ y, internal_strconv_underscoreOK_L1 (mkS l) hex saw (k : Int) = some y ∧ ∀ s', y = .next s' → s'.2 = ((k + 1 : Nat) : Int) := by
  unfold internal_strconv_underscoreOK_L1
  have es : w64 ((k : Int) + 1) = ((k + 1 : Nat) : Int) := w64_succ (by unfold Sm at hl; omega)
  rw [if_pos (by simpa using h), sidx_mkS h]
  simp only [Option.bind_some, lower1, internal_strconv_underscoreOK_J3, es]
  generalize decide (48 ≤ ch l[k]) = p1
  generalize decide (ch l[k] ≤ 57) = p2
  generalize decide (97 ≤ lowC l[k]) = p3
  generalize decide (lowC l[k] ≤ 102) = p4
  generalize (ch l[k] == 95) = p5
  generalize (saw != 48) = p6
  generalize (saw == 95) = p7
  cases p1 <;> cases p2 <;> cases hex <;> cases p3 <;> cases p4 <;> cases p5 <;> cases p6 <;> cases p7 <;> exact ⟨_, rfl, fun s' h => by first | (cases h; rfl) | cases h⟩
theorem under_j2 {l : L8} (hl : Sm l) (hex : Bool) (saw : Int) {k : Nat} (hk : k ≤ l.length) : ∃ b, internal_strconv_underscoreOK_J2 (mkS l) saw (k : Int) hex = some b := by
  unfold internal_strconv_underscoreOK_J2
  obtain ⟨x, hx⟩ := Loop_tot (step := fun (s : (Int × Int)) => internal_strconv_underscoreOK_L1 (mkS l) hex s.1 s.2) (fun s => ∃ k : Nat, k ≤ l.length ∧ s.2 = (k : Int)) (fun s => l.length - s.2.toNat) (fun s ⟨k, hk, he⟩ => by
    rcases Nat.lt_or_ge k l.length with hlt | hge
    · obtain ⟨y, h1, h2⟩ := under_step hl hex s.1 hlt
      refine ⟨y, by show internal_strconv_underscoreOK_L1 _ _ s.1 s.2 = _; rw [he]; exact h1, fun s' hs => ⟨⟨k + 1, hlt, h2 s' hs⟩, ?_⟩⟩
      rw [h2 s' hs, he]; omega
    · refine ⟨.out (.brk s.1), ?_, fun s' hs => by cases hs⟩
      show internal_strconv_underscoreOK_L1 _ _ s.1 s.2 = _
      rw [he]
      unfold internal_strconv_underscoreOK_L1
      rw [if_neg (by simp; omega)]) (s := (saw, (k : Int))) ⟨k, hk, rfl⟩
  rw [hx]
  cases x <;> exact ⟨_, rfl⟩
theorem under_j1 {l : L8} (hl : Sm l) : ∃ b, internal_strconv_underscoreOK_J1 (mkS l) = some b := by
  unfold internal_strconv_underscoreOK_J1
  have h0 := fun hex saw => under_j2 hl hex saw (k := 0) (by omega)
  match l, hl, h0 with
  | [], hl, h0 => exact h0 false 94
  | [a], hl, h0 => exact h0 false 94
  | a :: b :: l, hl, h0 =>
    have h2 := fun hex saw => under_j2 hl hex saw (k := 2) (by simp)
    have e2 : decide (2 ≤ (((a :: b :: l).length : Nat) : Int)) = true := by simp; omega
    simp only [size_mkS, e2, if_true, sidx0, sidx1, Option.bind_some, lower1]
    generalize (ch a == 48) = p; generalize (lowC b == 98) = q; generalize (lowC b == 111) = r; generalize (lowC b == 120) = s
    cases p <;> cases q <;> cases r <;> cases s <;> first | exact h2 _ _ | exact h0 _ _
theorem under_tot {l : L8} (hl : Sm l) : ∃ b, internal_strconv_underscoreOK (mkS l) = some b := by
  unfold internal_strconv_underscoreOK
  match l, hl with
  | [], hl => exact under_j1 hl
  | a :: l, hl =>
    have e1 : decide (1 ≤ (((a :: l).length : Nat) : Int)) = true := by simp; omega
    have ed : sslc (mkS (a :: l)) (some 1) none = some (mkS l) := sslc_drop (k := 1) (by simp)
    simp only [size_mkS, e1, if_true, sidx0, Option.bind_some, ed]
    have h1 : ∃ b, internal_strconv_underscoreOK_J1 (mkS l) = some b := under_j1 (by unfold Sm at *; simp at hl; omega)
    have h2 := under_j1 hl
    generalize (ch a == 45) = p; generalize (ch a == 43) = q
    cases p <;> cases q <;> first | exact h1 | exact h2

def UT (r : Int × Er) : Prop := (r.2 = .nil ∧ 0 ≤ r.1 ∧ r.1 ≤ UM) ∨ r = (0, .code 2) ∨ r = (UM, .code 1)
def UR (b : Int) (ds : L8) (r : Int × Er) : Prop := if ds.all (vok b) then (if acc b 0 ds ≤ UM then r = (acc b 0 ds, .nil) else r = (UM, .code 1)) else r = (0, .code 2) ∨ r = (UM, .code 1)
theorem shl64 : shlK .u64 1 (IntKind.u64.wrap 64) = some 0 := by decide
theorem j3tot {w l : L8} {b cut : Int} (hw : Sm w) (hl : Sm l) (hb : baseOk b) (hc : cut = UM / b + 1) : ∃ r, internal_strconv_ParseUint_J3 (mkS w) 0 (mkS l) b 64 cut = some r ∧ UT r := by
  unfold internal_strconv_ParseUint_J3
  rw [shl64, Option.bind_some]
  obtain ⟨x, hx, hp⟩ := utot hl hb hc _ 0 false 0 rfl (by omega) (by omega) (by unfold UM; omega)
  rw [show ((0 : Nat) : Int) = 0 from rfl] at hx
  rw [hx, Option.bind_some]
  obtain ⟨bu, hbu⟩ := under_tot hw
  match x, hp with
  | .brk (u, n'), hp =>
    simp only [Br.go, hbu, Option.bind_some]
    cases u
    · exact ⟨_, rfl, .inl ⟨rfl, hp.1, hp.2⟩⟩
    · cases bu
      · exact ⟨_, rfl, .inr (.inl rfl)⟩
      · exact ⟨_, rfl, .inl ⟨rfl, hp.1, hp.2⟩⟩
  | .ret r, hp => exact ⟨_, rfl, .inr hp⟩
theorem j3ex {w l : L8} {b cut : Int} (hl : Sm l) (hb : b = 10 ∨ b = 16) (hc : cut = UM / b + 1) (h95 : ∀ c ∈ l, (ch c == 95) = false) : ∃ r, internal_strconv_ParseUint_J3 (mkS w) 0 (mkS l) b 64 cut = some r ∧ UR b l r := by
  unfold internal_strconv_ParseUint_J3
  rw [shl64, Option.bind_some]
  obtain ⟨x, hx, hp⟩ := uexact hl hb hc h95 _ 0 false 0 rfl (by omega) (by omega) (by unfold UM; omega)
  rw [show ((0 : Nat) : Int) = 0 from rfl] at hx
  rw [List.drop_zero] at hp
  rw [hx, Option.bind_some]
  unfold UR
  cases ha : l.all (vok b) with
  | true =>
    rw [ha, if_pos rfl] at hp
    simp only [if_true]
    by_cases hu : acc b 0 l ≤ UM
    · rw [if_pos hu] at hp
      simp only [if_pos hu]
      subst hp
      exact ⟨_, rfl, rfl⟩
    · rw [if_neg hu] at hp
      simp only [if_neg hu]
      subst hp
      exact ⟨_, rfl, rfl⟩
  | false =>
    rw [ha, if_neg (by simp)] at hp
    simp only [Bool.false_eq_true, if_false]
    rcases hp with rfl | rfl
    · exact ⟨_, rfl, .inl rfl⟩
    · exact ⟨_, rfl, .inr rfl⟩
theorem j1eq {w l : ByteArray} {b : Int} : internal_strconv_ParseUint_J1 w 0 64 l b = internal_strconv_ParseUint_J2 w 0 l b 64 := by
  unfold internal_strconv_ParseUint_J1
  rw [if_neg (by decide), if_neg (by decide)]
theorem j2tot {w l : L8} {b : Int} (hw : Sm w) (hl : Sm l) (hb : baseOk b) : ∃ r, internal_strconv_ParseUint_J1 (mkS w) 0 64 (mkS l) b = some r ∧ UT r := by
  rw [j1eq]
  unfold internal_strconv_ParseUint_J2
  rcases hb with rfl | rfl | rfl | rfl
  · have eq : qdiv .u64 18446744073709551615 (IntKind.u64.wrap 2) = some 9223372036854775807 := by decide
    have ec : IntKind.u64.wrap (9223372036854775807 + 1) = 9223372036854775808 := by decide
    rw [if_neg (by decide), if_neg (by decide), eq, Option.bind_some, ec]
    exact j3tot hw hl (.inl rfl) (by decide)
  · have eq : qdiv .u64 18446744073709551615 (IntKind.u64.wrap 8) = some 2305843009213693951 := by decide
    have ec : IntKind.u64.wrap (2305843009213693951 + 1) = 2305843009213693952 := by decide
    rw [if_neg (by decide), if_neg (by decide), eq, Option.bind_some, ec]
    exact j3tot hw hl (.inr (.inl rfl)) (by decide)
  · rw [if_pos (by decide)]
    exact j3tot hw hl (.inr (.inr (.inl rfl))) (by decide)
  · rw [if_neg (by decide), if_pos (by decide)]
    exact j3tot hw hl (.inr (.inr (.inr rfl))) (by decide)
theorem j2ex {w l : L8} {b : Int} (hl : Sm l) (hb : b = 10 ∨ b = 16) (h95 : ∀ c ∈ l, (ch c == 95) = false) : ∃ r, internal_strconv_ParseUint_J1 (mkS w) 0 64 (mkS l) b = some r ∧ UR b l r := by
  rw [j1eq]
  unfold internal_strconv_ParseUint_J2
  rcases hb with rfl | rfl
  · rw [if_pos (by decide)]
    exact j3ex hl (.inl rfl) (by decide) h95
  · rw [if_neg (by decide), if_pos (by decide)]
    exact j3ex hl (.inr rfl) (by decide) h95
theorem low_x : ∀ c, (!(ch c == 120 || ch c == 88) || (lowC c == 120)) = true := all256 (by decide +kernel)
theorem low_x2 : ∀ c, (!(lowC c == 120) || (ch c == 120 || ch c == 88)) = true := all256 (by decide +kernel)
theorem puint_tot {w : L8} (hw : Sm w) (hne : w ≠ []) : ∃ r, internal_strconv_ParseUint (mkS w) 0 64 = some r ∧ UT r := by
  unfold internal_strconv_ParseUint
  have ee : ((mkS w).toList == (ByteArray.mk #[]).toList) = false := by
    rw [show (ByteArray.mk #[]) = mkS [] from rfl, beq_mkS]
    cases w with
    | nil => exact absurd rfl hne
    | cons _ _ => rfl
  rw [ee, if_neg (by simp), if_neg (by decide), if_pos (by decide)]
  match w, hw, hne with
  | a :: w, hw, _ =>
    have d1 : sslc (mkS (a :: w)) (some 1) none = some (mkS w) := sslc_drop (k := 1) (by simp)
    have hw1 : Sm w := by unfold Sm at *; simp at hw; omega
    rw [sidx0, Option.bind_some]
    cases h48 : ch a == 48 with
    | false => simp only [Bool.false_eq_true, if_false]; exact j2tot hw hw (.inr (.inr (.inl rfl)))
    | true =>
      simp only [if_true]
      by_cases h3 : 3 ≤ (a :: w).length
      · match w, hw, hw1, h3, d1 with
        | b :: w, hw, hw1, h3, d1 =>
          have d2 : sslc (mkS (a :: b :: w)) (some 2) none = some (mkS w) := sslc_drop (k := 2) (by simp)
          have hw2 : Sm w := by unfold Sm at *; simp at hw; omega
          have e3 : decide (3 ≤ (((a :: b :: w).length : Nat) : Int)) = true := by simp at h3 ⊢; omega
          simp only [size_mkS, e3, if_true, sidx1, Option.bind_some, lower1, d1, d2]
          cases lowC b == 98
          · simp only [Bool.false_eq_true, if_false]
            cases lowC b == 111
            · simp only [Bool.false_eq_true, if_false]
              cases lowC b == 120
              · simp only [Bool.false_eq_true, if_false]; exact j2tot hw hw1 (.inr (.inl rfl))
              · simp only [if_true]; exact j2tot hw hw2 (.inr (.inr (.inr rfl)))
            · simp only [if_true]; exact j2tot hw hw2 (.inr (.inl rfl))
          · simp only [if_true]; exact j2tot hw hw2 (.inl rfl)
      · have e3 : decide (3 ≤ (((a :: w).length : Nat) : Int)) = false := by simp at h3 ⊢; omega
        simp only [size_mkS, e3, Bool.false_eq_true, if_false, Option.bind_some, d1]
        exact j2tot hw hw1 (.inr (.inl rfl))
theorem puint_dec {a : UInt8} {w : L8} (hw : Sm (a :: w)) (h48 : (ch a == 48) = false) (h95 : ∀ c ∈ a :: w, (ch c == 95) = false) : ∃ r, internal_strconv_ParseUint (mkS (a :: w)) 0 64 = some r ∧ UR 10 (a :: w) r := by
  unfold internal_strconv_ParseUint
  have ee : ((mkS (a :: w)).toList == (ByteArray.mk #[]).toList) = false := by
    rw [show (ByteArray.mk #[]) = mkS [] from rfl, beq_mkS]; rfl
  rw [ee, if_neg (by simp), if_neg (by decide), if_pos (by decide), sidx0, Option.bind_some, h48, if_neg (by simp)]
  exact j2ex hw (.inl rfl) h95
theorem puint_hex {w : L8} (hw : Sm w) (hx : hexP w = true) (h95 : ∀ c ∈ w, (ch c == 95) = false) : ∃ r, internal_strconv_ParseUint (mkS w) 0 64 = some r ∧ UR 16 (w.drop 2) r := by
  match w, hw, hx, h95 with
  | a :: b :: c :: w, hw, hx, h95 =>
    simp only [hexP, Bool.and_eq_true] at hx
    obtain ⟨h48, hb⟩ := hx
    unfold internal_strconv_ParseUint
    have ee : ((mkS (a :: b :: c :: w)).toList == (ByteArray.mk #[]).toList) = false := by
      rw [show (ByteArray.mk #[]) = mkS [] from rfl, beq_mkS]; rfl
    have d2 : sslc (mkS (a :: b :: c :: w)) (some 2) none = some (mkS (c :: w)) := sslc_drop (k := 2) (by simp)
    have e3 : decide (3 ≤ (((a :: b :: c :: w).length : Nat) : Int)) = true := by simp; omega
    have hl := low_x b
    rw [hb] at hl
    simp only [Bool.not_true, Bool.false_or, beq_iff_eq] at hl
    rw [ee, if_neg (by simp), if_neg (by decide), if_pos (by decide), sidx0, Option.bind_some, h48, if_pos rfl]
    have b98 : ((120 : Int) == 98) = false := by decide
    have b111 : ((120 : Int) == 111) = false := by decide
    have b120 : ((120 : Int) == 120) = true := by decide
    simp only [size_mkS, e3, if_true, sidx1, Option.bind_some, lower1, hl, d2, b98, b111, b120, Bool.false_eq_true, if_false]
    exact j2ex (by unfold Sm at *; simp at hw ⊢; omega) (.inr rfl) (fun x hx => h95 x (List.mem_cons_of_mem _ (List.mem_cons_of_mem _ hx)))
theorem puint_0 {a : UInt8} (h48 : (ch a == 48) = true) : internal_strconv_ParseUint (mkS [a]) 0 64 = some (0, .nil) := by
  unfold internal_strconv_ParseUint
  have ee : ((mkS [a]).toList == (ByteArray.mk #[]).toList) = false := by
    rw [show (ByteArray.mk #[]) = mkS [] from rfl, beq_mkS]; rfl
  have d1 : sslc (mkS [a]) (some 1) none = some (mkS []) := sslc_drop (k := 1) (by simp)
  rw [ee, if_neg (by simp), if_neg (by decide), if_pos (by decide), sidx0, Option.bind_some, h48, if_pos rfl]
  have e3 : decide (3 ≤ ((([a] : L8).length : Nat) : Int)) = false := by simp
  simp only [size_mkS, e3, Bool.false_eq_true, if_false, Option.bind_some, d1]
  rw [j1eq]
  unfold internal_strconv_ParseUint_J2
  have eq : qdiv .u64 18446744073709551615 (IntKind.u64.wrap 8) = some 2305843009213693951 := by decide
  rw [if_neg (by decide), if_neg (by decide), eq, Option.bind_some]
  unfold internal_strconv_ParseUint_J3
  have hL : ∀ cut, internal_strconv_ParseUint_L1 0 (mkS []) 8 cut 0 false 0 0 = some (.out (.brk (false, 0))) := fun cut => by
    unfold internal_strconv_ParseUint_L1
    rw [if_neg (by simp [bytesI_mkS])]
  rw [shl64, Option.bind_some, Loop_eq]
  simp only [hL, Option.bind_some, Br.go, Bool.false_eq_true, if_false]
end Go.Ab.Tk

namespace Go.Ab.Tk
open Go

theorem ch_eq {c : UInt8} {n : Nat} (hn : n < 256) : (ch c == (n : Int)) = (c == UInt8.ofNat n) := by
  by_cases h : c = UInt8.ofNat n
  · subst h
    have : (UInt8.ofNat n).toNat = n := by simp; omega
    simp [ch, this]
  · have h2 : ¬ ch c = (n : Int) := fun h' => h (by
      have : c.toNat = n := by simp only [ch] at h'; omega
      rw [← this]; simp)
    rw [beq_eq_false_iff_ne.2 h2, beq_eq_false_iff_ne.2 h]
theorem contains95 : ∀ l : L8, Lib.contains l [95] = l.any fun c => ch c == 95
  | [] => rfl
  | c :: l => by
    have ih := contains95 l
    have hg := Lib.index_ge l [95]
    unfold Lib.contains at ih ⊢
    rw [List.any_cons, ← ih]
    have hi : Lib.index (c :: l) [95] = if ([95] : L8).isPrefixOf (c :: l) then 0 else if Lib.index l [95] == -1 then -1 else Lib.index l [95] + 1 := rfl
    rw [hi]
    have e : ([95] : L8).isPrefixOf (c :: l) = (ch c == 95) := by
      rw [show (95 : Int) = ((95 : Nat) : Int) from rfl, ch_eq (by omega)]
      show ((95 : UInt8) == c && true) = (c == 95)
      rw [Bool.and_true, Bool.beq_comm]
    rw [e]
    cases ch c == 95 with
    | true => simp
    | false =>
      simp only [Bool.false_eq_true, if_false, Bool.false_or]
      split
      · rename_i h
        simp only [beq_iff_eq] at h
        rw [h]
      · rename_i h
        simp only [beq_iff_eq] at h
        apply decide_eq_decide.2; omega
theorem contS {l : L8} (hl : Sm l) : containsS (mkS l) (ByteArray.mk #[95]) = some (l.any fun c => ch c == 95) := by
  unfold containsS
  rw [if_pos (by rw [size_mkS]; unfold Sm at hl; omega)]
  rw [← contains95]; rfl

def IR (b : Int) (ds : L8) (r : Int × Er) : Prop := if ds.all (vok b) then (if acc b 0 ds ≤ MX then r = (acc b 0 ds, .nil) else r.2 = .other) else r.2 = .other
def pi1 (r : Int × Er) : Int × Er := if r.2 = .code 2 then (0, .code 2) else if 9223372036854775808 ≤ r.1 then (9223372036854775807, .code 1) else (r.1, .nil)
theorem pint1 {a : UInt8} {w : L8} (ha : (ch a == 43) = false) (ha' : (ch a == 45) = false) {r : Int × Er} (hr : internal_strconv_ParseUint (mkS (a :: w)) 0 64 = some r) (hT : UT r) : internal_strconv_ParseInt (mkS (a :: w)) 0 64 = some (pi1 r) := by
  unfold internal_strconv_ParseInt
  have ee : ((mkS (a :: w)).toList == (ByteArray.mk #[]).toList) = false := by
    rw [show (ByteArray.mk #[]) = mkS [] from rfl, beq_mkS]; rfl
  rw [ee, if_neg (by simp), sidx0, Option.bind_some, ha, if_neg (by simp), ha', if_neg (by simp)]
  unfold internal_strconv_ParseInt_J1
  rw [hr, Option.bind_some]
  have es : shlK .u64 1 (IntKind.u64.wrap (w64 (64 - 1))) = some 9223372036854775808 := by decide
  have ew : w64 (IntKind.u64.wrap (9223372036854775808 - 1)) = 9223372036854775807 := by decide
  have e0 : ((64 : Int) == 0) = false := by decide
  have hj : ∀ x : Int × Er, internal_strconv_ParseInt_J2 false x 64 = some (if 9223372036854775808 ≤ x.1 then (9223372036854775807, .code 1) else (w64 x.1, .nil)) := fun x => by
    unfold internal_strconv_ParseInt_J2
    rw [es, Option.bind_some, ew]
    by_cases h : 9223372036854775808 ≤ x.1
    · simp [h]
    · simp [h, internal_strconv_ParseInt_J3]
  obtain ⟨n, e⟩ := r
  rcases hT with ⟨he, h0, h1⟩ | he | he
  · simp only at he h0 h1
    subst he
    simp only [Er.isNil, Bool.not_true, Bool.false_eq_true, if_false, Option.bind_some, e0, hj, pi1, reduceCtorEq]
    by_cases h : 9223372036854775808 ≤ n
    · simp [h]
    · simp only [h, if_false]
      rw [w64_id (by omega) (by omega)]
  · simp only [Prod.mk.injEq] at he
    obtain ⟨rfl, rfl⟩ := he
    rfl
  · simp only [Prod.mk.injEq] at he
    obtain ⟨rfl, rfl⟩ := he
    have e1 : Er.isCode (.code 1) 1 = some true := rfl
    simp only [Er.isNil, Bool.not_false, if_true, e1, Option.bind_some, Bool.not_true, Bool.false_eq_true, if_false, e0, hj, pi1]
    rfl
theorem toErr {a b : ByteArray} (hb : b.size ≤ 281474976710656) {n : Int} (hn : n = 1 ∨ n = 2) : strconv_toError a b 0 64 (.code n) = some .other := by
  have hc : cloneSt b = some b := by unfold cloneSt; rw [if_pos hb]
  unfold strconv_toError strconv_syntaxError strconv_rangeError
  rcases hn with rfl | rfl
  · have e1 : Er.isCode (.code 1) 2 = some false := rfl
    have e2 : Er.isCode (.code 1) 1 = some true := rfl
    simp only [e1, e2, hc, Option.bind_some, Bool.false_eq_true, if_false, if_true]
  · have e1 : Er.isCode (.code 2) 2 = some true := rfl
    simp only [e1, hc, Option.bind_some, if_true]
def pi2 (r : Int × Er) : Int × Er := if r.2 = .nil then r else (r.1, .other)
theorem pint2 {a : UInt8} {w : L8} (hl : Sm (a :: w)) (ha : (ch a == 43) = false) (ha' : (ch a == 45) = false) {r : Int × Er} (hr : internal_strconv_ParseUint (mkS (a :: w)) 0 64 = some r) (hT : UT r) : strconv_ParseInt (mkS (a :: w)) 0 64 = some (pi2 (pi1 r)) := by
  unfold strconv_ParseInt
  rw [pint1 ha ha' hr hT, Option.bind_some]
  have hb : (mkS (a :: w)).size ≤ 281474976710656 := by rw [size_mkS]; unfold Sm at hl; omega
  unfold pi2 pi1
  split
  · simp only [Er.isNil, Bool.not_false, if_true, toErr hb (.inr rfl), Option.bind_some, reduceCtorEq, if_false]
  · split
    · simp only [Er.isNil, Bool.not_false, if_true, toErr hb (.inl rfl), Option.bind_some, reduceCtorEq, if_false]
    · simp only [Er.isNil, Bool.not_true, Bool.false_eq_true, if_false, if_true]
theorem UR_UT {b : Int} (hb : 1 ≤ b) {ds : L8} {r : Int × Er} (h : UR b ds r) : UT r := by
  unfold UR at h
  split at h
  · rename_i ha
    split at h
    · subst h
      exact .inl ⟨rfl, acc_ge hb (Int.le_refl 0) ha, ‹_›⟩
    · exact .inr (.inr h)
  · exact .inr h
theorem UR_IR {b : Int} {ds : L8} {r : Int × Er} (h : UR b ds r) : IR b ds (pi2 (pi1 r)) := by
  unfold UR at h
  unfold IR
  cases ha : ds.all (vok b) with
  | true =>
    rw [ha, if_pos rfl] at h
    simp only [if_true]
    by_cases hm : acc b 0 ds ≤ MX
    · rw [if_pos (by unfold MX at hm; unfold UM; omega)] at h
      subst h
      have : ¬ (9223372036854775808 ≤ acc b 0 ds) := by unfold MX at hm; omega
      simp [pi1, pi2, hm, this]
    · rw [if_neg hm]
      by_cases hu : acc b 0 ds ≤ UM
      · rw [if_pos hu] at h
        subst h
        have : 9223372036854775808 ≤ acc b 0 ds := by unfold MX at hm; omega
        simp [pi1, pi2, this]
      · rw [if_neg hu] at h
        subst h
        rfl
  | false =>
    rw [ha, if_neg (by simp)] at h
    simp only [Bool.false_eq_true, if_false]
    rcases h with rfl | rfl <;> rfl
end Go.Ab.Tk

namespace Go.Ab.Tk
open Go

theorem vok10 (c : UInt8) : vok 10 c = isDig c := by
  have := all256 (P := fun c => vok 10 c == isDig c) (by decide +kernel) c
  simpa using this
theorem vok16 (c : UInt8) : vok 16 c = isHex c := by
  have := all256 (P := fun c => vok 16 c == isHex c) (by decide +kernel) c
  simpa using this
theorem dig_rng {c : UInt8} (h : isDig c = true) : 48 ≤ ch c ∧ ch c ≤ 57 := by
  unfold isDig at h
  simpa using h
theorem spanL_all {p : UInt8 → Bool} : ∀ {l : L8}, (spanL p l < l.length ↔ l.all p = false)
  | [] => by simp [spanL]
  | c :: l => by
    have ih := spanL_all (p := p) (l := l)
    rw [spanL_cons, List.all_cons, List.length_cons]
    cases p c with
    | true => simp only [if_true, Bool.true_and]; rw [← ih]; omega
    | false => simp
theorem spanL_eq {p : UInt8 → Bool} {l : L8} : (spanL p l = l.length ↔ l.all p = true) := by
  have h1 := spanL_all (p := p) (l := l)
  have h2 := spanL_le p l
  cases ha : l.all p with
  | true => rw [ha] at h1; simp at h1; simp; omega
  | false => rw [ha] at h1; simp at h1; simp; omega
def plainB (a : UInt8) (w : L8) : Bool := (a :: w == [48]) || (ch a != 48) || hexP (a :: w)
theorem plain_eq {a : UInt8} {w : L8} : (if ((mkS (a :: w)).toList == (ByteArray.mk #[48]).toList) then (some true) else
 ((sidx (mkS (a :: w)) 0).bind fun x6 =>
 if ((x6.toNat : Int) != 48) then (some true) else
 (if (decide (2 < ((mkS (a :: w)).size : Int))) then
 ((sidx (mkS (a :: w)) 1).bind fun x7 =>
 if ((x7.toNat : Int) == 120) then (some true) else
 ((sidx (mkS (a :: w)) 1).bind fun x8 =>
 some ((x8.toNat : Int) == 88)))
 else (some false)))) = some (plainB a w) := by
  rw [show (ByteArray.mk #[48]) = mkS [48] from rfl, beq_mkS]
  unfold plainB
  cases h1 : (a :: w == [48]) with
  | true => rfl
  | false =>
    simp only [Bool.false_eq_true, if_false, sidx0, Option.bind_some, Bool.false_or]
    cases h2 : (ch a != 48) with
    | true => rfl
    | false =>
      have h3 : (ch a == 48) = true := by simpa using h2
      simp only [Bool.false_eq_true, if_false, Bool.false_or]
      match w with
      | [] => rfl
      | [b] => rfl
      | b :: c :: w =>
        have e : decide (2 < (((a :: b :: c :: w).length : Nat) : Int)) = true := by simp; omega
        simp only [size_mkS, e, if_true, sidx1, Option.bind_some, hexP, h3, Bool.true_and]
        cases ch b == 120 <;> rfl
theorem tn_form {a : UInt8} {w l : L8} (hl : Sm l) (hw : l.takeWhile isBoth = a :: w) (hh : l.head? = some a) (hd : isDig a = true) {r : Int × Er} (hr : strconv_ParseInt (mkS (a :: w)) 0 64 = some r) :
    token_number (mkS l) = some (if ((a :: w).any fun c => ch c == 95) || !plainB a w || (!(a :: w).all isDig && ch a != 48) then (0, 0, 1) else if r.2.isNil then (r.1, ((a :: w).length : Int), 0) else if ((a :: w).drop 2).all isHex then (0, 0, 3) else (0, 0, 1)) := by
  have hlen : spanL isBoth l = (a :: w).length := by unfold spanL; rw [hw]
  have hsw : Sm (a :: w) := by
    have := spanL_le isBoth l
    unfold Sm at *; omega
  have hs0 : sidx (mkS l) 0 = some a := by
    match l, hh with
    | b :: l, hh =>
      simp only [List.head?_cons, Option.some.injEq] at hh
      subst hh
      exact sidx0
  have hdr := dig_rng hd
  have h39 : (ch a == 39) = false := by
    rw [beq_eq_false_iff_ne]; omega
  have htk : sslc (mkS l) none (some ((a :: w).length : Int)) = some (mkS (a :: w)) := by
    rw [← hlen, sslc_take (spanL_le _ _), take_spanL, hw]
  unfold token_number
  rw [hs0, Option.bind_some, h39, if_neg (by simp), span31 hl, Option.bind_some, hlen, htk, Option.bind_some, hr, Option.bind_some, plain_eq, Option.bind_some, contS hsw, Option.bind_some]
  cases hu : ((a :: w).any fun c => ch c == 95) with
  | true => simp
  | false =>
    cases hp : plainB a w with
    | false => simp
    | true =>
      rw [span34 hsw]
      have e1 : decide ((spanL isDig (a :: w) : Int) < ((a :: w).length : Int)) = !(a :: w).all isDig := by
        have := spanL_all (p := isDig) (l := a :: w)
        cases ha : (a :: w).all isDig with
        | true => rw [ha] at this; simp at this ⊢; omega
        | false => rw [ha] at this; simp at this ⊢; omega
      simp only [Bool.false_eq_true, if_false, Bool.not_true, Option.bind_some, e1, sidx0, Bool.false_or]
      cases hall : (a :: w).all isDig with
      | false =>
        simp only [Bool.not_false, if_true, Bool.true_and]
        cases h48 : (ch a != 48) with
        | true => rfl
        | false =>
          simp only [Option.bind_some, Bool.false_eq_true, if_false]
          cases r.2.isNil with
          | true => rfl
          | false =>
            have hm : min (2 : Int) ((a :: w).length : Int) = ((min 2 (a :: w).length : Nat) : Int) := by omega
            have hle : min 2 (a :: w).length ≤ (a :: w).length := Nat.min_le_right _ _
            simp only [Bool.false_eq_true, if_false, hm, sslc_drop hle, Option.bind_some]
            rw [span53 (hsw.drop _), Option.bind_some]
            have ew : w64 (((a :: w).length : Int) - ((min 2 (a :: w).length : Nat) : Int)) = (((a :: w).drop (min 2 (a :: w).length)).length : Int) := by
              rw [List.length_drop, w64_id (by omega) (by unfold Sm at hsw; omega)]; omega
            have ed : (a :: w).drop (min 2 (a :: w).length) = (a :: w).drop 2 := by
              rcases Nat.lt_or_ge (a :: w).length 2 with h | h
              · rw [Nat.min_eq_right (by omega), List.drop_length, List.drop_eq_nil_of_le (by omega)]
              · rw [Nat.min_eq_left h]
            rw [ew, ed]
            have e2 : ((spanL isHex ((a :: w).drop 2) : Int) == (((a :: w).drop 2).length : Int)) = ((a :: w).drop 2).all isHex := by
              have := spanL_eq (p := isHex) (l := (a :: w).drop 2)
              cases ha : ((a :: w).drop 2).all isHex with
              | true => rw [ha] at this; simp only [iff_true] at this; rw [this]; exact beq_self_eq_true _
              | false =>
                rw [ha] at this
                simp only [Bool.false_eq_true, iff_false] at this
                rw [beq_eq_false_iff_ne]; omega
            rw [e2]
            cases ((a :: w).drop 2).all isHex <;> rfl
      | true =>
        simp only [Bool.not_true, Bool.false_eq_true, if_false, Option.bind_some, Bool.false_and]
        cases r.2.isNil with
        | true => rfl
        | false =>
          have hm : min (2 : Int) ((a :: w).length : Int) = ((min 2 (a :: w).length : Nat) : Int) := by omega
          have hle : min 2 (a :: w).length ≤ (a :: w).length := Nat.min_le_right _ _
          simp only [Bool.false_eq_true, if_false, hm, sslc_drop hle, Option.bind_some]
          rw [span53 (hsw.drop _), Option.bind_some]
          have ew : w64 (((a :: w).length : Int) - ((min 2 (a :: w).length : Nat) : Int)) = (((a :: w).drop (min 2 (a :: w).length)).length : Int) := by
            rw [List.length_drop, w64_id (by omega) (by unfold Sm at hsw; omega)]; omega
          have ed : (a :: w).drop (min 2 (a :: w).length) = (a :: w).drop 2 := by
            rcases Nat.lt_or_ge (a :: w).length 2 with h | h
            · rw [Nat.min_eq_right (by omega), List.drop_length, List.drop_eq_nil_of_le (by omega)]
            · rw [Nat.min_eq_left h]
          rw [ew, ed]
          have e2 : ((spanL isHex ((a :: w).drop 2) : Int) == (((a :: w).drop 2).length : Int)) = ((a :: w).drop 2).all isHex := by
            have := spanL_eq (p := isHex) (l := (a :: w).drop 2)
            cases ha : ((a :: w).drop 2).all isHex with
            | true => rw [ha] at this; simp only [iff_true] at this; rw [this]; exact beq_self_eq_true _
            | false =>
              rw [ha] at this
              simp only [Bool.false_eq_true, iff_false] at this
              rw [beq_eq_false_iff_ne]; omega
          rw [e2]
          cases ((a :: w).drop 2).all isHex <;> rfl
/-- What a number comes to. -/
def numP (w : L8) : Int × Int × Int := if (numR w).2 = 0 then ((numR w).1, (w.length : Int), 0) else if (numR w).2 = 3 then (0, 0, 3) else (0, 0, 1)
theorem all_mono {p q : UInt8 → Bool} {l : L8} (h : ∀ c, p c = true → q c = true) (ha : l.all p = true) : l.all q = true := by
  rw [List.all_eq_true] at ha ⊢
  exact fun c hc => h c (ha c hc)
theorem all_drop {p : UInt8 → Bool} {l : L8} (n : Nat) (ha : l.all p = true) : (l.drop n).all p = true := by
  rw [List.all_eq_true] at ha ⊢
  exact fun c hc => ha c (List.mem_of_mem_drop hc)
theorem all_vok10 (l : L8) : l.all (vok 10) = l.all isDig := by congr 1; funext c; exact vok10 c
theorem all_vok16 (l : L8) : l.all (vok 16) = l.all isHex := by congr 1; funext c; exact vok16 c
theorem digs2 {b : Int} {ds : L8} (h : ds.all (vok b) = false) : digs b ds = (0, 2) := by unfold digs; rw [h]; rfl
theorem tok_number {a : UInt8} {w l : L8} (hl : Sm l) (hw : l.takeWhile isBoth = a :: w) (hh : l.head? = some a) (hd : isDig a = true) : token_number (mkS l) = some (numP (a :: w)) := by
  have hlen : spanL isBoth l = (a :: w).length := by unfold spanL; rw [hw]
  have hsw : Sm (a :: w) := by
    have := spanL_le isBoth l
    unfold Sm at *; omega
  have hdr := dig_rng hd
  have h43 : (ch a == 43) = false := by rw [beq_eq_false_iff_ne]; omega
  have h45 : (ch a == 45) = false := by rw [beq_eq_false_iff_ne]; omega
  have h95n : (ch a == 95) = false := by rw [beq_eq_false_iff_ne]; omega
  obtain ⟨r0, hr0, hT0⟩ := puint_tot hsw (List.cons_ne_nil _ _)
  cases hu : ((a :: w).any fun c => ch c == 95) with
  | true =>
    rw [tn_form hl hw hh hd (pint2 hsw h43 h45 hr0 hT0), hu]
    have hn : (numR (a :: w)).2 = 2 := by
      unfold numR
      have hx : ∀ b n, (∀ c ∈ (a :: w).take n, (ch c == 95) = false) → (vok b = vok 10 ∨ vok b = vok 16) → ((a :: w).drop n).all (vok b) = false := by
        intro b n hn hb
        obtain ⟨c, hc, hc2⟩ := List.any_eq_true.1 hu
        rw [← List.take_append_drop n (a :: w), List.mem_append] at hc
        rcases hc with hc | hc
        · rw [hn c hc] at hc2; cases hc2
        · rw [Bool.eq_false_iff]
          intro ha
          have := List.all_eq_true.1 ha c hc
          have h2 : (!(ch c == 95) || (!vok 10 c && !vok 16 c)) = true := all256 (P := fun c => !(ch c == 95) || (!vok 10 c && !vok 16 c)) (by decide +kernel) c
          rw [hc2] at h2
          simp only [Bool.not_true, Bool.false_or, Bool.and_eq_true, Bool.not_eq_true'] at h2
          rcases hb with hb | hb <;> rw [hb] at this
          · rw [h2.1] at this; cases this
          · rw [h2.2] at this; cases this
      cases hP : hexP (a :: w) with
      | true =>
        have : ∀ c ∈ (a :: w).take 2, (ch c == 95) = false := by
          match w, hP with
          | b :: c :: w, hP =>
            simp only [hexP, Bool.and_eq_true, Bool.or_eq_true, beq_iff_eq] at hP
            intro x hx
            simp only [List.take_succ_cons, List.take_zero, List.mem_cons, List.not_mem_nil, or_false] at hx
            rcases hx with rfl | rfl
            · exact h95n
            · rw [beq_eq_false_iff_ne]; omega
        rw [if_pos rfl, digs2 (hx 16 2 this (.inr rfl))]
      | false =>
        rw [if_neg (by simp)]
        split
        · rfl
        · have := hx 10 0 (by simp) (.inl rfl)
          rw [List.drop_zero] at this
          rw [digs2 this]
    unfold numP
    rw [hn]; rfl
  | false =>
    have h95 : ∀ c ∈ a :: w, (ch c == 95) = false := fun c hc => by
      have := List.any_eq_false.1 hu c hc
      simpa using this
    cases hP : hexP (a :: w) with
    | true =>
      obtain ⟨r, hr, hU⟩ := puint_hex hsw hP h95
      have hI := UR_IR hU
      rw [tn_form hl hw hh hd (pint2 hsw h43 h45 hr (UR_UT (by omega) hU)), hu]
      have h48 : (ch a == 48) = true := by
        match w, hP with
        | b :: c :: w, hP => simp only [hexP, Bool.and_eq_true] at hP; exact hP.1
      have h48' : (ch a != 48) = false := by simp only [bne, h48]; rfl
      have hpl : plainB a w = true := by unfold plainB; rw [hP]; simp
      have hn : numR (a :: w) = digs 16 ((a :: w).drop 2) := by unfold numR; rw [hP]; rfl
      rw [hpl, h48']
      simp only [Bool.not_true, Bool.or_false, Bool.and_false, Bool.false_eq_true, if_false]
      unfold numP
      rw [hn]
      unfold digs
      unfold IR at hI
      generalize hds : (a :: w).drop 2 = ds at *
      rw [all_vok16] at hI ⊢
      generalize pi2 (pi1 r) = q at *
      cases ha : ds.all isHex with
      | true =>
        rw [ha, if_pos rfl] at hI
        by_cases hm : acc 16 0 ds ≤ MX
        · rw [if_pos hm] at hI
          subst hI
          simp [hm, Er.isNil]
        · rw [if_neg hm] at hI
          simp [hm, hI, Er.isNil]
      | false =>
        rw [ha, if_neg (by simp)] at hI
        simp [hI, Er.isNil]
    | false =>
      cases h48 : (ch a == 48) with
      | true =>
        have h48' : (ch a != 48) = false := by simp only [bne, h48]; rfl
        match w, hsw, hw, hP, hu, hr0, hT0 with
        | [], hsw, hw, hP, hu, hr0, hT0 =>
          rw [tn_form hl hw hh hd (pint2 hsw h43 h45 (puint_0 h48) (.inl ⟨rfl, by decide, by decide⟩)), hu]
          have e48 : (([a] : L8) == [48]) = true := by
            rw [show (48 : Int) = ((48 : Nat) : Int) from rfl, ch_eq (by omega)] at h48
            rw [beq_iff_eq] at h48
            rw [h48]; rfl
          have hpl : plainB a [] = true := by unfold plainB; rw [e48]; rfl
          rw [hpl, h48']
          simp only [Bool.not_true, Bool.or_false, Bool.and_false, Bool.false_eq_true, if_false]
          have hv : vok 10 a = true := by rw [vok10]; exact hd
          have hv0 : acc 10 0 [a] = 0 := by
            simp only [acc, valD, hd, if_true]
            have := beq_iff_eq.1 h48
            omega
          have hn : numR [a] = (0, 0) := by
            unfold numR
            rw [hP]
            simp only [Bool.false_eq_true, if_false, List.length_cons, List.length_nil]
            unfold digs
            rw [hv0]
            simp [hv, MX]
          unfold numP
          rw [hn]
          rfl
        | b :: w, hsw, hw, hP, hu, hr0, hT0 =>
          rw [tn_form hl hw hh hd (pint2 hsw h43 h45 hr0 hT0), hu]
          have hpl : plainB a (b :: w) = false := by
            unfold plainB; rw [hP, h48']
            simp
          rw [hpl]
          have hn : numR (a :: b :: w) = (0, 2) := by
            unfold numR
            rw [hP]
            simp only [Bool.false_eq_true, if_false, List.headD_cons, h48]
            simp
          unfold numP
          rw [hn]; rfl
      | false =>
        have h48' : (ch a != 48) = true := by simp only [bne, h48]; rfl
        obtain ⟨r, hr, hU⟩ := puint_dec hsw h48 h95
        have hI := UR_IR hU
        rw [tn_form hl hw hh hd (pint2 hsw h43 h45 hr (UR_UT (by omega) hU)), hu]
        have hpl : plainB a w = true := by unfold plainB; rw [h48']; simp
        have hn : numR (a :: w) = digs 10 (a :: w) := by
          unfold numR; rw [hP]; simp [h48]
        rw [hpl, h48']
        simp only [Bool.not_true, Bool.or_false, Bool.and_true, Bool.false_or]
        unfold numP
        rw [hn]
        unfold digs
        unfold IR at hI
        rw [all_vok10] at hI ⊢
        generalize pi2 (pi1 r) = q at *
        cases ha : (a :: w).all isDig with
        | true =>
          have hx : ((a :: w).drop 2).all isHex = true := all_drop 2 (all_mono (fun c hc => by unfold isHex; rw [hc]; rfl) ha)
          rw [ha, if_pos rfl] at hI
          by_cases hm : acc 10 0 (a :: w) ≤ MX
          · rw [if_pos hm] at hI
            subst hI
            simp [hm, Er.isNil]
          · rw [if_neg hm] at hI
            rw [hx]
            simp [hm, hI, Er.isNil]
        | false => simp
end Go.Ab.Tk
