/-
  PLAIN LAWS (words): the text of words; TokenWrites.
-/
import Derived.Test.YtkgjhnmpcnjooaaDoorAbK11
namespace Go.Ab.Tk
open Go

def rightP (t : Tok) : Int := if !(decide (1 ≤ t.Kind) && decide (t.Kind ≤ 4)) then 4 else if (bl t.Text == []) || decide (t.At < 0) then 5 else match nextP (bl t.Text) with
  | .inl (kd, k, n) => if decide (k = (bl t.Text).length) && (kd == t.Kind) && (n == t.N) then 0 else 5
  | .inr _ => 5
theorem cons_of_ne {s : L8} (h : (s == []) = false) : ∃ a t, s = a :: t := by
  cases s with
  | nil => simp at h
  | cons a t => exact ⟨a, t, rfl⟩
theorem tok_right {t : Tok} (ht : Sm (bl t.Text)) : token_right t = some (rightP t) := by
  unfold token_right core_Within rightP
  rw [Option.bind_some, ite_and]
  cases hk : (decide (1 ≤ t.Kind) && decide (t.Kind ≤ 4)) with
  | false => rfl
  | true =>
    simp only [Bool.not_true, Bool.false_eq_true, if_false]
    have e : (t.Text.toList == (ByteArray.mk #[]).toList) = (bl t.Text == []) := by
      rw [ba_toList, ba_toList]; rfl
    rw [e, ite_or]
    cases hb : (bl t.Text == []) || decide (t.At < 0) with
    | true => rfl
    | false =>
      simp only [Bool.false_eq_true, if_false]
      rw [Bool.or_eq_false_iff] at hb
      obtain ⟨a, r, hr⟩ := cons_of_ne hb.1
      have hsz := size_bl t.Text
      rw [hr] at ht hsz
      obtain ⟨y, hy, ho⟩ := tok_next ht
      rw [← hr, mkS_bl] at hy
      rw [hy, Option.bind_some]
      rw [← hr] at ho
      simp only [ite_or]
      cases hN : nextP (bl t.Text) with
      | inr e' =>
        rw [hN] at ho
        simp only [nextOut] at ho
        have he := nextP_err hN
        have e4 : (y.2.2 != 0) = true := by rw [ho]; rcases he with rfl | rfl | rfl <;> rfl
        simp [e4]
      | inl x =>
        obtain ⟨kd, k, n⟩ := x
        rw [hN] at ho
        simp only [nextOut] at ho
        subst ho
        simp only
        have e1 : ((0 : Int) != 0) = false := by decide
        have e2 : ((k : Int) != (t.Text.size : Int)) = !decide (k = (bl t.Text).length) := by
          rw [size_bl]
          by_cases h : k = (bl t.Text).length
          · simp [h]
          · have : ¬ ((k : Int) = ((bl t.Text).length : Int)) := by omega
            simp [h, bne, this]
        rw [e1, e2]
        have e3 : ∀ a b : Int, (a != b) = !(a == b) := fun _ _ => rfl
        rw [e3, e3]
        cases decide (k = (bl t.Text).length) <;> cases (kd == t.Kind) <;> cases (n == t.N) <;> rfl
/-! ### The texts set together -/
def joinT (ts : List ByteArray) : L8 := Lib.join (ts.map bl) [32]
theorem inter_snoc (x : L8) : ∀ (y : L8) (ys : List L8), ([32] : L8).intercalate (y :: ys ++ [x]) = ([32] : L8).intercalate (y :: ys) ++ 32 :: x
  | y, [] => by simp [List.intercalate]
  | y, z :: ys => by
    have ih := inter_snoc x z ys
    simp only [List.intercalate] at ih ⊢
    rw [List.cons_append, List.cons_append, List.intersperse_cons_cons, List.flatten_cons, List.flatten_cons]
    rw [List.cons_append] at ih
    rw [ih, List.intersperse_cons_cons, List.flatten_cons, List.flatten_cons]
    simp
theorem joinT_snoc (ts : List ByteArray) (x : ByteArray) : joinT (ts ++ [x]) = if ts = [] then bl x else joinT ts ++ 32 :: bl x := by
  unfold joinT Lib.join
  cases ts with
  | nil => simp [List.intercalate]
  | cons y ys =>
    rw [if_neg (List.cons_ne_nil _ _), List.map_append, List.map_cons, List.map_cons, List.map_nil]
    exact inter_snoc (bl x) (bl y) (ys.map bl)
theorem joinT_len : ∀ (ts : List ByteArray), (∀ t ∈ ts, (bl t).length ≤ 4000000) → (joinT ts).length ≤ ts.length * 4000001 := by
  intro ts
  unfold joinT Lib.join
  induction ts with
  | nil => intro _; simp [List.intercalate]
  | cons y ys ih =>
    intro h
    have h1 := ih fun t ht => h t (List.mem_cons_of_mem _ ht)
    have h2 := h y (List.mem_cons_self ..)
    cases ys with
    | nil => simp [List.intercalate]; omega
    | cons z zs =>
      simp only [List.map_cons, List.intercalate, List.intersperse_cons_cons, List.flatten_cons, List.length_append, List.length_cons, List.length_nil] at h1 ⊢
      omega
theorem catS_ok {a b : ByteArray} (h : a.size + b.size ≤ 9000000000000000000) : catS a b = some (mkS (bl a ++ bl b)) := by
  unfold catS
  rw [if_pos (by omega)]
  have h1 : ∀ s t : ByteArray, bl s = bl t → s = t := fun s t h => by rw [← mkS_bl s, ← mkS_bl t, h]
  have h2 : a ++ b = mkS (bl a ++ bl b) := by
    apply h1
    rw [bl_mkS]
    unfold bl
    rw [ByteArray.data_append]; simp
  rw [h2]
abbrev BrT := Br (List ByteArray) (ByteArray × XApi_Fault)
abbrev BrT' := Br ByteArray (ByteArray × XApi_Fault)
def fP (i : Nat) (s : List ByteArray) (x : Tok) : BrT ⊕ List ByteArray := if rightP x != 0 then .inl (.ret (mkS [], ⟨rightP x, (i : Int)⟩)) else .inr (s ++ [x.Text])
def fR (i : Nat) (s : ByteArray) (x : Tok) : BrT' ⊕ ByteArray := if rightP x != 0 then .inl (.ret (mkS [], ⟨rightP x, (i : Int)⟩)) else .inr (if i = 0 then mkS (bl s ++ bl x.Text) else mkS (bl s ++ 32 :: bl x.Text))
abbrev SmT (l : List Tok) : Prop := ∀ t ∈ l, Sm (bl t.Text)
theorem text_loop {l : List Tok} (hl : SmT l) (h8 : l.length ≤ 800) : Loop (fun (s : ((List ByteArray) × Int)) => token_Text_L1 l s.1 s.2) ([], 0) = some (run fP .brk 0 [] l) := by
  refine Loop_run (l := l) (fun (s : List ByteArray) i => (s, i)) fP .brk (fun i s => s.length = i) (step := fun (s : ((List ByteArray) × Int)) => token_Text_L1 l s.1 s.2) (fun i s h hI => ?_) (fun s hI => ?_) rfl
  · have hr := tok_right (hl _ (List.getElem_mem h))
    have hst : token_Text_L1 l s (i : Int) = if rightP l[i] != 0 then some (.out (.ret (mkS [], ⟨rightP l[i], (i : Int)⟩))) else some (.next (s ++ [l[i].Text], ((i + 1 : Nat) : Int))) := by
      unfold token_Text_L1
      rw [if_pos (by simp only [decide_eq_true_eq]; omega), idx_lt h, Option.bind_some, hr, Option.bind_some, w64_succ (by omega)]
      have ea : app s [l[i].Text] = some (s ++ [l[i].Text]) := by unfold app; rw [if_pos (by simp; omega)]
      rw [ea]
      cases rightP l[i] != 0 <;> rfl
    unfold fP
    simp only
    rw [hst]
    cases rightP l[i] != 0 with
    | true => rfl
    | false => exact ⟨rfl, by simp [hI]⟩
  · simp only
    unfold token_Text_L1
    rw [if_neg (by simp)]
theorem rtext_loop {l : List Tok} (hl : SmT l) (h8 : l.length ≤ 800) : Loop (fun (s : (ByteArray × Int)) => ref1_Text_L1 l s.1 s.2) (mkS [], 0) = some (run fR .brk 0 (mkS []) l) := by
  refine Loop_run (l := l) (fun (s : ByteArray) i => (s, i)) fR .brk (fun i s => (bl s).length ≤ i * 4000001) (step := fun (s : (ByteArray × Int)) => ref1_Text_L1 l s.1 s.2) (fun i s h hI => ?_) (fun s hI => ?_) (by simp)
  · have ht := hl _ (List.getElem_mem h)
    generalize hx : l[i] = x at *
    have hsz : s.size = (bl s).length := size_bl s
    have hxz : x.Text.size = (bl x.Text).length := size_bl x.Text
    have ht' := ht
    unfold Sm at ht'
    have es : w64 ((i : Int) + 1) = ((i + 1 : Nat) : Int) := w64_succ (by omega)
    have hst : ref1_Text_L1 l s (i : Int) = if rightP x != 0 then some (.out (.ret (mkS [], ⟨rightP x, (i : Int)⟩))) else some (.next ((if i = 0 then mkS (bl s ++ bl x.Text) else mkS (bl s ++ 32 :: bl x.Text)), ((i + 1 : Nat) : Int))) := by
      unfold ref1_Text_L1 ref1_in
      rw [if_pos (by simp only [decide_eq_true_eq]; omega), idx_lt h, hx, Option.bind_some, Option.bind_some, ite_and]
      unfold rightP
      cases hk : (decide (1 ≤ x.Kind) && decide (x.Kind ≤ 4)) with
      | false => rfl
      | true =>
        simp only [Bool.not_true, Bool.false_eq_true, if_false, ite_or]
        have e : ((x.Text.size : Int) == 0) = (bl x.Text == []) := by
          rw [hxz]
          cases bl x.Text with
          | nil => rfl
          | cons a r =>
            rw [show ((a :: r : L8) == []) = false from rfl, beq_eq_false_iff_ne]; simp; omega
        rw [e]
        cases hb : (bl x.Text == []) || decide (x.At < 0) with
        | true => rfl
        | false =>
          simp only [Bool.false_eq_true, if_false]
          rw [Bool.or_eq_false_iff] at hb
          obtain ⟨a, r, hr⟩ := cons_of_ne hb.1
          rw [hr] at ht
          obtain ⟨y, hy, ho⟩ := ref_next ht
          rw [← hr, mkS_bl] at hy
          rw [hy, Option.bind_some]
          rw [← hr] at ho
          cases hN : nextP (bl x.Text) with
          | inr e' =>
            rw [hN] at ho
            simp only [nextOut] at ho
            have he := nextP_err hN
            have e4 : (y.2.2 != 0) = true := by
              rw [bne_iff_ne]
              intro h0
              rw [h0] at ho
              simp at ho
              omega
            simp only [e4, Bool.true_or, if_true]; rfl
          | inl z =>
            obtain ⟨kd, k, n⟩ := z
            rw [hN] at ho
            simp only [nextOut, Prod.mk.injEq] at ho
            obtain ⟨o1, o2, o3⟩ := ho
            have o4 : y.2.2 = 0 := by
              by_cases h2 : y.2.2 = 2
              · rw [if_pos h2] at o3; omega
              · rw [if_neg h2] at o3; exact o3
            simp only [o1, o2, o4]
            have e1 : ((0 : Int) != 0) = false := by decide
            have e2 : ((k : Int) != (x.Text.size : Int)) = !decide (k = (bl x.Text).length) := by
              rw [hxz]
              by_cases h : k = (bl x.Text).length
              · simp [h]
              · have : ¬ ((k : Int) = ((bl x.Text).length : Int)) := by omega
                simp [h, bne, this]
            have e3 : ∀ a b : Int, (a != b) = !(a == b) := fun _ _ => rfl
            rw [e1, e2, e3, e3]
            have hj : (if decide (0 < (i : Int)) = true then (catS s (ByteArray.mk #[32])).bind fun x9 => ref1_Text_J1 (i : Int) x x9 else ref1_Text_J1 (i : Int) x s) = some (.next ((if i = 0 then mkS (bl s ++ bl x.Text) else mkS (bl s ++ 32 :: bl x.Text)), ((i + 1 : Nat) : Int))) := by
              unfold ref1_Text_J1
              cases i with
              | zero =>
                rw [if_neg (by simp), catS_ok (by omega), Option.bind_some, es]; rfl
              | succ i =>
                rw [if_pos (by simp), catS_ok (by rw [hsz]; show _ + 1 ≤ _; omega), Option.bind_some, catS_ok (by rw [size_mkS, hxz, List.length_append]; show _ + 1 + _ ≤ _; omega), Option.bind_some, es, if_neg (by omega)]
                congr 3
                rw [bl_mkS]
                show mkS (bl s ++ [32] ++ bl x.Text) = _
                simp
            cases decide (k = (bl x.Text).length) <;> cases (kd == x.Kind) <;> cases (n == x.N) <;> first | rfl | exact hj
    unfold fR
    simp only
    rw [hst]
    cases rightP x != 0 with
    | true => rfl
    | false =>
      refine ⟨rfl, ?_⟩
      split
      · rename_i h0
        subst h0
        rw [bl_mkS, List.length_append]
        omega
      · rw [bl_mkS, List.length_append, List.length_cons]
        omega
  · simp only
    unfold ref1_Text_L1
    rw [if_neg (by simp)]
/-- Both loops come to the same. -/
def sameRun : BrT → BrT' → Prop
  | .ret r, .ret r' => r = r'
  | .brk ts, .brk s => bl s = joinT ts
  | _, _ => False
theorem runs_same : ∀ (l : List Tok) (i : Nat) (ts : List ByteArray) (s : ByteArray), ts.length = i → bl s = joinT ts → sameRun (run fP .brk i ts l) (run fR .brk i s l) := by
  intro l
  induction l with
  | nil => intro i ts s _ h; exact h
  | cons x l ih =>
    intro i ts s hi h
    simp only [run, fP, fR]
    cases rightP x != 0 with
    | true => exact rfl
    | false =>
      simp only [Bool.false_eq_true, if_false]
      refine ih (i + 1) _ _ (by simp [hi]) ?_
      rw [joinT_snoc]
      by_cases h0 : i = 0
      · have : ts = [] := List.length_eq_zero_iff.1 (by omega)
        subst this
        rw [if_pos h0, if_pos rfl, bl_mkS, h]; rfl
      · have : ts ≠ [] := fun hn => h0 (by rw [← hi, hn]; rfl)
        rw [if_neg h0, if_neg this, bl_mkS, h]
theorem run_texts : ∀ (l : List Tok) (i : Nat) (ts out : List ByteArray), run fP .brk i ts l = .brk out → out = ts ++ l.map (·.Text) := by
  intro l
  induction l with
  | nil => intro i ts out h; simp only [run, Br.brk.injEq] at h; simp [h]
  | cons x l ih =>
    intro i ts out h
    simp only [run, fP] at h
    cases hx : rightP x != 0 with
    | true => rw [hx] at h; simp at h
    | false =>
      rw [hx] at h
      simp only [Bool.false_eq_true, if_false] at h
      rw [ih _ _ _ h]; simp
def textP (l : List Tok) : ByteArray × Flt := if decide (800 < l.length) then (mkS [], ⟨2, 0⟩) else match run fP .brk 0 [] l with
  | .ret r => r
  | .brk ts => if decide (2000 < (joinT ts).length) then (mkS [], ⟨10, 0⟩) else (mkS (joinT ts), ⟨0, 0⟩)
theorem tok_text {l : List Tok} (hl : SmT l) : token_Text l = some (textP l) := by
  unfold token_Text textP
  have e : decide ((800 : Int) < (l.length : Int)) = decide (800 < l.length) := by apply decide_eq_decide.2; omega
  rw [e]
  by_cases h8 : 800 < l.length
  · simp only [h8, decide_true, if_true]; rfl
  · simp only [h8, decide_false, Bool.false_eq_true, if_false]
    rw [text_loop hl (by omega), Option.bind_some]
    cases hr : run fP .brk 0 [] l with
    | ret r => rfl
    | brk ts =>
      have hts := run_texts l 0 [] ts hr
      rw [List.nil_append] at hts
      have hlen : (joinT ts).length ≤ 3200000800 := by
        have := joinT_len ts (fun t ht => by
          rw [hts] at ht
          obtain ⟨x, hx, rfl⟩ := List.mem_map.1 ht
          exact hl x hx)
        have h2 : ts.length = l.length := by rw [hts]; simp
        rw [h2] at this
        omega
      have h2 : ts.length = l.length := by rw [hts]; simp
      have hc : ts.length ≤ 140737488355328 ∧ (joinT ts).length ≤ 140737488355328 := ⟨by omega, by omega⟩
      have hj : joinS ts (ByteArray.mk #[32]) = some (mkS (joinT ts)) := by
        unfold joinS
        rw [show (ts.map (·.data.toList)) = ts.map bl from rfl, show (ByteArray.mk #[32]).data.toList = [32] from rfl, show Lib.join (ts.map bl) [32] = joinT ts from rfl, if_pos hc]
        rfl
      simp only [Br.go, hj, Option.bind_some, size_mkS]
      have e2 : decide ((2000 : Int) < ((joinT ts).length : Int)) = decide (2000 < (joinT ts).length) := by apply decide_eq_decide.2; omega
      rw [e2]
      cases decide (2000 < (joinT ts).length) <;> rfl
theorem ref_text {l : List Tok} (hl : SmT l) : ref1_Text l = some (textP l) := by
  unfold ref1_Text textP
  have e : decide ((800 : Int) < (l.length : Int)) = decide (800 < l.length) := by apply decide_eq_decide.2; omega
  rw [e]
  by_cases h8 : 800 < l.length
  · simp only [h8, decide_true, if_true]; rfl
  · simp only [h8, decide_false, Bool.false_eq_true, if_false]
    have hrl := rtext_loop hl (by omega)
    have hs := runs_same l 0 [] (mkS []) rfl rfl
    rw [show (ByteArray.mk #[]) = mkS [] from rfl, hrl, Option.bind_some]
    cases hr : run fP .brk 0 [] l with
    | ret r =>
      rw [hr] at hs
      cases hr' : run fR .brk 0 (mkS []) l with
      | ret r' => rw [hr'] at hs; rw [show r = r' from hs]; rfl
      | brk s => rw [hr'] at hs; exact hs.elim
    | brk ts =>
      rw [hr] at hs
      cases hr' : run fR .brk 0 (mkS []) l with
      | ret r' => rw [hr'] at hs; exact hs.elim
      | brk s =>
        rw [hr'] at hs
        have hs : bl s = joinT ts := hs
        simp only [Br.go]
        rw [← hs]
        have e2 : decide ((2000 : Int) < (s.size : Int)) = decide (2000 < (bl s).length) := by rw [size_bl]; apply decide_eq_decide.2; omega
        rw [e2]
        cases decide (2000 < (bl s).length) with
        | true => rfl
        | false => simp
theorem tokenWrites_true (l : List Tok) (hl : SmT l) : law1_TokenWrites l = some true := by
  unfold law1_TokenWrites
  split
  · rfl
  · rw [tok_text hl, ref_text hl]
    simp
end Go.Ab.Tk
