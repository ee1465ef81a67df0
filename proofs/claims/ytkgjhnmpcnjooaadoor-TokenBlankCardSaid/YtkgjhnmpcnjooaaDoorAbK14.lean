/-
  PLAIN LAWS (words): the text of words is read back; TokenBack.
-/
import Derived.Test.YtkgjhnmpcnjooaaDoorAbK13
namespace Go.Ab.Tk
open Go

theorem skip_stay {l : L8} {k : Nat} (hk : spanL isBl l = k) (h1 : pre2 47 47 (l.drop k) = false) (h2 : pre2 47 42 (l.drop k) = false) : skipP l = (k, true) := by
  unfold skipP skipF
  rw [hk, h1, h2]; rfl
theorem span_word {a : UInt8} {t : L8} {y : Int × Nat × Int} (h : nextP (a :: t) = .inl y) (s : L8) : spanL isBl (a :: t ++ s) = 0 := by
  rw [List.cons_append, spanL_cons, word_begin h]; rfl
theorem is32 : isBl 32 = true := by decide
theorem st32 : stopB 32 = true := by decide
theorem st10 : stopB 10 = true := by decide
/-- What stands before a word: nothing, or one blank. -/
def preB (b : Bool) : L8 := if b then [32] else []
theorem skip_word {a : UInt8} {t : L8} {kd n : Int} (h : nextP (a :: t) = .inl (kd, (a :: t).length, n)) (b : Bool) (s : L8) (hs : s = [] ∨ ∃ x s', s = x :: s' ∧ stopB x = true) : skipP (preB b ++ (a :: t ++ s)) = ((preB b).length, true) := by
  have hp : pre2 47 47 (a :: t ++ s) = false ∧ pre2 47 42 (a :: t ++ s) = false := by
    rcases hs with rfl | ⟨x, s', rfl, hx⟩
    · rw [List.append_nil]
      exact ⟨(word_remark h 32 [] st32 47 (.inl rfl)).2, (word_remark h 32 [] st32 42 (.inr rfl)).2⟩
    · exact ⟨(word_remark h x s' hx 47 (.inl rfl)).1, (word_remark h x s' hx 42 (.inr rfl)).1⟩
  cases b with
  | false => exact skip_stay (span_word h s) hp.1 hp.2
  | true =>
    refine skip_stay (k := 1) ?_ hp.1 hp.2
    show spanL isBl (32 :: (a :: t ++ s)) = 1
    rw [spanL_cons, is32, if_pos rfl, span_word h s]
theorem rightP_inv {t : Tok} (h : rightP t = 0) : ∃ a r, bl t.Text = a :: r ∧ nextP (a :: r) = .inl (t.Kind, (a :: r).length, t.N) := by
  unfold rightP at h
  split at h
  · omega
  · split at h
    · omega
    · rename_i hb
      rw [Bool.not_eq_true, Bool.or_eq_false_iff] at hb
      obtain ⟨a, r, hr⟩ := cons_of_ne hb.1
      rw [hr] at h
      refine ⟨a, r, hr, ?_⟩
      split at h
      · rename_i kd k n hN
        split at h
        · rename_i hc
          simp only [Bool.and_eq_true, decide_eq_true_eq, beq_iff_eq] at hc
          rw [hN, hc.1.1, hc.1.2, hc.2]
        · omega
      · omega
theorem joinT_cons (x : ByteArray) : ∀ ys : List ByteArray, joinT (x :: ys) = bl x ++ (if ys = [] then [] else 32 :: joinT ys)
  | [] => by simp [joinT, Lib.join, List.intercalate]
  | y :: ys => by
    rw [if_neg (List.cons_ne_nil _ _)]
    unfold joinT Lib.join
    simp only [List.map_cons, List.intercalate, List.intersperse_cons_cons, List.flatten_cons]
    simp
def bare1 (t : Tok) : Tok := ⟨t.Kind, t.Text, t.N, 0⟩
theorem scan_join : ∀ (ts : List Tok) (n at_ : Nat) (out : List Tok) (b : Bool), (∀ t ∈ ts, rightP t = 0) → (b = true → ts ≠ []) → out.length + ts.length ≤ 800 → (preB b ++ joinT (ts.map (·.Text))).length < n →
    ∃ out', scanF n at_ out (preB b ++ joinT (ts.map (·.Text))) = (out ++ out', ⟨0, 0⟩) ∧ out'.map bare1 = ts.map bare1 := by
  intro ts
  induction ts with
  | nil =>
    intro n at_ out b _ hb _ hn
    have : b = false := by cases b with
      | false => rfl
      | true => exact absurd rfl (hb rfl)
    subst this
    cases n with
    | zero => omega
    | succ n =>
      refine ⟨[], ?_, rfl⟩
      rw [List.append_nil]
      have e : (preB false ++ joinT (([] : List Tok).map (·.Text))) = [] := rfl
      rw [e]
      unfold scanF
      have : skipP [] = (0, true) := by decide
      rw [this]; rfl
  | cons t ts ih =>
    intro n at_ out b hr hb ho hn
    cases n with
    | zero => omega
    | succ n =>
      obtain ⟨a, r, htx, hN⟩ := rightP_inv (hr t (List.mem_cons_self ..))
      rw [List.map_cons, joinT_cons, htx] at hn ⊢
      let tail : L8 := if ts.map (·.Text) = [] then [] else 32 :: joinT (ts.map (·.Text))
      have htl : (if ts.map (·.Text) = [] then [] else 32 :: joinT (ts.map (·.Text))) = tail := rfl
      rw [htl] at hn ⊢
      have hts : tail = preB (!ts.isEmpty) ++ joinT (ts.map (·.Text)) := by
        cases ts with
        | nil => rfl
        | cons _ _ => rfl
      have hstop : tail = [] ∨ ∃ x s', tail = x :: s' ∧ stopB x = true := by
        cases ts with
        | nil => exact .inl rfl
        | cons u us => exact .inr ⟨32, _, rfl, st32⟩
      have hNt : nextP (a :: r ++ tail) = .inl (t.Kind, (a :: r).length, t.N) := by
        rcases hstop with h0 | ⟨x, s', h0, hx⟩
        · rw [h0, List.append_nil]; exact hN
        · rw [h0]; exact nextP_stop hx s' hN
      have hsk := skip_word hN b tail hstop
      unfold scanF
      rw [hsk]
      have hd : (preB b ++ (a :: r ++ tail)).drop (preB b).length = a :: r ++ tail := by simp
      simp only [Bool.not_true, Bool.false_eq_true, if_false, hd]
      have hlen : ¬ ((a :: r ++ tail).length = 0) := by simp
      have hout : ¬ (out.length = 800) := by simp at ho; omega
      rw [if_neg hlen, if_neg hout, hNt]
      simp only
      have hdr : (a :: r ++ tail).drop (a :: r).length = tail := by simp
      have htk : (a :: r ++ tail).take (a :: r).length = a :: r := by simp
      rw [hdr, htk, hts]
      have hmk : mkS (a :: r) = t.Text := by rw [← htx, mkS_bl]
      rw [hmk]
      obtain ⟨out', h1, h2⟩ := ih n (at_ + (preB b).length + (a :: r).length) (out ++ [⟨t.Kind, t.Text, t.N, ((at_ + (preB b).length : Nat) : Int)⟩]) (!ts.isEmpty) (fun u hu => hr u (List.mem_cons_of_mem _ hu)) (fun he hn => by rw [hn] at he; cases he) (by simp at ho ⊢; omega) (by
        rw [← hts]
        simp at hn ⊢; omega)
      refine ⟨⟨t.Kind, t.Text, t.N, ((at_ + (preB b).length : Nat) : Int)⟩ :: out', ?_, ?_⟩
      · rw [h1]; simp
      · rw [List.map_cons, List.map_cons, h2]; rfl
/-! ### Faults, and words that were read -/
theorem scanF_fault : ∀ n at_ out l, (scanF n at_ out l).2.Code ≠ 0 → (scanF n at_ out l).1 = [] := by
  intro n
  induction n with
  | zero => intro at_ out l _; rfl
  | succ n ih =>
    intro at_ out l
    unfold scanF
    split
    · intro _; rfl
    · split
      · intro h; exact absurd rfl h
      · split
        · intro _; rfl
        · split
          · intro _; rfl
          · exact ih _ _ _
theorem scanP_fault {l : L8} (h : (scanP l).2.Code ≠ 0) : (scanP l).1 = [] := by
  unfold scanP at h ⊢
  split
  · rfl
  · rename_i hc
    rw [if_neg hc] at h
    exact scanF_fault _ _ _ _ h
theorem kind_rng {r : L8} {kd n : Int} {j : Nat} (h : nextP r = .inl (kd, j, n)) : 1 ≤ kd ∧ kd ≤ 4 := by
  unfold nextP at h
  simp only at h
  repeat' (split at h)
  all_goals first | (simp only [Sum.inl.injEq, Prod.mk.injEq] at h; omega) | cases h
theorem right_mk {w : L8} {kd m at_ : Int} {j : Nat} (hN : nextP w = .inl (kd, j, m)) (hl : w.length = j) (hj : 0 < j) (hk : 1 ≤ kd ∧ kd ≤ 4) (ha : 0 ≤ at_) : rightP ⟨kd, mkS w, m, at_⟩ = 0 := by
  have e1 : (decide (1 ≤ kd) && decide (kd ≤ 4)) = true := by simp [hk]
  have e2 : ((w == []) || decide (at_ < 0)) = false := by
    rw [Bool.or_eq_false_iff]
    refine ⟨?_, by simp only [decide_eq_false_iff_not]; omega⟩
    cases w with
    | nil => simp at hl; omega
    | cons _ _ => rfl
  have e : rightP ⟨kd, mkS w, m, at_⟩ = if !(decide (1 ≤ kd) && decide (kd ≤ 4)) then 4 else if (w == []) || decide (at_ < 0) then 5 else match nextP w with
    | .inl (kd', k, n) => if decide (k = w.length) && (kd' == kd) && (n == m) then 0 else 5
    | .inr _ => 5 := rfl
  rw [e, e1, e2, hN]
  simp [hl]
theorem scanF_right : ∀ n at_ out l, ∀ t ∈ (scanF n at_ out l).1, t ∈ out ∨ rightP t = 0 := by
  intro n
  induction n with
  | zero => intro at_ out l t h; simp [scanF] at h
  | succ n ih =>
    intro at_ out l t
    unfold scanF
    split
    · intro h; simp at h
    · split
      · intro h; exact .inl h
      · rename_i hne
        split
        · intro h; simp at h
        · split
          · intro h; simp at h
          · rename_i kd j m hN
            intro h
            rcases ih _ _ _ t h with h | h
            · rw [List.mem_append] at h
              rcases h with h | h
              · exact .inl h
              · refine .inr ?_
                simp only [List.mem_cons, List.not_mem_nil, or_false] at h
                subst h
                cases hd : l.drop (skipP l).1 with
                | nil => rw [hd] at hne; simp at hne
                | cons a r =>
                  rw [hd] at hN
                  have h1 := nextP_len (List.cons_ne_nil a r) hN
                  have h2 := nextP_take hN
                  have h3 := kind_rng hN
                  have hlen : ((a :: r).take j).length = j := by rw [List.length_take]; omega
                  exact right_mk h2 hlen h1.1 h3 (by omega)
            · exact .inr h
theorem scanF_sub : ∀ n at_ out l, ∀ t ∈ (scanF n at_ out l).1, t ∈ out ∨ (bl t.Text).length ≤ l.length := by
  intro n
  induction n with
  | zero => intro at_ out l t h; simp [scanF] at h
  | succ n ih =>
    intro at_ out l t
    unfold scanF
    split
    · intro h; simp at h
    · split
      · intro h; exact .inl h
      · split
        · intro h; simp at h
        · split
          · intro h; simp at h
          · intro h
            rcases ih _ _ _ t h with h | h
            · rw [List.mem_append] at h
              rcases h with h | h
              · exact .inl h
              · refine .inr ?_
                simp only [List.mem_cons, List.not_mem_nil, or_false] at h
                subst h
                simp only [bl_mkS, List.length_take, List.length_drop]
                omega
            · refine .inr (Nat.le_trans h ?_)
              simp only [List.length_drop]; omega
theorem scan_sub (l : L8) : ∀ t ∈ (scanP l).1, (bl t.Text).length ≤ l.length := by
  intro t h
  unfold scanP at h
  split at h
  · simp at h
  · rcases scanF_sub _ _ _ _ t h with h | h
    · simp at h
    · exact h
theorem scanP_right (l : L8) : ∀ t ∈ (scanP l).1, rightP t = 0 := by
  intro t h
  unfold scanP at h
  split at h
  · simp at h
  · rcases scanF_right _ _ _ _ t h with h | h
    · simp at h
    · exact h
theorem run_right : ∀ (l : List Tok) (i : Nat) (ts out : List ByteArray), run fP .brk i ts l = .brk out → ∀ t ∈ l, rightP t = 0 := by
  intro l
  induction l with
  | nil => intro i ts out _ t ht; simp at ht
  | cons x l ih =>
    intro i ts out h t ht
    simp only [run, fP] at h
    cases hx : rightP x != 0 with
    | true => rw [hx] at h; simp at h
    | false =>
      rw [hx] at h
      simp only [Bool.false_eq_true, if_false] at h
      rcases List.mem_cons.1 ht with rfl | ht
      · simpa using hx
      · exact ih _ _ _ h t ht
theorem run_ok : ∀ (l : List Tok) (i : Nat) (ts : List ByteArray), (∀ t ∈ l, rightP t = 0) → run fP .brk i ts l = .brk (ts ++ l.map (·.Text)) := by
  intro l
  induction l with
  | nil => intro i ts _; simp [run]
  | cons x l ih =>
    intro i ts h
    simp only [run, fP]
    rw [h x (List.mem_cons_self ..)]
    have : ((0 : Int) != 0) = false := by decide
    rw [this]
    simp only [Bool.false_eq_true, if_false]
    rw [ih _ _ fun t ht => h t (List.mem_cons_of_mem _ ht)]; simp
theorem run_ret : ∀ (l : List Tok) (i : Nat) (ts : List ByteArray) (r : ByteArray × Flt), run fP .brk i ts l = .ret r → r.1 = mkS [] ∧ r.2.Code ≠ 0 := by
  intro l
  induction l with
  | nil => intro i ts r h; simp [run] at h
  | cons x l ih =>
    intro i ts r h
    simp only [run, fP] at h
    cases hx : rightP x != 0 with
    | true =>
      rw [hx] at h
      simp only [if_true, Br.ret.injEq] at h
      subst h
      exact ⟨rfl, by simpa using hx⟩
    | false =>
      rw [hx] at h
      exact ih _ _ _ h
/-- What it says of a text of words that there is one. -/
theorem textP_ok {l : List Tok} (h : (textP l).2.Code = 0) : l.length ≤ 800 ∧ (∀ t ∈ l, rightP t = 0) ∧ (textP l).1 = mkS (joinT (l.map (·.Text))) ∧ (joinT (l.map (·.Text))).length ≤ 2000 := by
  unfold textP at h ⊢
  by_cases h8 : 800 < l.length
  · simp [h8] at h
  · simp only [h8, decide_false, Bool.false_eq_true, if_false] at h ⊢
    cases hr : run fP .brk 0 [] l with
    | ret r =>
      rw [hr] at h
      exact absurd h (run_ret _ _ _ _ hr).2
    | brk ts =>
      rw [hr] at h
      have h1 := run_texts _ _ _ _ hr
      rw [List.nil_append] at h1
      subst h1
      simp only at h ⊢
      by_cases h2 : 2000 < (joinT (l.map (·.Text))).length
      · simp [h2] at h
      · simp only [h2, decide_false, Bool.false_eq_true, if_false]
        exact ⟨by omega, run_right _ _ _ _ hr, trivial, by omega⟩
theorem textP_bad {l : List Tok} (h : (textP l).2.Code ≠ 0) : (textP l).1 = mkS [] := by
  unfold textP at h ⊢
  split
  · rfl
  · rename_i hc
    rw [if_neg hc] at h
    cases hr : run fP .brk 0 [] l with
    | ret r => exact (run_ret _ _ _ _ hr).1
    | brk ts =>
      rw [hr] at h
      simp only at h ⊢
      split
      · rfl
      · rename_i h2; rw [if_neg h2] at h; exact absurd rfl h
theorem textP_right {l : List Tok} (h8 : l.length ≤ 800) (hr : ∀ t ∈ l, rightP t = 0) (h : (textP l).2.Code ≠ 0) : (textP l).2.Code = 10 := by
  unfold textP at h ⊢
  have : ¬ (800 < l.length) := by omega
  simp only [this, decide_false, Bool.false_eq_true, if_false, run_ok l 0 [] hr] at h ⊢
  split
  · rfl
  · rename_i h2; rw [if_neg h2] at h; exact absurd rfl h
theorem scan_text {l : List Tok} (h : (textP l).2.Code = 0) : (scanP (bl (textP l).1)).2.Code = 0 ∧ (scanP (bl (textP l).1)).1.map bare1 = l.map bare1 := by
  obtain ⟨h8, hr, hs, h2⟩ := textP_ok h
  rw [hs, bl_mkS]
  unfold scanP
  have : ¬ (2000 < (joinT (l.map (·.Text))).length) := by omega
  simp only [this, decide_false, Bool.false_eq_true, if_false]
  obtain ⟨out', h3, h4⟩ := scan_join l ((joinT (l.map (·.Text))).length + 1) 0 [] false hr (fun h => by cases h) (by simpa using h8) (by simp [preB])
  have e : preB false ++ joinT (l.map (·.Text)) = joinT (l.map (·.Text)) := rfl
  rw [e] at h3
  rw [h3]
  exact ⟨rfl, by simpa using h4⟩
theorem bare_eq {l : List Tok} (h : l.length ≤ 4000000) : law1_bare l = some (l.map bare1) := by
  unfold law1_bare
  have := Loop_run (l := l) (fun (s : List Tok) i => (s, i)) (fun _ s x => (.inr (s ++ [bare1 x]) : List Tok ⊕ List Tok)) (fun s => s) (fun i s => s.length = i) (step := fun (s : ((List XApi_Token) × Int)) => law1_bare_L1 l s.1 s.2) (fun i s hi hI => by
    simp only
    refine ⟨?_, by simp [hI]⟩
    unfold law1_bare_L1
    rw [if_pos (by simp only [decide_eq_true_eq]; omega), idx_lt hi, Option.bind_some, w64_succ (by omega)]
    have ea : ∀ y : Tok, app s [y] = some (s ++ [y]) := fun y => by unfold app; rw [if_pos (by simp; omega)]
    rw [ea]; rfl) (fun s hI => by
    simp only
    unfold law1_bare_L1
    rw [if_neg (by simp)]) (s0 := []) rfl
  rw [this, Option.bind_some]
  congr 1
  have key : ∀ (l : List Tok) (i : Nat) (s : List Tok), run (fun _ s x => (.inr (s ++ [bare1 x]) : List Tok ⊕ List Tok)) (fun s => s) i s l = s ++ l.map bare1 := by
    intro l
    induction l with
    | nil => intro i s; simp [run]
    | cons x l ih => intro i s; simp only [run]; rw [ih]; simp
  rw [key]; simp
theorem fact_scan : scanP [120, 49, 43, 61, 48, 120, 49, 102] = ([⟨1, mkS [120, 49], 0, 0⟩, ⟨4, mkS [43, 61], 0, 2⟩, ⟨2, mkS [48, 120, 49, 102], 31, 4⟩], ⟨0, 0⟩) := by decide +kernel
theorem fact_text : textP [⟨1, mkS [120, 49], 0, 0⟩, ⟨4, mkS [43, 61], 0, 2⟩, ⟨2, mkS [48, 120, 49, 102], 31, 4⟩] = (mkS [120, 49, 32, 43, 61, 32, 48, 120, 49, 102], ⟨0, 0⟩) := by decide +kernel
theorem fact_true : law1_tokenFact = some true := by
  unfold law1_tokenFact
  have h1 : token_Scan (ByteArray.mk #[120, 49, 43, 61, 48, 120, 49, 102]) = some (scanP [120, 49, 43, 61, 48, 120, 49, 102]) := tok_scan (l := [120, 49, 43, 61, 48, 120, 49, 102]) (by simp [Sm])
  rw [h1, Option.bind_some, fact_scan]
  simp only
  rw [tok_text (by
    intro t ht
    simp only [List.mem_cons, List.not_mem_nil, or_false] at ht
    rcases ht with rfl | rfl | rfl <;> simp [Sm]), Option.bind_some, fact_text]
  have e : ((mkS [120, 49, 32, 43, 61, 32, 48, 120, 49, 102]).toList == (ByteArray.mk #[120, 49, 32, 43, 61, 32, 48, 120, 49, 102]).toList) = true := by
    rw [show (ByteArray.mk #[120, 49, 32, 43, 61, 32, 48, 120, 49, 102]) = mkS [120, 49, 32, 43, 61, 32, 48, 120, 49, 102] from rfl, beq_mkS]; rfl
  have hi : idx ([⟨1, mkS [120, 49], 0, 0⟩, ⟨4, mkS [43, 61], 0, 2⟩, ⟨2, mkS [48, 120, 49, 102], 31, 4⟩] : List Tok) 2 = some ⟨2, mkS [48, 120, 49, 102], 31, 4⟩ := rfl
  simp only [hi, Option.bind_some, e]
  rfl
theorem sc_len {l : L8} : (scanP l).1.length ≤ 4000000 := by have := scanP_len l; omega
theorem tokenBack_true (l : List Tok) (a1 : ByteArray) (hl : SmT l) (hn : l.length ≤ 4000000) (ha : Sm (bl a1)) : law1_TokenBack l a1 = some true := by
  have hJ : law1_TokenBack_J1 a1 = some true := by
    unfold law1_TokenBack_J1
    have h1 := tok_scan ha
    rw [mkS_bl] at h1
    rw [h1, Option.bind_some]
    by_cases hc : (scanP (bl a1)).2.Code = 0
    · have e : ((scanP (bl a1)).2.Code != 0) = false := by rw [hc]; rfl
      rw [e, if_neg (by simp)]
      have hr := scanP_right (bl a1)
      have hlen := scanP_len (bl a1)
      have hsm : SmT (scanP (bl a1)).1 := fun t ht => by
        exact Nat.le_trans (scan_sub _ t ht) ha
      rw [tok_text hsm, Option.bind_some]
      by_cases ht : (textP (scanP (bl a1)).1).2.Code = 0
      · have e2 : ((textP (scanP (bl a1)).1).2.Code != 0) = false := by rw [ht]; rfl
        rw [e2, if_neg (by simp)]
        obtain ⟨h2, h3⟩ := scan_text ht
        obtain ⟨_, _, h4, h5⟩ := textP_ok ht
        have h6 : token_Scan (textP (scanP (bl a1)).1).1 = some (scanP (bl (textP (scanP (bl a1)).1).1)) := by
          rw [h4, bl_mkS]; exact tok_scan (by unfold Sm; omega)
        rw [h6, Option.bind_some, h2, bare_eq sc_len, bare_eq sc_len, Option.bind_some, Option.bind_some, same_tokens (by rw [List.length_map]; exact sc_len), h3]
        simp
      · have e2 : ((textP (scanP (bl a1)).1).2.Code != 0) = true := by simpa using ht
        rw [e2, if_pos rfl, textP_right hlen hr ht]; rfl
    · have e : ((scanP (bl a1)).2.Code != 0) = true := by simpa using hc
      rw [e, if_pos rfl, scanP_fault hc]; rfl
  unfold law1_TokenBack
  rw [fact_true, Option.bind_some, hJ, tok_text hl]
  simp only [Bool.not_true, Bool.false_eq_true, if_false, Option.bind_some]
  by_cases ht : (textP l).2.Code = 0
  · obtain ⟨h2, h3⟩ := scan_text ht
    obtain ⟨_, _, h4, h5⟩ := textP_ok ht
    have h6 : token_Scan (textP l).1 = some (scanP (bl (textP l).1)) := by
      rw [h4, bl_mkS]; exact tok_scan (by unfold Sm; omega)
    have e : ((textP l).2.Code == 0) = true := by rw [ht]; rfl
    have e2 : ((scanP (bl (textP l).1)).2.Code != 0) = false := by rw [h2]; rfl
    rw [e, if_pos rfl, h6, Option.bind_some, e2, bare_eq sc_len, bare_eq hn, Option.bind_some, Option.bind_some, same_tokens (by rw [List.length_map]; exact sc_len), h3]
    simp
  · have e : ((textP l).2.Code == 0) = false := by simpa using ht
    have e2 : ((textP l).1.toList != (ByteArray.mk #[]).toList) = false := by
      rw [textP_bad ht, show (ByteArray.mk #[]) = mkS [] from rfl]
      simp [bne, beq_mkS]
    rw [e, if_neg (by simp), e2, if_neg (by simp)]
end Go.Ab.Tk
