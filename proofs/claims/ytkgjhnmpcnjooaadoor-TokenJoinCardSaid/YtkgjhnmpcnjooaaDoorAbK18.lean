/-
  PLAIN LAWS (words): TokenJoin.
-/
import Derived.Test.YtkgjhnmpcnjooaaDoorAbK17
namespace Go.Ab.Tk
open Go

theorem chain_at {L : L8} : ∀ {e : Nat} {ts : List Tok}, Chain L e ts → ∀ t ∈ ts, 0 ≤ t.At ∧ t.At ≤ (L.length : Int)
  | _, [], _, t, h => by cases h
  | _, u :: ts, ⟨p, j, h1, _, h3, _, _, h6⟩, t, ht => by
    rcases List.mem_cons.1 ht with rfl | ht
    · rw [h1]
      have : p < L.length := by
        rcases Nat.lt_or_ge p L.length with h | h
        · exact h
        · exact absurd (List.drop_eq_nil_of_le h) h3
      omega
    · exact chain_at h6 t ht
theorem scanP_chain {L : L8} (h : (scanP L).2.Code = 0) : Chain L 0 (scanP L).1 := by
  unfold scanP at h ⊢
  by_cases h2 : 2000 < L.length
  · simp [h2] at h
  · simp only [h2, decide_false, Bool.false_eq_true, if_false] at h ⊢
    obtain ⟨ts, h3, h4⟩ := scanF_chain (L := L) (L.length + 1) 0 [] (by simp) (by rw [List.drop_zero]; exact h)
    rw [List.drop_zero] at h3
    rw [h3]; exact h4
theorem scanP_small {L : L8} (h : L.length ≤ 2000) : scanP L = scanF (L.length + 1) 0 [] L := by
  unfold scanP
  rw [if_neg (by simp only [decide_eq_true_eq]; omega)]
theorem join_loop {a : ByteArray} {x3 : List Tok × Flt} (ha : a.size ≤ 4000) (h3 : x3.1.length ≤ 800) (hat : ∀ t ∈ x3.1, 0 ≤ t.At ∧ t.At ≤ 4000) {s0 : List Tok} (hs : s0.length ≤ 800) :
    Loop (fun (s : ((List XApi_Token) × Int)) => law1_TokenJoin_L1 a x3 s.1 s.2) (s0, 0) = some (s0 ++ x3.1.map (shT (a.size + 1))) := by
  have := Loop_run (l := x3.1) (fun (s : List Tok) i => (s, i)) (fun _ s x => (.inr (s ++ [shT (a.size + 1) x]) : List Tok ⊕ List Tok)) (fun s => s) (fun i s => s.length = s0.length + i) (step := fun (s : ((List XApi_Token) × Int)) => law1_TokenJoin_L1 a x3 s.1 s.2) (fun i s hi hI => by
    simp only
    refine ⟨?_, by simp [hI]; omega⟩
    unfold law1_TokenJoin_L1
    have ht := hat _ (List.getElem_mem hi)
    have e1 : w64 (w64 ((x3.1[i]).At + (a.size : Int)) + 1) = (x3.1[i]).At + ((a.size + 1 : Nat) : Int) := by
      rw [w64_id (n := (x3.1[i]).At + (a.size : Int)) (by omega) (by omega), w64_id (by omega) (by omega)]; omega
    rw [if_pos (by simp only [decide_eq_true_eq]; omega), idx_lt hi, Option.bind_some, w64_succ (by omega), e1]
    have ea : ∀ y : Tok, app s [y] = some (s ++ [y]) := fun y => by unfold app; rw [if_pos (by simp; omega)]
    rw [ea]; rfl) (fun s hI => by
    simp only
    unfold law1_TokenJoin_L1
    rw [if_neg (by simp)]) (s0 := s0) rfl
  rw [this]
  congr 1
  have key : ∀ (l : List Tok) (i : Nat) (s : List Tok), run (fun _ s x => (.inr (s ++ [shT (a.size + 1) x]) : List Tok ⊕ List Tok)) (fun s => s) i s l = s ++ l.map (shT (a.size + 1)) := by
    intro l
    induction l with
    | nil => intro i s; simp [run]
    | cons x l ih => intro i s; simp only [run]; rw [ih]; simp
  rw [key]
theorem tokenJoin_true (a b : ByteArray) (ha : a.size ≤ 1000000000000000) (hb : b.size ≤ 1000000000000000) : law1_TokenJoin a b = some true := by
  unfold law1_TokenJoin
  rw [fact_true, Option.bind_some]
  simp only [Bool.not_true, Bool.false_eq_true, if_false]
  have ew : w64 ((a.size : Int) + (b.size : Int)) = ((a.size + b.size : Nat) : Int) := by rw [w64_id (by omega) (by omega)]; omega
  rw [ew]
  by_cases h19 : 1900 < a.size + b.size
  · rw [if_pos (by simp only [decide_eq_true_eq]; omega)]
  · rw [if_neg (by simp only [decide_eq_true_eq]; omega)]
    have hal : (bl a).length = a.size := (size_bl a).symm
    have hbl : (bl b).length = b.size := (size_bl b).symm
    have c1 : catS a (ByteArray.mk #[10]) = some (mkS (bl a ++ [10])) := catS_ok (by show _ + 1 ≤ _; omega)
    have c2 : catS (mkS (bl a ++ [10])) b = some (mkS (bl a ++ 10 :: bl b)) := by
      rw [catS_ok (by rw [size_mkS]; simp; omega), bl_mkS]
      simp
    rw [tok_scan_all a, tok_scan_all b, Option.bind_some, Option.bind_some, c1, Option.bind_some, c2, Option.bind_some, tok_scan_all, Option.bind_some, bl_mkS]
    have hj : (bl a ++ 10 :: bl b).length = a.size + b.size + 1 := by simp [hal, hbl]; omega
    have sa := scanP_small (L := bl a) (by omega)
    have sb := scanP_small (L := bl b) (by omega)
    have sj := scanP_small (L := bl a ++ 10 :: bl b) (by omega)
    obtain ⟨l1, l2⟩ := scan_lf (b := bl b) (N := (bl b).length + 1) (Nat.lt_succ_self _) ((bl a).length + 1) 0 [] (bl a) (Nat.lt_succ_self _) ((bl a ++ 10 :: bl b).length + 1) (Nat.lt_succ_self _)
    rw [← sa, ← sj] at l1 l2
    by_cases hc : (scanP (bl a)).2.Code = 0
    · have e0 : ((scanP (bl a)).2.Code != 0) = false := by rw [hc]; rfl
      rw [e0, if_neg (by simp)]
      have h1 := l1 hc
      have hla := scanP_len (bl a)
      have hlb := scanP_len (bl b)
      obtain ⟨m1, m2⟩ := scan_shift ((bl a).length + 1) (scanP (bl a)).1 ((bl b).length + 1) 0 [] (bl b) (Nat.lt_succ_self _)
      rw [← sb] at m1 m2
      have e1 : (0 + ((bl a).length + 1)) = 0 + (bl a).length + 1 := by omega
      rw [e1] at m1 m2
      simp only [List.map_nil, List.append_nil] at m1 m2
      rw [← h1] at m1 m2
      have ew2 : w64 (((scanP (bl a)).1.length : Int) + ((scanP (bl b)).1.length : Int)) = (((scanP (bl a)).1.length + (scanP (bl b)).1.length : Nat) : Int) := by rw [w64_id (by omega) (by omega)]; omega
      rw [ew2]
      by_cases hbad : (scanP (bl b)).2.Code ≠ 0 ∨ 800 < (scanP (bl a)).1.length + (scanP (bl b)).1.length
      · have e2 : (if ((scanP (bl b)).2.Code != 0) = true then true else decide ((800 : Int) < (((scanP (bl a)).1.length + (scanP (bl b)).1.length : Nat) : Int))) = true := by
          rw [ite_or, Bool.or_eq_true]
          rcases hbad with h | h
          · left; simpa using h
          · right; simp only [decide_eq_true_eq]; omega
        rw [e2, if_pos rfl]
        have := m2 hbad (by simp; omega)
        simpa using this
      · have hb0 : (scanP (bl b)).2.Code = 0 := by
          by_cases h : (scanP (bl b)).2.Code = 0
          · exact h
          · exact absurd (.inl h) hbad
        have hb8 : ¬ (800 < (scanP (bl a)).1.length + (scanP (bl b)).1.length) := fun h => hbad (.inr h)
        have e2 : (if ((scanP (bl b)).2.Code != 0) = true then true else decide ((800 : Int) < (((scanP (bl a)).1.length + (scanP (bl b)).1.length : Nat) : Int))) = false := by
          rw [ite_or, Bool.or_eq_false_iff]
          exact ⟨by rw [hb0]; rfl, by simp only [decide_eq_false_iff_not]; omega⟩
        rw [e2, if_neg (by simp)]
        have hm1 := m1 hb0 (by omega)
        have ea : app [] (scanP (bl a)).1 = some (scanP (bl a)).1 := by unfold app; rw [if_pos (by simp; omega)]; simp
        have hch := scanP_chain hb0
        rw [ea, Option.bind_some, join_loop (by omega) hlb (fun t ht => by
          have := chain_at hch t ht
          omega) hla, Option.bind_some, hm1]
        rw [hal, same_tokens (by simp; omega)]
        simp
    · have e0 : ((scanP (bl a)).2.Code != 0) = true := by simpa using hc
      rw [e0, if_pos rfl]
      by_cases h1 : (scanP (bl a)).2.Code = 1
      · rw [h1]; rfl
      · rw [l2 hc h1]
        simp
end Go.Ab.Tk
