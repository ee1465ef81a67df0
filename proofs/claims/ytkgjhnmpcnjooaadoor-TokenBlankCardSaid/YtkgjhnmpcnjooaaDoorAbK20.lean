/-
  PLAIN LAWS (words): TokenBlank is true.
-/
import Derived.Test.YtkgjhnmpcnjooaaDoorAbK19
namespace Go.Ab.Tk
open Go

theorem noStar_of {rem : L8} (h : findI (fun _ (c : UInt8) => if ((ch c == 42) || (ch c == 47)) = true then some true else none) 0 rem = none) : noStar rem = true := by
  unfold noStar
  rw [List.all_eq_true]
  intro c hc
  obtain ⟨j, hj, rfl⟩ := List.mem_iff_getElem.1 hc
  have := findI_none_get h j hj
  split at this
  · cases this
  · rename_i h1
    cases h2 : (ch rem[j] == 42) <;> cases h3 : (ch rem[j] == 47) <;> simp_all
theorem remark_loop (rem : ByteArray) (hr : rem.size ≤ 1000000) : Loop (fun (s : Int) => law1_TokenBlank_L1 rem s) 0 = some (brOf (findI (fun _ (c : UInt8) => if ((ch c == 42) || (ch c == 47)) = true then some true else none) 0 (bl rem))) := by
  have hl : (bl rem).length = rem.size := (size_bl rem).symm
  apply Loop_find
  · intro i h
    unfold law1_TokenBlank_L1
    rw [if_pos (by simp only [decide_eq_true_eq]; omega)]
    have e := sidx_mkS h
    rw [mkS_bl] at e
    rw [e]
    simp only [Option.bind_some]
    have ew : w64 ((i : Int) + 1) = ((i + 1 : Nat) : Int) := by rw [w64_id (by omega) (by omega)]; omega
    rw [ew]
    show (if (ch (bl rem)[i] == 42) = true then some true else some (ch (bl rem)[i] == 47)).bind _ = _
    cases (ch (bl rem)[i] == 42) <;> cases (ch (bl rem)[i] == 47) <;> rfl
  · unfold law1_TokenBlank_L1
    rw [if_neg (by simp only [decide_eq_true_eq]; omega)]
theorem tokenBlank_true (s : ByteArray) (k : Int) (rem : ByteArray) (hs : s.size ≤ 1000000000000000) (hr : rem.size ≤ 1000000000000000) : law1_TokenBlank s k rem = some true := by
  unfold law1_TokenBlank
  rw [fact_true, Option.bind_some]
  simp only [Bool.not_true, Bool.false_eq_true, if_false]
  rw [tok_scan_all s, Option.bind_some]
  have hsl : (bl s).length = s.size := (size_bl s).symm
  have hrl : (bl rem).length = rem.size := (size_bl rem).symm
  have hlen := scanP_len (bl s)
  by_cases hc : (scanP (bl s)).2.Code = 0
  · have e1 : ((scanP (bl s)).2.Code != 0) = false := by rw [hc]; rfl
    have e2 : ((scanP (bl s)).2.Code == 0) = true := by rw [hc]; rfl
    have ew : w64 (((scanP (bl s)).1.length : Int) - 1) = ((scanP (bl s)).1.length : Int) - 1 := w64_id (by omega) (by omega)
    have ew2 : w64 ((s.size : Int) + (rem.size : Int)) = ((s.size + rem.size : Nat) : Int) := by rw [w64_id (by omega) (by omega)]; omega
    rw [e1, e2, ew, ew2]
    unfold law1_in
    simp only [Bool.false_eq_true, if_false, if_true, Option.bind_some, ite_and]
    by_cases hk : 0 ≤ k ∧ k ≤ ((scanP (bl s)).1.length : Int) - 1
    · have e3 : (decide (0 ≤ k) && decide (k ≤ ((scanP (bl s)).1.length : Int) - 1)) = true := by simp [hk]
      rw [e3]
      simp only [Bool.not_true, Bool.false_eq_true, if_false]
      by_cases h19 : s.size + rem.size ≤ 1900
      · rw [if_neg (by simp only [decide_eq_true_eq]; omega), remark_loop rem (by omega), Option.bind_some]
        cases hf : findI (fun _ (c : UInt8) => if ((ch c == 42) || (ch c == 47)) = true then some true else none) 0 (bl rem) with
        | some b =>
          have hb : b = true := by
            have key : ∀ (l : L8) i, findI (fun _ (c : UInt8) => if ((ch c == 42) || (ch c == 47)) = true then some true else none) i l = some b → b = true := by
              intro l
              induction l with
              | nil => intro i h; cases h
              | cons x l ih =>
                intro i h
                unfold findI at h
                split at h
                · rename_i r hr
                  split at hr
                  · cases hr; cases h; rfl
                  · cases hr
                · exact ih _ h
            exact key _ _ hf
          subst hb
          rfl
        | none =>
          have hns := noStar_of hf
          have sm := scanP_small (L := bl s) (by omega)
          obtain ⟨i, rfl⟩ : ∃ i : Nat, k = i := ⟨k.toNat, by omega⟩
          have hi : i < (scanP (bl s)).1.length := by omega
          have hget : (scanP (bl s)).1[i]? = some (scanP (bl s)).1[i] := List.getElem?_eq_getElem hi
          generalize (scanP (bl s)).1[i] = t at hget
          have hinsl : (insB (bl rem)).length = rem.size + 6 := by simp [insB, hrl]
          obtain ⟨d, d1, d2, d3, d4⟩ := scan_ins hns ((bl s).length + 1) 0 [] (bl s) i (Nat.lt_succ_self _) (by rw [← sm]; exact hc) t (by
            rw [← sm, List.length_nil, Nat.zero_add]; exact hget) ((bl s ++ insB (bl rem)).length + 1) (Nat.lt_succ_self _)
          have hix : idx (scanP (bl s)).1 (i : Int) = some t := by rw [idx_lt hi]; rw [List.getElem?_eq_getElem hi] at hget; exact hget
          have hat : t.At = (d : Int) := by rw [d1]; simp
          show (idx (scanP (bl s)).1 (i : Int)).bind _ = _
          rw [hix, Option.bind_some, hat]
          have e4 : (decide (0 ≤ (d : Int)) && decide ((d : Int) ≤ (s.size : Int))) = true := by simp; omega
          simp only [e4, Bool.not_true, Bool.false_eq_true, if_false]
          have f1 := sslc_take (l := bl s) (k := d) d2
          have f2 := sslc_drop (l := bl s) (k := d) d2
          rw [mkS_bl] at f1 f2
          have hc0 : ((mkS ((bl s).take d)).size) ≤ s.size := by rw [size_mkS, List.length_take]; omega
          have g1 : catS (mkS ((bl s).take d)) (ByteArray.mk #[32, 47, 42]) = some (mkS ((bl s).take d ++ [32, 47, 42])) := catS_ok (by show _ + 3 ≤ _; omega)
          have g2 : catS (mkS ((bl s).take d ++ [32, 47, 42])) rem = some (mkS ((bl s).take d ++ [32, 47, 42] ++ bl rem)) := by
            rw [catS_ok (by rw [size_mkS] at hc0 ⊢; rw [List.length_append]; simp at hc0 ⊢; omega), bl_mkS]
          have g3 : catS (mkS ((bl s).take d ++ [32, 47, 42] ++ bl rem)) (ByteArray.mk #[42, 47, 32]) = some (mkS ((bl s).take d ++ [32, 47, 42] ++ bl rem ++ [42, 47, 32])) := by
            refine catS_ok ?_
            show _ + 3 ≤ _
            rw [size_mkS] at hc0 ⊢
            simp at hc0 ⊢; omega
          have g4 : catS (mkS ((bl s).take d ++ [32, 47, 42] ++ bl rem ++ [42, 47, 32])) (mkS ((bl s).drop d)) = some (mkS ((bl s).take d ++ [32, 47, 42] ++ bl rem ++ [42, 47, 32] ++ (bl s).drop d)) := by
            rw [catS_ok (by rw [size_mkS] at hc0; simp at hc0 ⊢; omega), bl_mkS, bl_mkS]
          rw [f1, Option.bind_some, g1, Option.bind_some, g2, Option.bind_some, g3, Option.bind_some, f2, Option.bind_some, g4, Option.bind_some, tok_scan_all, Option.bind_some, bl_mkS]
          have eL : (bl s).take d ++ [32, 47, 42] ++ bl rem ++ [42, 47, 32] ++ (bl s).drop d = (bl s).take d ++ (insB (bl rem) ++ (bl s).drop d) := by simp [insB]
          rw [eL]
          have hL : ((bl s).take d ++ (insB (bl rem) ++ (bl s).drop d)).length = (bl s ++ insB (bl rem)).length := by
            simp only [List.length_append, List.length_take, List.length_drop]; omega
          have s2 := scanP_small (L := (bl s).take d ++ (insB (bl rem) ++ (bl s).drop d)) (by rw [hL, List.length_append]; omega)
          rw [hL] at s2
          rw [← s2] at d3 d4
          rw [← sm] at d4
          have e5 : ((scanP ((bl s).take d ++ (insB (bl rem) ++ (bl s).drop d))).2.Code == 0) = true := by rw [d3]; rfl
          have hl2 := scanP_len ((bl s).take d ++ (insB (bl rem) ++ (bl s).drop d))
          rw [e5, if_pos rfl, bare_eq (by omega), Option.bind_some, bare_eq (by omega), Option.bind_some, same_tokens (by rw [List.length_map]; omega), d4]
          simp
      · rw [if_pos (by simp only [decide_eq_true_eq]; omega)]
    · have e3 : (decide (0 ≤ k) && decide (k ≤ ((scanP (bl s)).1.length : Int) - 1)) = false := by
        rw [Bool.and_eq_false_iff]
        simp only [decide_eq_false_iff_not]
        omega
      rw [e3]
      rfl
  · have e1 : ((scanP (bl s)).2.Code != 0) = true := by simpa using hc
    rw [e1, if_pos rfl, Option.bind_some, if_pos rfl, scanP_fault hc]
    cases ((scanP (bl s)).2.Code == 0) <;> rfl
end Go.Ab.Tk
