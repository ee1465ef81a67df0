/-
  PLAIN LAWS: the program's Check.
-/
import Derived.Test.YtbgakafgplbbnaaDoorAbLaw6
namespace Go.Ab
open Go Go.Proofs

theorem nmG_succ (u : XApi_Unit) (i : Nat) (h : i < u.Globals.length) : nmG u i ++ [u.Globals[i].Name] = nmG u (i + 1) := by
  unfold nmG
  rw [List.take_succ_eq_append_getElem h, List.map_append]; rfl
theorem nmG_len (u : XApi_Unit) (i : Nat) (h : i ≤ u.Globals.length) : (nmG u i).length = i := by unfold nmG; simp; omega
theorem namesAt_succ (u : XApi_Unit) (i : Nat) (h : i < u.Funcs.length) : namesAt u i ++ [u.Funcs[i].Name] = namesAt u (i + 1) := by
  unfold namesAt
  rw [List.take_succ_eq_append_getElem h, List.map_append, ← List.append_assoc]; rfl
theorem namesAt_len (u : XApi_Unit) (i : Nat) (h : i ≤ u.Funcs.length) : (namesAt u i).length = u.Globals.length + i := by unfold namesAt; simp; omega

theorem cglob_step (u : XApi_Unit) (i : Nat) (w : Int) (fz : XApi_Fault) (h : i < u.Globals.length) (h10 : u.Globals.length ≤ 10) :
    code_Check_L1 u fz (nmG u i) w i = some (if globC (nmG u i) w u.Globals[i] != 0 then .out (.ret ⟨globC (nmG u i) w u.Globals[i], i⟩) else .next (fz, nmG u (i + 1), w64 (w + u.Globals[i].Size), ((i + 1 : Nat) : Int))) := by
  have hm := maxLen_big
  have hl := nmG_len u i (by omega)
  have hJ : ∀ e : Int, code_Check_J1 fz (nmG u i) w i u.Globals[i] e = some (if e != 0 then .out (.ret ⟨e, i⟩) else .next (fz, nmG u (i + 1), w64 (w + u.Globals[i].Size), ((i + 1 : Nat) : Int))) := by
    intro e
    unfold code_Check_J1
    rw [app_ok (by simp [hl]; omega), nmG_succ u i h]
    simp only [cfault, Option.bind_some, w64_succ (i := i) (by omega)]
    split <;> rfl
  unfold code_Check_L1 globC
  simp only [lt_dec h, if_true, idx_lt h, Option.bind_some, cname_eq, contains_eq (nmG u i) _ (by omega), cin, hJ]
  repeat' split
  all_goals first | rfl | simp_all
theorem cCheck_eq (u : XApi_Unit) (hu : UOk u) : code_Check u = some (chk u) := by
  have hm := maxLen_big
  obtain ⟨h1, h2, h3, h4⟩ := id hu
  unfold code_Check chk
  simp only [cfault, Option.bind_some, ifT]
  split
  · rfl
  · rename_i hten
    have h10 : u.Globals.length ≤ 10 ∧ u.Funcs.length ≤ 10 := by
      simp only [Bool.or_eq_true, decide_eq_true_eq, not_or] at hten; omega
    have e1 : Loop (fun (s : XApi_Fault × List ByteArray × Int × Int) => code_Check_L1 u s.1 s.2.1 s.2.2.1 s.2.2.2) (XApi_Fault.mk 0 0, [], 0, 0) = some (brOf2 (XApi_Fault.mk 0 0, nmG u u.Globals.length) (globE u)) := by
      have := Loop_run (l := u.Globals) (τ := Br (XApi_Fault × List ByteArray) XApi_Fault) (S := XApi_Fault × List ByteArray × Int × Int) (fun (w : Int) i => (XApi_Fault.mk 0 0, nmG u i.toNat, w, i)) (fun i (words : Int) (g : XApi_Global) => if globC (nmG u i) words g != 0 then .inl (.ret ⟨globC (nmG u i) words g, i⟩) else .inr (w64 (words + g.Size))) (fun _ => .brk (XApi_Fault.mk 0 0, nmG u u.Globals.length)) (fun _ _ => True) (step := fun s => code_Check_L1 u s.1 s.2.1 s.2.2.1 s.2.2.2)
        (fun i w h _ => by
          simp only [Int.toNat_natCast, cglob_step u i w _ h h10.1]
          by_cases hz : globC (nmG u i) w u.Globals[i] = 0 <;> simp [hz]) (fun w _ => by
          unfold code_Check_L1; simp only [lt_dec', Int.toNat_natCast]; rfl) (s0 := 0) trivial
      have e0 : nmG u (0 : Int).toNat = [] := rfl
      rw [e0] at this
      rw [this]
      congr 1
      unfold globE
      have key : ∀ (l : List XApi_Global) (i : Nat) (w : Int) (names : Nat → List ByteArray), run (fun i (words : Int) (g : XApi_Global) => (if globC (names i) words g != 0 then .inl (.ret ⟨globC (names i) words g, i⟩) else .inr (w64 (words + g.Size)) : Br (XApi_Fault × List ByteArray) XApi_Fault ⊕ Int)) (fun _ => .brk (XApi_Fault.mk 0 0, nmG u u.Globals.length)) i w l = brOf2 (XApi_Fault.mk 0 0, nmG u u.Globals.length) (run (fun i (words : Int) (g : XApi_Global) => if globC (names i) words g != 0 then .inl (some ⟨globC (names i) words g, i⟩) else .inr (w64 (words + g.Size))) (fun _ => none) i w l) := by
        intro l
        induction l with
        | nil => intro i w names; rfl
        | cons g l ih =>
          intro i w names
          simp only [run]
          by_cases hz : globC (names i) w g = 0
          · simpa [hz] using ih (i + 1) _ names
          · simp [hz, brOf2]
      exact key u.Globals 0 0 (nmG u)
    rw [e1, Option.bind_some]
    cases hg : globE u with
    | some e => rfl
    | none =>
      simp only [brOf2]
      have en : nmG u u.Globals.length = namesAt u 0 := by unfold nmG namesAt; simp
      rw [en]
      have e2 : Loop (fun (s : XApi_Fault × List ByteArray × Int) => code_Check_L2 u s.1 s.2.1 s.2.2) (XApi_Fault.mk 0 0, namesAt u 0, 0) = some (brOf2 (XApi_Fault.mk 0 0) (headE u)) := by
        refine Loop_find2 (l := u.Funcs) (S := XApi_Fault × List ByteArray × Int) (fun i f => if headC (namesAt u i) f != 0 then some (XApi_Fault.mk (headC (namesAt u i) f) i) else none) (fun i => (XApi_Fault.mk 0 0, namesAt u i.toNat, i)) (XApi_Fault.mk 0 0) (fun i h => ?_) ?_
        · have hl := namesAt_len u i (by omega)
          have hmem : u.Funcs[i] ∈ u.Funcs := List.getElem_mem _
          unfold code_Check_L2
          have hd := chead_eq (XCode_checker.mk u u.Funcs[i] []) (namesAt u i) (h4 _ hmem).1 (by omega)
          simp only [lt_dec h, if_true, idx_lt h, Int.toNat_natCast, hd, Option.bind_some, cfault, w64_succ (i := i) (by omega)]
          rw [app_ok (by simp [hl]; omega), namesAt_succ u i h]
          generalize headC (namesAt u i) u.Funcs[i] = z
          by_cases hz : z = 0 <;> simp [hz]
        · unfold code_Check_L2; simp only [lt_dec']; rfl
      rw [e2, Option.bind_some]
      cases hh : headE u with
      | some e => rfl
      | none =>
        simp only [brOf2]
        have hb := heads_ok hh
        have e3 : Loop (fun (s : XApi_Fault × Int) => code_Check_L3 u s.1 s.2) (XApi_Fault.mk 0 0, 0) = some (brOf2 (XApi_Fault.mk 0 0) (bodyE u)) := by
          refine Loop_find2 (l := u.Funcs) (fun i f => if bodyC u f != 0 then some (XApi_Fault.mk (bodyC u f) i) else none) (fun i => (XApi_Fault.mk 0 0, i)) (XApi_Fault.mk 0 0) (fun i h => ?_) ?_
          · have hmem : u.Funcs[i] ∈ u.Funcs := List.getElem_mem _
            unfold code_Check_L3
            simp only [lt_dec h, if_true, idx_lt h, cbody_eq u u.Funcs[i] [] h2 (h4 _ hmem) (hb _ hmem), Option.bind_some, cfault, w64_succ (i := i) (by omega)]
            by_cases hz : bodyC u u.Funcs[i] = 0 <;> simp [hz]
          · unfold code_Check_L3; simp only [lt_dec']; rfl
        rw [e3, Option.bind_some]
        cases hbd : bodyE u with
        | some e => rfl
        | none =>
          simp only [brOf2, cmain_eq u h2, Option.bind_some]
          unfold mainE
          split
          · rfl
          · rename_i hneg
            obtain ⟨f, hf⟩ := mainI_idx u (by simpa using hneg)
            simp only [hf, Option.bind_some]
            split <;> rfl
end Go.Ab
