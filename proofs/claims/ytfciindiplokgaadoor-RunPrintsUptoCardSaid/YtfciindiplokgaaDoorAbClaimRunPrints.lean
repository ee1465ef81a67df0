/- Proved here: for every unit, every two inputs and every fuel the law RunPrints of package turnerylaw2 returns true and leaves its arguments as they were: without printing nothing is printed, without reading the input is no matter, without division no run ends by one. Conditions: those of the given row alone (what comes in is of bulk at most 1048576); the tables hold what their texts lay, tied by the card. -/
import Derived.Test.YtfciindiplokgaaDoorAbRunA
import Derived.JoinedCond
namespace Go.Proofs.YtfciindiplokgaaDoor.runPrints
open Go Go.Ab Go.ChangeShapes Go.WideShapes Go.ChangeAt Go.RowKit
mutual
theorem bk_eq {H : Type} : ∀ d : DataW H, Rows.uptoBulk d = bk d
  | .lit l => by cases l <;> rfl
  | .nil => rfl
  | .ptr d => by simp only [Rows.uptoBulk, bk, bk_eq d]
  | .slice a b => by simp only [Rows.uptoBulk, bk, bkL_eq a, bkL_eq b]
  | .agg l => by simp only [Rows.uptoBulk, bk, bkL_eq l]
  | .iface _ d => by simp only [Rows.uptoBulk, bk, bk_eq d]
  | .map l => by simp only [Rows.uptoBulk, bk, bkE_eq l]
  | .held _ => rfl
theorem bkL_eq {H : Type} : ∀ l : List (DataW H), Rows.uptoBulkAll l = bkL l
  | [] => rfl
  | d :: l => by simp only [Rows.uptoBulkAll, bkL, bk_eq d, bkL_eq l]
theorem bkE_eq {H : Type} : ∀ l : List (Lit × DataW H), Rows.uptoBulkEntries l = bkE l
  | [] => rfl
  | x :: l => by simp only [Rows.uptoBulkEntries, bkE, bk1_eq x, bkE_eq l]
theorem bk1_eq {H : Type} : ∀ x : Lit × DataW H, Rows.uptoBulkEntry x = bk1 x
  | (l, d) => by cases l <;> simp only [Rows.uptoBulkEntry, bk1, bk_eq d]
end
set_option maxRecDepth 100000 in
theorem contract (H : Type) (enc : TypeId × Value → H) (W : World) (base : Nat) (args : Array Value) (ds gs : List (DataW H)) (before : List MemPlace)
    (hval : ∀ (j : Nat) t v, Tryd.f7.params[j]? = some t → args[j]? = some v → Value.okWide Tryd.prog W .any base t v)
    (hW : DataW.Whole enc Tryd.prog Tryd.f7.params.toList Rows.runPrintsSpec.vars false W args.toList ds gs before) (hkk : Rows.uptoSmall H (ds ++ gs) = true) (hL : laidMetH Tryd.prog Rows.runPrintsUptoRow.laid W) :
    Calls Tryd.prog 7 args W fun e W' => ∃ v, e = .returned v ∧ Rows.runPrintsSpec.post enc Tryd.prog Tryd.f7 false true false false W args v W' := by
  have hW' := hW
  have hglob := globs hL
  obtain ⟨p, q, hA0, hV, rfl, hfz, hnd⟩ := hW
  have hA : DataW.TrodAll enc Tryd.prog W 0 (fun _ => true) true Tryd.f7.params.toList args.toList ds p := hA0
  rw [Tryd.params7] at hA hval
  have hA2 := hA
  obtain ⟨v0, vs0, d0, ds0, p0, q0, hargs, rfl, rfl, h0, r0⟩ := trodAll_cons hA
  obtain ⟨v1, vs1, d1, ds1, p1, q1, rfl, rfl, rfl, h1, r1⟩ := trodAll_cons r0
  obtain ⟨v2, vs2, d2, ds2, p2, q2, rfl, rfl, rfl, h2, r2⟩ := trodAll_cons r1
  obtain ⟨v3, vs3, d3, ds3, p3, q3, rfl, rfl, rfl, h3, r3⟩ := trodAll_cons r2
  obtain ⟨rfl, rfl, rfl⟩ := trodAll_nil r3
  obtain rfl : args = #[v0, v1, v2, v3] := by cases args; simp_all
  obtain ⟨rfl, rfl⟩ := trodVars_none hV
  have hb : Rows.uptoBulkAll ([d0, d1, d2, d3] ++ ([] : List (DataW H))) ≤ 1048576 := of_decide_eq_true hkk
  rw [bkL_eq] at hb
  simp only [List.append_nil, bkL] at hb
  obtain ⟨c0, g0, t0⟩ := trodAll_val plain25 h0 (B := 1048576) (.inr (by omega))
  obtain ⟨x0, rfl, o0⟩ := dec_cXApi_Unit_25 c0 t0
  obtain ⟨c1, g1, t1⟩ := trodAll_val plain26 h1 (B := 1048576) (.inr (by omega))
  obtain ⟨x1, rfl, o1⟩ := dec_slice (c := cInt_i64) (ok := (fun n : Int => (Lit.int .i64 n).wf = true)) Tryd.underlying26 (fun cs (h : Typ Tryd.prog 1048576 3 cs) => (dec_int Tryd.underlying3 h)) t1
  obtain ⟨c2, g2, t2⟩ := trodAll_val plain26 h2 (B := 1048576) (.inr (by omega))
  obtain ⟨x2, rfl, o2⟩ := dec_slice (c := cInt_i64) (ok := (fun n : Int => (Lit.int .i64 n).wf = true)) Tryd.underlying26 (fun cs (h : Typ Tryd.prog 1048576 3 cs) => (dec_int Tryd.underlying3 h)) t2
  obtain ⟨c3, g3, t3⟩ := trodAll_val plain3 h3 (B := 1048576) (.inr (by omega))
  obtain ⟨x3, rfl, o3⟩ := dec_int Tryd.underlying3 t3
  have a0 := arg_struct Tryd.underlying25 (hval 0 25 v0 rfl rfl) g0
  have a1 := arg_cell Tryd.underlying26 rfl (hval 1 26 v1 rfl rfl) g1
  have a2 := arg_cell Tryd.underlying26 rfl (hval 2 26 v2 rfl rfl) g2
  have a3 := arg_cell Tryd.underlying3 rfl (hval 3 3 v3 rfl rfl) g3
  have hden := T_law2_RunPrints (nn := 0) (runPrints_eq (unit_ok o0) x1 x2 x3)
  have walk := answer_true cxGood hden (W := W) (vs := [v0, v1, v2, v3]) (.cons (f1 := []) (f2 := []) a0 (.cons (f1 := []) (f2 := []) a1 (.cons (f1 := []) (f2 := []) a2 (.cons (f1 := []) (f2 := []) a3 .nil)))) hglob Tryd.func7 rfl
  refine walk.mono fun e W' ⟨he, hk⟩ => ?_
  subst he
  simp only [List.append_nil] at hW' hA2
  exact ⟨_, rfl, post_kept (pa := _) hW' hk (fun _ _ _ => trodAll_cons_mk (shut_bool Tryd.underlying4 _) trodAll_mk0)
    (fun sp hsp => args_again laidB mapsB slicesB (fun t ht => by rw [Tryd.params7] at ht; simp at ht; rcases ht with rfl | rfl | rfl <;> exact tsize _ (by decide)) hA0 (fun x hx => hW'.lt x (by simpa using hx)) hk sp (fun x hx => hsp x (by simpa using hx)))
    (fun _ => rfl) (by simp) (ok_one (by kernel_rfl) rfl (okWide_bool_mk Tryd.underlying4 _))⟩
theorem laid_met (os : Os) : laidMet Tryd.prog Rows.runPrintsUptoRow.laid ((laidWorld os).forCall (fun _ _ => 0) ⟨#[], #[.agg #[.slice none 0 0, .slice none 0 0], .slice none 0 0, .slice none 0 0, .int .i64 0], []⟩).memory :=
  laidMet_of_run' 8 (by kernel_rfl) (by kernel_rfl)
theorem reads (os : Os) {H : Type} (enc : TypeId × Value → H) : ∃ places, DataW.whole enc Tryd.prog ((laidWorld os).forCall (fun _ _ => 0) ⟨#[], #[.agg #[.slice none 0 0, .slice none 0 0], .slice none 0 0, .slice none 0 0, .int .i64 0], []⟩).memory Tryd.f7.params.toList Rows.runPrintsSpec.vars false (#[.agg #[.slice none 0 0, .slice none 0 0], .slice none 0 0, .slice none 0 0, .int .i64 0] : Array Value).toList 8 = some ([.agg [.nil, .nil], .nil, .nil, .lit (.int .i64 0)], [], places) :=
  ⟨[], by kernel_rfl⟩
set_option maxRecDepth 100000 in
theorem lifted (os : Os) (started : os.Started) (H : Type) (enc : TypeId × Value → H) (F : Stop.Interp) :
    ReturnsInHanded {} Tryd.checked os 7 .any ((Rows.OpenSpec.upto Rows.runPrintsSpec).preRow enc Tryd.prog Tryd.f7 Rows.runPrintsUptoRow.domain false Rows.runPrintsUptoRow.laid) (((Rows.OpenSpec.upto Rows.runPrintsSpec).at F).post enc Tryd.prog Tryd.f7 false true false false) := by
  obtain ⟨places, hx⟩ := reads os enc
  refine returnsInHanded_of_row (C := Tryd.checked) (s := Rows.OpenSpec.upto Rows.runPrintsSpec) own started (by kernel_rfl) Tryd.func7
    (witness_row_at (enc := enc) (C := Tryd.checked) false (laidWorld os) #[.agg #[.slice none 0 0, .slice none 0 0], .slice none 0 0, .slice none 0 0, .int .i64 0] rfl (by kernel_rfl) (by kernel_rfl) (by kernel_rfl)
      (OpenSpec.preRow_of_cond 8 hx (by kernel_rfl) (fun k hk => by obtain rfl := Option.some.inj hk; kernel_rfl) (by kernel_rfl) (laid_met os))) ?_
  intro W base args ds gs before hval hW _ hk _ hL _ _
  exact contract H enc W base args ds gs before hval hW (hk _ rfl) hL
theorem said : Rows.RunPrintsUptoSaid :=
  OpenClaim.holds_of_cond 7 Tryd.f7 rfl rfl rfl rfl rfl rfl rfl ⟨rfl, rfl, rfl, rfl, rfl⟩ rfl rfl rfl rfl rfl (by kernel_rfl) Tryd.func7 (by kernel_rfl)
    (of_decide_eq_true (by kernel_rfl)) (by unfold Func.isWrapper; first | (rw [if_pos (by decide +kernel)]; kernel_rfl) | (rw [if_neg (by decide +kernel)]; exact ⟨rfl, rfl⟩))
    (fun os started H enc _ F => by rw [OpenClaim.pre_eq_preRow]; exact lifted os started H enc F)
theorem plain (f : FuncId) (fn : Func) (hf : Tryd.pinned.checked.prog.funcNamed "turnery/turnerylaw2.RunPrints" = some f) (hfn : Tryd.pinned.checked.prog.funcs[f]? = some fn) :
    false = Tryd.pinned.checked.prog.looks [] ∧ ∀ (j : Nat) t, fn.params[j]? = some t → Tryd.pinned.checked.prog.wantsStandIn t = false := by
  obtain rfl : f = 7 := Option.some.inj ((show Tryd.prog.funcNamed "turnery/turnerylaw2.RunPrints" = some 7 by kernel_rfl).symm.trans hf) |>.symm
  obtain rfl : fn = Tryd.f7 := (Option.some.inj (Tryd.func7.symm.trans hfn)).symm
  refine ⟨by kernel_rfl, fun j t ht => ?_⟩
  rw [Tryd.params7] at ht
  have ht := Array.mem_of_getElem? ht
  simp at ht
  rcases ht with rfl | rfl | rfl
  · exact (show Tryd.prog.wantsStandIn 25 = false by kernel_rfl)
  · exact (show Tryd.prog.wantsStandIn 26 = false by kernel_rfl)
  · exact (show Tryd.prog.wantsStandIn 3 = false by kernel_rfl)
theorem card : Rows.RunPrintsUptoCardSaid :=
  Claim7.holds_tied_plain_at .later [] _ _ _ _ said (fun _ h => by cases h) (by kernel_rfl) (fun _ h => by cases h) runPrintsUpto_row_tie rfl ⟨rfl, rfl⟩ (by kernel_rfl) rfl plain (by kernel_rfl)
end Go.Proofs.YtfciindiplokgaaDoor.runPrints
