/- Proved here: for every text, number and remark the law TokenBlank of package turnerylaw1 returns true and leaves its arguments as they were: a remark set before a word changes places alone. Conditions: those of the given row alone; the tables hold what their texts lay, tied by the card. -/
import Derived.Test.YtkgjhnmpcnjooaaDoorAbTokA
import Derived.Test.YtkgjhnmpcnjooaaDoorAbK20
import Derived.JoinedCond
namespace Go.Proofs.YtkgjhnmpcnjooaaDoor.tokenBlank
open Go Go.Ab Go.ChangeShapes Go.WideShapes Go.ChangeAt Go.RowKit

theorem bk_reach {H : Type} {enc : TypeId × Value → H} {P : Program} {W : World} {b : Nat} {sp : Nat → Bool} {hd : Bool} {t : TypeId} {v : Value} {d : DataW H} {ps : List MemPlace} (h : DataW.Trod enc P W b sp hd t v d ps) (ht : P.underlying t = some .string) (hw : (d.weights P t).all (· ≤ reachBytes) = true) : bk d ≤ reachBytes + 1 := by
  obtain ⟨fuel, h⟩ := h
  obtain ⟨s, _, hx, _⟩ := DataW.trod_string ht h
  simp only [Prod.mk.injEq] at hx
  obtain ⟨rfl, _⟩ := hx
  simp only [DataW.weights, List.all_cons, List.all_nil, Bool.and_true, decide_eq_true_eq] at hw
  simp only [bk]
  omega

set_option maxRecDepth 100000 in
theorem contract (H : Type) (enc : TypeId × Value → H) (W : World) (base : Nat) (args : Array Value) (ds gs : List (DataW H)) (before : List MemPlace)
    (hval : ∀ (j : Nat) t v, Tryd.f7.params[j]? = some t → args[j]? = some v → Value.okWide Tryd.prog W .any base t v)
    (hW : DataW.Whole enc Tryd.prog Tryd.f7.params.toList Rows.tokenBlankSpec.vars false W args.toList ds gs before) (T : List TypeId) (hwt : (DataW.weightsEach Tryd.prog (Tryd.f7.params.toList ++ T) (ds ++ gs)).all (· ≤ reachBytes) = true) (hL : laidMetH Tryd.prog Rows.tokenBlankRow.laid W) (hS : W.ShapedOpen Tryd.prog) :
    Calls Tryd.prog 7 args W fun e W' => ∃ v, e = .returned v ∧ Rows.tokenBlankSpec.post enc Tryd.prog Tryd.f7 false true false false W args v W' := by
  have hW' := hW
  obtain ⟨m, hglob⟩ := globs hS hL
  obtain ⟨p, q, hA0, hV, rfl, hfz, hnd⟩ := hW
  have hA : DataW.TrodAll enc Tryd.prog W 0 (fun _ => true) true Tryd.f7.params.toList args.toList ds p := hA0
  rw [Tryd.params7] at hA hval
  have hA2 := hA
  obtain ⟨v0, vs0, d0, ds0, p0, q0, hargs, rfl, rfl, h0, r0⟩ := trodAll_cons hA
  obtain ⟨v1, vs1, d1, ds1, p1, q1, rfl, rfl, rfl, h1, r1⟩ := trodAll_cons r0
  obtain ⟨v2, vs2, d2, ds2, p2, q2, rfl, rfl, rfl, h2, r2⟩ := trodAll_cons r1
  obtain ⟨rfl, rfl, rfl⟩ := trodAll_nil r2
  obtain rfl : args = #[v0, v1, v2] := by cases args; simp_all
  obtain ⟨rfl, rfl⟩ := trodVars_none hV
  rw [Tryd.params7] at hwt
  simp only [List.append_nil, List.cons_append, List.nil_append, DataW.weightsEach, List.all_append, Bool.and_eq_true] at hwt
  obtain ⟨w0, w1, w2⟩ := hwt
  obtain ⟨c0, g0, t0⟩ := trodAll_val plain9 h0 (B := (reachBytes + 1)) (.inr (bk_reach h0 Tryd.underlying9 w0))
  obtain ⟨x0, rfl, o0⟩ := dec_str Tryd.underlying9 t0
  obtain ⟨c1, g1, t1⟩ := trodAll_val plain3 h1 (B := maxLen) (.inl rfl)
  obtain ⟨x1, rfl, o1⟩ := dec_int Tryd.underlying3 t1
  obtain ⟨c2, g2, t2⟩ := trodAll_val plain9 h2 (B := (reachBytes + 1)) (.inr (bk_reach h2 Tryd.underlying9 w2))
  obtain ⟨x2, rfl, o2⟩ := dec_str Tryd.underlying9 t2
  have a0 := arg_cell Tryd.underlying9 rfl (hval 0 9 v0 rfl rfl) g0
  have a1 := arg_cell Tryd.underlying3 rfl (hval 1 3 v1 rfl rfl) g1
  have a2 := arg_cell Tryd.underlying9 rfl (hval 2 9 v2 rfl rfl) g2
  have hden := @T_law1_TokenBlank ⟨m⟩ 0 _ _ _ _ (Tk.tokenBlank_true x0 x1 x2 (Nat.le_trans o0 (by decide)) (Nat.le_trans o2 (by decide)))
  have walk := answer_true (@cxGood ⟨m⟩) hden (W := W) (vs := [v0, v1, v2]) (.cons (f1 := []) (f2 := []) a0 (.cons (f1 := []) (f2 := []) a1 (.cons (f1 := []) (f2 := []) a2 .nil))) hglob Tryd.func7 rfl
  refine walk.mono fun e W' ⟨he, hk⟩ => ?_
  subst he
  simp only [List.append_nil] at hW' hA2
  exact ⟨_, rfl, post_kept (pa := _) hW' hk (fun _ _ _ => trodAll_cons_mk (shut_bool Tryd.underlying4 _) trodAll_mk0)
    (fun sp hsp => args_again laidB mapsB slicesB (fun t ht => by rw [Tryd.params7] at ht; simp at ht; rcases ht with rfl | rfl | rfl <;> exact tsize _ (by decide)) hA0 (fun x hx => hW'.lt x (by simpa using hx)) hk sp (fun x hx => hsp x (by simpa using hx)))
    (fun _ => rfl) (by simp) (ok_one (by kernel_rfl) rfl (okWide_bool_mk Tryd.underlying4 _))⟩

theorem laid_met (os : Os) : laidMet Tryd.prog Rows.tokenBlankRow.laid ((laidWorld os).forCall (fun _ _ => 0) ⟨#[], #[.string ⟨#[]⟩, .int .i64 0, .string ⟨#[]⟩], []⟩).memory :=
  laidMet_of_run' 8 (by kernel_rfl) (by kernel_rfl)
theorem reads (os : Os) {H : Type} (enc : TypeId × Value → H) : ∃ places, DataW.whole enc Tryd.prog ((laidWorld os).forCall (fun _ _ => 0) ⟨#[], #[.string ⟨#[]⟩, .int .i64 0, .string ⟨#[]⟩], []⟩).memory Tryd.f7.params.toList Rows.tokenBlankSpec.vars false (#[.string ⟨#[]⟩, .int .i64 0, .string ⟨#[]⟩] : Array Value).toList 8 = some ([.lit (.string []), .lit (.int .i64 0), .lit (.string [])], [], places) :=
  ⟨[], by kernel_rfl⟩
set_option maxRecDepth 100000 in
theorem lifted (os : Os) (started : os.Started) (H : Type) (enc : TypeId × Value → H) (F : Stop.Interp) :
    ReturnsInHanded {} Tryd.checked os 7 .any ((OpenSpec.ofChange Rows.tokenBlankSpec).preRow enc Tryd.prog Tryd.f7 Rows.tokenBlankRow.domain false Rows.tokenBlankRow.laid) (((OpenSpec.ofChange Rows.tokenBlankSpec).at F).post enc Tryd.prog Tryd.f7 false true false false) := by
  obtain ⟨places, hx⟩ := reads os enc
  refine returnsInHanded_of_row (C := Tryd.checked) (s := OpenSpec.ofChange Rows.tokenBlankSpec) own started (by kernel_rfl) Tryd.func7
    (witness_row_at (enc := enc) (C := Tryd.checked) false (laidWorld os) #[.string ⟨#[]⟩, .int .i64 0, .string ⟨#[]⟩] rfl (by kernel_rfl) (by kernel_rfl) (by kernel_rfl)
      (OpenSpec.preRow_of_cond 8 hx (by kernel_rfl) (fun k hk => by cases hk) (by kernel_rfl) (laid_met os))) ?_
  intro W base args ds gs before hval hW _ _ hwt hL hS _
  exact contract H enc W base args ds gs before hval hW _ hwt hL hS
theorem said : Rows.TokenBlankSaid :=
  OpenClaim.holds_of_cond 7 Tryd.f7 rfl rfl rfl rfl rfl rfl rfl ⟨rfl, rfl, rfl, rfl, rfl⟩ rfl rfl rfl rfl rfl (by kernel_rfl) Tryd.func7 (by kernel_rfl)
    (of_decide_eq_true (by kernel_rfl)) (by unfold Func.isWrapper; first | (rw [if_pos (by decide +kernel)]; kernel_rfl) | (rw [if_neg (by decide +kernel)]; exact ⟨rfl, rfl⟩))
    (fun os started H enc _ F => by rw [OpenClaim.pre_eq_preRow]; exact lifted os started H enc F)
theorem plain (f : FuncId) (fn : Func) (hf : Tryd.pinned.checked.prog.funcNamed "turnery/turnerylaw1.TokenBlank" = some f) (hfn : Tryd.pinned.checked.prog.funcs[f]? = some fn) :
    true = Tryd.pinned.checked.prog.looks [] ∧ ∀ (j : Nat) t, fn.params[j]? = some t → Tryd.pinned.checked.prog.wantsStandIn t = false := by
  obtain rfl : f = 7 := Option.some.inj ((show Tryd.prog.funcNamed "turnery/turnerylaw1.TokenBlank" = some 7 by kernel_rfl).symm.trans hf) |>.symm
  obtain rfl : fn = Tryd.f7 := (Option.some.inj (Tryd.func7.symm.trans hfn)).symm
  refine ⟨by kernel_rfl, fun j t ht => ?_⟩
  rw [Tryd.params7] at ht
  have ht := Array.mem_of_getElem? ht
  simp at ht
  rcases ht with rfl | rfl | rfl
  · exact (show Tryd.prog.wantsStandIn 9 = false by kernel_rfl)
  · exact (show Tryd.prog.wantsStandIn 3 = false by kernel_rfl)
  · exact (show Tryd.prog.wantsStandIn 9 = false by kernel_rfl)
/-- THE CARD. -/
theorem card : Rows.TokenBlankCardSaid :=
  Claim7.holds_tied_plain_at .later [] _ _ _ _ said (fun _ h => by cases h) (by kernel_rfl) (fun _ h => by cases h) tokenBlank_row_tie rfl ⟨rfl, rfl⟩ (by kernel_rfl) rfl plain (by kernel_rfl)
end Go.Proofs.YtkgjhnmpcnjooaaDoor.tokenBlank
