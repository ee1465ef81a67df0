/- Proved here: for every tree the law PrintBack of package turnerylaw1 returns true and leaves its argument as it was: parsing the text that is printed of a tree yields the tree, but for places. Conditions: those of the given row alone; the tables hold what their texts lay, tied by the card. -/
import Derived.Test.YtkmdadjmdgonbaaGreatDoorAbPbA
open Bool renaming true->bv,false->ci
open Option renaming some->ac,none->am
open Option.some renaming inj->AC
set_option linter.all false
namespace Go.Proofs.YtkmdadjmdgonbaaGreatDoor.printBack
open Go Go.Ab Go.ChangeShapes Go.WideShapes Go.ChangeAt Go.RowKit
set_option maxRecDepth 100000 in
theorem contract (H : Type) (enc : TypeId × Value -> H) (W : World) (base : Nat) (args : Array Value) (ds gs : List (DataW H)) (before : List MemPlace)
    (hval : ∀ (j : Nat) t v, Tryz.f5.params[j]? = ac t -> args[j]? = ac v -> Value.okWide Tryz.prog W .any base t v)
    (hW : DataW.Whole enc Tryz.prog Tryz.f5.params.toList Rows.printBackSpec.vars ci W args.toList ds gs before) (hL : laidMetH Tryz.prog Rows.printBackRow.laid W) (hS : W.ShapedOpen Tryz.prog) :
    Calls Tryz.prog 5 args W λe W' => ∃ v, e = .returned v ∧ Rows.printBackSpec.post enc Tryz.prog Tryz.f5 ci bv ci ci W args v W' := by
  have K4 := hW
  obtain ⟨m, yL⟩ := adS hS hL
  obtain ⟨p, q, RT, hV, rfl, hfz, hnd⟩ := hW
  have hA : DataW.TrodAll enc Tryz.prog W 0 (λ_ => bv) bv Tryz.f5.params.toList args.toList ds p := RT
  rw [Tryz.params5] at hA hval
  have aeg := hA
  obtain ⟨v0, ar7, d0, anZ, gy, q0, hargs, rfl, rfl, h0, cD⟩ := trodAll_cons hA
  obtain ⟨rfl, rfl, rfl⟩ := trodAll_nil cD
  obtain rfl : args = #[v0] := by cases args; simp_all
  obtain ⟨rfl, rfl⟩ := trodVars_none hV
  obtain ⟨c0, g0, t0⟩ := amn ajw h0 (B := maxLen) (.inl rfl)
  obtain ⟨x0, rfl, o0⟩ := @ab0 ⟨m⟩ _ c0 t0
  have a0 := ZH Tryz.underlying24 (hval 0 24 v0 rfl rfl) g0
  have Lp := @YA ⟨m⟩ agX 40000 0 _ _ (ajI x0 (amm (Nat.le_refl _) o0) (ahI o0))
  have walk := ZD (@abW ⟨m⟩) Lp rfl (W := W) (vs := [v0]) (.cons (f1 := []) (f2 := []) a0 .nil) yL Tryz.func5 rfl
  refine walk.mono λe W' ⟨he, hk⟩ => ?_
  subst he
  simp only [List.append_nil] at K4 aeg
  exact ⟨_, rfl, ajA (pa := _) K4 hk (λ_ _ _ => trodAll_cons_mk (shut_bool Tryz.underlying4 _) trodAll_mk0)
    (λsp hsp => ZI laidB ag7 alw (λt ht => by rw [Tryz.params5] at ht; simp at ht; subst ht; exact ams _ (by decide)) RT (λx hx => K4.lt x (by simpa using hx)) hk sp (λx hx => hsp x (by simpa using hx)))
    (λ_ => rfl) (by simp) (ok_one (by kernel_rfl) rfl (okWide_bool_mk Tryz.underlying4 _))⟩
theorem agz (os : Os) : laidMetH Tryz.prog Rows.printBackRow.laid ((Ms os).forCall (λ_ _ => 0) ⟨#[], #[.agg #[.slice am 0 0]], []⟩).memory :=
  laidMetH_of_parts (laidMet_of_run' 8 (by kernel_rfl) (by kernel_rfl)) (by kernel_rfl)
theorem reads (os : Os) {H : Type} (enc : TypeId × Value -> H) : ∃ places, DataW.whole enc Tryz.prog ((Ms os).forCall (λ_ _ => 0) ⟨#[], #[.agg #[.slice am 0 0]], []⟩).memory Tryz.f5.params.toList Rows.printBackSpec.vars ci (#[.agg #[.slice am 0 0]] : Array Value).toList 8 = ac ([.agg [.nil]], [], places) :=
  ⟨[], by kernel_rfl⟩
set_option maxRecDepth 100000 in
theorem lifted (os : Os) (started : os.Started) (H : Type) (enc : TypeId × Value -> H) (F : Stop.Interp) :
    ReturnsInHanded {} Tryz.checked os 5 .any ((OpenSpec.ofChange Rows.printBackSpec).preRow enc Tryz.prog Tryz.f5 Rows.printBackRow.domain ci Rows.printBackRow.laid) (((OpenSpec.ofChange Rows.printBackSpec).at F).post enc Tryz.prog Tryz.f5 ci bv ci ci) := by
  obtain ⟨places, hx⟩ := reads os enc
  refine returnsInHanded_of_row (C := Tryz.checked) (s := OpenSpec.ofChange Rows.printBackSpec) own started (by kernel_rfl) Tryz.func5
    (witness_row_atRef (enc := enc) (C := Tryz.checked) ci (Ms os) #[.agg #[.slice am 0 0]] rfl (by kernel_rfl) (by kernel_rfl) (by kernel_rfl)
      (OpenSpec.preRow_of_cond 8 hx (by kernel_rfl) (λk hk => by cases hk) (by kernel_rfl) (agz os))) ?_
  intro W base args ds gs before hval hW _ _ _ hL hS _
  exact contract H enc W base args ds gs before hval hW hL hS
theorem j1 : (Rows.printBackRow.inPlace == Tryz.pinned.checked.prog.inPlace 5) = true := by kernel_rfl
theorem j2 : (Rows.printBackRow.unfollowed == Tryz.pinned.checked.prog.unfollowed 5) = true := by kernel_rfl
theorem agd : (Rows.printBackRow.recurses == Tryz.pinned.checked.prog.recurses 5) = true := by kernel_rfl
theorem age : (Rows.printBackRow.named == Tryz.pinned.checked.prog.varsNamed 5) = true := by kernel_rfl
theorem joined : joinedFacts Tryz.pinned.checked.prog 5 Tryz.f5 (OpenSpec.ofChange Rows.printBackSpec).bare Rows.printBackRow = true := by
  unfold joinedFacts
  rw [j1, j2, agd, age]
  kernel_rfl
theorem inst : Func.isInstance Tryz.pinned.checked.prog Tryz.f5 (Rows.printBackRow).origin (Rows.printBackRow).targs := of_decide_eq_true (by kernel_rfl)
theorem wrap : Func.isWrapper Tryz.pinned.checked.prog Tryz.f5 (Rows.printBackRow).wrapper (Rows.printBackRow).mainSum := by unfold Func.isWrapper; first | (rw [if_pos (by decide +kernel)]; kernel_rfl) | (rw [if_neg (by decide +kernel)]; exact ⟨rfl, rfl⟩)
theorem said : Rows.PrintBackSaid :=
  OpenClaim.holds_of_cond 5 Tryz.f5 rfl rfl rfl rfl rfl rfl rfl ⟨rfl, rfl, rfl, rfl, rfl⟩ rfl rfl rfl rfl rfl (by kernel_rfl) Tryz.func5 joined inst wrap
    (λos started H enc _ F => by rw [OpenClaim.pre_eq_preRow]; exact lifted os started H enc F)
theorem plain (f : FuncId) (fn : Func) (hf : Tryz.pinned.checked.prog.funcNamed "turnery/turnerylaw1.PrintBack" = ac f) (hfn : Tryz.pinned.checked.prog.funcs[f]? = ac fn) :
    bv = Tryz.pinned.checked.prog.looks [] ∧ ∀ (j : Nat) t, fn.params[j]? = ac t -> Tryz.pinned.checked.prog.wantsStandIn t = false := by
  obtain rfl : f = 5 := AC ((show Tryz.prog.funcNamed "turnery/turnerylaw1.PrintBack" = ac 5 by kernel_rfl).symm.trans hf) |>.symm
  obtain rfl : fn = Tryz.f5 := (AC (Tryz.func5.symm.trans hfn)).symm
  refine ⟨by kernel_rfl, λj t ht => ?_⟩
  rw [Tryz.params5] at ht
  have ht := Array.mem_of_getElem? ht
  simp at ht
  subst ht
  exact (show Tryz.prog.wantsStandIn 24 = ci by kernel_rfl)
theorem card : Rows.PrintBackCardSaid :=
  Claim7.holds_tied_plain_at .later [] _ _ _ _ said (λ_ h => by cases h) (by kernel_rfl) (λ_ h => by cases h) printBack_row_tie rfl ⟨rfl, rfl⟩ (by kernel_rfl) rfl plain (by kernel_rfl)
end Go.Proofs.YtkmdadjmdgonbaaGreatDoor.printBack
