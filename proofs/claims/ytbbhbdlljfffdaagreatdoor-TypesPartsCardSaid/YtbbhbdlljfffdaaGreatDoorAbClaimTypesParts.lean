/- Proved here: for every tree the law TypesParts of package turnerylaw1 returns true and leaves its argument as it was: without its last function, if that is not main and nobody calls it, all else has the types that it had. Conditions: those of the given row alone; the tables hold what their texts lay, tied by the card. -/
import Derived.Test.YtbbhbdlljfffdaaGreatDoorAbLkA2
import Derived.Test.YtbbhbdlljfffdaaGreatDoorAbTp4
import Derived.JoinedCond
import Derived.LaidHandle
import Derived.Deep.DeepWitnessRowRef
open Option.some renaming inj→AC
set_option linter.all false
namespace Go.Proofs.YtbbhbdlljfffdaaGreatDoor.typesParts
open Go Go.Ab Go.ChangeShapes Go.WideShapes Go.ChangeAt Go.RowKit
set_option maxRecDepth 100000 in
theorem contract (H : Type) (enc : TypeId × Value → H) (W : World) (base : Nat) (args : Array Value) (ds gs : List (DataW H)) (before : List MemPlace)
    (hval : ∀ (j : Nat) t v, Tryz.f11.params[j]? = some t → args[j]? = some v → Value.okWide Tryz.prog W .any base t v)
    (hW : DataW.Whole enc Tryz.prog Tryz.f11.params.toList Rows.typesPartsSpec.vars false W args.toList ds gs before) (hL : laidMetH Tryz.prog Rows.typesPartsRow.laid W) (hS : W.ShapedOpen Tryz.prog) :
    Calls Tryz.prog 11 args W fun e W' => ∃ v, e = .returned v ∧ Rows.typesPartsSpec.post enc Tryz.prog Tryz.f11 false true false false W args v W' := by
  have IJ := hW
  obtain ⟨m, wI⟩ := aaO hS hL
  obtain ⟨p, q, Pw, hV, rfl, hfz, hnd⟩ := hW
  have hA : DataW.TrodAll enc Tryz.prog W 0 (fun _ => true) true Tryz.f11.params.toList args.toList ds p := Pw
  rw [Tryz.params11] at hA hval
  have abj := hA
  obtain ⟨v0, ajx, d0, akk, uU, q0, hargs, rfl, rfl, h0, eB⟩ := trodAll_cons hA
  obtain ⟨rfl, rfl, rfl⟩ := trodAll_nil eB
  obtain rfl : args = #[v0] := by cases args; simp_all
  obtain ⟨rfl, rfl⟩ := trodVars_none hV
  obtain ⟨c0, g0, t0⟩ := ai5 ahr h0 (B := maxLen) (.inl rfl)
  obtain ⟨x0, rfl, o0⟩ := @Za ⟨m⟩ _ c0 t0
  have a0 := W8 Tryz.underlying24 (hval 0 24 v0 rfl rfl) g0
  have I8 := @VW ⟨m⟩ aeK _ 0 _ _ (aje x0 (ai4 (by decide) o0))
  have walk := W3 (@Y6 ⟨m⟩) I8 rfl (W := W) (vs := [v0]) (.cons (f1 := []) (f2 := []) a0 .nil) wI Tryz.func11 rfl
  refine walk.mono fun e W' ⟨he, hk⟩ => ?_
  subst he
  simp only [List.append_nil] at IJ abj
  exact ⟨_, rfl, ahu (pa := _) IJ hk (fun _ _ _ => trodAll_cons_mk (shut_bool Tryz.underlying4 _) trodAll_mk0)
    (fun sp hsp => W9 laidB aeS aiD (fun t ht => by rw [Tryz.params11] at ht; simp at ht; subst ht; exact ai9 _ (by decide)) Pw (fun x hx => IJ.lt x (by simpa using hx)) hk sp (fun x hx => hsp x (by simpa using hx)))
    (fun _ => rfl) (by simp) (ok_one (by kernel_rfl) rfl (okWide_bool_mk Tryz.underlying4 _))⟩
theorem aep (os : Os) : laidMetH Tryz.prog Rows.typesPartsRow.laid ((Kb os).forCall (fun _ _ => 0) ⟨#[], #[.agg #[.slice none 0 0]], []⟩).memory :=
  laidMetH_of_parts (laidMet_of_run' 8 (by kernel_rfl) (by kernel_rfl)) (by kernel_rfl)
theorem reads (os : Os) {H : Type} (enc : TypeId × Value → H) : ∃ places, DataW.whole enc Tryz.prog ((Kb os).forCall (fun _ _ => 0) ⟨#[], #[.agg #[.slice none 0 0]], []⟩).memory Tryz.f11.params.toList Rows.typesPartsSpec.vars false (#[.agg #[.slice none 0 0]] : Array Value).toList 8 = some ([.agg [.nil]], [], places) :=
  ⟨[], by kernel_rfl⟩
set_option maxRecDepth 100000 in
theorem lifted (os : Os) (started : os.Started) (H : Type) (enc : TypeId × Value → H) (F : Stop.Interp) :
    ReturnsInHanded {} Tryz.checked os 11 .any ((OpenSpec.ofChange Rows.typesPartsSpec).preRow enc Tryz.prog Tryz.f11 Rows.typesPartsRow.domain false Rows.typesPartsRow.laid) (((OpenSpec.ofChange Rows.typesPartsSpec).at F).post enc Tryz.prog Tryz.f11 false true false false) := by
  obtain ⟨places, hx⟩ := reads os enc
  refine returnsInHanded_of_row (C := Tryz.checked) (s := OpenSpec.ofChange Rows.typesPartsSpec) own started (by kernel_rfl) Tryz.func11
    (witness_row_atRef (enc := enc) (C := Tryz.checked) false (Kb os) #[.agg #[.slice none 0 0]] rfl (by kernel_rfl) (by kernel_rfl) (by kernel_rfl)
      (OpenSpec.preRow_of_cond 8 hx (by kernel_rfl) (fun k hk => by cases hk) (by kernel_rfl) (aep os))) ?_
  intro W base args ds gs before hval hW _ _ _ hL hS _
  exact contract H enc W base args ds gs before hval hW hL hS
theorem j1 : (Rows.typesPartsRow.inPlace == Tryz.pinned.checked.prog.inPlace 11) = true := by kernel_rfl
theorem j2 : (Rows.typesPartsRow.unfollowed == Tryz.pinned.checked.prog.unfollowed 11) = true := by kernel_rfl
theorem ad8 : (Rows.typesPartsRow.recurses == Tryz.pinned.checked.prog.recurses 11) = true := by kernel_rfl
theorem ad9 : (Rows.typesPartsRow.named == Tryz.pinned.checked.prog.varsNamed 11) = true := by kernel_rfl
theorem joined : joinedFacts Tryz.pinned.checked.prog 11 Tryz.f11 (OpenSpec.ofChange Rows.typesPartsSpec).bare Rows.typesPartsRow = true := by
  unfold joinedFacts
  rw [j1, j2, ad8, ad9]
  kernel_rfl
theorem inst : Func.isInstance Tryz.pinned.checked.prog Tryz.f11 (Rows.typesPartsRow).origin (Rows.typesPartsRow).targs := of_decide_eq_true (by kernel_rfl)
theorem wrap : Func.isWrapper Tryz.pinned.checked.prog Tryz.f11 (Rows.typesPartsRow).wrapper (Rows.typesPartsRow).mainSum := by unfold Func.isWrapper; first | (rw [if_pos (by decide +kernel)]; kernel_rfl) | (rw [if_neg (by decide +kernel)]; exact ⟨rfl, rfl⟩)
theorem said : Rows.TypesPartsSaid :=
  OpenClaim.holds_of_cond 11 Tryz.f11 rfl rfl rfl rfl rfl rfl rfl ⟨rfl, rfl, rfl, rfl, rfl⟩ rfl rfl rfl rfl rfl (by kernel_rfl) Tryz.func11 joined inst wrap
    (fun os started H enc _ F => by rw [OpenClaim.pre_eq_preRow]; exact lifted os started H enc F)
theorem plain (f : FuncId) (fn : Func) (hf : Tryz.pinned.checked.prog.funcNamed "turnery/turnerylaw1.TypesParts" = some f) (hfn : Tryz.pinned.checked.prog.funcs[f]? = some fn) :
    true = Tryz.pinned.checked.prog.looks [] ∧ ∀ (j : Nat) t, fn.params[j]? = some t → Tryz.pinned.checked.prog.wantsStandIn t = false := by
  obtain rfl : f = 11 := AC ((show Tryz.prog.funcNamed "turnery/turnerylaw1.TypesParts" = some 11 by kernel_rfl).symm.trans hf) |>.symm
  obtain rfl : fn = Tryz.f11 := (AC (Tryz.func11.symm.trans hfn)).symm
  refine ⟨by kernel_rfl, fun j t ht => ?_⟩
  rw [Tryz.params11] at ht
  have ht := Array.mem_of_getElem? ht
  simp at ht
  subst ht
  exact (show Tryz.prog.wantsStandIn 24 = false by kernel_rfl)
theorem card : Rows.TypesPartsCardSaid :=
  Claim7.holds_tied_plain_at .later [] _ _ _ _ said (fun _ h => by cases h) (by kernel_rfl) (fun _ h => by cases h) typesParts_row_tie rfl ⟨rfl, rfl⟩ (by kernel_rfl) rfl plain (by kernel_rfl)
end Go.Proofs.YtbbhbdlljfffdaaGreatDoor.typesParts
