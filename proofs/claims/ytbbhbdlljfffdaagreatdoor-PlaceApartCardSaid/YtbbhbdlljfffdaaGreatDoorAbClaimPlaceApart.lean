/- Proved here: for every tree the law PlaceApart of package turnerylaw1 returns true and leaves its argument as it was: globals stand one behind the other as they are declared, none has a word of another, and all are told. Conditions: those of the given row alone; the tables hold what their texts lay, tied by the card. -/
import Derived.Test.YtbbhbdlljfffdaaGreatDoorAbLkA2
import Derived.Test.YtbbhbdlljfffdaaGreatDoorAbPa5
import Derived.JoinedCond
import Derived.LaidHandle
import Derived.Deep.DeepWitnessRowRef
open Option.some renaming inj→GE
set_option linter.all false
namespace Go.Proofs.YtbbhbdlljfffdaaGreatDoor.placeApart
open Go Go.Ab Go.ChangeShapes Go.WideShapes Go.ChangeAt Go.RowKit
set_option maxRecDepth 100000 in
theorem contract (H : Type) (enc : TypeId × Value → H) (W : World) (base : Nat) (args : Array Value) (ds gs : List (DataW H)) (before : List MemPlace)
    (hval : ∀ (j : Nat) t v, Tryz.f12.params[j]? = some t → args[j]? = some v → Value.okWide Tryz.prog W .any base t v)
    (hW : DataW.Whole enc Tryz.prog Tryz.f12.params.toList Rows.placeApartSpec.vars false W args.toList ds gs before) (hL : laidMetH Tryz.prog Rows.placeApartRow.laid W) (hS : W.ShapedOpen Tryz.prog) :
    Calls Tryz.prog 12 args W fun e W' => ∃ v, e = .returned v ∧ Rows.placeApartSpec.post enc Tryz.prog Tryz.f12 false true false false W args v W' := by
  have JD := hW
  obtain ⟨m, xe⟩ := acB hS hL
  obtain ⟨p, q, QC, hV, rfl, hfz, hnd⟩ := hW
  have hA : DataW.TrodAll enc Tryz.prog W 0 (fun _ => true) true Tryz.f12.params.toList args.toList ds p := QC
  rw [Tryz.params12] at hA hval
  have ac4 := hA
  obtain ⟨v0, ak4, d0, alT, vh, q0, hargs, rfl, rfl, h0, eH⟩ := trodAll_cons hA
  obtain ⟨rfl, rfl, rfl⟩ := trodAll_nil eH
  obtain rfl : args = #[v0] := by cases args; simp_all
  obtain ⟨rfl, rfl⟩ := trodVars_none hV
  obtain ⟨c0, g0, t0⟩ := akF aiY h0 (B := maxLen) (.inl rfl)
  obtain ⟨x0, rfl, o0⟩ := @aaT ⟨m⟩ _ c0 t0
  have a0 := YJ Tryz.underlying24 (hval 0 24 v0 rfl rfl) g0
  have JZ := @Xv ⟨m⟩ agj _ 0 _ _ (aiV x0 (akE (by decide) o0))
  have walk := YD (@aaO ⟨m⟩) JZ rfl (W := W) (vs := [v0]) (.cons (f1 := []) (f2 := []) a0 .nil) xe Tryz.func12 rfl
  refine walk.mono fun e W' ⟨he, hk⟩ => ?_
  subst he
  simp only [List.append_nil] at JD ac4
  exact ⟨_, rfl, ai1 (pa := _) JD hk (fun _ _ _ => trodAll_cons_mk (shut_bool Tryz.underlying4 _) trodAll_mk0)
    (fun sp hsp => YK laidB agr akg (fun t ht => by rw [Tryz.params12] at ht; simp at ht; subst ht; exact akJ _ (by decide)) QC (fun x hx => JD.lt x (by simpa using hx)) hk sp (fun x hx => hsp x (by simpa using hx)))
    (fun _ => rfl) (by simp) (ok_one (by kernel_rfl) rfl (okWide_bool_mk Tryz.underlying4 _))⟩
theorem af1 (os : Os) : laidMetH Tryz.prog Rows.placeApartRow.laid ((KZ os).forCall (fun _ _ => 0) ⟨#[], #[.agg #[.slice none 0 0]], []⟩).memory :=
  laidMetH_of_parts (laidMet_of_run' 8 (by kernel_rfl) (by kernel_rfl)) (by kernel_rfl)
theorem reads (os : Os) {H : Type} (enc : TypeId × Value → H) : ∃ places, DataW.whole enc Tryz.prog ((KZ os).forCall (fun _ _ => 0) ⟨#[], #[.agg #[.slice none 0 0]], []⟩).memory Tryz.f12.params.toList Rows.placeApartSpec.vars false (#[.agg #[.slice none 0 0]] : Array Value).toList 8 = some ([.agg [.nil]], [], places) :=
  ⟨[], by kernel_rfl⟩
set_option maxRecDepth 100000 in
theorem lifted (os : Os) (started : os.Started) (H : Type) (enc : TypeId × Value → H) (F : Stop.Interp) :
    ReturnsInHanded {} Tryz.checked os 12 .any ((OpenSpec.ofChange Rows.placeApartSpec).preRow enc Tryz.prog Tryz.f12 Rows.placeApartRow.domain false Rows.placeApartRow.laid) (((OpenSpec.ofChange Rows.placeApartSpec).at F).post enc Tryz.prog Tryz.f12 false true false false) := by
  obtain ⟨places, hx⟩ := reads os enc
  refine returnsInHanded_of_row (C := Tryz.checked) (s := OpenSpec.ofChange Rows.placeApartSpec) own started (by kernel_rfl) Tryz.func12
    (witness_row_atRef (enc := enc) (C := Tryz.checked) false (KZ os) #[.agg #[.slice none 0 0]] rfl (by kernel_rfl) (by kernel_rfl) (by kernel_rfl)
      (OpenSpec.preRow_of_cond 8 hx (by kernel_rfl) (fun k hk => by cases hk) (by kernel_rfl) (af1 os))) ?_
  intro W base args ds gs before hval hW _ _ _ hL hS _
  exact contract H enc W base args ds gs before hval hW hL hS
theorem j1 : (Rows.placeApartRow.inPlace == Tryz.pinned.checked.prog.inPlace 12) = true := by kernel_rfl
theorem j2 : (Rows.placeApartRow.unfollowed == Tryz.pinned.checked.prog.unfollowed 12) = true := by kernel_rfl
theorem afH : (Rows.placeApartRow.recurses == Tryz.pinned.checked.prog.recurses 12) = true := by kernel_rfl
theorem afI : (Rows.placeApartRow.named == Tryz.pinned.checked.prog.varsNamed 12) = true := by kernel_rfl
theorem joined : joinedFacts Tryz.pinned.checked.prog 12 Tryz.f12 (OpenSpec.ofChange Rows.placeApartSpec).bare Rows.placeApartRow = true := by
  unfold joinedFacts
  rw [j1, j2, afH, afI]
  kernel_rfl
theorem inst : Func.isInstance Tryz.pinned.checked.prog Tryz.f12 (Rows.placeApartRow).origin (Rows.placeApartRow).targs := of_decide_eq_true (by kernel_rfl)
theorem wrap : Func.isWrapper Tryz.pinned.checked.prog Tryz.f12 (Rows.placeApartRow).wrapper (Rows.placeApartRow).mainSum := by unfold Func.isWrapper; first | (rw [AC (by decide +kernel)]; kernel_rfl) | (rw [Do (by decide +kernel)]; exact ⟨rfl, rfl⟩)
theorem said : Rows.PlaceApartSaid :=
  OpenClaim.holds_of_cond 12 Tryz.f12 rfl rfl rfl rfl rfl rfl rfl ⟨rfl, rfl, rfl, rfl, rfl⟩ rfl rfl rfl rfl rfl (by kernel_rfl) Tryz.func12 joined inst wrap
    (fun os started H enc _ F => by rw [OpenClaim.pre_eq_preRow]; exact lifted os started H enc F)
theorem plain (f : FuncId) (fn : Func) (hf : Tryz.pinned.checked.prog.funcNamed "turnery/turnerylaw1.PlaceApart" = some f) (hfn : Tryz.pinned.checked.prog.funcs[f]? = some fn) :
    true = Tryz.pinned.checked.prog.looks [] ∧ ∀ (j : Nat) t, fn.params[j]? = some t → Tryz.pinned.checked.prog.wantsStandIn t = false := by
  obtain rfl : f = 12 := GE ((show Tryz.prog.funcNamed "turnery/turnerylaw1.PlaceApart" = some 12 by kernel_rfl).symm.trans hf) |>.symm
  obtain rfl : fn = Tryz.f12 := (GE (Tryz.func12.symm.trans hfn)).symm
  refine ⟨by kernel_rfl, fun j t ht => ?_⟩
  rw [Tryz.params12] at ht
  have ht := Array.mem_of_getElem? ht
  simp at ht
  subst ht
  exact (show Tryz.prog.wantsStandIn 24 = false by kernel_rfl)
theorem card : Rows.PlaceApartCardSaid :=
  Claim7.holds_tied_plain_at .later [] _ _ _ _ said (fun _ h => by cases h) (by kernel_rfl) (fun _ h => by cases h) placeApart_row_tie rfl ⟨rfl, rfl⟩ (by kernel_rfl) rfl plain (by kernel_rfl)
end Go.Proofs.YtbbhbdlljfffdaaGreatDoor.placeApart
