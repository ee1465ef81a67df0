/- Proved here: for every tree the law ConstsTypes of package turnerylaw1 returns true and leaves its argument as it was: what is folded has its types still, and is fine where it was. Conditions: those of the given row alone; the tables hold what their texts lay, tied by the card. -/
import Derived.Test.YtbbhbdlljfffdaaGreatDoorAbLkA2
import Derived.Test.YtbbhbdlljfffdaaGreatDoorAbCt20
import Derived.Deep.DeepWitnessRowRef
open Option.some renaming inj->AC
set_option linter.all false
namespace Go.Proofs.YtbbhbdlljfffdaaGreatDoor.constsTypes
open Go Go.Ab Go.ChangeShapes Go.WideShapes Go.ChangeAt Go.RowKit
set_option maxRecDepth 100000 in
theorem contract (H : Type) (enc : TypeId × Value -> H) (W : World) (base : Nat) (args : Array Value) (ds gs : List (DataW H)) (before : List MemPlace)
    (hval : ∀ (j : Nat) t v, Tryz.f14.params[j]? = some t -> args[j]? = some v -> Value.okWide Tryz.prog W .any base t v)
    (hW : DataW.Whole enc Tryz.prog Tryz.f14.params.toList Rows.constsTypesSpec.vars false W args.toList ds gs before) (hL : laidMetH Tryz.prog Rows.constsTypesRow.laid W) (hS : W.ShapedOpen Tryz.prog) :
    Calls Tryz.prog 14 args W fun e W' => ∃ v, e = .returned v ∧ Rows.constsTypesSpec.post enc Tryz.prog Tryz.f14 false true false false W args v W' := by
  have Kt := hW
  obtain ⟨m, xK⟩ := adi hS hL
  obtain ⟨p, q, Ry, hV, rfl, hfz, hnd⟩ := hW
  have hA : DataW.TrodAll enc Tryz.prog W 0 (fun _ => true) true Tryz.f14.params.toList args.toList ds p := Ry
  rw [Tryz.params14] at hA hval
  have adH := hA
  obtain ⟨v0, al4, d0, am5, qx, q0, hargs, rfl, rfl, h0, eR⟩ := trodAll_cons hA
  obtain ⟨rfl, rfl, rfl⟩ := trodAll_nil eR
  obtain rfl : args = #[v0] := by cases args; simp_all
  obtain ⟨rfl, rfl⟩ := trodVars_none hV
  obtain ⟨c0, g0, t0⟩ := alB ajN h0 (B := maxLen) (.inl rfl)
  obtain ⟨x0, rfl, o0⟩ := @abv ⟨m⟩ _ c0 t0
  have a0 := Zj Tryz.underlying24 (hval 0 24 v0 rfl rfl) g0
  have KN := @Yd ⟨m⟩ agY _ 0 _ _ (aa1 x0 (alA (by decide) o0))
  have walk := Zd (@abq ⟨m⟩) KN rfl (W := W) (vs := [v0]) (.cons (f1 := []) (f2 := []) a0 .nil) xK Tryz.func14 rfl
  refine walk.mono fun e W' ⟨he, hk⟩ => ?_
  subst he
  simp only [List.append_nil] at Kt adH
  exact ⟨_, rfl, ajQ (pa := _) Kt hk (fun _ _ _ => trodAll_cons_mk (shut_bool Tryz.underlying4 _) trodAll_mk0)
    (fun sp hsp => Zk laidB ag7 ak7 (fun t ht => by rw [Tryz.params14] at ht; simp at ht; subst ht; exact alF _ (by decide)) Ry (fun x hx => Kt.lt x (by simpa using hx)) hk sp (fun x hx => hsp x (by simpa using hx)))
    (fun _ => rfl) (by simp) (ok_one (by kernel_rfl) rfl (okWide_bool_mk Tryz.underlying4 _))⟩
theorem agH (os : Os) : laidMetH Tryz.prog Rows.constsTypesRow.laid ((L2 os).forCall (fun _ _ => 0) ⟨#[], #[.agg #[.slice none 0 0]], []⟩).memory :=
  laidMetH_of_parts (laidMet_of_run' 8 (by kernel_rfl) (by kernel_rfl)) (by kernel_rfl)
theorem reads (os : Os) {H : Type} (enc : TypeId × Value -> H) : ∃ places, DataW.whole enc Tryz.prog ((L2 os).forCall (fun _ _ => 0) ⟨#[], #[.agg #[.slice none 0 0]], []⟩).memory Tryz.f14.params.toList Rows.constsTypesSpec.vars false (#[.agg #[.slice none 0 0]] : Array Value).toList 8 = some ([.agg [.nil]], [], places) :=
  ⟨[], by kernel_rfl⟩
set_option maxRecDepth 100000 in
theorem lifted (os : Os) (started : os.Started) (H : Type) (enc : TypeId × Value -> H) (F : Stop.Interp) :
    ReturnsInHanded {} Tryz.checked os 14 .any ((OpenSpec.ofChange Rows.constsTypesSpec).preRow enc Tryz.prog Tryz.f14 Rows.constsTypesRow.domain false Rows.constsTypesRow.laid) (((OpenSpec.ofChange Rows.constsTypesSpec).at F).post enc Tryz.prog Tryz.f14 false true false false) := by
  obtain ⟨places, hx⟩ := reads os enc
  refine returnsInHanded_of_row (C := Tryz.checked) (s := OpenSpec.ofChange Rows.constsTypesSpec) own started (by kernel_rfl) Tryz.func14
    (witness_row_atRef (enc := enc) (C := Tryz.checked) false (L2 os) #[.agg #[.slice none 0 0]] rfl (by kernel_rfl) (by kernel_rfl) (by kernel_rfl)
      (OpenSpec.preRow_of_cond 8 hx (by kernel_rfl) (fun k hk => by cases hk) (by kernel_rfl) (agH os))) ?_
  intro W base args ds gs before hval hW _ _ _ hL hS _
  exact contract H enc W base args ds gs before hval hW hL hS
theorem j1 : (Rows.constsTypesRow.inPlace == Tryz.pinned.checked.prog.inPlace 14) = true := by kernel_rfl
theorem j2 : (Rows.constsTypesRow.unfollowed == Tryz.pinned.checked.prog.unfollowed 14) = true := by kernel_rfl
theorem agl : (Rows.constsTypesRow.recurses == Tryz.pinned.checked.prog.recurses 14) = true := by kernel_rfl
theorem agm : (Rows.constsTypesRow.named == Tryz.pinned.checked.prog.varsNamed 14) = true := by kernel_rfl
theorem joined : joinedFacts Tryz.pinned.checked.prog 14 Tryz.f14 (OpenSpec.ofChange Rows.constsTypesSpec).bare Rows.constsTypesRow = true := by
  unfold joinedFacts
  rw [j1, j2, agl, agm]
  kernel_rfl
theorem inst : Func.isInstance Tryz.pinned.checked.prog Tryz.f14 (Rows.constsTypesRow).origin (Rows.constsTypesRow).targs := of_decide_eq_true (by kernel_rfl)
theorem wrap : Func.isWrapper Tryz.pinned.checked.prog Tryz.f14 (Rows.constsTypesRow).wrapper (Rows.constsTypesRow).mainSum := by unfold Func.isWrapper; first | (rw [if_pos (by decide +kernel)]; kernel_rfl) | (rw [if_neg (by decide +kernel)]; exact ⟨rfl, rfl⟩)
theorem said : Rows.ConstsTypesSaid :=
  OpenClaim.holds_of_cond 14 Tryz.f14 rfl rfl rfl rfl rfl rfl rfl ⟨rfl, rfl, rfl, rfl, rfl⟩ rfl rfl rfl rfl rfl (by kernel_rfl) Tryz.func14 joined inst wrap
    (fun os started H enc _ F => by rw [OpenClaim.pre_eq_preRow]; exact lifted os started H enc F)
theorem plain (f : FuncId) (fn : Func) (hf : Tryz.pinned.checked.prog.funcNamed "turnery/turnerylaw1.ConstsTypes" = some f) (hfn : Tryz.pinned.checked.prog.funcs[f]? = some fn) :
    true = Tryz.pinned.checked.prog.looks [] ∧ ∀ (j : Nat) t, fn.params[j]? = some t -> Tryz.pinned.checked.prog.wantsStandIn t = false := by
  obtain rfl : f = 14 := AC ((show Tryz.prog.funcNamed "turnery/turnerylaw1.ConstsTypes" = some 14 by kernel_rfl).symm.trans hf) |>.symm
  obtain rfl : fn = Tryz.f14 := (AC (Tryz.func14.symm.trans hfn)).symm
  refine ⟨by kernel_rfl, fun j t ht => ?_⟩
  rw [Tryz.params14] at ht
  have ht := Array.mem_of_getElem? ht
  simp at ht
  subst ht
  exact (show Tryz.prog.wantsStandIn 24 = false by kernel_rfl)
theorem card : Rows.ConstsTypesCardSaid :=
  Claim7.holds_tied_plain_at .later [] _ _ _ _ said (fun _ h => by cases h) (by kernel_rfl) (fun _ h => by cases h) constsTypes_row_tie rfl ⟨rfl, rfl⟩ (by kernel_rfl) rfl plain (by kernel_rfl)
end Go.Proofs.YtbbhbdlljfffdaaGreatDoor.constsTypes
