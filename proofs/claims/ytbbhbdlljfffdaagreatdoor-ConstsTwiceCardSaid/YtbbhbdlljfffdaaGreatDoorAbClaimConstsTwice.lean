/- Proved here: for every tree the law ConstsTwice of package turnerylaw1 returns true and leaves its argument as it was: what is folded stays as it is, and has the number that it had. Conditions: those of the given row alone; the tables hold what their texts lay, tied by the card. -/
import Derived.Test.YtbbhbdlljfffdaaGreatDoorAbLkA2
import Derived.Test.YtbbhbdlljfffdaaGreatDoorAbFo4
import Derived.JoinedCond
import Derived.LaidHandle
import Derived.Deep.DeepWitnessRowRef
open Option.some renaming inj→GE
set_option linter.all false
namespace Go.Proofs.YtbbhbdlljfffdaaGreatDoor.constsTwice
open Go Go.Ab Go.ChangeShapes Go.WideShapes Go.ChangeAt Go.RowKit
set_option maxRecDepth 100000 in
theorem contract (H : Type) (enc : TypeId × Value → H) (W : World) (base : Nat) (args : Array Value) (ds gs : List (DataW H)) (before : List MemPlace)
    (hval : ∀ (j : Nat) t v, Tryz.f13.params[j]? = some t → args[j]? = some v → Value.okWide Tryz.prog W .any base t v)
    (hW : DataW.Whole enc Tryz.prog Tryz.f13.params.toList Rows.constsTwiceSpec.vars false W args.toList ds gs before) (hL : laidMetH Tryz.prog Rows.constsTwiceRow.laid W) (hS : W.ShapedOpen Tryz.prog) :
    Calls Tryz.prog 13 args W fun e W' => ∃ v, e = .returned v ∧ Rows.constsTwiceSpec.post enc Tryz.prog Tryz.f13 false true false false W args v W' := by
  have Eg := hW
  obtain ⟨m, sM⟩ := U8 hS hL
  obtain ⟨p, q, Ki, hV, rfl, hfz, hnd⟩ := hW
  have hA : DataW.TrodAll enc Tryz.prog W 0 (fun _ => true) true Tryz.f13.params.toList args.toList ds p := Ki
  rw [Tryz.params13] at hA hval
  have VB := hA
  obtain ⟨v0, ac8, d0, aek, q7, q0, hargs, rfl, rfl, h0, dQ⟩ := trodAll_cons hA
  obtain ⟨rfl, rfl, rfl⟩ := trodAll_nil dQ
  obtain rfl : args = #[v0] := by cases args; simp_all
  obtain ⟨rfl, rfl⟩ := trodVars_none hV
  obtain ⟨c0, g0, t0⟩ := acL aa2 h0 (B := maxLen) (.inl rfl)
  obtain ⟨x0, rfl, o0⟩ := @Tq ⟨m⟩ _ c0 t0
  have a0 := Rl Tryz.underlying24 (hval 0 24 v0 rfl rfl) g0
  have EB := @Qh ⟨m⟩ Yv _ 0 _ _ (S0 x0 (acK (by decide) o0))
  have walk := Re (@Tm ⟨m⟩) EB rfl (W := W) (vs := [v0]) (.cons (f1 := []) (f2 := []) a0 .nil) sM Tryz.func13 rfl
  refine walk.mono fun e W' ⟨he, hk⟩ => ?_
  subst he
  simp only [List.append_nil] at Eg VB
  exact ⟨_, rfl, aa5 (pa := _) Eg hk (fun _ _ _ => trodAll_cons_mk (shut_bool Tryz.underlying4 _) trodAll_mk0)
    (fun sp hsp => Rm laidB YD acm (fun t ht => by rw [Tryz.params13] at ht; simp at ht; subst ht; exact acP _ (by decide)) Ki (fun x hx => Eg.lt x (by simpa using hx)) hk sp (fun x hx => hsp x (by simpa using hx)))
    (fun _ => rfl) (by simp) (ok_one (by kernel_rfl) rfl (okWide_bool_mk Tryz.underlying4 _))⟩
theorem Yd (os : Os) : laidMetH Tryz.prog Rows.constsTwiceRow.laid ((Fz os).forCall (fun _ _ => 0) ⟨#[], #[.agg #[.slice none 0 0]], []⟩).memory :=
  laidMetH_of_parts (laidMet_of_run' 8 (by kernel_rfl) (by kernel_rfl)) (by kernel_rfl)
theorem reads (os : Os) {H : Type} (enc : TypeId × Value → H) : ∃ places, DataW.whole enc Tryz.prog ((Fz os).forCall (fun _ _ => 0) ⟨#[], #[.agg #[.slice none 0 0]], []⟩).memory Tryz.f13.params.toList Rows.constsTwiceSpec.vars false (#[.agg #[.slice none 0 0]] : Array Value).toList 8 = some ([.agg [.nil]], [], places) :=
  ⟨[], by kernel_rfl⟩
set_option maxRecDepth 100000 in
theorem lifted (os : Os) (started : os.Started) (H : Type) (enc : TypeId × Value → H) (F : Stop.Interp) :
    ReturnsInHanded {} Tryz.checked os 13 .any ((OpenSpec.ofChange Rows.constsTwiceSpec).preRow enc Tryz.prog Tryz.f13 Rows.constsTwiceRow.domain false Rows.constsTwiceRow.laid) (((OpenSpec.ofChange Rows.constsTwiceSpec).at F).post enc Tryz.prog Tryz.f13 false true false false) := by
  obtain ⟨places, hx⟩ := reads os enc
  refine returnsInHanded_of_row (C := Tryz.checked) (s := OpenSpec.ofChange Rows.constsTwiceSpec) own started (by kernel_rfl) Tryz.func13
    (witness_row_atRef (enc := enc) (C := Tryz.checked) false (Fz os) #[.agg #[.slice none 0 0]] rfl (by kernel_rfl) (by kernel_rfl) (by kernel_rfl)
      (OpenSpec.preRow_of_cond 8 hx (by kernel_rfl) (fun k hk => by cases hk) (by kernel_rfl) (Yd os))) ?_
  intro W base args ds gs before hval hW _ _ _ hL hS _
  exact contract H enc W base args ds gs before hval hW hL hS
theorem j1 : (Rows.constsTwiceRow.inPlace == Tryz.pinned.checked.prog.inPlace 13) = true := by kernel_rfl
theorem j2 : (Rows.constsTwiceRow.unfollowed == Tryz.pinned.checked.prog.unfollowed 13) = true := by kernel_rfl
theorem XZ : (Rows.constsTwiceRow.recurses == Tryz.pinned.checked.prog.recurses 13) = true := by kernel_rfl
theorem X0 : (Rows.constsTwiceRow.named == Tryz.pinned.checked.prog.varsNamed 13) = true := by kernel_rfl
theorem joined : joinedFacts Tryz.pinned.checked.prog 13 Tryz.f13 (OpenSpec.ofChange Rows.constsTwiceSpec).bare Rows.constsTwiceRow = true := by
  unfold joinedFacts
  rw [j1, j2, XZ, X0]
  kernel_rfl
theorem inst : Func.isInstance Tryz.pinned.checked.prog Tryz.f13 (Rows.constsTwiceRow).origin (Rows.constsTwiceRow).targs := of_decide_eq_true (by kernel_rfl)
theorem wrap : Func.isWrapper Tryz.pinned.checked.prog Tryz.f13 (Rows.constsTwiceRow).wrapper (Rows.constsTwiceRow).mainSum := by unfold Func.isWrapper; first | (rw [AC (by decide +kernel)]; kernel_rfl) | (rw [Do (by decide +kernel)]; exact ⟨rfl, rfl⟩)
theorem said : Rows.ConstsTwiceSaid :=
  OpenClaim.holds_of_cond 13 Tryz.f13 rfl rfl rfl rfl rfl rfl rfl ⟨rfl, rfl, rfl, rfl, rfl⟩ rfl rfl rfl rfl rfl (by kernel_rfl) Tryz.func13 joined inst wrap
    (fun os started H enc _ F => by rw [OpenClaim.pre_eq_preRow]; exact lifted os started H enc F)
theorem plain (f : FuncId) (fn : Func) (hf : Tryz.pinned.checked.prog.funcNamed "turnery/turnerylaw1.ConstsTwice" = some f) (hfn : Tryz.pinned.checked.prog.funcs[f]? = some fn) :
    true = Tryz.pinned.checked.prog.looks [] ∧ ∀ (j : Nat) t, fn.params[j]? = some t → Tryz.pinned.checked.prog.wantsStandIn t = false := by
  obtain rfl : f = 13 := GE ((show Tryz.prog.funcNamed "turnery/turnerylaw1.ConstsTwice" = some 13 by kernel_rfl).symm.trans hf) |>.symm
  obtain rfl : fn = Tryz.f13 := (GE (Tryz.func13.symm.trans hfn)).symm
  refine ⟨by kernel_rfl, fun j t ht => ?_⟩
  rw [Tryz.params13] at ht
  have ht := Array.mem_of_getElem? ht
  simp at ht
  subst ht
  exact (show Tryz.prog.wantsStandIn 24 = false by kernel_rfl)
theorem card : Rows.ConstsTwiceCardSaid :=
  Claim7.holds_tied_plain_at .later [] _ _ _ _ said (fun _ h => by cases h) (by kernel_rfl) (fun _ h => by cases h) constsTwice_row_tie rfl ⟨rfl, rfl⟩ (by kernel_rfl) rfl plain (by kernel_rfl)
end Go.Proofs.YtbbhbdlljfffdaaGreatDoor.constsTwice
