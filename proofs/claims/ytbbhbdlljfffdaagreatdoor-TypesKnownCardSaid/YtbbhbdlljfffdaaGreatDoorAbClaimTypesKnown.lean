/- Proved here: for every tree the law TypesKnown of package turnerylaw1 returns true and leaves its argument as it was: the type of an expression follows from its sign and from the types of what stands in it. Conditions: those of the given row alone; the tables hold what their texts lay, tied by the card. -/
import Derived.Test.YtbbhbdlljfffdaaGreatDoorAbLkA2
import Derived.Test.YtbbhbdlljfffdaaGreatDoorAbKn5
import Derived.JoinedCond
import Derived.LaidHandle
import Derived.Deep.DeepWitnessRowRef
open Option.some renaming inj→AC
set_option linter.all false
namespace Go.Proofs.YtbbhbdlljfffdaaGreatDoor.typesKnown
open Go Go.Ab Go.ChangeShapes Go.WideShapes Go.ChangeAt Go.RowKit
set_option maxRecDepth 100000 in
theorem contract (H : Type) (enc : TypeId × Value → H) (W : World) (base : Nat) (args : Array Value) (ds gs : List (DataW H)) (before : List MemPlace)
    (hval : ∀ (j : Nat) t v, Tryz.f10.params[j]? = some t → args[j]? = some v → Value.okWide Tryz.prog W .any base t v)
    (hW : DataW.Whole enc Tryz.prog Tryz.f10.params.toList Rows.typesKnownSpec.vars false W args.toList ds gs before) (hL : laidMetH Tryz.prog Rows.typesKnownRow.laid W) (hS : W.ShapedOpen Tryz.prog) :
    Calls Tryz.prog 10 args W fun e W' => ∃ v, e = .returned v ∧ Rows.typesKnownSpec.post enc Tryz.prog Tryz.f10 false true false false W args v W' := by
  have pY := hW
  obtain ⟨m, p4⟩ := Iv hS hL
  obtain ⟨p, q, tO, hV, rfl, hfz, hnd⟩ := hW
  have hA : DataW.TrodAll enc Tryz.prog W 0 (fun _ => true) true Tryz.f10.params.toList args.toList ds p := tO
  rw [Tryz.params10] at hA hval
  have Bl := hA
  obtain ⟨v0, Mk, d0, OB, rq, q0, hargs, rfl, rfl, h0, dX⟩ := trodAll_cons hA
  obtain ⟨rfl, rfl, rfl⟩ := trodAll_nil dX
  obtain rfl : args = #[v0] := by cases args; simp_all
  obtain ⟨rfl, rfl⟩ := trodVars_none hV
  obtain ⟨c0, g0, t0⟩ := Gs Lb h0 (B := maxLen) (.inl rfl)
  obtain ⟨x0, rfl, o0⟩ := @HR ⟨m⟩ _ c0 t0
  have a0 := Hg Tryz.underlying24 (hval 0 24 v0 rfl rfl) g0
  have vZ := @VV ⟨m⟩ Ke _ 0 _ _ (ai1 x0 (Md (by decide) o0))
  have walk := He (@HP ⟨m⟩) vZ rfl (W := W) (vs := [v0]) (.cons (f1 := []) (f2 := []) a0 .nil) p4 Tryz.func10 rfl
  refine walk.mono fun e W' ⟨he, hk⟩ => ?_
  subst he
  simp only [List.append_nil] at pY Bl
  exact ⟨_, rfl, Lc (pa := _) pY hk (fun _ _ _ => trodAll_cons_mk (shut_bool Tryz.underlying4 _) trodAll_mk0)
    (fun sp hsp => Hh laidB Kk LJ (fun t ht => by rw [Tryz.params10] at ht; simp at ht; subst ht; exact Me _ (by decide)) tO (fun x hx => pY.lt x (by simpa using hx)) hk sp (fun x hx => hsp x (by simpa using hx)))
    (fun _ => rfl) (by simp) (ok_one (by kernel_rfl) rfl (okWide_bool_mk Tryz.underlying4 _))⟩
theorem Cq (os : Os) : laidMetH Tryz.prog Rows.typesKnownRow.laid ((sH os).forCall (fun _ _ => 0) ⟨#[], #[.agg #[.slice none 0 0]], []⟩).memory :=
  laidMetH_of_parts (laidMet_of_run' 8 (by kernel_rfl) (by kernel_rfl)) (by kernel_rfl)
theorem reads (os : Os) {H : Type} (enc : TypeId × Value → H) : ∃ places, DataW.whole enc Tryz.prog ((sH os).forCall (fun _ _ => 0) ⟨#[], #[.agg #[.slice none 0 0]], []⟩).memory Tryz.f10.params.toList Rows.typesKnownSpec.vars false (#[.agg #[.slice none 0 0]] : Array Value).toList 8 = some ([.agg [.nil]], [], places) :=
  ⟨[], by kernel_rfl⟩
set_option maxRecDepth 100000 in
theorem lifted (os : Os) (started : os.Started) (H : Type) (enc : TypeId × Value → H) (F : Stop.Interp) :
    ReturnsInHanded {} Tryz.checked os 10 .any ((OpenSpec.ofChange Rows.typesKnownSpec).preRow enc Tryz.prog Tryz.f10 Rows.typesKnownRow.domain false Rows.typesKnownRow.laid) (((OpenSpec.ofChange Rows.typesKnownSpec).at F).post enc Tryz.prog Tryz.f10 false true false false) := by
  obtain ⟨places, hx⟩ := reads os enc
  refine returnsInHanded_of_row (C := Tryz.checked) (s := OpenSpec.ofChange Rows.typesKnownSpec) own started (by kernel_rfl) Tryz.func10
    (witness_row_atRef (enc := enc) (C := Tryz.checked) false (sH os) #[.agg #[.slice none 0 0]] rfl (by kernel_rfl) (by kernel_rfl) (by kernel_rfl)
      (OpenSpec.preRow_of_cond 8 hx (by kernel_rfl) (fun k hk => by cases hk) (by kernel_rfl) (Cq os))) ?_
  intro W base args ds gs before hval hW _ _ _ hL hS _
  exact contract H enc W base args ds gs before hval hW hL hS
theorem j1 : (Rows.typesKnownRow.inPlace == Tryz.pinned.checked.prog.inPlace 10) = true := by kernel_rfl
theorem j2 : (Rows.typesKnownRow.unfollowed == Tryz.pinned.checked.prog.unfollowed 10) = true := by kernel_rfl
theorem j3 : (Rows.typesKnownRow.recurses == Tryz.pinned.checked.prog.recurses 10) = true := by kernel_rfl
theorem j4 : (Rows.typesKnownRow.named == Tryz.pinned.checked.prog.varsNamed 10) = true := by kernel_rfl
theorem joined : joinedFacts Tryz.pinned.checked.prog 10 Tryz.f10 (OpenSpec.ofChange Rows.typesKnownSpec).bare Rows.typesKnownRow = true := by
  unfold joinedFacts
  rw [j1, j2, j3, j4]
  kernel_rfl
theorem inst : Func.isInstance Tryz.pinned.checked.prog Tryz.f10 (Rows.typesKnownRow).origin (Rows.typesKnownRow).targs := of_decide_eq_true (by kernel_rfl)
theorem wrap : Func.isWrapper Tryz.pinned.checked.prog Tryz.f10 (Rows.typesKnownRow).wrapper (Rows.typesKnownRow).mainSum := by unfold Func.isWrapper; first | (rw [if_pos (by decide +kernel)]; kernel_rfl) | (rw [if_neg (by decide +kernel)]; exact ⟨rfl, rfl⟩)
theorem said : Rows.TypesKnownSaid :=
  OpenClaim.holds_of_cond 10 Tryz.f10 rfl rfl rfl rfl rfl rfl rfl ⟨rfl, rfl, rfl, rfl, rfl⟩ rfl rfl rfl rfl rfl (by kernel_rfl) Tryz.func10 joined inst wrap
    (fun os started H enc _ F => by rw [OpenClaim.pre_eq_preRow]; exact lifted os started H enc F)
theorem plain (f : FuncId) (fn : Func) (hf : Tryz.pinned.checked.prog.funcNamed "turnery/turnerylaw1.TypesKnown" = some f) (hfn : Tryz.pinned.checked.prog.funcs[f]? = some fn) :
    true = Tryz.pinned.checked.prog.looks [] ∧ ∀ (j : Nat) t, fn.params[j]? = some t → Tryz.pinned.checked.prog.wantsStandIn t = false := by
  obtain rfl : f = 10 := AC ((show Tryz.prog.funcNamed "turnery/turnerylaw1.TypesKnown" = some 10 by kernel_rfl).symm.trans hf) |>.symm
  obtain rfl : fn = Tryz.f10 := (AC (Tryz.func10.symm.trans hfn)).symm
  refine ⟨by kernel_rfl, fun j t ht => ?_⟩
  rw [Tryz.params10] at ht
  have ht := Array.mem_of_getElem? ht
  simp at ht
  subst ht
  exact (show Tryz.prog.wantsStandIn 24 = false by kernel_rfl)
theorem card : Rows.TypesKnownCardSaid :=
  Claim7.holds_tied_plain_at .later [] _ _ _ _ said (fun _ h => by cases h) (by kernel_rfl) (fun _ h => by cases h) typesKnown_row_tie rfl ⟨rfl, rfl⟩ (by kernel_rfl) rfl plain (by kernel_rfl)
end Go.Proofs.YtbbhbdlljfffdaaGreatDoor.typesKnown
