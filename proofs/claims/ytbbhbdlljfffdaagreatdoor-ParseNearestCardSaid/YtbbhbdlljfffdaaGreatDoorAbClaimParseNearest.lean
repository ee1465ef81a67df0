/- Proved here: for every two numbers the law ParseNearest of package turnerylaw1 returns true: of three names with two signs between them that sign takes its names first which is nearest, and of one line the left one; brackets tell it. Conditions: those of the given row alone; the tables hold what their texts lay, tied by the card. -/
import Derived.Test.YtbbhbdlljfffdaaGreatDoorAbLkA2
import Derived.Test.YtbbhbdlljfffdaaGreatDoorAbPn1
import Derived.JoinedCond
import Derived.LaidHandle
import Derived.Deep.DeepWitnessRowRef
open Option.some renaming inj→GE
set_option linter.all false
namespace Go.Proofs.YtbbhbdlljfffdaaGreatDoor.parseNearest
open Go Go.Ab Go.ChangeShapes Go.WideShapes Go.ChangeAt Go.RowKit
set_option maxRecDepth 100000 in
theorem contract (H : Type) (enc : TypeId × Value → H) (W : World) (base : Nat) (args : Array Value) (ds gs : List (DataW H)) (before : List MemPlace)
    (hval : ∀ (j : Nat) t v, Tryz.f7.params[j]? = some t → args[j]? = some v → Value.okWide Tryz.prog W .any base t v)
    (hW : DataW.Whole enc Tryz.prog Tryz.f7.params.toList Rows.parseNearestSpec.vars false W args.toList ds gs before) (hL : laidMetH Tryz.prog Rows.parseNearestRow.laid W) (hS : W.ShapedOpen Tryz.prog) :
    Calls Tryz.prog 7 args W fun e W' => ∃ v, e = .returned v ∧ Rows.parseNearestSpec.post enc Tryz.prog Tryz.f7 false true false false W args v W' := by
  have BY := hW
  obtain ⟨m, rL⟩ := RL hS hL
  obtain ⟨p, q, HU, hV, rfl, hfz, hnd⟩ := hW
  have hA : DataW.TrodAll enc Tryz.prog W 0 (fun _ => true) true Tryz.f7.params.toList args.toList ds p := HU
  rw [Tryz.params7] at hA hval
  have Sm := hA
  obtain ⟨v0, YT, d0, ZR, qw, q0, hargs, rfl, rfl, h0, dK⟩ := trodAll_cons hA
  obtain ⟨v1, fo, d1, ZS, p1, q1, rfl, rfl, rfl, h1, r1⟩ := trodAll_cons dK
  obtain ⟨rfl, rfl, rfl⟩ := trodAll_nil r1
  obtain rfl : args = #[v0, v1] := by cases args; simp_all
  obtain ⟨rfl, rfl⟩ := trodVars_none hV
  obtain ⟨c0, g0, t0⟩ := La J7 h0 (B := maxLen) (.inl rfl)
  obtain ⟨x0, rfl, o0⟩ := G6 Tryz.underlying3 t0
  obtain ⟨c1, g1, t1⟩ := La J7 h1 (B := maxLen) (.inl rfl)
  obtain ⟨x1, rfl, o1⟩ := G6 Tryz.underlying3 t1
  have a0 := Gm Tryz.underlying3 rfl (hval 0 3 v0 rfl rfl) g0
  have a1 := Gm Tryz.underlying3 rfl (hval 1 3 v1 rfl rfl) g1
  have Cg := @Nk ⟨m⟩ jh 500 0 _ _ _ (Xd x0 x1)
  have walk := Oj (@Qd ⟨m⟩) Cg rfl (W := W) (vs := [v0, v1]) (.cons (f1 := []) (f2 := []) a0 (.cons (f1 := []) (f2 := []) a1 .nil)) rL Tryz.func7 rfl
  refine walk.mono fun e W' ⟨he, hk⟩ => ?_
  subst he
  simp only [List.append_nil] at BY Sm
  exact ⟨_, rfl, Xx (pa := _) BY hk (fun _ _ _ => trodAll_cons_mk (shut_bool Tryz.underlying4 _) trodAll_mk0)
    (fun sp hsp => Oo laidB U9 Yq (fun t ht => by rw [Tryz.params7] at ht; simp at ht; subst ht; exact YF _ (by decide)) HU (fun x hx => BY.lt x (by simpa using hx)) hk sp (fun x hx => hsp x (by simpa using hx)))
    (fun _ => rfl) (by simp) (ok_one (by kernel_rfl) rfl (okWide_bool_mk Tryz.underlying4 _))⟩
theorem UL (os : Os) : laidMetH Tryz.prog Rows.parseNearestRow.laid ((Da os).forCall (fun _ _ => 0) ⟨#[], #[.int .i64 0, .int .i64 0], []⟩).memory :=
  laidMetH_of_parts (laidMet_of_run' 8 (by kernel_rfl) (by kernel_rfl)) (by kernel_rfl)
theorem reads (os : Os) {H : Type} (enc : TypeId × Value → H) : ∃ places, DataW.whole enc Tryz.prog ((Da os).forCall (fun _ _ => 0) ⟨#[], #[.int .i64 0, .int .i64 0], []⟩).memory Tryz.f7.params.toList Rows.parseNearestSpec.vars false (#[.int .i64 0, .int .i64 0] : Array Value).toList 8 = some ([.lit (.int .i64 0), .lit (.int .i64 0)], [], places) :=
  ⟨[], by kernel_rfl⟩
set_option maxRecDepth 100000 in
theorem lifted (os : Os) (started : os.Started) (H : Type) (enc : TypeId × Value → H) (F : Stop.Interp) :
    ReturnsInHanded {} Tryz.checked os 7 .any ((OpenSpec.ofChange Rows.parseNearestSpec).preRow enc Tryz.prog Tryz.f7 Rows.parseNearestRow.domain false Rows.parseNearestRow.laid) (((OpenSpec.ofChange Rows.parseNearestSpec).at F).post enc Tryz.prog Tryz.f7 false true false false) := by
  obtain ⟨places, hx⟩ := reads os enc
  refine returnsInHanded_of_row (C := Tryz.checked) (s := OpenSpec.ofChange Rows.parseNearestSpec) own started (by kernel_rfl) Tryz.func7
    (witness_row_atRef (enc := enc) (C := Tryz.checked) false (Da os) #[.int .i64 0, .int .i64 0] rfl (by kernel_rfl) (by kernel_rfl) (by kernel_rfl)
      (OpenSpec.preRow_of_cond 8 hx (by kernel_rfl) (fun k hk => by cases hk) (by kernel_rfl) (UL os))) ?_
  intro W base args ds gs before hval hW _ _ _ hL hS _
  exact contract H enc W base args ds gs before hval hW hL hS
theorem j1 : (Rows.parseNearestRow.inPlace == Tryz.pinned.checked.prog.inPlace 7) = true := by kernel_rfl
theorem j2 : (Rows.parseNearestRow.unfollowed == Tryz.pinned.checked.prog.unfollowed 7) = true := by kernel_rfl
theorem UC : (Rows.parseNearestRow.recurses == Tryz.pinned.checked.prog.recurses 7) = true := by kernel_rfl
theorem UD : (Rows.parseNearestRow.named == Tryz.pinned.checked.prog.varsNamed 7) = true := by kernel_rfl
theorem joined : joinedFacts Tryz.pinned.checked.prog 7 Tryz.f7 (OpenSpec.ofChange Rows.parseNearestSpec).bare Rows.parseNearestRow = true := by
  unfold joinedFacts
  rw [j1, j2, UC, UD]
  kernel_rfl
theorem inst : Func.isInstance Tryz.pinned.checked.prog Tryz.f7 (Rows.parseNearestRow).origin (Rows.parseNearestRow).targs := of_decide_eq_true (by kernel_rfl)
theorem wrap : Func.isWrapper Tryz.pinned.checked.prog Tryz.f7 (Rows.parseNearestRow).wrapper (Rows.parseNearestRow).mainSum := by unfold Func.isWrapper; first | (rw [AC (by decide +kernel)]; kernel_rfl) | (rw [Do (by decide +kernel)]; exact ⟨rfl, rfl⟩)
theorem said : Rows.ParseNearestSaid :=
  OpenClaim.holds_of_cond 7 Tryz.f7 rfl rfl rfl rfl rfl rfl rfl ⟨rfl, rfl, rfl, rfl, rfl⟩ rfl rfl rfl rfl rfl (by kernel_rfl) Tryz.func7 joined inst wrap
    (fun os started H enc _ F => by rw [OpenClaim.pre_eq_preRow]; exact lifted os started H enc F)
theorem plain (f : FuncId) (fn : Func) (hf : Tryz.pinned.checked.prog.funcNamed "turnery/turnerylaw1.ParseNearest" = some f) (hfn : Tryz.pinned.checked.prog.funcs[f]? = some fn) :
    true = Tryz.pinned.checked.prog.looks [] ∧ ∀ (j : Nat) t, fn.params[j]? = some t → Tryz.pinned.checked.prog.wantsStandIn t = false := by
  obtain rfl : f = 7 := GE ((show Tryz.prog.funcNamed "turnery/turnerylaw1.ParseNearest" = some 7 by kernel_rfl).symm.trans hf) |>.symm
  obtain rfl : fn = Tryz.f7 := (GE (Tryz.func7.symm.trans hfn)).symm
  refine ⟨by kernel_rfl, fun j t ht => ?_⟩
  rw [Tryz.params7] at ht
  have ht := Array.mem_of_getElem? ht
  simp at ht
  subst ht
  exact (show Tryz.prog.wantsStandIn 3 = false by kernel_rfl)
theorem card : Rows.ParseNearestCardSaid :=
  Claim7.holds_tied_plain_at .later [] _ _ _ _ said (fun _ h => by cases h) (by kernel_rfl) (fun _ h => by cases h) parseNearest_row_tie rfl ⟨rfl, rfl⟩ (by kernel_rfl) rfl plain (by kernel_rfl)
end Go.Proofs.YtbbhbdlljfffdaaGreatDoor.parseNearest
