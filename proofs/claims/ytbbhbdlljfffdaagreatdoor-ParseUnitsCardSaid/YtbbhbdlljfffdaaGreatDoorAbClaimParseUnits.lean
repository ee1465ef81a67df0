/- Proved here: for every text the law ParseUnits of package turnerylaw1 returns true and leaves its argument as it was: parse.Unit answers what the reference answers. Conditions: those of the given row alone; the tables hold what their texts lay, tied by the card. -/
import Derived.Test.YtbbhbdlljfffdaaGreatDoorAbPsA2
import Derived.Test.YtbbhbdlljfffdaaGreatDoorAbPu8
open Option.some renaming inj->AC
set_option linter.all false
namespace Go.Proofs.YtbbhbdlljfffdaaGreatDoor.parseUnits
open Go Go.Ab Go.ChangeShapes Go.WideShapes Go.ChangeAt Go.RowKit
set_option maxRecDepth 100000 in
theorem contract (H : Type) (enc : TypeId × Value -> H) (W : World) (base : Nat) (args : Array Value) (ds gs : List (DataW H)) (before : List MemPlace)
    (hval : ∀ (j : Nat) t v, Tryz.f4.params[j]? = some t -> args[j]? = some v -> Value.okWide Tryz.prog W .any base t v)
    (hW : DataW.Whole enc Tryz.prog Tryz.f4.params.toList Rows.parseUnitsSpec.vars false W args.toList ds gs before) (hL : laidMetH Tryz.prog Rows.parseUnitsRow.laid W) (hS : W.ShapedOpen Tryz.prog) :
    Calls Tryz.prog 4 args W fun e W' => ∃ v, e = .returned v ∧ Rows.parseUnitsSpec.post enc Tryz.prog Tryz.f4 false true false false W args v W' := by
  have Lr := hW
  obtain ⟨m, zy⟩ := adx hS hL
  obtain ⟨p, q, RL, hV, rfl, hfz, hnd⟩ := hW
  have hA : DataW.TrodAll enc Tryz.prog W 0 (fun _ => true) true Tryz.f4.params.toList args.toList ds p := RL
  rw [Tryz.params4] at hA hval
  have ad3 := hA
  obtain ⟨v0, ami, d0, anr, jX, q0, hargs, rfl, rfl, h0, fC⟩ := trodAll_cons hA
  obtain ⟨rfl, rfl, rfl⟩ := trodAll_nil fC
  obtain rfl : args = #[v0] := by cases args; simp_all
  obtain ⟨rfl, rfl⟩ := trodVars_none hV
  obtain ⟨c0, g0, t0⟩ := alP ajl h0 (B := maxLen) (.inl rfl)
  obtain ⟨x0, rfl, o0⟩ := abH Tryz.underlying9 t0
  have a0 := ZB Tryz.underlying9 rfl (hval 0 9 v0 rfl rfl) g0
  have LO := @Yr ⟨m⟩ agS 16100 0 _ _ (aiS x0)
  have walk := Zy (@abE ⟨m⟩) LO rfl (W := W) (vs := [v0]) (.cons (f1 := []) (f2 := []) a0 .nil) zy Tryz.func4 rfl
  refine walk.mono fun e W' ⟨he, hk⟩ => ?_
  subst he
  simp only [List.append_nil] at Lr ad3
  exact ⟨_, rfl, ajo (pa := _) Lr hk (fun _ _ _ => trodAll_cons_mk (shut_bool Tryz.underlying4 _) trodAll_mk0)
    (fun sp hsp => ZC laidB ag5 alk (fun t ht => by rw [Tryz.params4] at ht; simp at ht; subst ht; exact alR _ (by decide)) RL (fun x hx => Lr.lt x (by simpa using hx)) hk sp (fun x hx => hsp x (by simpa using hx)))
    (fun _ => rfl) (by simp) (ok_one (by kernel_rfl) rfl (okWide_bool_mk Tryz.underlying4 _))⟩
theorem agu (os : Os) : laidMetH Tryz.prog Rows.parseUnitsRow.laid ((MP os).forCall (fun _ _ => 0) ⟨#[], #[.string ⟨#[]⟩], []⟩).memory :=
  laidMetH_of_parts (laidMet_of_run' 8 (by kernel_rfl) (by kernel_rfl)) (by kernel_rfl)
theorem reads (os : Os) {H : Type} (enc : TypeId × Value -> H) : ∃ places, DataW.whole enc Tryz.prog ((MP os).forCall (fun _ _ => 0) ⟨#[], #[.string ⟨#[]⟩], []⟩).memory Tryz.f4.params.toList Rows.parseUnitsSpec.vars false (#[.string ⟨#[]⟩] : Array Value).toList 8 = some ([.lit (.string [])], [], places) :=
  ⟨[], by kernel_rfl⟩
set_option maxRecDepth 100000 in
theorem lifted (os : Os) (started : os.Started) (H : Type) (enc : TypeId × Value -> H) (F : Stop.Interp) :
    ReturnsInHanded {} Tryz.checked os 4 .any ((OpenSpec.ofChange Rows.parseUnitsSpec).preRow enc Tryz.prog Tryz.f4 Rows.parseUnitsRow.domain false Rows.parseUnitsRow.laid) (((OpenSpec.ofChange Rows.parseUnitsSpec).at F).post enc Tryz.prog Tryz.f4 false true false false) := by
  obtain ⟨places, hx⟩ := reads os enc
  refine returnsInHanded_of_row (C := Tryz.checked) (s := OpenSpec.ofChange Rows.parseUnitsSpec) own started (by kernel_rfl) Tryz.func4
    (witness_row_atRef (enc := enc) (C := Tryz.checked) false (MP os) #[.string ⟨#[]⟩] rfl (by kernel_rfl) (by kernel_rfl) (by kernel_rfl)
      (OpenSpec.preRow_of_cond 8 hx (by kernel_rfl) (fun k hk => by cases hk) (by kernel_rfl) (agu os))) ?_
  intro W base args ds gs before hval hW _ _ _ hL hS _
  exact contract H enc W base args ds gs before hval hW hL hS
theorem j1 : (Rows.parseUnitsRow.inPlace == Tryz.pinned.checked.prog.inPlace 4) = true := by kernel_rfl
theorem j2 : (Rows.parseUnitsRow.unfollowed == Tryz.pinned.checked.prog.unfollowed 4) = true := by kernel_rfl
theorem agi : (Rows.parseUnitsRow.recurses == Tryz.pinned.checked.prog.recurses 4) = true := by kernel_rfl
theorem agj : (Rows.parseUnitsRow.named == Tryz.pinned.checked.prog.varsNamed 4) = true := by kernel_rfl
theorem joined : joinedFacts Tryz.pinned.checked.prog 4 Tryz.f4 (OpenSpec.ofChange Rows.parseUnitsSpec).bare Rows.parseUnitsRow = true := by
  unfold joinedFacts
  rw [j1, j2, agi, agj]
  kernel_rfl
theorem inst : Func.isInstance Tryz.pinned.checked.prog Tryz.f4 (Rows.parseUnitsRow).origin (Rows.parseUnitsRow).targs := of_decide_eq_true (by kernel_rfl)
theorem wrap : Func.isWrapper Tryz.pinned.checked.prog Tryz.f4 (Rows.parseUnitsRow).wrapper (Rows.parseUnitsRow).mainSum := by unfold Func.isWrapper; first | (rw [if_pos (by decide +kernel)]; kernel_rfl) | (rw [if_neg (by decide +kernel)]; exact ⟨rfl, rfl⟩)
theorem said : Rows.ParseUnitsSaid :=
  OpenClaim.holds_of_cond 4 Tryz.f4 rfl rfl rfl rfl rfl rfl rfl ⟨rfl, rfl, rfl, rfl, rfl⟩ rfl rfl rfl rfl rfl (by kernel_rfl) Tryz.func4 joined inst wrap
    (fun os started H enc _ F => by rw [OpenClaim.pre_eq_preRow]; exact lifted os started H enc F)
theorem plain (f : FuncId) (fn : Func) (hf : Tryz.pinned.checked.prog.funcNamed "turnery/turnerylaw1.ParseUnits" = some f) (hfn : Tryz.pinned.checked.prog.funcs[f]? = some fn) :
    true = Tryz.pinned.checked.prog.looks [] ∧ ∀ (j : Nat) t, fn.params[j]? = some t -> Tryz.pinned.checked.prog.wantsStandIn t = false := by
  obtain rfl : f = 4 := AC ((show Tryz.prog.funcNamed "turnery/turnerylaw1.ParseUnits" = some 4 by kernel_rfl).symm.trans hf) |>.symm
  obtain rfl : fn = Tryz.f4 := (AC (Tryz.func4.symm.trans hfn)).symm
  refine ⟨by kernel_rfl, fun j t ht => ?_⟩
  rw [Tryz.params4] at ht
  have ht := Array.mem_of_getElem? ht
  simp at ht
  subst ht
  exact (show Tryz.prog.wantsStandIn 9 = false by kernel_rfl)
theorem card : Rows.ParseUnitsCardSaid :=
  Claim7.holds_tied_plain_at .later [] _ _ _ _ said (fun _ h => by cases h) (by kernel_rfl) (fun _ h => by cases h) parseUnits_row_tie rfl ⟨rfl, rfl⟩ (by kernel_rfl) rfl plain (by kernel_rfl)
end Go.Proofs.YtbbhbdlljfffdaaGreatDoor.parseUnits
