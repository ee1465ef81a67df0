/- Proved here: for every text the law ParseBrackets of package turnerylaw1 returns true and leaves its argument as it was: enclosing an expression in parentheses changes only offsets. Conditions: those of the given row alone; the tables hold what their texts lay, tied by the card. -/
import Derived.Test.YtbbhbdlljfffdaaGreatDoorAbPsA2
import Derived.Test.YtbbhbdlljfffdaaGreatDoorAbBr5
open Option.some renaming inj->AC
set_option linter.all false
namespace Go.Proofs.YtbbhbdlljfffdaaGreatDoor.parseBrackets
open Go Go.Ab Go.ChangeShapes Go.WideShapes Go.ChangeAt Go.RowKit
set_option maxRecDepth 100000 in
theorem contract (H : Type) (enc : TypeId × Value -> H) (W : World) (base : Nat) (args : Array Value) (ds gs : List (DataW H)) (before : List MemPlace)
    (hval : ∀ (j : Nat) t v, Tryz.f6.params[j]? = some t -> args[j]? = some v -> Value.okWide Tryz.prog W .any base t v)
    (hW : DataW.Whole enc Tryz.prog Tryz.f6.params.toList Rows.parseBracketsSpec.vars false W args.toList ds gs before) (hL : laidMetH Tryz.prog Rows.parseBracketsRow.laid W) (hS : W.ShapedOpen Tryz.prog) :
    Calls Tryz.prog 6 args W fun e W' => ∃ v, e = .returned v ∧ Rows.parseBracketsSpec.post enc Tryz.prog Tryz.f6 false true false false W args v W' := by
  have zL := hW
  obtain ⟨m, vE⟩ := TA hS hL
  obtain ⟨p, q, E5, hV, rfl, hfz, hnd⟩ := hW
  have hA : DataW.TrodAll enc Tryz.prog W 0 (fun _ => true) true Tryz.f6.params.toList args.toList ds p := E5
  rw [Tryz.params6] at hA hval
  have MA := hA
  obtain ⟨v0, X2, d0, ad2, kr, q0, hargs, rfl, rfl, h0, eC⟩ := trodAll_cons hA
  obtain ⟨rfl, rfl, rfl⟩ := trodAll_nil eC
  obtain rfl : args = #[v0] := by cases args; simp_all
  obtain ⟨rfl, rfl⟩ := trodVars_none hV
  obtain ⟨c0, g0, t0⟩ := P6 O3 h0 (B := maxLen) (.inl rfl)
  obtain ⟨x0, rfl, o0⟩ := LW Tryz.underlying9 t0
  have a0 := Li Tryz.underlying9 rfl (hval 0 9 v0 rfl rfl) g0
  have Fh := @aaB ⟨m⟩ U6 16100 0 _ _ (alr x0)
  have walk := RS (@SG ⟨m⟩) Fh rfl (W := W) (vs := [v0]) (.cons (f1 := []) (f2 := []) a0 .nil) vE Tryz.func6 rfl
  refine walk.mono fun e W' ⟨he, hk⟩ => ?_
  subst he
  simp only [List.append_nil] at zL MA
  exact ⟨_, rfl, Wi (pa := _) zL hk (fun _ _ _ => trodAll_cons_mk (shut_bool Tryz.underlying4 _) trodAll_mk0)
    (fun sp hsp => R1 laidB Vj Xy (fun t ht => by rw [Tryz.params6] at ht; simp at ht; subst ht; exact XQ _ (by decide)) E5 (fun x hx => zL.lt x (by simpa using hx)) hk sp (fun x hx => hsp x (by simpa using hx)))
    (fun _ => rfl) (by simp) (ok_one (by kernel_rfl) rfl (okWide_bool_mk Tryz.underlying4 _))⟩
theorem Oa (os : Os) : laidMetH Tryz.prog Rows.parseBracketsRow.laid ((CA os).forCall (fun _ _ => 0) ⟨#[], #[.string ⟨#[]⟩], []⟩).memory :=
  laidMetH_of_parts (laidMet_of_run' 8 (by kernel_rfl) (by kernel_rfl)) (by kernel_rfl)
theorem reads (os : Os) {H : Type} (enc : TypeId × Value -> H) : ∃ places, DataW.whole enc Tryz.prog ((CA os).forCall (fun _ _ => 0) ⟨#[], #[.string ⟨#[]⟩], []⟩).memory Tryz.f6.params.toList Rows.parseBracketsSpec.vars false (#[.string ⟨#[]⟩] : Array Value).toList 8 = some ([.lit (.string [])], [], places) :=
  ⟨[], by kernel_rfl⟩
set_option maxRecDepth 100000 in
theorem lifted (os : Os) (started : os.Started) (H : Type) (enc : TypeId × Value -> H) (F : Stop.Interp) :
    ReturnsInHanded {} Tryz.checked os 6 .any ((OpenSpec.ofChange Rows.parseBracketsSpec).preRow enc Tryz.prog Tryz.f6 Rows.parseBracketsRow.domain false Rows.parseBracketsRow.laid) (((OpenSpec.ofChange Rows.parseBracketsSpec).at F).post enc Tryz.prog Tryz.f6 false true false false) := by
  obtain ⟨places, hx⟩ := reads os enc
  refine returnsInHanded_of_row (C := Tryz.checked) (s := OpenSpec.ofChange Rows.parseBracketsSpec) own started (by kernel_rfl) Tryz.func6
    (witness_row_atRef (enc := enc) (C := Tryz.checked) false (CA os) #[.string ⟨#[]⟩] rfl (by kernel_rfl) (by kernel_rfl) (by kernel_rfl)
      (OpenSpec.preRow_of_cond 8 hx (by kernel_rfl) (fun k hk => by cases hk) (by kernel_rfl) (Oa os))) ?_
  intro W base args ds gs before hval hW _ _ _ hL hS _
  exact contract H enc W base args ds gs before hval hW hL hS
theorem j1 : (Rows.parseBracketsRow.inPlace == Tryz.pinned.checked.prog.inPlace 6) = true := by kernel_rfl
theorem j2 : (Rows.parseBracketsRow.unfollowed == Tryz.pinned.checked.prog.unfollowed 6) = true := by kernel_rfl
theorem N1 : (Rows.parseBracketsRow.recurses == Tryz.pinned.checked.prog.recurses 6) = true := by kernel_rfl
theorem N2 : (Rows.parseBracketsRow.named == Tryz.pinned.checked.prog.varsNamed 6) = true := by kernel_rfl
theorem joined : joinedFacts Tryz.pinned.checked.prog 6 Tryz.f6 (OpenSpec.ofChange Rows.parseBracketsSpec).bare Rows.parseBracketsRow = true := by
  unfold joinedFacts
  rw [j1, j2, N1, N2]
  kernel_rfl
theorem inst : Func.isInstance Tryz.pinned.checked.prog Tryz.f6 (Rows.parseBracketsRow).origin (Rows.parseBracketsRow).targs := of_decide_eq_true (by kernel_rfl)
theorem wrap : Func.isWrapper Tryz.pinned.checked.prog Tryz.f6 (Rows.parseBracketsRow).wrapper (Rows.parseBracketsRow).mainSum := by unfold Func.isWrapper; first | (rw [if_pos (by decide +kernel)]; kernel_rfl) | (rw [if_neg (by decide +kernel)]; exact ⟨rfl, rfl⟩)
theorem said : Rows.ParseBracketsSaid :=
  OpenClaim.holds_of_cond 6 Tryz.f6 rfl rfl rfl rfl rfl rfl rfl ⟨rfl, rfl, rfl, rfl, rfl⟩ rfl rfl rfl rfl rfl (by kernel_rfl) Tryz.func6 joined inst wrap
    (fun os started H enc _ F => by rw [OpenClaim.pre_eq_preRow]; exact lifted os started H enc F)
theorem plain (f : FuncId) (fn : Func) (hf : Tryz.pinned.checked.prog.funcNamed "turnery/turnerylaw1.ParseBrackets" = some f) (hfn : Tryz.pinned.checked.prog.funcs[f]? = some fn) :
    true = Tryz.pinned.checked.prog.looks [] ∧ ∀ (j : Nat) t, fn.params[j]? = some t -> Tryz.pinned.checked.prog.wantsStandIn t = false := by
  obtain rfl : f = 6 := AC ((show Tryz.prog.funcNamed "turnery/turnerylaw1.ParseBrackets" = some 6 by kernel_rfl).symm.trans hf) |>.symm
  obtain rfl : fn = Tryz.f6 := (AC (Tryz.func6.symm.trans hfn)).symm
  refine ⟨by kernel_rfl, fun j t ht => ?_⟩
  rw [Tryz.params6] at ht
  have ht := Array.mem_of_getElem? ht
  simp at ht
  subst ht
  exact (show Tryz.prog.wantsStandIn 9 = false by kernel_rfl)
theorem card : Rows.ParseBracketsCardSaid :=
  Claim7.holds_tied_plain_at .later [] _ _ _ _ said (fun _ h => by cases h) (by kernel_rfl) (fun _ h => by cases h) parseBrackets_row_tie rfl ⟨rfl, rfl⟩ (by kernel_rfl) rfl plain (by kernel_rfl)
end Go.Proofs.YtbbhbdlljfffdaaGreatDoor.parseBrackets
