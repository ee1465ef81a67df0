/- Proved here: for every tree the law PrintSays of package turnerylaw1 returns true and leaves its argument as it was: print.Text answers what the reference answers. Conditions: those of the given row alone (what comes in is of bulk at most 1048576); the tables hold what their texts lay, tied by the card. -/
import Derived.Test.YtkmdadjmdgonbaaGreatDoorAbPrA
open List renaming append_nil->A0
open Option.some renaming inj->AC
set_option linter.all false
namespace Go.Proofs.YtkmdadjmdgonbaaGreatDoor.printSays
open Go Go.Ab Go.ChangeShapes Go.WideShapes Go.ChangeAt Go.RowKit
mutual
theorem Fl {H : Type} : ∀ d : DataW H, Rows.uptoBulk d = bk d
  | .lit l => by cases l <;> rfl
  | .nil => rfl
  | .ptr d => by simp only [Rows.uptoBulk, bk, Fl d]
  | .slice a b => by simp only [Rows.uptoBulk, bk, BO a, BO b]
  | .agg l => by simp only [Rows.uptoBulk, bk, BO l]
  | .iface _ d => by simp only [Rows.uptoBulk, bk, Fl d]
  | .map l => by simp only [Rows.uptoBulk, bk, ND l]
  | .held _ => rfl
theorem BO {H : Type} : ∀ l : List (DataW H), Rows.uptoBulkAll l = oX l
  | [] => rfl
  | d :: l => by simp only [Rows.uptoBulkAll, oX, Fl d, BO l]
theorem ND {H : Type} : ∀ l : List (Lit × DataW H), Rows.uptoBulkEntries l = Fk l
  | [] => rfl
  | x :: l => by simp only [Rows.uptoBulkEntries, Fk, WY x, ND l]
theorem WY {H : Type} : ∀ x : Lit × DataW H, Rows.uptoBulkEntry x = It x
  | (l, d) => by cases l <;> simp only [Rows.uptoBulkEntry, It, Fl d]
end
set_option maxRecDepth 100000 in
theorem contract (H : Type) (enc : TypeId × Value -> H) (W : World) (base : Nat) (args : Array Value) (ds gs : List (DataW H)) (before : List MemPlace)
    (hval : ∀ (j : Nat) t v, Tryz.f3.params[j]? = some t -> args[j]? = some v -> Value.okWide Tryz.prog W .any base t v)
    (hW : DataW.Whole enc Tryz.prog Tryz.f3.params.toList Rows.printSaysSpec.vars false W args.toList ds gs before) (hkk : Rows.uptoSmall H (ds ++ gs) = true) (hL : laidMetH Tryz.prog Rows.printSaysUptoRow.laid W) (hS : W.ShapedOpen Tryz.prog) :
    Calls Tryz.prog 3 args W fun e W' => ∃ v, e = .returned v ∧ Rows.printSaysSpec.post enc Tryz.prog Tryz.f3 false true false false W args v W' := by
  have Jy := hW
  obtain ⟨m, CG⟩ := Z4 hS hL
  obtain ⟨p, q, O9, hV, rfl, hfz, hnd⟩ := hW
  have hA : DataW.TrodAll enc Tryz.prog W 0 (fun _ => true) true Tryz.f3.params.toList args.toList ds p := O9
  rw [Tryz.params3] at hA hval
  have aan := hA
  obtain ⟨v0, ahS, d0, ajd, dQ, q0, hargs, rfl, rfl, h0, dh⟩ := trodAll_cons hA
  obtain ⟨rfl, rfl, rfl⟩ := trodAll_nil dh
  obtain rfl : args = #[v0] := by cases args; simp_all
  obtain ⟨rfl, rfl⟩ := trodVars_none hV
  have hb : Rows.uptoBulkAll ([d0] ++ ([] : List (DataW H))) <= 1048576 := of_decide_eq_true hkk
  rw [BO] at hb
  simp only [A0, oX] at hb
  obtain ⟨c0, g0, t0⟩ := ahs ae5 h0 (B := 1048576) (.inr (by omega))
  obtain ⟨x0, rfl, o0⟩ := @Yw ⟨m⟩ _ c0 t0
  have a0 := Wq Tryz.underlying24 (hval 0 24 v0 rfl rfl) g0
  have JN := @Vb ⟨m⟩ acN 2000 0 _ _ (afe x0 (ahq (by decide) o0) (ahp (by decide) o0) (adz o0))
  have walk := Wk (@Yp ⟨m⟩) JN rfl (W := W) (vs := [v0]) (.cons (f1 := []) (f2 := []) a0 .nil) CG Tryz.func3 rfl
  refine walk.mono fun e W' ⟨he, hk⟩ => ?_
  subst he
  simp only [A0] at Jy aan
  exact ⟨_, rfl, ae8 (pa := _) Jy hk (fun _ _ _ => trodAll_cons_mk (shut_bool Tryz.underlying4 _) trodAll_mk0)
    (fun sp hsp => Wr laidB acV agR (fun t ht => by rw [Tryz.params3] at ht; simp at ht; subst ht; exact ahw _ (by decide)) O9 (fun x hx => Jy.lt x (by simpa using hx)) hk sp (fun x hx => hsp x (by simpa using hx)))
    (fun _ => rfl) (by simp) (ok_one (by kernel_rfl) rfl (okWide_bool_mk Tryz.underlying4 _))⟩
theorem acw (os : Os) : laidMet Tryz.prog Rows.printSaysUptoRow.laid ((KP os).forCall (fun _ _ => 0) ⟨#[], #[.agg #[.slice none 0 0]], []⟩).memory :=
  laidMet_of_run' 8 (by kernel_rfl) (by kernel_rfl)
theorem reads (os : Os) {H : Type} (enc : TypeId × Value -> H) : ∃ places, DataW.whole enc Tryz.prog ((KP os).forCall (fun _ _ => 0) ⟨#[], #[.agg #[.slice none 0 0]], []⟩).memory Tryz.f3.params.toList Rows.printSaysSpec.vars false (#[.agg #[.slice none 0 0]] : Array Value).toList 8 = some ([.agg [.nil]], [], places) :=
  ⟨[], by kernel_rfl⟩
set_option maxRecDepth 100000 in
theorem lifted (os : Os) (started : os.Started) (H : Type) (enc : TypeId × Value -> H) (F : Stop.Interp) :
    ReturnsInHanded {} Tryz.checked os 3 .any ((Rows.OpenSpec.upto Rows.printSaysSpec).preRow enc Tryz.prog Tryz.f3 Rows.printSaysUptoRow.domain false Rows.printSaysUptoRow.laid) (((Rows.OpenSpec.upto Rows.printSaysSpec).at F).post enc Tryz.prog Tryz.f3 false true false false) := by
  obtain ⟨places, hx⟩ := reads os enc
  refine returnsInHanded_of_row (C := Tryz.checked) (s := Rows.OpenSpec.upto Rows.printSaysSpec) own started (by kernel_rfl) Tryz.func3
    (witness_row_at (enc := enc) (C := Tryz.checked) false (KP os) #[.agg #[.slice none 0 0]] rfl (by kernel_rfl) (by kernel_rfl) (by kernel_rfl)
      (OpenSpec.preRow_of_cond 8 hx (by kernel_rfl) (fun k hk => by obtain rfl := AC hk; kernel_rfl) (by kernel_rfl) (acw os))) ?_
  intro W base args ds gs before hval hW _ hk _ hL hS _
  exact contract H enc W base args ds gs before hval hW (hk _ rfl) hL hS
theorem j1 : (Rows.printSaysUptoRow.inPlace == Tryz.pinned.checked.prog.inPlace 3) = true := by kernel_rfl
theorem j2 : (Rows.printSaysUptoRow.unfollowed == Tryz.pinned.checked.prog.unfollowed 3) = true := by kernel_rfl
theorem acf : (Rows.printSaysUptoRow.recurses == Tryz.pinned.checked.prog.recurses 3) = true := by kernel_rfl
theorem acg : (Rows.printSaysUptoRow.named == Tryz.pinned.checked.prog.varsNamed 3) = true := by kernel_rfl
theorem joined : joinedFacts Tryz.pinned.checked.prog 3 Tryz.f3 (Rows.OpenSpec.upto Rows.printSaysSpec).bare Rows.printSaysUptoRow = true := by
  unfold joinedFacts
  rw [j1, j2, acf, acg]
  kernel_rfl
theorem inst : Func.isInstance Tryz.pinned.checked.prog Tryz.f3 (Rows.printSaysUptoRow).origin (Rows.printSaysUptoRow).targs := of_decide_eq_true (by kernel_rfl)
theorem wrap : Func.isWrapper Tryz.pinned.checked.prog Tryz.f3 (Rows.printSaysUptoRow).wrapper (Rows.printSaysUptoRow).mainSum := by unfold Func.isWrapper; first | (rw [if_pos (by decide +kernel)]; kernel_rfl) | (rw [if_neg (by decide +kernel)]; exact ⟨rfl, rfl⟩)
theorem said : Rows.PrintSaysUptoSaid :=
  OpenClaim.holds_of_cond 3 Tryz.f3 rfl rfl rfl rfl rfl rfl rfl ⟨rfl, rfl, rfl, rfl, rfl⟩ rfl rfl rfl rfl rfl (by kernel_rfl) Tryz.func3 joined inst wrap
    (fun os started H enc _ F => by rw [OpenClaim.pre_eq_preRow]; exact lifted os started H enc F)
theorem plain (f : FuncId) (fn : Func) (hf : Tryz.pinned.checked.prog.funcNamed "turnery/turnerylaw1.PrintSays" = some f) (hfn : Tryz.pinned.checked.prog.funcs[f]? = some fn) :
    true = Tryz.pinned.checked.prog.looks [] ∧ ∀ (j : Nat) t, fn.params[j]? = some t -> Tryz.pinned.checked.prog.wantsStandIn t = false := by
  obtain rfl : f = 3 := AC ((show Tryz.prog.funcNamed "turnery/turnerylaw1.PrintSays" = some 3 by kernel_rfl).symm.trans hf) |>.symm
  obtain rfl : fn = Tryz.f3 := (AC (Tryz.func3.symm.trans hfn)).symm
  refine ⟨by kernel_rfl, fun j t ht => ?_⟩
  rw [Tryz.params3] at ht
  have ht := Array.mem_of_getElem? ht
  simp at ht
  subst ht
  exact (show Tryz.prog.wantsStandIn 24 = false by kernel_rfl)
theorem card : Rows.PrintSaysUptoCardSaid :=
  Claim7.holds_tied_plain_at .later [] _ _ _ _ said (fun _ h => by cases h) (by kernel_rfl) (fun _ h => by cases h) printSaysUpto_row_tie rfl ⟨rfl, rfl⟩ (by kernel_rfl) rfl plain (by kernel_rfl)
end Go.Proofs.YtkmdadjmdgonbaaGreatDoor.printSays
