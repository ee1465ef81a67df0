/- Proved here: for every tree the law TypesSays of package turnerylaw1 returns true and leaves its argument as it was: types.Of answers what the reference answers. Conditions: those of the given row alone (what comes in is of bulk at most 1048576). -/
import Derived.Test.YtbhpblokoecoaaaAbScA
import Derived.Test.YtbhpblokoecoaaaAbY6
import Derived.Test.YtbhpblokoecoaaaRows
import Derived.JoinedCond
namespace Go.Proofs.Ytbhpblokoecoaaa.typesSays
open Go Go.Ab Go.ChangeShapes Go.WideShapes Go.ChangeAt Go.RowKit
theorem own : ownKnob Try.prog.godebug = none := by kernel_rfl
theorem laidB : laidOutB Try.prog = true := by kernel_rfl
theorem mapsB : mapsRowed Try.prog = true := by kernel_rfl
theorem slicesB : ((List.range Try.prog.types.size).all fun t => match Try.prog.underlying t with | some (.slice e) => decide (0 < Try.prog.cellsOf e) | _ => true) = true := by kernel_rfl
theorem tsize (t : Nat) (h : t < 25) : t < Try.prog.types.size := Nat.lt_of_lt_of_le h (of_decide_eq_true (show decide (25 ≤ Try.prog.types.size) = true by kernel_rfl))
theorem plain24 : plainT Try.prog 10 24 = true := by kernel_rfl
mutual
theorem bk_eq {H : Type} : ∀ d : DataW H, Rows.uptoBulk d = bk d
  | .lit l => by cases l <;> rfl
  | .nil => rfl
  | .ptr d => by simp only [Rows.uptoBulk, bk, bk_eq d]
  | .slice a b => by simp only [Rows.uptoBulk, bk, bkL_eq a, bkL_eq b]
  | .agg l => by simp only [Rows.uptoBulk, bk, bkL_eq l]
  | .iface _ d => by simp only [Rows.uptoBulk, bk, bk_eq d]
  | .map l => by simp only [Rows.uptoBulk, bk, bkE_eq l]
  | .held _ => rfl
theorem bkL_eq {H : Type} : ∀ l : List (DataW H), Rows.uptoBulkAll l = bkL l
  | [] => rfl
  | d :: l => by simp only [Rows.uptoBulkAll, bkL, bk_eq d, bkL_eq l]
theorem bkE_eq {H : Type} : ∀ l : List (Lit × DataW H), Rows.uptoBulkEntries l = bkE l
  | [] => rfl
  | x :: l => by simp only [Rows.uptoBulkEntries, bkE, bk1_eq x, bkE_eq l]
theorem bk1_eq {H : Type} : ∀ x : Lit × DataW H, Rows.uptoBulkEntry x = bk1 x
  | (l, d) => by cases l <;> simp only [Rows.uptoBulkEntry, bk1, bk_eq d]
end
set_option maxRecDepth 100000 in
theorem contract (H : Type) (enc : TypeId × Value → H) (W : World) (base : Nat) (args : Array Value) (ds gs : List (DataW H)) (before : List MemPlace)
    (hval : ∀ (j : Nat) t v, Try.f4.params[j]? = some t → args[j]? = some v → Value.okWide Try.prog W .any base t v)
    (hW : DataW.Whole enc Try.prog Try.f4.params.toList Rows.typesSaysSpec.vars false W args.toList ds gs before) (hk : Rows.uptoSmall H (ds ++ gs) = true) :
    Calls Try.prog 4 args W fun e W' => ∃ v, e = .returned v ∧ Rows.typesSaysSpec.post enc Try.prog Try.f4 false true false false W args v W' := by
  have hW' := hW
  obtain ⟨p, q, hA0, hV, rfl, hfz, hnd⟩ := hW
  have hA : DataW.TrodAll enc Try.prog W 0 (fun _ => true) true Try.f4.params.toList args.toList ds p := hA0
  rw [Try.params4] at hA hval
  have hA2 := hA
  obtain ⟨v0, vs0, d0, ds0, p0, q0, hargs, rfl, rfl, h0, r0⟩ := trodAll_cons hA
  obtain ⟨rfl, rfl, rfl⟩ := trodAll_nil r0
  obtain rfl : args = #[v0] := by cases args; simp_all
  obtain ⟨rfl, rfl⟩ := trodVars_none hV
  have hb : Rows.uptoBulkAll ([d0] ++ ([] : List (DataW H))) ≤ 1048576 := of_decide_eq_true hk
  rw [bkL_eq] at hb
  simp only [List.append_nil, bkL] at hb
  obtain ⟨c0, g0, t0⟩ := trodAll_val plain24 h0 (B := 1048576) (.inr (by omega))
  obtain ⟨x0, rfl, o0⟩ := dec_cXApi_Tree_24 c0 t0
  have a0 := arg_struct Try.underlying24 (hval 0 24 v0 rfl rfl) g0
  have hden := T_law1_TypesSays (nn := 0) (typesSays_true x0 (tr_ok (by decide) o0) (tr_kids (by decide) o0))
  have walk := answer_true cxGood hden (W := W) (vs := [v0]) (.cons (f1 := []) (f2 := []) a0 .nil) (fun g cs hg => by cases (show (none : Option (List AV)) = some cs from hg)) Try.func4 rfl
  refine walk.mono fun e W' ⟨he, hk⟩ => ?_
  subst he
  simp only [List.append_nil] at hW' hA2
  exact ⟨_, rfl, post_kept (pa := _) (pv := []) hW' (fun _ _ _ => trodAll_cons_mk (shut_bool Try.underlying4 _) trodAll_mk0)
    (fun sp hsp => args_again laidB mapsB slicesB (fun t ht => by rw [Try.params4] at ht; simp at ht; subst ht; exact tsize _ (by decide)) hA0 (fun x hx => hW'.lt x (by simpa using hx)) hk sp (fun x hx => hsp x (by simpa using hx)))
    (fun _ _ => rfl) (by simp) (World.keptBut_mono (fun _ h => h.elim) (keptBut_of hk)) hk.frz (ok_one (by kernel_rfl) rfl (okWide_bool_mk Try.underlying4 _))⟩
set_option maxRecDepth 100000 in
theorem lifted (os : Os) (started : os.Started) (H : Type) (enc : TypeId × Value → H) (F : Stop.Interp) :
    ReturnsInHanded {} Try.checked os 4 .any ((Rows.OpenSpec.upto Rows.typesSaysSpec).pre6 enc Try.prog Try.f4 Rows.typesSaysUptoRow.domain false) (((Rows.OpenSpec.upto Rows.typesSaysSpec).at F).post enc Try.prog Try.f4 false true false false) := by
  refine returnsInHanded_of_cond (C := Try.checked) (s := Rows.OpenSpec.upto Rows.typesSaysSpec) (k := Rows.uptoSmall) rfl own started (by kernel_rfl) Try.func4
    (OpenSpec.witness (enc := enc) (C := Try.checked) (s := Rows.OpenSpec.upto Rows.typesSaysSpec) (k := Rows.uptoSmall) rfl false ⟨#[], #[.agg #[.slice none 0 0]], []⟩ 8 (by kernel_rfl) (by kernel_rfl) (by kernel_rfl)
      (x := ([.agg [.nil]], [], [])) (by kernel_rfl) rfl (by kernel_rfl)) ?_
  intro W base args ds gs before hval hW _ hk _
  exact contract H enc W base args ds gs before hval hW hk
theorem proved : Rows.TypesSaysUptoSaid :=
  OpenClaim.holds_of_cond 4 Try.f4 rfl rfl rfl rfl rfl rfl rfl ⟨rfl, rfl, rfl, rfl, rfl⟩ rfl rfl rfl rfl rfl (by kernel_rfl) Try.func4 (by kernel_rfl)
    (of_decide_eq_true (by kernel_rfl)) (by unfold Func.isWrapper; first | (rw [if_pos (by decide +kernel)]; kernel_rfl) | (rw [if_neg (by decide +kernel)]; exact ⟨rfl, rfl⟩))
    (fun os started H enc _ F => lifted os started H enc F)
end Go.Proofs.Ytbhpblokoecoaaa.typesSays
