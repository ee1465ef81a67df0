/- Proved here: for every tree and every two numbers the law TreePart of package turnerylaw1 returns true and leaves its arguments as they were: a part of a part of a tree is a part of the tree, it is a tree, and its nodes stand one behind the other. Conditions: those of the given row alone. -/
import Derived.Test.YtpaomhgaokonfaaAbTreeA
import Derived.Test.YtpaomhgaokonfaaRows
import Derived.JoinedCond
namespace Go.Proofs.Ytpaomhgaokonfaa.treePart
open Go Go.Ab Go.ChangeShapes Go.WideShapes Go.ChangeAt Go.RowKit

theorem own : ownKnob Try.prog.godebug = none := by kernel_rfl
theorem laidB : laidOutB Try.prog = true := by kernel_rfl
theorem mapsB : mapsRowed Try.prog = true := by kernel_rfl
theorem slicesB : ((List.range Try.prog.types.size).all fun t => match Try.prog.underlying t with | some (.slice e) => decide (0 < Try.prog.cellsOf e) | _ => true) = true := by kernel_rfl
theorem tsize (t : Nat) (h : t < 25) : t < Try.prog.types.size := Nat.lt_of_lt_of_le h (of_decide_eq_true (show decide (25 ≤ Try.prog.types.size) = true by kernel_rfl))
theorem plain3 : plainT Try.prog 10 3 = true := by kernel_rfl
theorem plain24 : plainT Try.prog 10 24 = true := by kernel_rfl

set_option maxRecDepth 100000 in
theorem contract (H : Type) (enc : TypeId × Value → H) (W : World) (base : Nat) (args : Array Value) (ds gs : List (DataW H)) (before : List MemPlace)
    (hval : ∀ (j : Nat) t v, Try.f5.params[j]? = some t → args[j]? = some v → Value.okWide Try.prog W .any base t v)
    (hW : DataW.Whole enc Try.prog Try.f5.params.toList Rows.treePartSpec.vars false W args.toList ds gs before) :
    Calls Try.prog 5 args W fun e W' => ∃ v, e = .returned v ∧ Rows.treePartSpec.post enc Try.prog Try.f5 false true false false W args v W' := by
  have hW' := hW
  obtain ⟨p, q, hA0, hV, rfl, hfz, hnd⟩ := hW
  have hA : DataW.TrodAll enc Try.prog W 0 (fun _ => true) true Try.f5.params.toList args.toList ds p := hA0
  rw [Try.params5] at hA hval
  have hA2 := hA
  obtain ⟨v0, vs0, d0, ds0, p0, q0, hargs, rfl, rfl, h0, r0⟩ := trodAll_cons hA
  obtain ⟨v1, vs1, d1, ds1, p1, q1, rfl, rfl, rfl, h1, r1⟩ := trodAll_cons r0
  obtain ⟨v2, vs2, d2, ds2, p2, q2, rfl, rfl, rfl, h2, r2⟩ := trodAll_cons r1
  obtain ⟨rfl, rfl, rfl⟩ := trodAll_nil r2
  obtain rfl : args = #[v0, v1, v2] := by cases args; simp_all
  obtain ⟨rfl, rfl⟩ := trodVars_none hV
  obtain ⟨c0, g0, t0⟩ := trodAll_val plain24 h0 (B := maxLen) (.inl rfl)
  obtain ⟨x0, rfl, o0⟩ := dec_cXApi_Tree_24 c0 t0
  obtain ⟨c1, g1, t1⟩ := trodAll_val plain3 h1 (B := maxLen) (.inl rfl)
  obtain ⟨x1, rfl, o1⟩ := dec_int Try.underlying3 t1
  obtain ⟨c2, g2, t2⟩ := trodAll_val plain3 h2 (B := maxLen) (.inl rfl)
  obtain ⟨x2, rfl, o2⟩ := dec_int Try.underlying3 t2
  have a0 := arg_struct Try.underlying24 (hval 0 24 v0 rfl rfl) g0
  have a1 := arg_cell Try.underlying3 rfl (hval 1 3 v1 rfl rfl) g1
  have a2 := arg_cell Try.underlying3 rfl (hval 2 3 v2 rfl rfl) g2
  have hden := T_law1_TreePart (nn := 0) (treePart_true x0 x1 x2 (tr_ok (Nat.le_refl _) o0))
  have walk := answer_true cxGood hden (W := W) (vs := [v0, v1, v2]) (.cons (f1 := []) (f2 := []) a0 (.cons (f1 := []) (f2 := []) a1 (.cons (f1 := []) (f2 := []) a2 .nil))) (fun g cs hg => by cases (show (none : Option (List AV)) = some cs from hg)) Try.func5 rfl
  refine walk.mono fun e W' ⟨he, hk⟩ => ?_
  subst he
  simp only [List.append_nil] at hW' hA2
  exact ⟨_, rfl, post_of_same (pa := _) (pv := []) hW' (fun _ _ _ => trodAll_cons_mk (shut_bool Try.underlying4 _) trodAll_mk0)
    (fun sp hsp => args_again laidB mapsB slicesB (fun t ht => by rw [Try.params5] at ht; simp at ht; rcases ht with rfl | rfl | rfl <;> exact tsize _ (by decide)) hA0 (fun x hx => hW'.lt x (by simpa using hx)) hk sp (fun x hx => hsp x (by simpa using hx)))
    (fun _ _ => rfl) (by simp) (World.keptBut_mono (fun _ h => h.elim) (keptBut_of hk)) hk.frz (ok_one (by kernel_rfl) rfl (okWide_bool_mk Try.underlying4 _))⟩

set_option maxRecDepth 100000 in
theorem lifted (os : Os) (started : os.Started) (H : Type) (enc : TypeId × Value → H) :
    ReturnsInHanded {} Try.checked os 5 .any (Rows.treePartSpec.pre6 enc Try.prog Try.f5 Rows.treePartRow.domain false) (Rows.treePartSpec.post enc Try.prog Try.f5 false true false false) := by
  refine returnsInHanded_of_change (C := Try.checked) own started (by kernel_rfl) Try.func5
    (ChangeSpec.witness6 (enc := enc) (C := Try.checked) false ⟨#[], #[.agg #[.slice none 0 0], .int .i64 0, .int .i64 0], []⟩ 8 (by kernel_rfl) (by kernel_rfl) (by kernel_rfl) (by kernel_rfl)) ?_
  intro W base args ds gs before hval hW _ _
  exact contract H enc W base args ds gs before hval hW
theorem proved : Rows.TreePartSaid :=
  OpenClaim.holds_of_wide 5 Try.f5 rfl rfl rfl rfl rfl rfl rfl ⟨rfl, rfl, rfl, rfl, rfl⟩ rfl rfl rfl rfl rfl (by kernel_rfl) Try.func5 (by kernel_rfl)
    (of_decide_eq_true (by kernel_rfl)) (by unfold Func.isWrapper; first | (rw [if_pos (by decide +kernel)]; kernel_rfl) | (rw [if_neg (by decide +kernel)]; exact ⟨rfl, rfl⟩))
    (fun os started H enc _ => lifted os started H enc)
end Go.Proofs.Ytpaomhgaokonfaa.treePart
