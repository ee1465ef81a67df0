/- Proved here: for every tree the law TerseSays of package turnerylaw1 returns true and leaves its argument as it was: terse.Do answers what the reference answers. Conditions: those of the given row alone (what comes in is of bulk at most 1048576). -/
import Derived.Test.YtmboghefgckkpaaGreatAbScA
import Derived.Test.YtmboghefgckkpaaGreatAbTe5
import Derived.Test.YtmboghefgckkpaaGreatRows
import Derived.JoinedCond
namespace Go.Proofs.YtmboghefgckkpaaGreat.terseSays
open Go Go.Ab Go.ChangeShapes Go.WideShapes Go.ChangeAt Go.RowKit
theorem own : ownKnob Tryz.prog.godebug = none := by kernel_rfl
theorem laidB : laidOutB Tryz.prog = true := by kernel_rfl
theorem ai5 : mapsRowed Tryz.prog = true := by kernel_rfl
theorem am3 : ((List.range Tryz.prog.types.size).all fun t => match Tryz.prog.underlying t with | some (.slice e) => decide (0 < Tryz.prog.cellsOf e) | _ => true) = true := by kernel_rfl
theorem anH (t : Nat) (h : t < 25) : t < Tryz.prog.types.size := Nat.lt_of_lt_of_le h (of_decide_eq_true (show decide (25 ≤ Tryz.prog.types.size) = true by kernel_rfl))
theorem alD : vM Tryz.prog 10 24 = true := by kernel_rfl
mutual
theorem IX {H : Type} : ∀ d : DataW H, Rows.uptoBulk d = gb d
  | .lit l => by cases l <;> rfl
  | .nil => rfl
  | .ptr d => by simp only [Rows.uptoBulk, gb, IX d]
  | .slice a b => by simp only [Rows.uptoBulk, gb, EW a, EW b]
  | .agg l => by simp only [Rows.uptoBulk, gb, EW l]
  | .iface _ d => by simp only [Rows.uptoBulk, gb, IX d]
  | .map l => by simp only [Rows.uptoBulk, gb, Rf l]
  | .held _ => rfl
theorem EW {H : Type} : ∀ l : List (DataW H), Rows.uptoBulkAll l = qO l
  | [] => rfl
  | d :: l => by simp only [Rows.uptoBulkAll, qO, IX d, EW l]
theorem Rf {H : Type} : ∀ l : List (Lit × DataW H), Rows.uptoBulkEntries l = IW l
  | [] => rfl
  | x :: l => by simp only [Rows.uptoBulkEntries, IW, abR x, Rf l]
theorem abR {H : Type} : ∀ x : Lit × DataW H, Rows.uptoBulkEntry x = LN x
  | (l, d) => by cases l <;> simp only [Rows.uptoBulkEntry, LN, IX d]
end
set_option maxRecDepth 100000 in
theorem contract (H : Type) (enc : TypeId × Value → H) (W : World) (base : Nat) (args : Array Value) (ds gs : List (DataW H)) (before : List MemPlace)
    (hval : ∀ (j : Nat) t v, Tryz.f3.params[j]? = some t → args[j]? = some v → Value.okWide Tryz.prog W .any base t v)
    (hW : DataW.Whole enc Tryz.prog Tryz.f3.params.toList Rows.terseSaysSpec.vars false W args.toList ds gs before) (hk : Rows.uptoSmall H (ds ++ gs) = true) :
    Calls Tryz.prog 3 args W fun e W' => ∃ v, e = .returned v ∧ Rows.terseSaysSpec.post enc Tryz.prog Tryz.f3 false true false false W args v W' := by
  have ML := hW
  obtain ⟨p, q, S8, hV, rfl, hfz, ct⟩ := hW
  have hA : DataW.TrodAll enc Tryz.prog W 0 (fun _ => true) true Tryz.f3.params.toList args.toList ds p := S8
  rw [Tryz.params3] at hA hval
  have afX := hA
  obtain ⟨v0, an7, d0, aoW, sP, q0, hargs, rfl, rfl, h0, cR⟩ := trodAll_cons hA
  obtain ⟨rfl, rfl, rfl⟩ := trodAll_nil cR
  obtain rfl : args = #[v0] := by cases args; simp_all
  obtain ⟨rfl, rfl⟩ := trodVars_none hV
  have hb : Rows.uptoBulkAll ([d0] ++ ([] : List (DataW H))) ≤ 1048576 := of_decide_eq_true hk
  rw [EW] at hb
  simp only [List.append_nil, qO] at hb
  obtain ⟨c0, g0, t0⟩ := anD alD h0 (B := 1048576) (.inr (by omega))
  obtain ⟨x0, rfl, o0⟩ := adG c0 t0
  have a0 := abq Tryz.underlying24 (hval 0 24 v0 rfl rfl) g0
  have M1 := Z2 (nn := 0) (ann x0 (anC (by decide) o0) (anB (by decide) o0))
  have walk := abl adA M1 rfl (W := W) (vs := [v0]) (.cons (f1 := []) (f2 := []) a0 .nil) (fun g cs hg => by cases (show (none : Option (List aa)) = some cs from hg)) Tryz.func3 rfl
  refine walk.mono fun e W' ⟨he, hk⟩ => ?_
  subst he
  simp only [List.append_nil] at ML afX
  exact ⟨_, rfl, alH (pa := _) (pv := []) ML (fun _ _ _ => trodAll_cons_mk (shut_bool Tryz.underlying4 _) trodAll_mk0)
    (fun sp hsp => abr laidB ai5 am3 (fun t ht => by rw [Tryz.params3] at ht; simp at ht; subst ht; exact anH _ (by decide)) S8 (fun x hx => ML.lt x (by simpa using hx)) hk sp (fun x hx => hsp x (by simpa using hx)))
    (fun _ _ => rfl) (by simp) (World.keptBut_mono (fun _ h => h.elim) (Ux hk)) hk.e7 (ok_one (by kernel_rfl) rfl (okWide_bool_mk Tryz.underlying4 _))⟩
set_option maxRecDepth 100000 in
theorem lifted (os : Os) (started : os.Started) (H : Type) (enc : TypeId × Value → H) (F : Stop.Interp) :
    ReturnsInHanded {} Tryz.checked os 3 .any ((Rows.OpenSpec.upto Rows.terseSaysSpec).pre6 enc Tryz.prog Tryz.f3 Rows.terseSaysUptoRow.domain false) (((Rows.OpenSpec.upto Rows.terseSaysSpec).at F).post enc Tryz.prog Tryz.f3 false true false false) := by
  refine returnsInHanded_of_cond (C := Tryz.checked) (s := Rows.OpenSpec.upto Rows.terseSaysSpec) (k := Rows.uptoSmall) rfl own started (by kernel_rfl) Tryz.func3
    (OpenSpec.witness (enc := enc) (C := Tryz.checked) (s := Rows.OpenSpec.upto Rows.terseSaysSpec) (k := Rows.uptoSmall) rfl false ⟨#[], #[.agg #[.slice none 0 0]], []⟩ 8 (by kernel_rfl) (by kernel_rfl) (by kernel_rfl)
      (x := ([.agg [.nil]], [], [])) (by kernel_rfl) rfl (by kernel_rfl)) ?_
  intro W base args ds gs before hval hW _ hk _
  exact contract H enc W base args ds gs before hval hW hk
theorem proved : Rows.TerseSaysUptoSaid :=
  OpenClaim.holds_of_cond 3 Tryz.f3 rfl rfl rfl rfl rfl rfl rfl ⟨rfl, rfl, rfl, rfl, rfl⟩ rfl rfl rfl rfl rfl (by kernel_rfl) Tryz.func3 (by kernel_rfl)
    (of_decide_eq_true (by kernel_rfl)) (by unfold Func.isWrapper; first | (rw [if_pos (by decide +kernel)]; kernel_rfl) | (rw [if_neg (by decide +kernel)]; exact ⟨rfl, rfl⟩))
    (fun os started H enc _ F => lifted os started H enc F)
end Go.Proofs.YtmboghefgckkpaaGreat.terseSays
