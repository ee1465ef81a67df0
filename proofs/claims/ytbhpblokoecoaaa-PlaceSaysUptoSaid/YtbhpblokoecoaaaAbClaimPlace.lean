/- Proved here: for every tree and every number the law PlaceSays of package turnerylaw1 returns true and leaves its arguments as they were: place.Check, place.Globals and place.Of answer what the reference answers. Conditions: those of the given row alone (what comes in is of bulk at most 1048576). -/
import Derived.Test.YtbhpblokoecoaaaAbScA
import Derived.Test.YtbhpblokoecoaaaAbPZ
import Derived.Test.YtbhpblokoecoaaaRows
import Derived.JoinedCond
namespace Go.Proofs.Ytbhpblokoecoaaa.placeSays
open Go Go.Ab Go.ChangeShapes Go.WideShapes Go.ChangeAt Go.RowKit
theorem own : ownKnob Try.prog.godebug = none := by kernel_rfl
theorem laidB : laidOutB Try.prog = true := by kernel_rfl
theorem abM : mapsRowed Try.prog = true := by kernel_rfl
theorem afs : ((List.range Try.prog.types.size).all fun t => match Try.prog.underlying t with | some (.slice e) => decide (0 < Try.prog.cellsOf e) | _ => true) = true := by kernel_rfl
theorem afR (t : Nat) (h : t < 25) : t < Try.prog.types.size := Nat.lt_of_lt_of_le h (of_decide_eq_true (show decide (25 ≤ Try.prog.types.size) = true by kernel_rfl))
theorem ad8 : rF Try.prog 10 3 = true := by kernel_rfl
theorem ad7 : rF Try.prog 10 24 = true := by kernel_rfl
mutual
theorem E5 {H : Type} : ∀ d : DataW H, Rows.uptoBulk d = gV d
  | .lit l => by cases l <;> rfl
  | .nil => rfl
  | .ptr d => by simp only [Rows.uptoBulk, gV, E5 d]
  | .slice a b => by simp only [Rows.uptoBulk, gV, BU a, BU b]
  | .agg l => by simp only [Rows.uptoBulk, gV, BU l]
  | .iface _ d => by simp only [Rows.uptoBulk, gV, E5 d]
  | .map l => by simp only [Rows.uptoBulk, gV, Mt l]
  | .held _ => rfl
theorem BU {H : Type} : ∀ l : List (DataW H), Rows.uptoBulkAll l = ox l
  | [] => rfl
  | d :: l => by simp only [Rows.uptoBulkAll, ox, E5 d, BU l]
theorem Mt {H : Type} : ∀ l : List (Lit × DataW H), Rows.uptoBulkEntries l = E4 l
  | [] => rfl
  | x :: l => by simp only [Rows.uptoBulkEntries, E4, VZ x, Mt l]
theorem VZ {H : Type} : ∀ x : Lit × DataW H, Rows.uptoBulkEntry x = HQ x
  | (l, d) => by cases l <;> simp only [Rows.uptoBulkEntry, HQ, E5 d]
end
set_option maxRecDepth 100000 in
theorem contract (H : Type) (enc : TypeId × Value → H) (W : World) (base : Nat) (args : Array Value) (ds gs : List (DataW H)) (before : List MemPlace)
    (hval : ∀ (j : Nat) t v, Try.f5.params[j]? = some t → args[j]? = some v → Value.okWide Try.prog W .any base t v)
    (hW : DataW.Whole enc Try.prog Try.f5.params.toList Rows.placeSaysSpec.vars false W args.toList ds gs before) (hk : Rows.uptoSmall H (ds ++ gs) = true) :
    Calls Try.prog 5 args W fun e W' => ∃ v, e = .returned v ∧ Rows.placeSaysSpec.post enc Try.prog Try.f5 false true false false W args v W' := by
  have IW := hW
  obtain ⟨p, q, N9, hV, rfl, hfz, cD⟩ := hW
  have hA : DataW.TrodAll enc Try.prog W 0 (fun _ => true) true Try.f5.params.toList args.toList ds p := N9
  rw [Try.params5] at hA hval
  have YK := hA
  obtain ⟨v0, agi, d0, ag9, sY, q0, hargs, rfl, rfl, h0, e8⟩ := trodAll_cons hA
  obtain ⟨v1, jB, d1, aha, p1, q1, rfl, rfl, rfl, h1, r1⟩ := trodAll_cons e8
  obtain ⟨rfl, rfl, rfl⟩ := trodAll_nil r1
  obtain rfl : args = #[v0, v1] := by cases args; simp_all
  obtain ⟨rfl, rfl⟩ := trodVars_none hV
  have hb : Rows.uptoBulkAll ([d0, d1] ++ ([] : List (DataW H))) ≤ 1048576 := of_decide_eq_true hk
  rw [BU] at hb
  simp only [List.append_nil, ox] at hb
  obtain ⟨c0, g0, t0⟩ := R1 ad7 h0 (B := 1048576) (.inr (by omega))
  obtain ⟨x0, rfl, o0⟩ := W9 c0 t0
  obtain ⟨c1, g1, t1⟩ := R1 ad8 h1 (B := 1048576) (.inr (by omega))
  obtain ⟨x1, rfl, o1⟩ := yW Try.underlying3 t1
  have a0 := Vz Try.underlying24 (hval 0 24 v0 rfl rfl) g0
  have a1 := Vy Try.underlying3 rfl (hval 1 3 v1 rfl rfl) g1
  have I8 := Up (nn := 0) (ad4 x0 x1 (afN (by decide) o0) (afM (by decide) o0))
  have walk := Vt W0 I8 (W := W) (vs := [v0, v1]) (.cons (f1 := []) (f2 := []) a0 (.cons (f1 := []) (f2 := []) a1 .nil)) (fun g cs hg => by cases (show (none : Option (List aa)) = some cs from hg)) Try.func5 rfl
  refine walk.mono fun e W' ⟨he, hk⟩ => ?_
  subst he
  simp only [List.append_nil] at IW YK
  exact ⟨_, rfl, aeb (pa := _) (pv := []) IW (fun _ _ _ => trodAll_cons_mk (shut_bool Try.underlying4 _) trodAll_mk0)
    (fun sp hsp => VA laidB abM afs (fun t ht => by rw [Try.params5] at ht; simp at ht; rcases ht with rfl | rfl <;> exact afR _ (by decide)) N9 (fun x hx => IW.lt x (by simpa using hx)) hk sp (fun x hx => hsp x (by simpa using hx)))
    (fun _ _ => rfl) (by simp) (World.keptBut_mono (fun _ h => h.elim) (PA hk)) hk.eJ (ok_one (by kernel_rfl) rfl (okWide_bool_mk Try.underlying4 _))⟩
set_option maxRecDepth 100000 in
theorem lifted (os : Os) (started : os.Started) (H : Type) (enc : TypeId × Value → H) (F : Stop.Interp) :
    ReturnsInHanded {} Try.checked os 5 .any ((Rows.OpenSpec.upto Rows.placeSaysSpec).pre6 enc Try.prog Try.f5 Rows.placeSaysUptoRow.domain false) (((Rows.OpenSpec.upto Rows.placeSaysSpec).at F).post enc Try.prog Try.f5 false true false false) := by
  refine returnsInHanded_of_cond (C := Try.checked) (s := Rows.OpenSpec.upto Rows.placeSaysSpec) (k := Rows.uptoSmall) rfl own started (by kernel_rfl) Try.func5
    (OpenSpec.witness (enc := enc) (C := Try.checked) (s := Rows.OpenSpec.upto Rows.placeSaysSpec) (k := Rows.uptoSmall) rfl false ⟨#[], #[.agg #[.slice none 0 0], .int .i64 0], []⟩ 8 (by kernel_rfl) (by kernel_rfl) (by kernel_rfl)
      (x := ([.agg [.nil], .lit (.int .i64 0)], [], [])) (by kernel_rfl) rfl (by kernel_rfl)) ?_
  intro W base args ds gs before hval hW _ hk _
  exact contract H enc W base args ds gs before hval hW hk
theorem proved : Rows.PlaceSaysUptoSaid :=
  OpenClaim.holds_of_cond 5 Try.f5 rfl rfl rfl rfl rfl rfl rfl ⟨rfl, rfl, rfl, rfl, rfl⟩ rfl rfl rfl rfl rfl (by kernel_rfl) Try.func5 (by kernel_rfl)
    (of_decide_eq_true (by kernel_rfl)) (by unfold Func.isWrapper; first | (rw [if_pos (by decide +kernel)]; kernel_rfl) | (rw [if_neg (by decide +kernel)]; exact ⟨rfl, rfl⟩))
    (fun os started H enc _ F => lifted os started H enc F)
end Go.Proofs.Ytbhpblokoecoaaa.placeSays
