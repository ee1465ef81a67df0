/- Proved here: for every tree and every number the law ConstsSays of package turnerylaw1 returns true and leaves its arguments as they were: consts.Value, consts.Check and consts.Fold answer what the reference answers. Conditions: those of the given row alone (what comes in is of bulk at most 1048576). -/
import Derived.Test.YtbikcahlonfnmaaGreatAbScA
import Derived.Test.YtbikcahlonfnmaaGreatAbCo3
import Derived.Test.YtbikcahlonfnmaaGreatRows
import Derived.JoinedCond
namespace Go.Proofs.YtbikcahlonfnmaaGreat.constsSays
open Go Go.Ab Go.ChangeShapes Go.WideShapes Go.ChangeAt Go.RowKit
theorem own : ownKnob Tryz.prog.godebug = none := by kernel_rfl
theorem laidB : laidOutB Tryz.prog = true := by kernel_rfl
theorem agy : mapsRowed Tryz.prog = true := by kernel_rfl
theorem akx : ((List.range Tryz.prog.types.size).all fun t => match Tryz.prog.underlying t with | some (.slice e) => decide (0 < Tryz.prog.cellsOf e) | _ => true) = true := by kernel_rfl
theorem akZ (t : Nat) (h : t < 25) : t < Tryz.prog.types.size := Nat.lt_of_lt_of_le h (of_decide_eq_true (show decide (25 ≤ Tryz.prog.types.size) = true by kernel_rfl))
theorem ai9 : sL Tryz.prog 10 3 = true := by kernel_rfl
theorem ai8 : sL Tryz.prog 10 24 = true := by kernel_rfl
mutual
theorem HD {H : Type} : ∀ d : DataW H, Rows.uptoBulk d = fG d
  | .lit l => by cases l <;> rfl
  | .nil => rfl
  | .ptr d => by simp only [Rows.uptoBulk, fG, HD d]
  | .slice a b => by simp only [Rows.uptoBulk, fG, DM a, DM b]
  | .agg l => by simp only [Rows.uptoBulk, fG, DM l]
  | .iface _ d => by simp only [Rows.uptoBulk, fG, HD d]
  | .map l => by simp only [Rows.uptoBulk, fG, PM l]
  | .held _ => rfl
theorem DM {H : Type} : ∀ l : List (DataW H), Rows.uptoBulkAll l = pJ l
  | [] => rfl
  | d :: l => by simp only [Rows.uptoBulkAll, pJ, HD d, DM l]
theorem PM {H : Type} : ∀ l : List (Lit × DataW H), Rows.uptoBulkEntries l = HC l
  | [] => rfl
  | x :: l => by simp only [Rows.uptoBulkEntries, HC, ZT x, PM l]
theorem ZT {H : Type} : ∀ x : Lit × DataW H, Rows.uptoBulkEntry x = KE x
  | (l, d) => by cases l <;> simp only [Rows.uptoBulkEntry, KE, HD d]
end
set_option maxRecDepth 100000 in
theorem contract (H : Type) (enc : TypeId × Value → H) (W : World) (base : Nat) (args : Array Value) (ds gs : List (DataW H)) (before : List MemPlace)
    (hval : ∀ (j : Nat) t v, Tryz.f3.params[j]? = some t → args[j]? = some v → Value.okWide Tryz.prog W .any base t v)
    (hW : DataW.Whole enc Tryz.prog Tryz.f3.params.toList Rows.constsSaysSpec.vars false W args.toList ds gs before) (hk : Rows.uptoSmall H (ds ++ gs) = true) :
    Calls Tryz.prog 3 args W fun e W' => ∃ v, e = .returned v ∧ Rows.constsSaysSpec.post enc Tryz.prog Tryz.f3 false true false false W args v W' := by
  have LI := hW
  obtain ⟨p, q, RI, hV, rfl, hfz, cm⟩ := hW
  have hA : DataW.TrodAll enc Tryz.prog W 0 (fun _ => true) true Tryz.f3.params.toList args.toList ds p := RI
  rw [Tryz.params3] at hA hval
  have adr := hA
  obtain ⟨v0, als, d0, amm, rC, q0, hargs, rfl, rfl, h0, eV⟩ := trodAll_cons hA
  obtain ⟨v1, gz, d1, amn, p1, q1, rfl, rfl, rfl, h1, r1⟩ := trodAll_cons eV
  obtain ⟨rfl, rfl, rfl⟩ := trodAll_nil r1
  obtain rfl : args = #[v0, v1] := by cases args; simp_all
  obtain ⟨rfl, rfl⟩ := trodVars_none hV
  have hb : Rows.uptoBulkAll ([d0, d1] ++ ([] : List (DataW H))) ≤ 1048576 := of_decide_eq_true hk
  rw [DM] at hb
  simp only [List.append_nil, pJ] at hb
  obtain ⟨c0, g0, t0⟩ := VC ai8 h0 (B := 1048576) (.inr (by omega))
  obtain ⟨x0, rfl, o0⟩ := abq c0 t0
  obtain ⟨c1, g1, t1⟩ := VC ai9 h1 (B := 1048576) (.inr (by omega))
  obtain ⟨x1, rfl, o1⟩ := AT Tryz.underlying3 t1
  have a0 := Zr Tryz.underlying24 (hval 0 24 v0 rfl rfl) g0
  have a1 := Zq Tryz.underlying3 rfl (hval 1 3 v1 rfl rfl) g1
  have LZ := Yf (nn := 0) (aaZ x0 x1 (akV (by decide) o0) (akU (by decide) o0))
  have walk := Zl abk LZ rfl (W := W) (vs := [v0, v1]) (.cons (f1 := []) (f2 := []) a0 (.cons (f1 := []) (f2 := []) a1 .nil)) (fun g cs hg => by cases (show (none : Option (List aa)) = some cs from hg)) Tryz.func3 rfl
  refine walk.mono fun e W' ⟨he, hk⟩ => ?_
  subst he
  simp only [List.append_nil] at LI adr
  exact ⟨_, rfl, ajc (pa := _) (pv := []) LI (fun _ _ _ => trodAll_cons_mk (shut_bool Tryz.underlying4 _) trodAll_mk0)
    (fun sp hsp => Zs laidB agy akx (fun t ht => by rw [Tryz.params3] at ht; simp at ht; rcases ht with rfl | rfl <;> exact akZ _ (by decide)) RI (fun x hx => LI.lt x (by simpa using hx)) hk sp (fun x hx => hsp x (by simpa using hx)))
    (fun _ _ => rfl) (by simp) (World.keptBut_mono (fun _ h => h.elim) (S9 hk)) hk.eR (ok_one (by kernel_rfl) rfl (okWide_bool_mk Tryz.underlying4 _))⟩
set_option maxRecDepth 100000 in
theorem lifted (os : Os) (started : os.Started) (H : Type) (enc : TypeId × Value → H) (F : Stop.Interp) :
    ReturnsInHanded {} Tryz.checked os 3 .any ((Rows.OpenSpec.upto Rows.constsSaysSpec).pre6 enc Tryz.prog Tryz.f3 Rows.constsSaysUptoRow.domain false) (((Rows.OpenSpec.upto Rows.constsSaysSpec).at F).post enc Tryz.prog Tryz.f3 false true false false) := by
  refine returnsInHanded_of_cond (C := Tryz.checked) (s := Rows.OpenSpec.upto Rows.constsSaysSpec) (k := Rows.uptoSmall) rfl own started (by kernel_rfl) Tryz.func3
    (OpenSpec.witness (enc := enc) (C := Tryz.checked) (s := Rows.OpenSpec.upto Rows.constsSaysSpec) (k := Rows.uptoSmall) rfl false ⟨#[], #[.agg #[.slice none 0 0], .int .i64 0], []⟩ 8 (by kernel_rfl) (by kernel_rfl) (by kernel_rfl)
      (x := ([.agg [.nil], .lit (.int .i64 0)], [], [])) (by kernel_rfl) rfl (by kernel_rfl)) ?_
  intro W base args ds gs before hval hW _ hk _
  exact contract H enc W base args ds gs before hval hW hk
theorem proved : Rows.ConstsSaysUptoSaid :=
  OpenClaim.holds_of_cond 3 Tryz.f3 rfl rfl rfl rfl rfl rfl rfl ⟨rfl, rfl, rfl, rfl, rfl⟩ rfl rfl rfl rfl rfl (by kernel_rfl) Tryz.func3 (by kernel_rfl)
    (of_decide_eq_true (by kernel_rfl)) (by unfold Func.isWrapper; first | (rw [if_pos (by decide +kernel)]; kernel_rfl) | (rw [if_neg (by decide +kernel)]; exact ⟨rfl, rfl⟩))
    (fun os started H enc _ F => lifted os started H enc F)
end Go.Proofs.YtbikcahlonfnmaaGreat.constsSays
