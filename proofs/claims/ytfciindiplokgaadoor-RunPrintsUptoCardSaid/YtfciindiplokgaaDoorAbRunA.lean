/-
  The laws on runs: the machine's answer; what is common to the claims of this seat.
-/
import Derived.Test.YtfciindiplokgaaDoorAbU13
import Derived.Test.YtfciindiplokgaaDoorAbDec
import Derived.Test.YtfciindiplokgaaDoorAbIn
import Derived.Test.YtfciindiplokgaaDoorCards
import Derived.Test.YtfciindiplokgaaDoorTie
import Derived.Lib.LaidTab
namespace Go.Proofs.YtfciindiplokgaaDoor
open Go Go.Ab Go.ChangeShapes Go.WideShapes Go.ChangeAt Go.RowKit
theorem unit_ok {u : XApi_Unit} (h : ok_cXApi_Unit 1048576 u) : UOkS u := by
  have hm := maxLen_big
  have up : ∀ {n : Nat}, n ≤ 1048576 → n ≤ maxLen := fun h => by omega
  obtain ⟨⟨g1, g2⟩, f1, f2⟩ := h
  refine ⟨⟨up g1, up f1, fun g hg => up (g2 g hg).2.2.1, fun f hf => ?_⟩, fun f hf b hb => ?_⟩
  · obtain ⟨_, _, _, b1, b2⟩ := f2 f hf
    refine ⟨up b1, fun b hb => ?_⟩
    obtain ⟨⟨p1, p2⟩, ⟨l1, l2⟩, _, _, t1, _⟩ := b2 b hb
    exact ⟨up p1, up l1, up t1, fun p hp => up (p2 p hp).2.1, fun x hx => up (l2 x hx).2.2.2.2.2.1⟩
  · obtain ⟨_, _, _, _, b2⟩ := f2 f hf
    obtain ⟨⟨p1, _⟩, ⟨l1, _⟩, _⟩ := b2 b hb
    exact ⟨p1, l1⟩
theorem own : ownKnob Tryd.prog.godebug = none := by kernel_rfl
theorem gTab : Tryd.prog.globalNamed "turnery/code.ways" = some 0 := by kernel_rfl
theorem gTabType : (Tryd.prog.globals[0]?).map (·.type) = some 127 := by kernel_rfl
theorem cells127 : Tryd.prog.cellsOf 127 = 4 := by kernel_rfl
theorem cells3 : Tryd.prog.cellsOf 3 = 1 := by kernel_rfl
theorem laidB : laidOutB Tryd.prog = true := by kernel_rfl
theorem mapsB : mapsRowed Tryd.prog = true := by kernel_rfl
theorem slicesB : ((List.range Tryd.prog.types.size).all fun t => match Tryd.prog.underlying t with | some (.slice e) => decide (0 < Tryd.prog.cellsOf e) | _ => true) = true := by kernel_rfl
theorem tsize (t : Nat) (h : t < 100) : t < Tryd.prog.types.size := Nat.lt_of_lt_of_le h (of_decide_eq_true (show decide (100 ≤ Tryd.prog.types.size) = true by kernel_rfl))
theorem plain25 : plainT Tryd.prog 10 25 = true := by kernel_rfl
theorem plain3 : plainT Tryd.prog 10 3 = true := by kernel_rfl
theorem plain26 : plainT Tryd.prog 10 26 = true := by kernel_rfl
theorem globs {W : World} (h : laidMetH Tryd.prog [("turnery/code.ways", Rows.laid_turnery_code_ways)] W) : ∀ g cs, cx.glob g = some cs → R W (· < W.heap.size) noB [] (.pointer (some ⟨g, 0, none⟩)) (.vp cs) := by
  have ht : Lib.TabIs Tryd.prog W "turnery/code.ways" .i64 [0, 0, 1, 2] := Lib.tabIs_of_head (rest := []) gTab gTabType Tryd.underlying127 Tryd.underlying3 cells3 cells127 h
  have hc : ∀ i (_ : i < 4), W.cell? ⟨0, i, none⟩ = some (.int .i64 (([0, 0, 1, 2] : List Int).getD i 0)) := fun i hi => ht.cell gTab i hi
  intro g cs hg
  have hg' : (if g = 0 then some [I 0, I 0, I 1, I 2] else none) = some cs := hg
  split at hg'
  · rename_i h0
    subst h0
    obtain rfl := Option.some.inj hg'
    have hb : (0 : Nat) < W.heap.size := by
      have := hc 0 (by decide)
      unfold World.cell? at this
      split at this
      · rename_i hh
        rcases Nat.lt_or_ge 0 W.heap.size with h | h
        · exact h
        · rw [Array.getElem?_eq_none h] at hh; cases hh
      · cases this
    refine .vp (vs := [.int .i64 0, .int .i64 0, .int .i64 1, .int .i64 2]) hb (fun k v hk => ?_) ?_
    · rw [Nat.zero_add]
      match k, hk with
      | 0, hk => rw [hc 0 (by decide)]; simpa using hk
      | 1, hk => rw [hc 1 (by decide)]; simpa using hk
      | 2, hk => rw [hc 2 (by decide)]; simpa using hk
      | 3, hk => rw [hc 3 (by decide)]; simpa using hk
      | k + 4, hk => simp at hk
    · exact .cons (f1 := []) (f2 := []) (.val rfl) (.cons (f1 := []) (f2 := []) (.val rfl) (.cons (f1 := []) (f2 := []) (.val rfl) (.cons (f1 := []) (f2 := []) (.val rfl) .nil)))
  · cases hg'
noncomputable def laidWorld (os : Os) : World :=
  { World.holding Tryd.prog os ⟨#[], #[], []⟩ with heap := (World.holding Tryd.prog os ⟨#[], #[], []⟩).heap.modify 0 fun
      | .cells _ t frozen => .cells #[.int .i64 0, .int .i64 0, .int .i64 1, .int .i64 2] t frozen
      | o => o }
section
variable {H : Type} {enc : TypeId × Value → H} {P : Program}
theorem post_kept {f : Func} {s : ChangeSpec} {W W' : World} {args : Array Value} {v : Value} {ds gs : List (DataW H)} {before pa : List MemPlace}
    (hW : DataW.Whole enc P f.params.toList s.vars false W args.toList ds gs before) (hk : Kept W W' (· ∈ ([] : List Nat)))
    (hres : ∀ (b : Nat) (sp : Nat → Bool) (hd : Bool), DataW.TrodAll enc P W' b sp hd f.resultTypes.toList (v.resultList f.resultTypes.size) (s.fn H (ds ++ gs)).results [])
    (hargs : ∀ sp : Nat → Bool, (∀ p ∈ before, sp p.block = true) → DataW.TrodAll enc P W' 0 sp true f.params.toList args.toList (s.fn H (ds ++ gs)).args pa)
    (hvars : ∀ sp : Nat → Bool, DataW.TrodVars enc P W' sp s.vars (s.fn H (ds ++ gs)).vars []) (hps : before = pa)
    (hok : ∀ (j : Nat) (t : TypeId) (r : Value), f.resultTypes[j]? = some t → (v.resultList f.resultTypes.size)[j]? = some r → Value.okWide P W' .any 0 t r) :
    s.post enc P f false true false false W args v W' := by
  subst hps
  have hold : ∀ p ∈ before, (fun b => decide (b < W.heap.size)) p.block = true := fun p hp => by simpa using hW.lt p hp
  have hlt := hW.lt
  refine ⟨ds, gs, before, [], before, [], hW, hres _ _ _, hargs _ hold, hvars _, World.keptBut_mono (fun _ h => h.elim) (keptBut_of hk), fun _ => ?_⟩
  obtain ⟨_, _, _, _, _, hz, hn⟩ := hW
  refine ⟨hok, _, _, ([] ++ before) ++ [], ⟨[] ++ before, [], trodAll_append (hargs _ (fun _ _ => rfl)) (hres _ _ _), hvars _, rfl, ?_, ?_⟩, ?_⟩
  · intro b off hp
    have hp' : MemPlace.cell b off ∈ before := by simpa using hp
    rw [hk.frz _ (hlt _ hp')]
    exact hz b off hp'
  · intro ha
    simpa using hn ha
  · intro p hp _
    simpa using hp
end
end Go.Proofs.YtfciindiplokgaaDoor
