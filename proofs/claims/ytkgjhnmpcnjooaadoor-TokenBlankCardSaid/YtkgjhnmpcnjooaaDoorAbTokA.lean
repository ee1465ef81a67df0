/-
  The laws on words: the machine's answer; what is common to the claims of this seat.
-/
import Derived.Test.YtkgjhnmpcnjooaaDoorAbK12
import Derived.Test.YtkgjhnmpcnjooaaDoorAbDec
import Derived.Test.YtkgjhnmpcnjooaaDoorAbIn
import Derived.Test.YtkgjhnmpcnjooaaDoorCards
import Derived.Test.YtkgjhnmpcnjooaaDoorTie
import Derived.Lib.LaidTab
import Derived.Stop.LaidErr
namespace Go.Proofs.YtkgjhnmpcnjooaaDoor
open Go Go.Ab Go.ChangeShapes Go.WideShapes Go.ChangeAt Go.RowKit

theorem own : ownKnob Tryd.prog.godebug = none := by kernel_rfl
theorem laidB : laidOutB Tryd.prog = true := by kernel_rfl
theorem mapsB : mapsRowed Tryd.prog = true := by kernel_rfl
theorem slicesB : ((List.range Tryd.prog.types.size).all fun t => match Tryd.prog.underlying t with | some (.slice e) => decide (0 < Tryd.prog.cellsOf e) | _ => true) = true := by kernel_rfl
theorem tsize (t : Nat) (h : t < 100) : t < Tryd.prog.types.size := Nat.lt_of_lt_of_le h (of_decide_eq_true (show decide (100 ≤ Tryd.prog.types.size) = true by kernel_rfl))
theorem plain3 : plainT Tryd.prog 10 3 = true := by kernel_rfl
theorem plain9 : plainT Tryd.prog 10 9 = true := by kernel_rfl
theorem plain22 : plainT Tryd.prog 10 22 = true := by kernel_rfl

/-! ### The package's variables -/
/-- A table of strings that reads as such holds them. -/
theorem cells_of_strs {H : Type} {enc : TypeId × Value → H} {P : Program} {w : World} {base : Nat} {sp : Nat → Bool} {held : Bool} {fuel : Nat} {t e : TypeId} {n : Nat} {cs : List Value} {zs : List (List UInt8)} {p : List MemPlace}
    (ht : P.underlying t = some (.array n e)) (he : P.underlying e = some .string) (hce : P.cellsOf e = 1) (hct : P.cellsOf t = n)
    (h : DataW.trod enc P w base sp held fuel t cs = some (DataW.agg (zs.map fun z => DataW.lit (Lit.string z)), p)) : ∀ (i : Nat) (z : List UInt8), zs[i]? = some z → cs[i]? = some (Value.string (Tk.mkS z)) := by
  cases fuel with
  | zero => simp [DataW.trod] at h
  | succ fuel =>
    simp only [DataW.trod, ht, hce, hct, Nat.mul_one] at h
    split at h
    · obtain ⟨xs, hm, hx⟩ := Option.map_eq_some_iff.1 h
      have hxs : xs.map (·.1) = zs.map fun z => (DataW.lit (.string z) : DataW H) := by
        have := congrArg Prod.fst hx
        simpa using this
      have hxl : xs.length = n := by simpa using Lib.mapM_length hm
      have hzl : zs.length = n := by
        have := congrArg List.length hxs
        simp at this
        omega
      intro i z hz
      have hi : i < n := by
        have := (List.getElem?_eq_some_iff.1 hz).1
        omega
      obtain ⟨b, hb, hf⟩ := Lib.mapM_at hm i i (by simp [hi])
      obtain ⟨s, hc, rfl, _⟩ := DataW.trod_string he hf
      have h1 : cs[i]? = some (.string s) := by
        have := congrArg (·[0]?) hc
        simpa [List.getElem?_take, List.getElem?_drop] using this
      have h2 : (xs.map (·.1))[i]? = some (DataW.lit (.string s.data.toList) : DataW H) := by simp [hb]
      rw [hxs] at h2
      simp only [List.getElem?_map, hz, Option.map_some, Option.some.injEq, DataW.lit.injEq, Lit.string.injEq] at h2
      rw [h1, h2]
      exact congrArg some (congrArg Value.string (Tk.mkS_bl s).symm)
    · cases h
theorem strs_of_head {P : Program} {W : World} {name : String} {zs : List (List UInt8)} {rest : List (String × DataW Unit)} {g : Nat} {t e : TypeId} {n : Nat}
    (hg : P.globalNamed name = some g) (hty : (P.globals[g]?).map (·.type) = some t) (ht : P.underlying t = some (.array n e)) (he : P.underlying e = some .string) (hce : P.cellsOf e = 1) (hct : P.cellsOf t = n)
    (h : laidMet P ((name, DataW.agg (zs.map fun z => DataW.lit (Lit.string z))) :: rest) W) : ∀ (i : Nat) (z : List UInt8), zs[i]? = some z → W.cell? ⟨g, i, none⟩ = some (Value.string (Tk.mkS z)) := by
  obtain ⟨ps, ⟨g', t', cs, fuel, p, q, hg', ht', hvar, hd, _, _⟩, _⟩ := h
  obtain rfl := Option.some.inj (hg.symm.trans hg')
  obtain rfl := Option.some.inj (hty.symm.trans ht')
  intro i z hz
  rw [World.var?_cell hg hvar i]
  have := cells_of_strs ht he hce hct hd i z hz
  simpa using this
theorem blk_of_cell {W : World} {g o : Nat} {v : Value} (h : W.cell? ⟨g, o, none⟩ = some v) : g < W.heap.size := by
  unfold World.cell? at h
  split at h
  · rename_i hh
    rcases Nat.lt_or_ge g W.heap.size with h' | h'
    · exact h'
    · rw [Array.getElem?_eq_none h'] at hh; cases hh
  · cases h
theorem RL_strs {W : World} {I : Nat → Prop} : ∀ l : List ByteArray, RL W I noB [] (l.map Value.string) (l.map gStr)
  | [] => .nil
  | _ :: l => .cons (f1 := []) (f2 := []) (.val rfl) (RL_strs l)
theorem R_strs {W : World} {g : Nat} {l : List ByteArray} (hb : g < W.heap.size) (hc : ∀ i s, l[i]? = some s → W.cell? ⟨g, i, none⟩ = some (.string s)) : R W (· < W.heap.size) noB [] (.pointer (some ⟨g, 0, none⟩)) (.vp (l.map gStr)) :=
  .vp (vs := l.map Value.string) hb (fun k v hk => by
    rw [Nat.zero_add]
    rw [List.getElem?_map] at hk
    obtain ⟨s, hs, rfl⟩ := Option.map_eq_some_iff.1 hk
    exact hc k s hs) (RL_strs l)
theorem R_one {W : World} {g : Nat} {v : Value} {a : AV} (hc : W.cell? ⟨g, 0, none⟩ = some v) (ha : R W (· < W.heap.size) noB [] v a) : R W (· < W.heap.size) noB [] (.pointer (some ⟨g, 0, none⟩)) (.vp [a]) :=
  .vp (vs := [v]) (blk_of_cell hc) (fun k u hk => by
    rw [Nat.zero_add]
    match k, hk with
    | 0, hk => simp only [List.getElem?_cons_zero, Option.some.injEq] at hk; rw [← hk]; exact hc
    | k + 1, hk => simp at hk) (.cons (f1 := []) (f2 := []) ha .nil)

abbrev laidL : List (String × DataW Unit) := [("math/bits.deBruijn32tab", Rows.laid_math_bits_deBruijn32tab), ("math/bits.deBruijn64tab", Rows.laid_math_bits_deBruijn64tab), ("internal/strconv.uint64pow10", Rows.laid_internal_strconv_uint64pow10), ("strconv.ErrRange", Rows.laid_strconv_ErrRange), ("strconv.ErrSyntax", Rows.laid_strconv_ErrSyntax), ("turnery/token.keys", Rows.laid_turnery_token_keys), ("turnery/token.signs", Rows.laid_turnery_token_signs)]
theorem g0 : Tryd.prog.globalNamed "turnery/token.keys" = some 0 := by kernel_rfl
theorem g1 : Tryd.prog.globalNamed "turnery/token.signs" = some 1 := by kernel_rfl
theorem g3 : Tryd.prog.globalNamed "strconv.ErrSyntax" = some 3 := by kernel_rfl
theorem g4 : Tryd.prog.globalNamed "strconv.ErrRange" = some 4 := by kernel_rfl
theorem gt0 : (Tryd.prog.globals[0]?).map (·.type) = some 66 := by kernel_rfl
theorem gt1 : (Tryd.prog.globals[1]?).map (·.type) = some 71 := by kernel_rfl
theorem gt3 : (Tryd.prog.globals[3]?).map (·.type) = some 62 := by kernel_rfl
theorem gt4 : (Tryd.prog.globals[4]?).map (·.type) = some 62 := by kernel_rfl
theorem c66 : Tryd.prog.cellsOf 66 = 13 := by kernel_rfl
theorem c71 : Tryd.prog.cellsOf 71 = 43 := by kernel_rfl
theorem c9 : Tryd.prog.cellsOf 9 = 1 := by kernel_rfl
theorem c99 : Tryd.prog.cellsOf 99 = 1 := by kernel_rfl
theorem star : "*" ++ "errors.errorString" = "*errors.errorString" := by decide
theorem err_rows (u : TypeId) (h : Tryd.prog.typeName? 3 u = some "*errors.errorString") : u = 97 :=
  typeName_ptr_named (nm := "errors.errorString") (by rw [star]; kernel_rfl) (by kernel_rfl) (by decide) u (by rw [star]; exact h)
theorem noHandles : (laidL.filter fun x => x.2.handleName?.isSome) = [] := by kernel_rfl
/-- What the variables hold when the call begins. -/
theorem globs {W : World} (hS : W.ShapedOpen Tryd.prog) (h : laidMetH Tryd.prog laidL W) : ∃ m : Int, ∀ g cs, (@cx ⟨m⟩).glob g = some cs → R W (· < W.heap.size) noB [] (.pointer (some ⟨g, 0, none⟩)) (.vp cs) := by
  have h0 : laidMet Tryd.prog laidL W := by
    unfold laidMetH at h
    rw [noHandles] at h
    exact h
  have h3 := laidMet.tail (laidMet.tail (laidMet.tail h0))
  have h4 := laidMet.tail h3
  have h5 := laidMet.tail h4
  have h6 := laidMet.tail h5
  obtain ⟨a4, s4, v4, _⟩ := laid_sentinel h3 g4 gt4 Tryd.underlying62 err_rows Tryd.underlying97 Tryd.underlying99 rfl rfl Tryd.underlying9 c99 c9
  obtain ⟨a3, s3, v3, _⟩ := laid_sentinel h4 g3 gt3 Tryd.underlying62 err_rows Tryd.underlying97 Tryd.underlying99 rfl rfl Tryd.underlying9 c99 c9
  have k0 := strs_of_head (zs := Gkeys.map Tk.bl) g0 gt0 Tryd.underlying66 Tryd.underlying9 c9 c66 h5
  have k1 := strs_of_head (zs := Gsigns.map Tk.bl) g1 gt1 Tryd.underlying71 Tryd.underlying9 c9 c71 h6
  obtain ⟨m, hm⟩ := Tryd.laysM144.s1_3 W hS
  refine ⟨m, fun g cs hg => ?_⟩
  have hg' : (if g = 0 then some (Gkeys.map gStr) else if g = 1 then some (Gsigns.map gStr) else if g = 2 then some [.val (.int .i64 m)] else if g = 3 then some [.nn] else if g = 4 then some [.nn] else none) = some cs := hg
  have ks : ∀ {L : List ByteArray} {k : Nat}, (∀ i z, (L.map Tk.bl)[i]? = some z → W.cell? ⟨k, i, none⟩ = some (.string (Tk.mkS z))) → ∀ i s, L[i]? = some s → W.cell? ⟨k, i, none⟩ = some (.string s) := fun hk i s hs => by
    have := hk i (Tk.bl s) (by rw [List.getElem?_map, hs]; rfl)
    rwa [Tk.mkS_bl] at this
  split at hg'
  · rename_i hh; subst hh
    obtain rfl := Option.some.inj hg'
    exact R_strs (blk_of_cell (ks k0 0 _ rfl)) (ks k0)
  · split at hg'
    · rename_i hh; subst hh
      obtain rfl := Option.some.inj hg'
      exact R_strs (blk_of_cell (ks k1 0 _ rfl)) (ks k1)
    · split at hg'
      · rename_i hh; subst hh
        obtain rfl := Option.some.inj hg'
        exact R_one hm (.val rfl)
      · split at hg'
        · rename_i hh; subst hh
          obtain rfl := Option.some.inj hg'
          have := World.var?_cell g3 v3 0
          exact R_one (this.trans rfl) .nn
        · split at hg'
          · rename_i hh; subst hh
            obtain rfl := Option.some.inj hg'
            have := World.var?_cell g4 v4 0
            exact R_one (this.trans rfl) .nn
          · cases hg'

/-! ### What a row wants behind the call -/
section
variable {H : Type} {enc : TypeId × Value → H} {P : Program}
theorem post_kept {f : Func} {s : ChangeSpec} {W W' : World} {args : Array Value} {v : Value} {ds gs : List (DataW H)} {before pa : List MemPlace}
    (hW : DataW.Whole enc P f.params.toList s.vars false W args.toList ds gs before) (hk : Kept W W' (· ∈ ([] : List Nat)))
    (hres : ∀ (b : Nat) (sp : Nat → Bool) (hd : Bool), DataW.TrodAll enc P W' b sp hd f.resultTypes.toList (v.resultList f.resultTypes.size) (s.fn H (ds ++ gs)).results [])
    (hargs : ∀ sp : Nat → Bool, (∀ p ∈ before, sp p.block = true) → DataW.TrodAll enc P W' 0 sp true f.params.toList args.toList (s.fn H (ds ++ gs)).args pa)
    (hvars : ∀ sp : Nat → Bool, DataW.TrodVars enc P W' sp s.vars (s.fn H (ds ++ gs)).vars []) (hps : before = pa)
    (hok : ∀ (j : Nat) (t : TypeId) (r : Value), f.resultTypes[j]? = some t → (v.resultList f.resultTypes.size)[j]? = some r → Value.okWide P W' .any 0 t r) :
    s.post enc P f false true false false W args v W' := by
  subst hps
  have hold : ∀ p ∈ before, (fun b => decide (b < W.heap.size)) p.block = true := fun p hp => by simpa using hW.lt p hp
  have hlt := hW.lt
  refine ⟨ds, gs, before, [], before, [], hW, hres _ _ _, hargs _ hold, hvars _, World.keptBut_mono (fun _ h => h.elim) (keptBut_of hk), fun _ => ?_⟩
  obtain ⟨_, _, _, _, _, hz, hn⟩ := hW
  refine ⟨hok, _, _, ([] ++ before) ++ [], ⟨[] ++ before, [], trodAll_append (hargs _ (fun _ _ => rfl)) (hres _ _ _), hvars _, rfl, ?_, ?_⟩, ?_⟩
  · intro b off hp
    have hp' : MemPlace.cell b off ∈ before := by simpa using hp
    rw [hk.frz _ (hlt _ hp')]
    exact hz b off hp'
  · intro ha
    simpa using hn ha
  · intro p hp _
    simpa using hp
end

/-- A world for the witness: the variables hold what their texts lay. -/
noncomputable def laidWorld (os : Os) : World :=
  let w := World.holding Tryd.prog os ⟨#[], #[], []⟩
  let N := w.heap.size
  let put := fun (h : Array Obj) (g : Nat) (cs : Array Value) => h.modify g fun
    | .cells _ t frozen => .cells cs t frozen
    | o => o
  let ints := fun (k : IntKind) (zs : List Int) => (zs.map fun z => Value.int k z).toArray
  let h := put w.heap 0 (Gkeys.map Value.string).toArray
  let h := put h 1 (Gsigns.map Value.string).toArray
  let h := put h 3 #[.iface 97 (.pointer (some ⟨N, 0, none⟩))]
  let h := put h 4 #[.iface 97 (.pointer (some ⟨N + 1, 0, none⟩))]
  let h := put h 5 (ints .u64 [1, 10, 100, 1000, 10000, 100000, 1000000, 10000000, 100000000, 1000000000, 10000000000, 100000000000, 1000000000000, 10000000000000, 100000000000000, 1000000000000000, 10000000000000000, 100000000000000000, 1000000000000000000, 10000000000000000000])
  let h := put h 6 (ints .u8 [0, 1, 28, 2, 29, 14, 24, 3, 30, 22, 20, 15, 25, 17, 4, 8, 31, 27, 13, 23, 21, 19, 16, 7, 26, 12, 18, 6, 11, 5, 10, 9])
  let h := put h 7 (ints .u8 [0, 1, 56, 2, 57, 49, 28, 3, 61, 58, 42, 50, 38, 29, 17, 4, 62, 47, 59, 36, 45, 43, 51, 22, 53, 39, 33, 30, 24, 18, 12, 5, 63, 55, 48, 27, 60, 41, 37, 16, 46, 35, 44, 21, 52, 32, 23, 11, 54, 26, 40, 15, 34, 20, 31, 10, 25, 14, 19, 9, 13, 8, 7, 6])
  let h := h.push (.cells #[.string (Tk.mkS [105, 110, 118, 97, 108, 105, 100, 32, 115, 121, 110, 116, 97, 120])] 99)
  let h := h.push (.cells #[.string (Tk.mkS [118, 97, 108, 117, 101, 32, 111, 117, 116, 32, 111, 102, 32, 114, 97, 110, 103, 101])] 99)
  { w with heap := h }
end Go.Proofs.YtkgjhnmpcnjooaaDoor
