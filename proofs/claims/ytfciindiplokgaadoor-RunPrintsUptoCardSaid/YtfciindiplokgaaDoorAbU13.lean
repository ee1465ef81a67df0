/-
  PLAIN LAW: memory and tables laid, and the whole run, of both walkers.
-/
/-
  PLAIN LAW: RunSays.
-/
/-
  PLAIN LAW: RunMore.
-/
/-
  PLAIN LAW: counts of a run, as moves of a list of places (function, block).
-/
/-
  PLAIN LAW: steps are moves of places.
-/
/-
  PLAIN LAW: RunFlow, RunStraight.
-/
/-
  PLAIN LAW: RunPrints.
-/
import Derived.Test.YtfciindiplokgaaDoorAbU6
namespace Go.Ab
open Go Go.Proofs
def gw (g : XApi_Global) : List Int := g.Init ++ List.replicate (g.Size - (g.Init.length : Int)).toNat 0
def memS (u : XApi_Unit) : List Int := u.Globals.flatMap gw
structure GOk (g : XApi_Global) : Prop where
  s0 : 1 ≤ g.Size
  s1 : g.Size ≤ 200
  i : (g.Init.length : Int) ≤ g.Size
theorem globC_ok {names : List ByteArray} {w : Int} {g : XApi_Global} (h : globC names w g = 0) : GOk g := by
  unfold globC at h
  split at h
  · cases h
  split at h
  · cases h
  split at h
  · cases h
  split at h
  · cases h
  rename_i h1 h2
  simp only [Bool.not_eq_true', Bool.not_eq_false, inb_iff, decide_eq_true_eq] at h1 h2
  exact ⟨by omega, by omega, by omega⟩
theorem globE_ok {u : XApi_Unit} (h : globE u = none) : ∀ g ∈ u.Globals, GOk g := by
  unfold globE at h
  have key : ∀ (l : List XApi_Global) (i : Nat) (w : Int), run (fun i (words : Int) (g : XApi_Global) => if globC (nmG u i) words g != 0 then .inl (some (XApi_Fault.mk (globC (nmG u i) words g) i)) else .inr (w64 (words + g.Size))) (fun _ => none) i w l = none → ∀ g ∈ l, GOk g := by
    intro l
    induction l with
    | nil => intro i w _ g hg; simp at hg
    | cons g l ih =>
      intro i w h
      simp only [run] at h
      by_cases hz : globC (nmG u i) w g = 0
      · simp [hz] at h
        intro x hx
        rcases List.mem_cons.1 hx with rfl | hx
        · exact globC_ok hz
        · exact ih _ _ (by simpa using h) x hx
      · simp [hz] at h
  exact key _ _ _ h
theorem gw_len {g : XApi_Global} (h : GOk g) : ((gw g).length : Int) = g.Size := by
  have := h.i; have := h.s0
  unfold gw; simp; omega
theorem gw_le {g : XApi_Global} (h : GOk g) : (gw g).length ≤ 200 := by have := gw_len h; have := h.s1; omega
theorem gw_1 {g : XApi_Global} {k : Nat} (h : k < (gw g).length) (hk : k < g.Init.length) : (gw g)[k] = g.Init[k] := by
  show (g.Init ++ List.replicate (g.Size - (g.Init.length : Int)).toNat 0)[k]'h = _
  exact List.getElem_append_left hk
theorem gw_2 {g : XApi_Global} {k : Nat} (h : k < (gw g).length) (hk : g.Init.length ≤ k) : (gw g)[k] = 0 := by
  show (g.Init ++ List.replicate (g.Size - (g.Init.length : Int)).toNat 0)[k]'h = _
  exact (List.getElem_append_right hk).trans (by simp)
theorem run_flat {α β τ : Type} (f : α → List β) (e : List β → τ) : ∀ (l : List α) (i : Nat) (acc : List β), run (fun _ acc x => (.inr (acc ++ f x) : τ ⊕ List β)) e i acc l = e (acc ++ l.flatMap f)
  | [], i, acc => by simp [run]
  | x :: l, i, acc => by
    simp only [run]
    rw [run_flat f e l (i + 1) (acc ++ f x)]
    simp
theorem flat_len2 {α β : Type} (f : α → List β) (k : Nat) : ∀ (l : List α), (∀ x ∈ l, (f x).length ≤ k) → (l.flatMap f).length ≤ k * l.length
  | [], _ => by simp
  | x :: l, h => by
    have := flat_len2 f k l fun y hy => h y (by simp [hy])
    have h1 := h x (by simp)
    simp only [List.flatMap_cons, List.length_append, List.length_cons]
    rw [Nat.mul_add, Nat.mul_one]; omega
theorem zap_ok {α : Type} {q : List α} {n : Int} {z : α} (h0 : 0 ≤ n) (h1 : n ≤ 1000) (h2 : q.length ≤ 10000) : zap q n z = some (q ++ List.replicate n.toNat z) := if_pos ⟨h0, by omega, by omega⟩
def r00 (u : XApi_Unit) (inp mem : List Int) (cnt : List (List Int)) : XTurneryref2_Run := ⟨u, mem, inp, [], ([], 0), cnt, -1, 0, 0⟩
def oc0 : XApi_Outcome := XApi_Outcome.mk 0 0 [] 0
def cntS (u : XApi_Unit) : List (List Int) := u.Funcs.map fun f => List.replicate f.Blocks.length 0
section
variable {u : XApi_Unit} {inp : List Int}
theorem wmem (hF : Fine u) : Loop (fun (s : (XRun_walker × Int)) => run_Counts_L1 u s.1 s.2) (cvW [] 0 (r00 u inp [] []), 0) = some (cvW [] 0 (r00 u inp (memS u) [])) := by
  have hg := globE_ok hF.well.glob
  have h10 := hF.well.ten.1
  have := Loop_run (l := u.Globals) (τ := XRun_walker) (S := XRun_walker × Int) (fun (m : List Int) i => (cvW [] 0 (r00 u inp m []), i)) (fun _ (m : List Int) g => .inr (m ++ gw g)) (fun m => cvW [] 0 (r00 u inp m [])) (fun i m => m.length ≤ 200 * i) (step := fun s => run_Counts_L1 u s.1 s.2)
    (fun i m hi hI => by
      have hI : m.length ≤ 200 * i := hI
      have hG := hg u.Globals[i] (List.getElem_mem hi)
      have hl := gw_le hG
      have g0 := hG.s0; have g1 := hG.s1; have g2 := hG.i
      refine ⟨?_, by show (m ++ gw u.Globals[i]).length ≤ 200 * (i + 1); rw [List.length_append]; omega⟩
      show run_Counts_L1 u (cvW [] 0 (r00 u inp m [])) i = _
      unfold run_Counts_L1
      have hs : stk ((cvW [] 0 (r00 u inp m [])).frames.1, (cvW [] 0 (r00 u inp m [])).frames.2) = some () := stk_ok (by simp [cvW, r00])
      have ha : app (cvW [] 0 (r00 u inp m [])).mem u.Globals[i].Init = some (m ++ u.Globals[i].Init) := app_ok (a := m) (by omega)
      rw [hs, Option.bind_some, lt_dec hi, if_pos rfl, idx_lt hi, Option.bind_some, ha, Option.bind_some, w64_id (n := u.Globals[i].Size - (u.Globals[i].Init.length : Int)) (by omega) (by omega), zap_ok (by omega) (by omega) (by rw [List.length_append]; omega), Option.bind_some, w64_succ (i := i) (by omega), List.append_assoc]
      rfl)
    (fun m _ => by
      show run_Counts_L1 u (cvW [] 0 (r00 u inp m [])) (u.Globals.length : Int) = _
      unfold run_Counts_L1
      have hs : stk ((cvW [] 0 (r00 u inp m [])).frames.1, (cvW [] 0 (r00 u inp m [])).frames.2) = some () := stk_ok (by simp [cvW, r00])
      rw [hs, Option.bind_some, lt_dec', if_neg (by simp), etaW]) (s0 := []) (by simp)
  rw [this, run_flat]; rfl
theorem rmem (hF : Fine u) (o : XApi_Outcome) : Loop (fun (s : (XApi_Outcome × XTurneryref2_Run × Int)) => ref2_Do_L1 u s.1 s.2.1 s.2.2) (o, r00 u inp [] [], 0) = some (o, r00 u inp (memS u) []) := by
  have hg := globE_ok hF.well.glob
  have h10 := hF.well.ten.1
  have inner : ∀ (i : Nat) (hi : i < u.Globals.length) (m0 : List Int), m0.length ≤ 200 * i → Loop (fun (s : (XApi_Outcome × XTurneryref2_Run × Int)) => ref2_Do_L2 u i s.1 s.2.1 s.2.2) (o, r00 u inp m0 [], 0) = some (o, r00 u inp (m0 ++ gw u.Globals[i]) []) := by
    intro i hi m0 hm0
    have hG := hg u.Globals[i] (List.getElem_mem hi)
    have hl := gw_le hG
    have hlen := gw_len hG
    have g0 := hG.s0; have g1 := hG.s1; have g2 := hG.i
    have := Loop_run (l := gw u.Globals[i]) (τ := XApi_Outcome × XTurneryref2_Run) (S := XApi_Outcome × XTurneryref2_Run × Int) (fun (m : List Int) i => (o, r00 u inp m [], i)) (fun _ (m : List Int) x => .inr (m ++ [id x])) (fun m => (o, r00 u inp m [])) (fun k m => m.length = m0.length + k) (step := fun s => ref2_Do_L2 u i s.1 s.2.1 s.2.2)
      (fun k m hk hI => by
        have hI : m.length = m0.length + k := hI
        refine ⟨?_, by show (m ++ [id (gw u.Globals[i])[k]]).length = _; rw [List.length_append, hI]; rfl⟩
        show ref2_Do_L2 u i o (r00 u inp m []) k = _
        have hJ : ∀ x, ref2_Do_J1 o (r00 u inp m []) k x = some (.next (o, r00 u inp (m ++ [x]) [], ((k + 1 : Nat) : Int))) := by
          intro x
          unfold ref2_Do_J1
          have ha : app (r00 u inp m []).Mem [x] = some (m ++ [x]) := app_ok (a := m) (by simp; omega)
          rw [show stk (((r00 u inp m []).Frames.1, (r00 u inp m []).Frames.2).1, ((r00 u inp m []).Frames.1, (r00 u inp m []).Frames.2).2) = some () from stk_ok (by simp [r00]), Option.bind_some, ha, Option.bind_some, w64_succ (i := k) (by omega)]
          rfl
        unfold ref2_Do_L2
        rw [show stk ((r00 u inp m []).Frames.1, (r00 u inp m []).Frames.2) = some () from stk_ok (by simp [r00]), Option.bind_some, idx_lt hi, Option.bind_some, if_pos (by simp; omega), Option.bind_some]
        by_cases hki : k < u.Globals[i].Init.length
        · rw [if_pos (by simpa using hki), Option.bind_some, idx_lt hki, Option.bind_some, hJ]
          have e := gw_1 hk hki
          rw [e]; rfl
        · rw [if_neg (by simpa using hki), hJ]
          have e := gw_2 hk (by omega)
          rw [e]; rfl)
      (fun m _ => by
        show ref2_Do_L2 u i o (r00 u inp m []) ((gw u.Globals[i]).length : Int) = _
        unfold ref2_Do_L2
        rw [show stk ((r00 u inp m []).Frames.1, (r00 u inp m []).Frames.2) = some () from stk_ok (by simp [r00]), Option.bind_some, idx_lt hi, Option.bind_some, if_neg (by simp; omega), etaR]) (s0 := m0) rfl
    rw [this, run_map]; simp
  have := Loop_run (l := u.Globals) (τ := XApi_Outcome × XTurneryref2_Run) (S := XApi_Outcome × XTurneryref2_Run × Int) (fun (m : List Int) i => (o, r00 u inp m [], i)) (fun _ (m : List Int) g => .inr (m ++ gw g)) (fun m => (o, r00 u inp m [])) (fun i m => m.length ≤ 200 * i) (step := fun s => ref2_Do_L1 u s.1 s.2.1 s.2.2)
    (fun i m hi hI => by
      have hI : m.length ≤ 200 * i := hI
      have hG := hg u.Globals[i] (List.getElem_mem hi)
      have hl := gw_le hG
      refine ⟨?_, by show (m ++ gw u.Globals[i]).length ≤ 200 * (i + 1); rw [List.length_append]; omega⟩
      show ref2_Do_L1 u o (r00 u inp m []) i = _
      unfold ref2_Do_L1
      rw [show stk ((r00 u inp m []).Frames.1, (r00 u inp m []).Frames.2) = some () from stk_ok (by simp [r00]), Option.bind_some, lt_dec hi, if_pos rfl, etaR, inner i hi m hI, Option.bind_some]
      simp only
      rw [show stk ((r00 u inp (m ++ gw u.Globals[i]) []).Frames.1, (r00 u inp (m ++ gw u.Globals[i]) []).Frames.2) = some () from stk_ok (by simp [r00]), Option.bind_some, etaR, w64_succ (i := i) (by omega)])
    (fun m _ => by
      show ref2_Do_L1 u o (r00 u inp m []) (u.Globals.length : Int) = _
      unfold ref2_Do_L1
      rw [show stk ((r00 u inp m []).Frames.1, (r00 u inp m []).Frames.2) = some () from stk_ok (by simp [r00]), Option.bind_some, lt_dec', if_neg (by simp), etaR]) (s0 := []) (by simp)
  rw [this, run_flat]; rfl
theorem set_end {α : Type} (l : List α) (x : α) : (l ++ [x]).set (((l.take l.length).length : Nat) : Int).toNat x = l ++ [x] := by
  rw [List.take_length, Int.toNat_natCast, set_last]
theorem rcnt (hF : Fine u) (o : XApi_Outcome) (mem : List Int) : Loop (fun (s : (XApi_Outcome × XTurneryref2_Run × Int)) => ref2_Do_L3 u s.1 s.2.1 s.2.2) (o, r00 u inp mem [], 0) = some (o, r00 u inp mem (cntS u)) := by
  have h10 := hF.well.ten.2
  have := Loop_run (l := u.Funcs) (τ := XApi_Outcome × XTurneryref2_Run) (S := XApi_Outcome × XTurneryref2_Run × Int) (fun (c : List (List Int)) i => (o, r00 u inp mem c, i)) (fun _ (c : List (List Int)) f => .inr (c ++ [List.replicate f.Blocks.length 0])) (fun c => (o, r00 u inp mem c)) (fun i c => c.length = i) (step := fun s => ref2_Do_L3 u s.1 s.2.1 s.2.2)
    (fun i c hi hI => by
      have hI : c.length = i := hI
      have h40 := (hF.fn i hi).to.1
      refine ⟨?_, by simp [hI]⟩
      show ref2_Do_L3 u o (r00 u inp mem c) i = _
      unfold ref2_Do_L3
      have ha : app (List.take (r00 u inp mem c).Counts.length (r00 u inp mem c).Counts) [List.replicate ((u.Funcs[i].Blocks.length : Int)).toNat (0 : Int)] = some (c ++ [List.replicate u.Funcs[i].Blocks.length 0]) := by
        show app (List.take c.length c) _ = _
        rw [List.take_length, app_ok (by simp; omega)]; simp
      rw [show stk ((r00 u inp mem c).Frames.1, (r00 u inp mem c).Frames.2) = some () from stk_ok (by simp [r00]), Option.bind_some, lt_dec hi, if_pos rfl, idx_lt hi, Option.bind_some, mks_ok (by omega) (by omega), Option.bind_some, ha, Option.bind_some, w64_succ (i := i) (by omega)]
      have e := set_end c (List.replicate u.Funcs[i].Blocks.length (0 : Int))
      show some (Lp.next (o, XTurneryref2_Run.mk u mem inp [] ([], 0) ((c ++ [List.replicate u.Funcs[i].Blocks.length 0]).set (((c.take c.length).length : Nat) : Int).toNat (List.replicate ((u.Funcs[i].Blocks.length : Int)).toNat 0)) (-1) 0 0, ((i + 1 : Nat) : Int))) = _
      rw [show ((u.Funcs[i].Blocks.length : Int)).toNat = u.Funcs[i].Blocks.length from Int.toNat_natCast _, e]; rfl)
    (fun c _ => by
      show ref2_Do_L3 u o (r00 u inp mem c) (u.Funcs.length : Int) = _
      unfold ref2_Do_L3
      rw [show stk ((r00 u inp mem c).Frames.1, (r00 u inp mem c).Frames.2) = some () from stk_ok (by simp [r00]), Option.bind_some, lt_dec', if_neg (by simp), etaR]) (s0 := []) rfl
  rw [this, run_map]; rfl
theorem wcnt (hF : Fine u) (mem : List Int) : Loop (fun (s : (XRun_walker × Int)) => run_Counts_L2 u s.1 s.2) (cvW [] 0 (r00 u inp mem []), 0) = some (cvW (aheT u) 0 (r00 u inp mem (cntS u))) := by
  have h10 := hF.well.ten.2
  have hu := hF.sz.1
  have := Loop_run (l := u.Funcs) (τ := XRun_walker) (S := XRun_walker × Int) (fun (c : List (List (List Int)) × List (List Int)) i => (cvW c.1 0 (r00 u inp mem c.2), i)) (fun _ (c : List (List (List Int)) × List (List Int)) f => .inr (c.1 ++ [(List.range f.Blocks.length).map fun k : Nat => ahS (k : Int) 0 f.Blocks], c.2 ++ [List.replicate f.Blocks.length 0])) (fun c => cvW c.1 0 (r00 u inp mem c.2)) (fun i c => c.1.length = i ∧ c.2.length = i) (step := fun s => run_Counts_L2 u s.1 s.2)
    (fun i c hi hI => by
      obtain ⟨hI1, hI2⟩ := hI
      have h40 := (hF.fn i hi).to.1
      refine ⟨?_, by simp [hI1], by simp [hI2]⟩
      show run_Counts_L2 u (cvW c.1 0 (r00 u inp mem c.2)) i = _
      unfold run_Counts_L2
      have hc := cAhead_eq u i hu
      rw [if_pos (by rw [hF.well.eq]), if_pos (by rw [inb_iff, w64_id (by omega) (by omega)]; omega), idx_lt hi] at hc
      have ha : app (List.take (cvW c.1 0 (r00 u inp mem c.2)).counts.length (cvW c.1 0 (r00 u inp mem c.2)).counts) [List.replicate ((u.Funcs[i].Blocks.length : Int)).toNat (0 : Int)] = some (c.2 ++ [List.replicate u.Funcs[i].Blocks.length 0]) := by
        show app (List.take c.2.length c.2) _ = _
        rw [List.take_length, app_ok (by simp; omega)]; simp
      have hb : ∀ t, app (cvW c.1 0 (r00 u inp mem c.2)).ahead [t] = some (c.1 ++ [t]) := fun t => app_ok (a := c.1) (by simp; omega)
      rw [show stk ((cvW c.1 0 (r00 u inp mem c.2)).frames.1, (cvW c.1 0 (r00 u inp mem c.2)).frames.2) = some () from stk_ok (by simp [cvW, r00]), Option.bind_some, lt_dec hi, if_pos rfl, idx_lt hi, Option.bind_some, hc, Option.bind_some, hb, Option.bind_some, mks_ok (by omega) (by omega), Option.bind_some, ha, Option.bind_some, w64_succ (i := i) (by omega)]
      have e := set_end c.2 (List.replicate u.Funcs[i].Blocks.length (0 : Int))
      show some (Lp.next (XRun_walker.mk u (c.1 ++ [(List.range u.Funcs[i].Blocks.length).map fun k : Nat => ahS (k : Int) 0 u.Funcs[i].Blocks]) mem inp ⟨0, 0, [], 0⟩ ([], 0) ((c.2 ++ [List.replicate u.Funcs[i].Blocks.length 0]).set (((c.2.take c.2.length).length : Nat) : Int).toNat (List.replicate ((u.Funcs[i].Blocks.length : Int)).toNat 0)), ((i + 1 : Nat) : Int))) = _
      rw [show ((u.Funcs[i].Blocks.length : Int)).toNat = u.Funcs[i].Blocks.length from Int.toNat_natCast _, e]; rfl)
    (fun c _ => by
      show run_Counts_L2 u (cvW c.1 0 (r00 u inp mem c.2)) (u.Funcs.length : Int) = _
      unfold run_Counts_L2
      rw [show stk ((cvW c.1 0 (r00 u inp mem c.2)).frames.1, (cvW c.1 0 (r00 u inp mem c.2)).frames.2) = some () from stk_ok (by simp [cvW, r00]), Option.bind_some, lt_dec', if_neg (by simp), etaW]) (s0 := ([], [])) ⟨rfl, rfl⟩
  refine this.trans ?_
  have key : ∀ (l : List XApi_Func) (i : Nat) (a : List (List (List Int))) (b : List (List Int)), run (fun _ (c : List (List (List Int)) × List (List Int)) f => (.inr (c.1 ++ [(List.range f.Blocks.length).map fun k : Nat => ahS (k : Int) 0 f.Blocks], c.2 ++ [List.replicate f.Blocks.length 0]) : XRun_walker ⊕ _)) (fun c => cvW c.1 0 (r00 u inp mem c.2)) i (a, b) l = cvW (a ++ l.map fun f => (List.range f.Blocks.length).map fun k : Nat => ahS (k : Int) 0 f.Blocks) 0 (r00 u inp mem (b ++ l.map fun f => List.replicate f.Blocks.length 0)) := by
    intro l
    induction l with
    | nil => intro i a b; simp [run]
    | cons f l ih => intro i a b; simp only [run]; rw [ih]; simp
  rw [key]; rfl
theorem wmain (u : XApi_Unit) (h : u.Funcs.length ≤ maxLen) : slices_IndexFunc_api_Func_api_Func__f32 u.Funcs = some (mainI u) := by
  have hm := maxLen_big
  unfold slices_IndexFunc_api_Func_api_Func__f32 mainI
  have e : Loop (fun y => slices_IndexFunc_api_Func_api_Func__f32_L1 u.Funcs y) 0 = some (brOf (findI (fun i (f : XApi_Func) => if f.Name.toList == (ByteArray.mk #[109, 97, 105, 110]).toList then some (i : Int) else none) 0 u.Funcs)) := by
    refine Loop_find (l := u.Funcs) _ (fun i h => ?_) ?_
    · unfold slices_IndexFunc_api_Func_api_Func__f32_L1 run_Counts_1
      simp only [lt_dec h, idx_lt h, Option.bind_some, w64_succ (i := i) (by omega), if_true]
      cases (u.Funcs[i].Name.toList == (ByteArray.mk #[109, 97, 105, 110]).toList) <;> rfl
    · unfold slices_IndexFunc_api_Func_api_Func__f32_L1; simp only [lt_dec']; rfl
  rw [e]
  cases findI (fun i (f : XApi_Func) => if f.Name.toList == (ByteArray.mk #[109, 97, 105, 110]).toList then some (i : Int) else none) 0 u.Funcs <;> rfl
def rst (u : XApi_Unit) (inp : List Int) : XTurneryref2_Run := senter (r00 u inp (memS u) (cntS u)) (mainI u) (-1) (fnc u (mainI u)).Regs []
noncomputable def sall (u : XApi_Unit) (inp : List Int) (fuel : Int) : XTurneryref2_Run := srun u fuel.toNat (rst u inp)
def outS (r : XTurneryref2_Run) : XApi_Outcome := ⟨r.State, r.Value, r.Out, r.Steps⟩
theorem rst_inv (hF : Fine u) (hi : inp.length ≤ 30) : Inv u (rst u inp) ∧ ref2_Run_enter (r00 u inp (memS u) (cntS u)) (mainI u) (-1) [] = some (rst u inp) ∧ run_walker_enter (cvW (aheT u) 0 (r00 u inp (memS u) (cntS u))) (mainI u) (-1) [] = some (cvW (aheT u) 0 (rst u inp)) := by
  obtain ⟨k, hk, hm, hp⟩ := hF.well.main
  have F := hF.fn k hk
  have r0 := F.par0; have r1 := F.regs; have r2 := F.regs1
  have hcl : (cntS u).length = u.Funcs.length := by simp [cntS]
  have hcg : ∀ i (h : i < (cntS u).length) (h2 : i < u.Funcs.length), (cntS u)[i].length = u.Funcs[i].Blocks.length := by intro i h h2; simp [cntS]
  have hml : (memS u).length ≤ 2000 := by
    have := flat_len2 gw 200 u.Globals fun g hg => gw_le (globE_ok hF.well.glob g hg)
    have := hF.well.ten.1
    unfold memS; omega
  have e1 : (fnc u (mainI u)).Regs = u.Funcs[k].Regs := by rw [hm, fnc_at hk]
  have hc1 : (mainI u : Int) < (r00 u inp (memS u) (cntS u)).Counts.length := by show mainI u < ((cntS u).length : Int); omega
  have hc2 : 0 < ((r00 u inp (memS u) (cntS u)).Counts.getD (mainI u).toNat []).length := by
    show 0 < ((cntS u).getD (mainI u).toNat []).length
    rw [hm, Int.toNat_natCast, getD_lt (by omega), hcg k (by omega) hk]; exact F.blk1
  have hFi : idx (r00 u inp (memS u) (cntS u)).U.Funcs (mainI u) = some u.Funcs[k] := by show idx u.Funcs _ = _; rw [hm, idx_lt hk]
  unfold rst
  rw [e1]
  refine ⟨?_, ?_, ?_⟩
  · have key : Inv u { r00 u inp (memS u) (cntS u) with Frames := ([⟨mainI u, 0, 0, cpy (List.replicate u.Funcs[k].Regs.toNat 0) [], -1⟩], 1) } := by
      refine ⟨rfl, Nat.le_refl _, by show 1 ≤ 30; omega, Nat.le_refl _, fun i hi hi2 => ?_, fun i hi hi2 => ?_, hml, hi, by simp [r00], hcl, hcg, rfl⟩
      · simp only at hi hi2 ⊢
        obtain rfl : i = 0 := by omega
        refine ⟨k, 0, hk, F.blk1, hm, rfl, Int.le_refl _, by simp, ?_⟩
        simp only [List.getElem_cons_zero, cpy_len, List.length_replicate]; omega
      · simp only at hi hi2; omega
    exact key.bumpI _ _
  · exact renter (by simp [r00]) (by simp [r00]) hFi (by omega) (by omega) (by simp; omega) (by omega) hc1 hc2
  · exact wenter (by simp [r00]) (by simp [r00]) hFi (by omega) (by omega) (by simp; omega) (by omega) hc1 hc2
theorem rst_steps : (rst u inp).Steps = 0 := rfl
theorem all_over (hF : Fine u) (hi : inp.length ≤ 30) {fuel : Int} (h0 : 0 ≤ fuel) (h1 : fuel ≤ 100000) (o : XApi_Outcome) :
    Loop (fun (s : (XApi_Outcome × XTurneryref2_Run)) => ref2_Do_L4 u fuel s.1 s.2) (o, rst u inp) = some (o, sall u inp fuel) ∧ Loop (fun (s : XRun_walker) => run_Counts_L3 fuel s) (cvX u (rst u inp)) = some (cvX u (sall u inp fuel)) ∧ Over (sall u inp fuel) :=
  loops hF o (fuel := fuel) (by omega) fuel.toNat (rst u inp) (rst_inv hF hi).1 (by rw [rst_steps]; omega) (by rw [rst_steps]; omega)
theorem do_eq (hF : Fine u) (hi : inp.length ≤ 30) {fuel : Int} (h0 : 0 ≤ fuel) (h1 : fuel ≤ 100000) : ref2_Do u inp fuel = some ((sall u inp fuel).Counts, outS (sall u inp fuel)) := by
  obtain ⟨l1, l2, l3⟩ := all_over hF hi h0 h1 (XApi_Outcome.mk 0 0 [] 0)
  obtain ⟨i1, i2, i3⟩ := rst_inv hF hi
  unfold ref2_Do
  refine (congrArg (fun x => Option.bind x _) (rmem hF (XApi_Outcome.mk 0 0 [] 0))).trans ?_
  rw [Option.bind_some]
  simp only
  rw [show stk ((r00 u inp (memS u) []).Frames.1, (r00 u inp (memS u) []).Frames.2) = some () from stk_ok (by simp [r00]), Option.bind_some, etaR, rcnt hF, Option.bind_some]
  simp only
  rw [show stk ((r00 u inp (memS u) (cntS u)).Frames.1, (r00 u inp (memS u) (cntS u)).Frames.2) = some () from stk_ok (by simp [r00]), Option.bind_some, etaR, rmain_eq u hF.sz.1.2.1, Option.bind_some, i2, Option.bind_some, stk_r i1.len, Option.bind_some, etaR, l1, Option.bind_some]
  simp only
  rw [stk_r l3.len, Option.bind_some]
  rfl
theorem counts_eq (hu : UOkS u) {fuel : Int} : run_Counts u inp fuel = some (
    if (chk u).Code ≠ 0 then ([], oc0, chk u) else if 30 < inp.length then ([], oc0, ⟨2, -1⟩) else if inb fuel 0 100000 = false then ([], oc0, ⟨3, -1⟩)
    else ((sall u inp fuel).Counts, outS (sall u inp fuel), ⟨0, 0⟩)) := by
  unfold run_Counts
  rw [cCheck_eq u hu.1, Option.bind_some]
  by_cases hc : (chk u).Code = 0
  · have hw := chk_code u hc
    have hF : Fine u := ⟨hw, hu⟩
    rw [hw.eq]
    simp only [beq_self_eq_true, Bool.and_self, Bool.not_true, Bool.false_eq_true, if_false, cin, cfault, Option.bind_some, ne_eq, not_true_eq_false]
    by_cases hi : 30 < inp.length
    · rw [if_pos (by simp; omega), if_pos hi]; rfl
    · rw [if_neg (by simp; omega), if_neg hi]
      cases hb : inb fuel 0 100000 with
      | false => rfl
      | true =>
        have hb' := inb_iff.1 hb
        obtain ⟨l1, l2, l3⟩ := all_over hF (by omega : inp.length ≤ 30) hb'.1 hb'.2 oc0
        obtain ⟨i1, i2, i3⟩ := rst_inv hF (by omega : inp.length ≤ 30)
        simp only [Bool.not_true, Bool.false_eq_true, if_false, Bool.true_eq_false]
        refine (congrArg (fun x => Option.bind x _) (wmem hF)).trans ?_
        rw [Option.bind_some, show stk ((cvW [] 0 (r00 u inp (memS u) [])).frames.1, (cvW [] 0 (r00 u inp (memS u) [])).frames.2) = some () from stk_ok (by simp [cvW, r00]), Option.bind_some, etaW, wcnt hF, Option.bind_some,
          show stk ((cvW (aheT u) 0 (r00 u inp (memS u) (cntS u))).frames.1, (cvW (aheT u) 0 (r00 u inp (memS u) (cntS u))).frames.2) = some () from stk_ok (by simp [cvW, r00]), Option.bind_some, wmain u hu.1.2.1, Option.bind_some, etaW, i3, Option.bind_some, ← i1.cv, l2, Option.bind_some]
        have hs : stk ((cvX u (sall u inp fuel)).frames.1, (cvX u (sall u inp fuel)).frames.2) = some () := stk_ok (by have := l3.len; simpa [cvX, cvW] using this)
        rw [hs, Option.bind_some]
        have e : stt (sall u inp fuel) = (sall u inp fuel).State := by unfold stt; rw [if_neg (by have := l3.st; omega)]
        unfold cvX; rw [e]; rfl
  · have h0 : ((chk u).Code == 0) = false := by simpa using hc
    simp only [h0, Bool.false_and, Bool.not_false, if_true, ne_eq, hc, not_false_eq_true]
    rfl
theorem rundo_eq (hu : UOkS u) {fuel : Int} : run_Do u inp fuel = some (
    if (chk u).Code ≠ 0 then (oc0, chk u) else if 30 < inp.length then (oc0, ⟨2, -1⟩) else if inb fuel 0 100000 = false then (oc0, ⟨3, -1⟩)
    else (outS (sall u inp fuel), ⟨0, 0⟩)) := by
  unfold run_Do
  rw [counts_eq hu, Option.bind_some]
  repeat' split
  all_goals first | rfl | contradiction
end
end Go.Ab
namespace Go.Ab
open Go Go.Proofs
theorem ints_refl {l : List Int} (hl : l.length ≤ maxLen) : same_Ints l l = some true := by
  have hm := maxLen_big
  unfold same_Ints
  simp only [bne_self_eq_false, Bool.false_eq_true, if_false]
  have e : Loop (fun s => same_Ints_L1 l l s) 0 = some (brOf (findI (fun _ _ => (none : Option Bool)) 0 l)) := by
    refine Loop_find (l := l) _ (fun i h => ?_) ?_
    · unfold same_Ints_L1
      simp only [lt_dec h, if_true, idx_lt h, Option.bind_some, bne_self_eq_false, Bool.false_eq_true, if_false, w64_succ (i := i) (by omega)]
    · unfold same_Ints_L1; simp only [lt_dec']; rfl
  have e2 : findI (fun _ _ => (none : Option Bool)) 0 l = none := findI_none fun _ _ _ => rfl
  rw [e, e2]; rfl
theorem rows_refl {l : List (List Int)} (hl : l.length ≤ maxLen) (h : ∀ x ∈ l, x.length ≤ maxLen) : same_Rows l l = some true := by
  have hm := maxLen_big
  unfold same_Rows
  simp only [bne_self_eq_false, Bool.false_eq_true, if_false]
  have e : Loop (fun s => same_Rows_L1 l l s) 0 = some (brOf (findI (fun _ _ => (none : Option Bool)) 0 l)) := by
    refine Loop_find (l := l) _ (fun i hi => ?_) ?_
    · unfold same_Rows_L1
      simp only [lt_dec hi, if_true, idx_lt hi, Option.bind_some, ints_refl (h _ (List.getElem_mem hi)), Bool.not_true, Bool.false_eq_true, if_false, w64_succ (i := i) (by omega)]
    · unfold same_Rows_L1; simp only [lt_dec']; rfl
  have e2 : findI (fun _ _ => (none : Option Bool)) 0 l = none := findI_none fun _ _ _ => rfl
  rw [e, e2]; rfl
theorem outcomes_refl {o : XApi_Outcome} (h : o.Out.length ≤ maxLen) : same_Outcomes o o = some true := by
  unfold same_Outcomes same_Comes
  simp [ints_refl h]
section
variable {u : XApi_Unit} {inp : List Int}
structure CntOk (u : XApi_Unit) (r : XTurneryref2_Run) : Prop where
  n : r.Counts.length = u.Funcs.length
  m : ∀ x ∈ r.Counts, x.length ≤ 40
theorem Inv.cok {r : XTurneryref2_Run} (hF : Fine u) (h : Inv u r) : CntOk u r := by
  refine ⟨h.cnt, fun x hx => ?_⟩
  obtain ⟨i, hi, rfl⟩ := List.getElem_of_mem hx
  have hi2 : i < u.Funcs.length := by rw [← h.cnt]; exact hi
  rw [h.cnts i hi hi2]
  exact (hF.fn i hi2).to.1
theorem sset_counts (r : XTurneryref2_Run) (d n : Int) : (sset r d n).Counts = r.Counts := by unfold sset; split <;> rfl
def Cnts (a b : List (List Int)) : Prop := b = a ∨ ∃ i j, b = bump a i j
theorem send_counts (r : XTurneryref2_Run) (e : XApi_End) : Cnts r.Counts (send u r e).Counts := by
  unfold send
  repeat' split
  all_goals first | exact .inr ⟨_, _, rfl⟩ | exact .inl rfl | exact .inl (sset_counts _ _ _)
theorem sins_counts (r : XTurneryref2_Run) (x : XApi_Ins) : Cnts r.Counts (sins u r x).Counts := by
  unfold sins
  repeat' split
  all_goals first | exact .inl rfl | exact .inl (sset_counts _ _ _) | exact .inr ⟨_, _, rfl⟩
theorem sstep_counts (r : XTurneryref2_Run) : Cnts r.Counts (sstep u r).Counts := by
  unfold sstep
  split
  · exact send_counts _ _
  · exact sins_counts _ _
theorem Cnts.ok {a b : XTurneryref2_Run} (h : Cnts a.Counts b.Counts) (ha : CntOk u a) : CntOk u b := by
  rcases h with h | ⟨i, j, h⟩
  · exact ⟨by rw [h]; exact ha.n, by rw [h]; exact ha.m⟩
  · refine ⟨by rw [h, bump_len]; exact ha.n, fun x hx => ?_⟩
    rw [h] at hx
    obtain ⟨k, hk, rfl⟩ := List.getElem_of_mem hx
    have hk' : k < a.Counts.length := by simpa [bump_len] using hk
    rw [bump_lens _ _ _ _ hk']
    exact ha.m _ (List.getElem_mem _)
theorem srun_cok : ∀ (n : Nat) (r : XTurneryref2_Run), CntOk u r → CntOk u (srun u n r)
  | 0, r, h => ⟨h.n, h.m⟩
  | n + 1, r, h => by
    have h2 := (sstep_counts (u := u) r).ok h
    unfold srun
    split
    · exact srun_cok n _ h2
    · exact h2
theorem sall_cok (hF : Fine u) (hi : inp.length ≤ 30) (fuel : Int) : CntOk u (sall u inp fuel) := srun_cok _ _ ((rst_inv hF hi).1.cok hF)
theorem runSays_eq (hu : UOkS u) (fuel : Int) : law2_RunSays u inp fuel = some true := by
  have hm := maxLen_big
  obtain ⟨b, hb⟩ := vast_some u hu.1
  unfold law2_RunSays
  rw [hb, Option.bind_some]
  by_cases hv : (if b then true else decide (4000 < fuel)) = true
  · rw [if_pos hv]
  rw [if_neg hv, rUnit_eq u hu.1, Option.bind_some]
  have J2 : ∀ y : XApi_Fault, (y = if (chk u).Code ≠ 0 then chk u else if 30 < inp.length then ⟨2, -1⟩ else if inb fuel 0 100000 = false then ⟨3, -1⟩ else ⟨0, 0⟩) → law2_RunSays_J2 u inp fuel y = some true := by
    intro y hy
    unfold law2_RunSays_J2
    have e0 : same_Outcomes oc0 oc0 = some true := outcomes_refl (by simp [oc0])
    have e0' : same_Outcomes oc0 (XApi_Outcome.mk 0 0 [] 0) = some true := e0
    rw [rundo_eq hu, counts_eq hu, Option.bind_some, Option.bind_some]
    by_cases hc : (chk u).Code ≠ 0
    · rw [if_pos hc] at hy ⊢
      rw [if_pos hc]
      subst hy
      have : ((chk u).Code != 0) = true := by simpa using hc
      simp only [beq_self_eq_true, Bool.and_self, Bool.not_true, Bool.false_eq_true, if_false, this, if_true, e0', Option.bind_some, List.length_nil, Int.natCast_zero]
    · rw [if_neg hc] at hy ⊢
      rw [if_neg hc]
      by_cases hi : 30 < inp.length
      · rw [if_pos hi] at hy ⊢
        rw [if_pos hi]
        subst hy
        simp only [beq_self_eq_true, Bool.and_self, Bool.not_true, Bool.false_eq_true, if_false, show ((2 : Int) != 0) = true from rfl, if_true, e0', Option.bind_some, List.length_nil, Int.natCast_zero]
      · rw [if_neg hi] at hy ⊢
        rw [if_neg hi]
        by_cases hf : inb fuel 0 100000 = false
        · rw [if_pos hf] at hy ⊢
          rw [if_pos hf]
          subst hy
          simp only [beq_self_eq_true, Bool.and_self, Bool.not_true, Bool.false_eq_true, if_false, show ((3 : Int) != 0) = true from rfl, if_true, e0', Option.bind_some, List.length_nil, Int.natCast_zero]
        · rw [if_neg hf] at hy ⊢
          rw [if_neg hf]
          subst hy
          have hF : Fine u := ⟨chk_code u (by simpa using hc), hu⟩
          have hf' := inb_iff.1 (by simpa using hf : inb fuel 0 100000 = true)
          have hd := do_eq hF (by omega : inp.length ≤ 30) hf'.1 hf'.2
          have ho := (all_over hF (by omega : inp.length ≤ 30) hf'.1 hf'.2 oc0).2.2
          have hk := sall_cok hF (by omega : inp.length ≤ 30) fuel
          have h10 := hF.well.ten.2
          have s1 : same_Outcomes (outS (sall u inp fuel)) (outS (sall u inp fuel)) = some true := outcomes_refl (by have := ho.out; show (sall u inp fuel).Out.length ≤ maxLen; omega)
          have s2 : same_Rows (sall u inp fuel).Counts (sall u inp fuel).Counts = some true := rows_refl (by have := hk.n; omega) fun x hx => by have := hk.m x hx; omega
          simp only [beq_self_eq_true, Bool.and_self, Bool.not_true, Bool.false_eq_true, if_false, show ((0 : Int) != 0) = false from rfl, if_true, hd, Option.bind_some, s1, s2]
  have J1 : ∀ y : XApi_Fault, (y = if (chk u).Code ≠ 0 then chk u else if 30 < inp.length then ⟨2, -1⟩ else ⟨0, 0⟩) → law2_RunSays_J1 u inp fuel y = some true := by
    intro y hy
    unfold law2_RunSays_J1
    simp only [lin2, sfault, Option.bind_some]
    by_cases hc : (chk u).Code ≠ 0
    · have h0 : ((chk u).Code == 0) = false := by simpa using hc
      rw [if_pos hc] at hy
      subst hy
      rw [h0, if_neg (by decide), Option.bind_some, if_neg (by decide)]
      exact J2 _ (by rw [if_pos hc])
    · rw [if_neg hc] at hy
      by_cases hi : 30 < inp.length
      · rw [if_pos hi] at hy
        subst hy
        rw [if_neg (by decide), Option.bind_some, if_neg (by decide)]
        exact J2 _ (by rw [if_neg hc, if_pos hi])
      · rw [if_neg hi] at hy
        subst hy
        rw [if_pos (by decide), Option.bind_some]
        by_cases hf : inb fuel 0 100000 = false
        · rw [if_pos (by rw [hf]; rfl)]
          exact J2 _ (by rw [if_neg hc, if_neg hi, if_pos hf])
        · have hf' : inb fuel 0 100000 = true := by simpa using hf
          rw [if_neg (by rw [hf']; decide)]
          exact J2 _ (by rw [if_neg hc, if_neg hi, if_neg hf])
  simp only [sfault, Option.bind_some]
  by_cases hc : (chk u).Code ≠ 0
  · have h0 : ((chk u).Code == 0) = false := by simpa using hc
    rw [h0, if_neg (by simp)]
    exact J1 _ (by rw [if_pos hc])
  · have hw := chk_code u (by simpa using hc)
    rw [hw.eq]
    by_cases hi : 30 < inp.length
    · rw [if_pos (by rw [if_pos (by decide)]; simp; omega)]
      exact J1 _ (by rw [if_neg hc, if_pos hi])
    · rw [if_neg (by rw [if_pos (by decide)]; simp; omega)]
      exact J1 _ (by rw [if_neg hc, if_neg hi])
end
end Go.Ab
namespace Go.Ab
open Go Go.Proofs
def small : XApi_Unit := (XApi_Unit.mk [] [(XApi_Func.mk (ByteArray.mk #[109, 97, 105, 110]) 0 0 [(XApi_Block.mk [] [(XApi_Ins.mk 22 (-1) (XApi_Val.mk false 5) (XApi_Val.mk false 0) 0 [])] (XApi_End.mk 1 (XApi_Val.mk false 7) []))])])
theorem small_uok : UOkS small := by
  have hm := maxLen_big
  refine ⟨⟨by simp [small], by simp [small]; omega, by simp [small], fun f hf => ?_⟩, fun f hf b hb => ?_⟩
  · simp only [small, List.mem_singleton] at hf
    subst hf
    refine ⟨by simp; omega, fun b hb => ?_⟩
    simp only [List.mem_singleton] at hb
    subst hb
    refine ⟨by simp, by simp; omega, by simp, fun p hp => by simp at hp, fun x hx => ?_⟩
    simp only [List.mem_singleton] at hx
    subst hx; simp
  · simp only [small, List.mem_singleton] at hf
    subst hf
    simp only [List.mem_singleton] at hb
    subst hb
    simp
theorem small_chk : chk small = ⟨0, 0⟩ := by decide +kernel
theorem small_main : mainI small = 0 := by decide +kernel
theorem small_run : outS (sall small [] 2) = ⟨0, 7, [5], 2⟩ ∧ (sall small [] 2).Counts = [[1]] := by
  have e : rst small [] = ⟨small, [], [], [], ([⟨0, 0, 0, [], -1⟩], 1), [[1]], -1, 0, 0⟩ := by
    unfold rst; rw [small_main]; rfl
  unfold sall
  rw [e]
  exact ⟨rfl, rfl⟩
theorem runFact_eq : law2_runFact = some true := by
  have hm := maxLen_big
  unfold law2_runFact
  have e : law2_small = some small := rfl
  have hb : inb 2 0 100000 = true := by decide
  obtain ⟨s1, s2⟩ := small_run
  have i1 : same_Ints [5] [5] = some true := ints_refl (by simp; omega)
  have i2 : same_Rows [[1]] [[1]] = some true := rows_refl (by simp; omega) (by simp; omega)
  rw [e, Option.bind_some, rundo_eq small_uok, Option.bind_some, Option.bind_some, counts_eq small_uok, Option.bind_some]
  simp [small_chk, hb, s1, s2, i1, i2]
section
variable {u : XApi_Unit} {inp : List Int}
theorem sset_state (r : XTurneryref2_Run) (d n : Int) : (sset r d n).State = r.State := by unfold sset; split <;> rfl
theorem sset_out (r : XTurneryref2_Run) (d n : Int) : (sset r d n).Out = r.Out := by unfold sset; split <;> rfl
theorem send_state (r : XTurneryref2_Run) (e : XApi_End) : (send u r e).State = r.State ∨ (send u r e).State = 0 := by
  unfold send
  repeat' split
  all_goals first | exact .inl rfl | exact .inr rfl | exact .inl (sset_state _ _ _)
theorem sins_state (r : XTurneryref2_Run) (x : XApi_Ins) : (sins u r x).State = r.State ∨ 2 ≤ (sins u r x).State := by
  unfold sins
  repeat' split
  all_goals first | exact .inl rfl | exact .inl (sset_state _ _ _) | exact .inr (by show (2 : Int) ≤ _; simp [sstop])
theorem sstep_state {r : XTurneryref2_Run} (h : r.State = -1) : (sstep u r).State = -1 ∨ (sstep u r).State = 0 ∨ 2 ≤ (sstep u r).State := by
  unfold sstep
  split
  · rcases send_state (u := u) (tick r) (tblk u r).End with e | e
    · exact .inl (e.trans h)
    · exact .inr (.inl e)
  · rcases sins_state (u := u) (atUp (tick r)) ((tblk u r).List.getD (top r).At.toNat in0) with e | e
    · exact .inl (e.trans h)
    · exact .inr (.inr e)
theorem send_out (r : XTurneryref2_Run) (e : XApi_End) : (send u r e).Out = r.Out := by
  unfold send
  repeat' split
  all_goals first | rfl | exact sset_out _ _ _
theorem sins_out (r : XTurneryref2_Run) (x : XApi_Ins) : r.Out <+: (sins u r x).Out := by
  unfold sins
  repeat' split
  all_goals first | exact List.prefix_refl _ | (rw [sset_out]; exact List.prefix_refl _) | exact List.prefix_append _ _
theorem sstep_out (r : XTurneryref2_Run) : r.Out <+: (sstep u r).Out := by
  unfold sstep
  split
  · rw [send_out]; exact List.prefix_refl _
  · exact sins_out (atUp (tick r)) _
theorem srun_succ (n : Nat) (r : XTurneryref2_Run) : srun u (n + 1) r = if (sstep u r).State = -1 then srun u n (sstep u r) else sstep u r := rfl
theorem srun_out : ∀ (n : Nat) (r : XTurneryref2_Run), r.Out <+: (srun u n r).Out
  | 0, r => List.prefix_refl _
  | n + 1, r => by
    unfold srun
    split
    · exact (sstep_out r).trans (srun_out n _)
    · exact sstep_out r
theorem srun_steps : ∀ (n : Nat) (r : XTurneryref2_Run), 0 ≤ r.Steps → r.Steps + n ≤ 1000000000 → r.Steps ≤ (srun u n r).Steps ∧ (srun u n r).Steps ≤ r.Steps + n
  | 0, r, h0, h1 => by show r.Steps ≤ r.Steps ∧ r.Steps ≤ r.Steps + (0 : Nat); omega
  | n + 1, r, h0, h1 => by
    have e := sstep_steps (u := u) r
    rw [w64_id (by omega) (by omega)] at e
    unfold srun
    split
    · have := srun_steps n (sstep u r) (by omega) (by omega)
      omega
    · omega
theorem srun_more : ∀ (n m : Nat) (r : XTurneryref2_Run), (srun u n r).State ≠ 1 → srun u (n + m) r = srun u n r
  | 0, _, r, h => absurd rfl h
  | n + 1, m, r, h => by
    rw [show n + 1 + m = n + m + 1 by omega]
    unfold srun at h ⊢
    split
    · rename_i hs
      rw [if_pos hs] at h
      exact srun_more n m _ h
    · rfl
theorem srun_hungry : ∀ (n : Nat) (r : XTurneryref2_Run), r.State = -1 → 0 ≤ r.Steps → r.Steps + n ≤ 1000000000 → (srun u n r).State = 1 → ∃ r', r'.Steps = r.Steps + n ∧ r'.State = -1 ∧ srun u n r = sstop r' 1 ∧ ∀ m, srun u (n + m) r = srun u m r'
  | 0, r, hs, h0, h1, h => ⟨r, by simp, hs, rfl, fun m => by rw [Nat.zero_add]⟩
  | n + 1, r, hs, h0, h1, h => by
    have e := sstep_steps (u := u) r
    rw [w64_id (by omega) (by omega)] at e
    unfold srun at h
    by_cases hz : (sstep u r).State = -1
    · rw [if_pos hz] at h
      obtain ⟨r', a, b, c, d⟩ := srun_hungry n _ hz (by omega) (by omega) h
      refine ⟨r', by omega, b, ?_, fun m => ?_⟩
      · rw [srun_succ, if_pos hz]; exact c
      · rw [show n + 1 + m = n + m + 1 by omega]
        rw [srun_succ, if_pos hz]; exact d m
    · rw [if_neg hz] at h
      rcases sstep_state (u := u) hs with e | e | e <;> omega
theorem runMore_eq (hu : UOkS u) (a b : Int) : law2_RunMore u inp a b = some true := by
  have hm := maxLen_big
  unfold law2_RunMore
  rw [runFact_eq, Option.bind_some]
  simp only [Bool.not_true, Bool.false_eq_true, if_false, lin2, Option.bind_some]
  by_cases ha : inb a 0 2000 = true
  · rw [ha]
    by_cases hb : inb b 0 2000 = true
    · rw [hb]
      have ha' := inb_iff.1 ha
      have hb' := inb_iff.1 hb
      simp only [Bool.not_true, Bool.false_eq_true, if_false, Option.bind_some]
      rw [w64_id (by omega) (by omega), rundo_eq hu, rundo_eq hu, Option.bind_some, Option.bind_some]
      have i1 : inb a 0 100000 = true := inb_iff.2 (by omega)
      have i2 : inb (a + b) 0 100000 = true := inb_iff.2 (by omega)
      simp only [i1, i2, Bool.true_eq_false, if_false]
      by_cases hc : (chk u).Code ≠ 0
      · simp only [if_pos hc]
        have : ((chk u).Code != 0) = true := by simpa using hc
        simp only [this, if_true, beq_self_eq_true, Bool.and_self]
      · simp only [if_neg hc]
        by_cases hi : 30 < inp.length
        · simp only [if_pos hi]; rfl
        · simp only [if_neg hi]
          have hF : Fine u := ⟨chk_code u (by simpa using hc), hu⟩
          obtain ⟨v1, v2, v3⟩ := rst_inv hF (by omega : inp.length ≤ 30)
          have ho := (all_over hF (by omega : inp.length ≤ 30) ha'.1 (by omega) oc0).2.2
          have ho2 := (all_over hF (by omega : inp.length ≤ 30) (by omega : 0 ≤ a + b) (by omega) oc0).2.2
          have hn : (a + b).toNat = a.toNat + b.toNat := by omega
          by_cases hs : (sall u inp a).State = 1
          · obtain ⟨r', q1, q2, q3, q4⟩ := srun_hungry (u := u) a.toNat (rst u inp) v1.st (by rw [rst_steps]; omega) (by rw [rst_steps]; omega) hs
            rw [rst_steps] at q1
            have e1 : sall u inp a = sstop r' 1 := q3
            have e2 : sall u inp (a + b) = srun u b.toNat r' := by unfold sall; rw [hn]; exact q4 _
            obtain ⟨t, ht⟩ := srun_out (u := u) b.toNat r'
            have hst := srun_steps (u := u) b.toNat r' (by omega) (by omega)
            rw [e2] at ho2 ⊢
            rw [e1] at ho ⊢
            have o1 : (outS (sstop r' 1)).Out = r'.Out := rfl
            have o2 : (outS (srun u b.toNat r')).Out = r'.Out ++ t := ht.symm
            have o3 : (outS (sstop r' 1)).Steps = a := by show r'.Steps = a; omega
            have o4 : (outS (srun u b.toNat r')).Steps = (srun u b.toNat r').Steps := rfl
            have o5 : (outS (sstop r' 1)).State = 1 := rfl
            have hsl : slc (r'.Out ++ t) none (some (r'.Out.length : Int)) = some r'.Out := by
              unfold slc bounds
              simp only [Option.map_some, Option.map_none]
              rw [if_pos (by simp; omega)]
              simp
            have hlen : r'.Out.length ≤ maxLen := by have : (sstop r' 1).Out.length ≤ 200 := ho.out; have : r'.Out.length ≤ 200 := this; omega
            rw [o1, o2, o3, o4, o5, hsl]
            simp only [bne_self_eq_false, Bool.false_eq_true, if_false, beq_self_eq_true, if_true, Option.bind_some, ints_refl hlen]
            rw [if_pos (by simp; omega)]
            rfl
          · have e2 : sall u inp (a + b) = sall u inp a := by unfold sall; rw [hn]; exact srun_more _ _ _ hs
            rw [e2]
            have o5 : ((outS (sall u inp a)).State != 1) = true := by show ((sall u inp a).State != 1) = true; simpa using hs
            have s1 : same_Outcomes (outS (sall u inp a)) (outS (sall u inp a)) = some true := outcomes_refl (by have := ho.out; show (sall u inp a).Out.length ≤ maxLen; omega)
            rw [o5, s1]
            rfl
    · have : inb b 0 2000 = false := by simpa using hb
      rw [this]; rfl
  · have : inb a 0 2000 = false := by simpa using ha
    rw [this]; rfl
end
end Go.Ab
namespace Go.Ab
open Go
def cnt (C : List (List Int)) (k i : Nat) : Int := (C.getD k []).getD i 0
def stn (P : List (Int × Int)) (k i : Nat) : Int := (P.countP fun p => p.1 == (k : Int) && p.2 == (i : Int) : Nat)
def isRet (u : XApi_Unit) (k i : Int) : Bool := (ublk u k i).End.To.isEmpty
def nrt (u : XApi_Unit) (P : List (Int × Int)) (k : Nat) : Int := (P.countP fun p => p.1 == (k : Int) && !isRet u p.1 p.2 : Nat)
def ends (u : XApi_Unit) (C : List (List Int)) (k : Nat) : Nat → Int
  | 0 => 0
  | n + 1 => ends u C k n + if isRet u k n = true then cnt C k n else 0
def sumL (f : Nat → Int) (l : List Int) : Int := (l.map fun j => f j.toNat).sum
def hit (a b c d : Nat) : Int := if a = c ∧ b = d then 1 else 0
theorem sumL_nil (f : Nat → Int) : sumL f [] = 0 := rfl
theorem sumL_cons (f : Nat → Int) (x : Int) (l : List Int) : sumL f (x :: l) = f x.toNat + sumL f l := by simp [sumL]
theorem sumL_append (f : Nat → Int) (a b : List Int) : sumL f (a ++ b) = sumL f a + sumL f b := by simp [sumL]
theorem sumL_le {f g : Nat → Int} : ∀ {l : List Int}, (∀ x ∈ l, f x.toNat ≤ g x.toNat) → sumL f l ≤ sumL g l
  | [], _ => by simp [sumL_nil]
  | x :: l, h => by
    rw [sumL_cons, sumL_cons]
    have := h x (by simp)
    have := sumL_le (l := l) fun y hy => h y (by simp [hy])
    omega
theorem sumL_eq {f g : Nat → Int} : ∀ {l : List Int}, (∀ x ∈ l, f x.toNat = g x.toNat) → sumL f l = sumL g l
  | [], _ => rfl
  | x :: l, h => by
    rw [sumL_cons, sumL_cons, h x (by simp), sumL_eq (l := l) fun y hy => h y (by simp [hy])]
theorem sumL_hit {f g : Nat → Int} {j : Nat} : ∀ {l : List Int}, (∀ x ∈ l, 0 ≤ x) → (∀ i, g i = f i + if i = j then 1 else 0) → sumL g l = sumL f l + (l.count (j : Int) : Nat)
  | [], _, _ => by simp [sumL_nil]
  | x :: l, h, e => by
    rw [sumL_cons, sumL_cons, sumL_hit (l := l) (fun y hy => h y (by simp [hy])) e, e, List.count_cons]
    have := h x (by simp)
    by_cases hx : x = j
    · rw [if_pos (by omega), if_pos (by simpa using hx)]; push_cast; omega
    · rw [if_neg (by omega), if_neg (by simpa using hx)]; push_cast; omega
theorem cnt_bump {C : List (List Int)} {a b : Nat} (ha : a < C.length) (hb : b < C[a].length) (h0 : 0 ≤ cnt C a b) (h1 : cnt C a b ≤ 1000000000) (k i : Nat) :
    cnt (bump C a b) k i = cnt C k i + hit a b k i := by
  have e : w64 (cnt C a b + 1) = cnt C a b + 1 := w64_id (by omega) (by omega)
  unfold cnt at e ⊢
  unfold bump hit
  rw [Int.toNat_natCast, Int.toNat_natCast, e]
  have eg : ∀ {α : Type} (l : List α) (i j : Nat) (x d : α), (l.set i x).getD j d = if i = j ∧ i < l.length then x else l.getD j d := by
    intro α l i j x d
    simp only [List.getD_eq_getElem?_getD, List.getElem?_set]
    by_cases hij : i = j
    · subst hij
      by_cases hi : i < l.length
      · simp [hi]
      · simp [hi]
    · simp [hij]
  rw [eg]
  by_cases hk : a = k
  · subst hk
    rw [if_pos ⟨rfl, ha⟩, eg]
    by_cases hi : b = i
    · subst hi
      rw [if_pos ⟨rfl, by rw [getD_lt ha]; exact hb⟩, if_pos ⟨rfl, rfl⟩]
    · rw [if_neg (by simp [hi]), if_neg (by simp [hi])]; omega
  · rw [if_neg (by simp [hk]), if_neg (by simp [hk])]; omega
theorem stn_append (P Q : List (Int × Int)) (k i : Nat) : stn (P ++ Q) k i = stn P k i + stn Q k i := by simp [stn]
theorem stn_one (a b k i : Nat) : stn [((a : Int), (b : Int))] k i = hit a b k i := by
  unfold stn hit
  rw [List.countP_singleton]
  by_cases h : a = k ∧ b = i
  · obtain ⟨rfl, rfl⟩ := h; simp
  · rw [if_neg h, if_neg (by simp only [Bool.and_eq_true, beq_iff_eq]; omega)]; rfl
theorem nrt_append (u : XApi_Unit) (P Q : List (Int × Int)) (k : Nat) : nrt u (P ++ Q) k = nrt u P k + nrt u Q k := by simp [nrt]
theorem nrt_one (u : XApi_Unit) (a b k : Nat) : nrt u [((a : Int), (b : Int))] k = if a = k ∧ isRet u a b = false then 1 else 0 := by
  unfold nrt
  rw [List.countP_singleton]
  by_cases h : a = k ∧ isRet u a b = false
  · obtain ⟨rfl, e⟩ := h; simp [e]
  · rw [if_neg h, if_neg (by simp only [Bool.and_eq_true, beq_iff_eq, Bool.not_eq_true']; rintro ⟨h1, h2⟩; exact h ⟨by omega, h2⟩)]; rfl
theorem ends_bump {u : XApi_Unit} {C C' : List (List Int)} {a b : Nat} (h : ∀ k i, cnt C' k i = cnt C k i + hit a b k i) (k : Nat) : ∀ n, ends u C' k n = ends u C k n + if a = k ∧ b < n ∧ isRet u a b = true then 1 else 0
  | 0 => by simp [ends]
  | n + 1 => by
    have ih := ends_bump (u := u) h k n
    unfold ends
    rw [ih, h]
    unfold hit
    by_cases ha : a = k
    · subst ha
      by_cases hb : b = n
      · subst hb
        cases hr : isRet u a b <;> simp
        omega
      · by_cases hlt : b < n
        · have : b < n + 1 := by omega
          simp only [hlt, this, hb, and_false, if_false, true_and]
          split <;> split <;> omega
        · have : ¬ b < n + 1 := by omega
          simp only [hlt, this, hb, and_false, if_false, true_and, false_and]
          split <;> omega
    · simp only [ha, false_and, if_false]
      split <;> omega
theorem count_ah1 (k i : Int) (l : List Int) (x : Int) : (ah1 k i l).count x = if x = i then l.count k else 0 := by
  induction l with
  | nil => simp [ah1]
  | cons a l ih =>
    rw [ah1_cons, List.count_append, ih, List.count_cons]
    by_cases hx : x = i
    · subst hx
      by_cases ha : a = k
      · simp [ha]; omega
      · simp [ha]
    · have hx' : ¬ i = x := fun e => hx e.symm
      rw [if_neg hx, if_neg hx]
      split <;> simp [hx']
theorem count_ahS (k : Int) : ∀ (l : List XApi_Block) (i j : Nat) (hj : j < l.length), (ahS k i l).count ((i + j : Nat) : Int) = l[j].End.To.count k
  | [], _, _, h => by simp at h
  | b :: l, i, 0, _ => by
    rw [ahS, List.count_append, count_ah1]
    have : (ahS k (i + 1) l).count ((i + 0 : Nat) : Int) = 0 := by
      rw [List.count_eq_zero]
      intro hm
      obtain ⟨j, hj, e, _⟩ := ahS_mem hm
      omega
    rw [this]; simp
  | b :: l, i, j + 1, hj => by
    rw [ahS, List.count_append, count_ah1, if_neg (by omega)]
    have := count_ahS k l (i + 1) j (by simpa using hj)
    rw [show i + (j + 1) = i + 1 + j by omega, this]; simp
inductive Move (u : XApi_Unit) : List (List Int) → List (Int × Int) → List (List Int) → List (Int × Int) → Prop
  | same (C P) : Move u C P C P
  | jump (C P) (i j k : Nat) (hi : i < u.Funcs.length) (hj : j < u.Funcs[i].Blocks.length) (hk : k < u.Funcs[i].Blocks.length) (h1 : 1 ≤ k) (hm : (k : Int) ∈ u.Funcs[i].Blocks[j].End.To) : Move u C (P ++ [((i : Int), (j : Int))]) (bump C i k) (P ++ [((i : Int), (k : Int))])
  | call (C P) (i : Nat) (hi : i < u.Funcs.length) : Move u C P (bump C i ((0 : Nat) : Int)) (P ++ [((i : Int), ((0 : Nat) : Int))])
  | ret (C P) (i j : Nat) (hi : i < u.Funcs.length) (hj : j < u.Funcs[i].Blocks.length) (hr : u.Funcs[i].Blocks[j].End.To = []) : Move u C (P ++ [((i : Int), (j : Int))]) C P
structure CI (u : XApi_Unit) (n : Int) (C : List (List Int)) (P : List (Int × Int)) : Prop where
  len : C.length = u.Funcs.length
  lens : ∀ i (h : i < C.length) (h2 : i < u.Funcs.length), C[i].length = u.Funcs[i].Blocks.length
  pos : ∀ k i, 0 ≤ cnt C k i ∧ cnt C k i ≤ n
  flow : ∀ k (hk : k < u.Funcs.length) i, 1 ≤ i → i < u.Funcs[k].Blocks.length → cnt C k i ≤ sumL (fun j => cnt C k j - stn P k j) (ahS (i : Int) 0 u.Funcs[k].Blocks)
  same : ∀ k (hk : k < u.Funcs.length) i, 1 ≤ i → i < u.Funcs[k].Blocks.length → (∀ j ∈ ahS (i : Int) 0 u.Funcs[k].Blocks, (ublk u k j).End.To = [(i : Int)]) → cnt C k i = sumL (fun j => cnt C k j - stn P k j) (ahS (i : Int) 0 u.Funcs[k].Blocks)
  open_ : ∀ k (hk : k < u.Funcs.length), cnt C k 0 = ends u C k u.Funcs[k].Blocks.length + nrt u P k
theorem CI.more {u : XApi_Unit} {n m : Int} {C P} (h : CI u n C P) (hm : n ≤ m) : CI u m C P := ⟨h.len, h.lens, fun k i => ⟨(h.pos k i).1, by have := (h.pos k i).2; omega⟩, h.flow, h.same, h.open_⟩
theorem isRet_at {u : XApi_Unit} {i j : Nat} (hi : i < u.Funcs.length) (hj : j < u.Funcs[i].Blocks.length) : isRet u i j = u.Funcs[i].Blocks[j].End.To.isEmpty := by
  unfold isRet; rw [ublk_at hi hj]
theorem ahS_pos {k x : Int} {l : List XApi_Block} (h : x ∈ ahS k 0 l) : 0 ≤ x := by obtain ⟨j, hj, e, _⟩ := ahS_mem h; omega
theorem CI.move {u : XApi_Unit} (hF : Fine u) {n : Int} {C P C' P'} (h : CI u n C P) (hn0 : 0 ≤ n) (hn : n ≤ 1000000) (m : Move u C P C' P') : CI u (n + 1) C' P' := by
  cases m with
  | same => exact h.more (by omega)
  | jump P a b c ha hb hc h1 hm =>
    have hC : a < C.length := by rw [h.len]; exact ha
    have hcl : c < C[a].length := by rw [h.lens a hC ha]; exact hc
    have ec := cnt_bump hC hcl (h.pos a c).1 (by have := (h.pos a c).2; omega)
    have eD : ∀ k j, cnt (bump C a c) k j - stn (P ++ [((a : Int), (c : Int))]) k j = cnt C k j - stn (P ++ [((a : Int), (b : Int))]) k j + hit a b k j := by
      intro k j
      rw [ec, stn_append, stn_append, stn_one, stn_one]; omega
    have eS : ∀ k i, sumL (fun j => cnt (bump C a c) k j - stn (P ++ [((a : Int), (c : Int))]) k j) (ahS (i : Int) 0 (u.Funcs.getD k fc0).Blocks) = sumL (fun j => cnt C k j - stn (P ++ [((a : Int), (b : Int))]) k j) (ahS (i : Int) 0 (u.Funcs.getD k fc0).Blocks) + if a = k then (((ahS (i : Int) 0 (u.Funcs.getD k fc0).Blocks).count (b : Int) : Nat) : Int) else 0 := by
      intro k i
      by_cases hk : a = k
      · subst hk
        rw [if_pos rfl]
        refine sumL_hit (fun x hx => ahS_pos hx) fun j => ?_
        rw [eD]; unfold hit
        by_cases hj : b = j
        · subst hj; simp
        · rw [if_neg (by simp [hj]), if_neg (by omega)]
      · rw [if_neg hk, Int.add_zero]
        refine sumL_eq fun x _ => ?_
        show cnt (bump C a c) k x.toNat - stn (P ++ [((a : Int), (c : Int))]) k x.toNat = cnt C k x.toNat - stn (P ++ [((a : Int), (b : Int))]) k x.toNat
        rw [eD]; unfold hit; rw [if_neg (by simp [hk])]; omega
    have cb : ∀ i : Int, (ahS i 0 u.Funcs[a].Blocks).count (b : Int) = u.Funcs[a].Blocks[b].End.To.count i := by
      intro i
      have := count_ahS i u.Funcs[a].Blocks 0 b hb
      simpa using this
    refine ⟨by rw [bump_len]; exact h.len, fun k hk h2 => ?_, fun k i => ?_, fun k hk i hi hi2 => ?_, fun k hk i hi hi2 hj => ?_, fun k hk => ?_⟩
    · have hk' : k < C.length := by simpa [bump_len] using hk
      rw [bump_lens _ _ _ _ hk']; exact h.lens k hk' h2
    · have := h.pos k i
      rw [ec]; unfold hit; split <;> omega
    · have h0 := h.flow k hk i hi hi2
      have e := eS k i
      rw [getD_lt hk] at e
      rw [e, ec]
      by_cases hak : a = k
      · subst hak
        rw [if_pos rfl, cb]
        unfold hit
        by_cases hci : c = i
        · subst hci
          have : 0 < u.Funcs[a].Blocks[b].End.To.count (c : Int) := List.count_pos_iff.2 hm
          simp only [and_self, if_true]; omega
        · simp only [hci, and_false, if_false]; omega
      · unfold hit
        simp only [hak, false_and, if_false]; omega
    · have h0 := h.same k hk i hi hi2 hj
      have e := eS k i
      rw [getD_lt hk] at e
      rw [e, ec, h0]
      by_cases hak : a = k
      · subst hak
        rw [if_pos rfl, cb]
        unfold hit
        by_cases hbm : (b : Int) ∈ ahS (i : Int) 0 u.Funcs[a].Blocks
        · have hto := hj b hbm
          rw [ublk_at ha hb] at hto
          rw [hto] at hm ⊢
          have hci : c = i := by rw [List.mem_singleton] at hm; omega
          subst hci
          simp
        · have hz : (ahS (i : Int) 0 u.Funcs[a].Blocks).count (b : Int) = 0 := List.count_eq_zero.2 hbm
          rw [cb] at hz
          have hci : ¬ c = i := by
            intro e
            subst e
            exact absurd hm (List.count_eq_zero.1 hz)
          rw [hz]
          simp [hci]
      · unfold hit
        simp only [hak, false_and, if_false]
    · have h0 := h.open_ k hk
      have e := ends_bump (u := u) (C := C) (C' := bump C a c) ec k u.Funcs[k].Blocks.length
      rw [e, ec, h0, nrt_append, nrt_append, nrt_one, nrt_one]
      have hb0 : isRet u a b = false := by
        rw [isRet_at ha hb]
        cases ht : u.Funcs[a].Blocks[b].End.To with
        | nil => rw [ht] at hm; simp at hm
        | cons => rfl
      unfold hit
      by_cases hak : a = k
      · subst hak
        simp only [hb0, hc, true_and, and_self, if_true]
        rw [if_neg (by omega : ¬ c = 0)]
        cases isRet u a c <;> simp
        omega
      · simp only [hak, false_and, if_false]; omega
  | call _ a ha =>
    have F := hF.fn a ha
    have hC : a < C.length := by rw [h.len]; exact ha
    have hcl : 0 < C[a].length := by rw [h.lens a hC ha]; exact F.blk1
    have ec := cnt_bump hC hcl (h.pos a 0).1 (by have := (h.pos a 0).2; omega)
    have eD : ∀ k, (fun j => cnt (bump C a ((0 : Nat) : Int)) k j - stn (P ++ [((a : Int), ((0 : Nat) : Int))]) k j) = fun j => cnt C k j - stn P k j := by
      intro k; funext j
      rw [ec, stn_append, stn_one]; omega
    have hz : ∀ k i, 1 ≤ i → cnt (bump C a ((0 : Nat) : Int)) k i = cnt C k i := by
      intro k i hi
      rw [ec]; unfold hit; rw [if_neg (by omega)]; omega
    refine ⟨by rw [bump_len]; exact h.len, fun k hk h2 => ?_, fun k i => ?_, fun k hk i hi hi2 => ?_, fun k hk i hi hi2 hj => ?_, fun k hk => ?_⟩
    · have hk' : k < C.length := by simpa [bump_len] using hk
      rw [bump_lens _ _ _ _ hk']; exact h.lens k hk' h2
    · have := h.pos k i
      rw [ec]; unfold hit; split <;> omega
    · rw [eD, hz _ _ hi]; exact h.flow k hk i hi hi2
    · rw [eD, hz _ _ hi]; exact h.same k hk i hi hi2 hj
    · have h0 := h.open_ k hk
      have e := ends_bump (u := u) (C := C) (C' := bump C a ((0 : Nat) : Int)) ec k u.Funcs[k].Blocks.length
      have hb1 : 0 < u.Funcs[k].Blocks.length := (hF.fn k hk).blk1
      rw [e, ec, h0, nrt_append, nrt_one]
      unfold hit
      by_cases hak : a = k
      · subst hak
        simp only [hb1, true_and, and_self, if_true]
        cases isRet u a (0 : Nat) <;> simp <;> omega
      · simp only [hak, false_and, if_false]; omega
  | ret _ a b ha hb hr =>
    have cb : ∀ i : Int, (ahS i 0 u.Funcs[a].Blocks).count (b : Int) = 0 := by
      intro i
      have := count_ahS i u.Funcs[a].Blocks 0 b hb
      rw [hr] at this
      simpa using this
    have eS : ∀ k (hk : k < u.Funcs.length) (i : Int), sumL (fun j => cnt C k j - stn P' k j) (ahS i 0 u.Funcs[k].Blocks) = sumL (fun j => cnt C k j - stn (P' ++ [((a : Int), (b : Int))]) k j) (ahS i 0 u.Funcs[k].Blocks) := by
      intro k hk i
      refine sumL_eq fun x hx => ?_
      show cnt C k x.toNat - stn P' k x.toNat = cnt C k x.toNat - stn (P' ++ [((a : Int), (b : Int))]) k x.toNat
      rw [stn_append, stn_one]
      unfold hit
      rw [if_neg]
      · omega
      · rintro ⟨rfl, e⟩
        have h1 := List.count_eq_zero.1 (cb i)
        have h0 := ahS_pos hx
        exact h1 (by rw [show (b : Int) = x by omega]; exact hx)
    refine ⟨h.len, h.lens, fun k i => ?_, fun k hk i hi hi2 => ?_, fun k hk i hi hi2 hj => ?_, fun k hk => ?_⟩
    · have := h.pos k i; omega
    · rw [eS k hk]; exact h.flow k hk i hi hi2
    · rw [eS k hk]; exact h.same k hk i hi hi2 hj
    · have h0 := h.open_ k hk
      have hb0 : isRet u a b = true := by rw [isRet_at ha hb, hr]; rfl
      rw [h0, nrt_append, nrt_one, hb0]
      simp
end Go.Ab
namespace Go.Ab
open Go
theorem Loop_st {S τ : Type} {step : S → Option (Lp S τ)} (st : Nat → S) (n : Nat) (h : ∀ i, i < n → step (st i) = some (.next (st (i + 1)))) {o : τ} (he : step (st n) = some (.out o)) : Loop step (st 0) = some o := by
  have key : ∀ k i, n - i = k → i ≤ n → Loop step (st i) = some o := by
    intro k
    induction k with
    | zero => intro i hk hi; obtain rfl : i = n := by omega
              rw [Loop_eq, he]; rfl
    | succ k ih => intro i hk hi; rw [Loop_eq, h i (by omega)]; exact ih (i + 1) (by omega) (by omega)
  exact key n 0 (by omega) (by omega)
def pairs (r : XTurneryref2_Run) : List (Int × Int) := (r.Frames.1.take r.Frames.2).map fun f => (f.Fn, f.Block)
section
variable {u : XApi_Unit} {r : XTurneryref2_Run}
theorem pairs_of {a b : XTurneryref2_Run} (h : a.Frames = b.Frames) : pairs a = pairs b := by unfold pairs; rw [h]
theorem pairs_top (h : FInv r) : pairs r = pairs (spop r) ++ [((top r).Fn, (top r).Block)] := by
  have h1 := h.pos; have h2 := h.len
  unfold pairs spop
  simp only
  have e : r.Frames.2 = r.Frames.2 - 1 + 1 := by omega
  rw [show List.take r.Frames.2 r.Frames.1 = List.take (r.Frames.2 - 1 + 1) r.Frames.1 by rw [← e], List.take_add_one, List.map_append, List.getElem?_eq_getElem (by omega), h.top_eq]
  rfl
theorem pairs_setTop (h : FInv r) (f : XTurneryref2_Frame) : pairs (setTop r f) = pairs (spop r) ++ [(f.Fn, f.Block)] := by
  rw [pairs_top (h.setTop f), top_setTop h]
  congr 1
  unfold pairs spop setTop
  simp only
  rw [List.take_set_of_le (by omega)]
theorem pairs_sset (h : FInv r) (d n : Int) : pairs (sset r d n) = pairs r := by
  unfold sset
  split
  · rw [pairs_setTop h, pairs_top h]
  · rfl
theorem pairs_len (h : r.Frames.2 ≤ 30) : (pairs r).length ≤ 30 := by
  unfold pairs
  rw [List.length_map, List.length_take]; omega
theorem pairs_senter (h : r.Frames.2 ≤ r.Frames.1.length) (fn dst regs : Int) (args : List Int) : pairs (senter r fn dst regs args) = pairs r ++ [(fn, 0)] := by
  unfold pairs senter
  simp only
  rw [List.take_of_length_le (by simp only [List.length_append, List.length_take, List.length_cons, List.length_nil]; omega), List.map_append]
  rfl
theorem sset_frames (r : XTurneryref2_Run) (d n : Int) : (sset r d n).Frames.2 = r.Frames.2 := by unfold sset; split <;> rfl
theorem sto_move (hI : Inv u r) {a : Int} {i j k : Nat} (h : JOk u r a i j k) (h1 : 1 ≤ k) : Move u r.Counts (pairs r) (sto u r a).Counts (pairs (sto u r a)) := by
  have e : pairs (sto u r a) = pairs (spop r) ++ [((top r).Fn, a)] := by
    unfold sto sjump
    exact pairs_setTop hI.f _
  have ec : (sto u r a).Counts = bump r.Counts (top r).Fn a := rfl
  rw [e, ec, pairs_top hI.f, h.fn, h.bk, h.to]
  exact Move.jump _ _ i j k h.hi h.hj h.hk h1 h.mem
theorem send_move (hF : Fine u) (hI : Inv u r) : Move u r.Counts (pairs r) (send u r (tblk u r).End).Counts (pairs (send u r (tblk u r).End)) ∧ ((send u r (tblk u r).End).State = 0 → pairs (send u r (tblk u r).End) = []) := by
  obtain ⟨i, j, H, ha0, ha1⟩ := hI.here
  have F := hF.fn i H.hi
  have hi := H.hi; have hj := H.hj
  have B := F.blk j H.hj
  obtain ⟨hon, hk⟩ := end_ok B.fin F.to.1
  have ht := H.tblk
  rw [← H.tblk] at hon hk
  have jmp : ∀ a : Int, 1 ≤ a → a < (u.Funcs[i]'H.hi).Blocks.length → a ∈ (tblk u r).End.To → Move u r.Counts (pairs r) (sto u r a).Counts (pairs (sto u r a)) := fun a h1 h2 h3 => sto_move hI (H.jok h1 h2 h3) (by omega)
  have nos : ∀ a, (sto u r a).State = 0 → pairs (sto u r a) = [] := fun a h => by
    have : (sto u r a).State = r.State := rfl
    rw [this, hI.st] at h; omega
  rcases hk with ⟨hk, hto⟩ | ⟨hk, a, hto, h1, h2⟩ | ⟨hk, a, c, hto, hac, h1, h2, h3, h4⟩
  · have hs : send u r (tblk u r).End = if r.Frames.2 = 1 then { spop r with Value := sget r (tblk u r).End.On, State := 0 } else sset (spop r) (top r).Dst (sget r (tblk u r).End.On) := by
      unfold send; rw [if_neg (by omega), if_neg (by omega)]
    have hm : Move u r.Counts (pairs r) r.Counts (pairs (spop r)) := by
      rw [pairs_top hI.f, H.fn, H.bk]
      exact Move.ret _ _ i j H.hi H.hj (by rw [← H.tblk]; exact hto)
    rw [hs]
    by_cases h1 : r.Frames.2 = 1
    · rw [if_pos h1]
      refine ⟨hm, fun _ => ?_⟩
      have : pairs { spop r with Value := sget r (tblk u r).End.On, State := 0 } = pairs (spop r) := rfl
      rw [this]
      unfold pairs spop
      simp [h1]
    · rw [if_neg h1]
      have hp : 1 < r.Frames.2 := by have := hI.pos; omega
      have hIp := hI.popI hp
      refine ⟨?_, fun h => ?_⟩
      · rw [sset_counts, pairs_sset hIp.f]; exact hm
      · rw [sset_state] at h
        have : (spop r).State = r.State := rfl
        rw [this, hI.st] at h; omega
  · have hs : send u r (tblk u r).End = sto u r a := by unfold send; rw [if_pos hk, hto]; rfl
    rw [hs]
    exact ⟨jmp a h1 h2 (by simp [hto]), nos a⟩
  · by_cases hz : sget r (tblk u r).End.On = 0
    · have hs : send u r (tblk u r).End = sto u r c := by unfold send; rw [if_neg (by omega), if_pos hk, if_neg (by simpa using hz), hto]; rfl
      rw [hs]
      exact ⟨jmp c h3 h4 (by simp [hto]), nos c⟩
    · have hs : send u r (tblk u r).End = sto u r a := by unfold send; rw [if_neg (by omega), if_pos hk, if_pos hz, hto]; rfl
      rw [hs]
      exact ⟨jmp a h1 h2 (by simp [hto]), nos a⟩
theorem sins_move (hI : Inv u r) {f : XApi_Func} {x : XApi_Ins} (hx : InOk u f x) : Move u r.Counts (pairs r) (sins u r x).Counts (pairs (sins u r x)) := by
  have h0 : Move u r.Counts (pairs r) r.Counts (pairs r) := Move.same _ _
  have hs : ∀ d n, Move u r.Counts (pairs r) (sset r d n).Counts (pairs (sset r d n)) := fun d n => by rw [sset_counts, pairs_sset hI.f]; exact h0
  unfold sins
  split
  · split
    · split
      · exact h0
      · exact hs _ _
    · exact h0
  split
  · rename_i h20
    split
    · exact h0
    · obtain ⟨g, hg, _⟩ := hx.call h20
      obtain ⟨k, hk, e, _⟩ := idx_some hg
      rw [pairs_senter hI.len, e]
      exact Move.call _ _ k hk
  split
  · have hI2 := hI.withInp r.Input.tail (by simp)
    rw [sset_counts, pairs_sset hI2.f]
    exact h0
  split
  · split
    · exact h0
    · exact h0
  split
  · exact hs _ _
  · exact h0
theorem sstep_move (hF : Fine u) (hI : Inv u r) : Move u r.Counts (pairs r) (sstep u r).Counts (pairs (sstep u r)) ∧ ((sstep u r).State = 0 → pairs (sstep u r) = []) := by
  obtain ⟨i, j, H, ha0, ha1⟩ := hI.here
  have hi := H.hi; have hj := H.hj
  have F := hF.fn i H.hi
  have B := F.blk j H.hj
  unfold sstep
  split
  · have := send_move hF hI.tickI
    exact this
  · rename_i hne
    have hat : (top r).At.toNat < (tblk u r).List.length := by omega
    have hmem : (tblk u r).List.getD (top r).At.toNat in0 ∈ (u.Funcs[i]'H.hi).Blocks[j].List := by
      rw [getD_lt hat, H.tblk.symm]; exact List.getElem_mem hat
    have hx := ins_ok hF.well.ten.2 (by have := F.par0; have := F.regs; omega) F.regs1 (B.ins _ hmem)
    have hat2 : (top r).At + 1 ≤ (u.Funcs[i]'H.hi).Blocks[j].List.length := by rw [← H.tblk]; omega
    have hIt : Inv u (atUp (tick r)) := hI.tickI.topI (f := { top (tick r) with At := (top (tick r)).At + 1 }) ⟨i, j, H.hi, H.hj, H.fn, H.bk, by show 0 ≤ (top r).At + 1; omega, hat2, H.regs⟩ rfl rfl
    have hm := sins_move hIt hx
    have ep : pairs (atUp (tick r)) = pairs r := by
      unfold atUp
      rw [pairs_setTop hI.tickI.f]
      exact (pairs_top hI.f).symm
    rw [ep] at hm
    refine ⟨hm, fun hz => ?_⟩
    rcases sins_state (u := u) (atUp (tick r)) ((tblk u r).List.getD (top r).At.toNat in0) with e | e
    · rw [hIt.st] at e; omega
    · omega
theorem sstep_fr (h : r.Frames.2 ≤ 30) : (sstep u r).Frames.2 ≤ 30 := by
  have h1 : (tick r).Frames.2 ≤ 30 := h
  have h2 : (atUp (tick r)).Frames.2 ≤ 30 := h
  unfold sstep
  split
  · unfold send
    repeat' split
    all_goals first | exact h1 | (show r.Frames.2 - 1 ≤ 30; omega) | (rw [sset_frames]; show r.Frames.2 - 1 ≤ 30; omega)
  · unfold sins
    repeat' split
    all_goals first
      | exact h2
      | (rw [sset_frames]; exact h2)
      | (rename_i hne; show r.Frames.2 + 1 ≤ 30; have : ¬ r.Frames.2 = 30 := hne; omega)
structure FinC (u : XApi_Unit) (n : Int) (r : XTurneryref2_Run) : Prop where
  ci : CI u n r.Counts (pairs r)
  done : r.State = 0 → pairs r = []
  fr : (pairs r).length ≤ 30
theorem srun_fin (hF : Fine u) : ∀ (n : Nat) (r : XTurneryref2_Run) (m : Int), Inv u r → 0 ≤ m → m + n ≤ 100000 → CI u m r.Counts (pairs r) → FinC u (m + n) (srun u n r)
  | 0, r, m, hI, h0, h1, hC => ⟨hC.more (by omega), fun h => absurd h (by show ¬ (1 : Int) = 0; omega), pairs_len hI.le⟩
  | n + 1, r, m, hI, h0, h1, hC => by
    obtain ⟨hm, hd⟩ := sstep_move hF hI
    have hC2 := hC.move hF h0 (by omega) hm
    have hfr := sstep_fr (u := u) hI.le
    unfold srun
    split
    · rename_i hs
      obtain ⟨_, _, hg⟩ := hI.step hF oc0 (fuel := r.Steps + 1) (by omega)
      rcases hg with ⟨_, hI2⟩ | ⟨hz, _⟩
      · have := srun_fin hF n _ (m + 1) hI2 (by omega) (by omega) hC2
        rw [show m + ((n + 1 : Nat) : Int) = m + 1 + n by omega]
        exact this
      · omega
    · exact ⟨hC2.more (by omega), hd, pairs_len hfr⟩
theorem cnt_cntS (k i : Nat) : cnt (cntS u) k i = 0 := by
  unfold cnt cntS
  simp only [List.getD_eq_getElem?_getD, List.getElem?_map]
  cases u.Funcs[k]? with
  | none => simp
  | some f =>
    simp only [Option.map_some, Option.getD_some, List.getElem?_replicate]
    split <;> rfl
theorem ends_zero {C : List (List Int)} (h : ∀ k i, cnt C k i = 0) (k : Nat) : ∀ n, ends u C k n = 0
  | 0 => rfl
  | n + 1 => by unfold ends; rw [ends_zero h k n, h]; simp
theorem ci_zero (u : XApi_Unit) : CI u 0 (cntS u) [] := by
  have hz : ∀ k (i : Int), sumL (fun j => cnt (cntS u) k j - stn [] k j) (ahS i 0 (u.Funcs.getD k fc0).Blocks) = 0 := by
    intro k i
    have : ∀ l : List Int, sumL (fun _ => 0) l = 0 := by intro l; induction l with | nil => rfl | cons x l ih => rw [sumL_cons, ih]; rfl
    rw [← this (ahS i 0 (u.Funcs.getD k fc0).Blocks)]
    refine sumL_eq fun x _ => ?_
    show cnt (cntS u) k x.toNat - stn [] k x.toNat = 0
    rw [cnt_cntS]; rfl
  refine ⟨by simp [cntS], fun i h h2 => by simp [cntS], fun k i => by rw [cnt_cntS]; omega, fun k hk i _ _ => ?_, fun k hk i _ _ _ => ?_, fun k hk => ?_⟩
  · have := hz k i
    rw [getD_lt hk] at this
    rw [this, cnt_cntS]; omega
  · have := hz k i
    rw [getD_lt hk] at this
    rw [this, cnt_cntS]
  · rw [cnt_cntS, ends_zero cnt_cntS]; rfl
theorem sall_fin {inp : List Int} (hF : Fine u) (hi : inp.length ≤ 30) {fuel : Int} (h0 : 0 ≤ fuel) (h1 : fuel ≤ 90000) : FinC u (fuel + 1) (sall u inp fuel) := by
  obtain ⟨k, hk, hm, hp⟩ := hF.well.main
  have hC : CI u (0 + 1) (rst u inp).Counts (pairs (rst u inp)) := by
    refine (ci_zero u).move hF (by omega) (by omega) ?_
    have e2 : pairs (rst u inp) = [] ++ [((k : Int), ((0 : Nat) : Int))] := by
      unfold rst
      rw [pairs_senter (by simp [r00]), hm]; rfl
    have e1 : (rst u inp).Counts = bump (cntS u) k ((0 : Nat) : Int) := by
      unfold rst senter
      rw [hm]; rfl
    rw [e1, e2]
    exact Move.call _ _ k hk
  have := srun_fin hF fuel.toNat (rst u inp) (0 + 1) (rst_inv hF hi).1 (by omega) (by omega) hC
  unfold sall
  rw [show fuel + 1 = 0 + 1 + (fuel.toNat : Int) by omega]
  exact this
end
end Go.Ab
namespace Go.Ab
open Go Go.Proofs
theorem sumL_take (f : Nat → Int) {l : List Int} {j : Nat} (h : j < l.length) : sumL f (l.take (j + 1)) = sumL f (l.take j) + f (l[j]).toNat := by
  rw [List.take_add_one, List.getElem?_eq_getElem h, sumL_append]
  simp [sumL]
theorem sumL_bd {f : Nat → Int} {m : Int} (hm : 0 ≤ m) (h : ∀ i, 0 ≤ f i ∧ f i ≤ m) : ∀ l : List Int, 0 ≤ sumL f l ∧ sumL f l ≤ m * l.length
  | [] => by simp [sumL_nil]
  | x :: l => by
    have := sumL_bd hm h l
    have := h x.toNat
    rw [sumL_cons, List.length_cons, Int.natCast_add, Int.mul_add]
    simp only [Int.natCast_one, Int.mul_one]
    omega
theorem ends_bd {u : XApi_Unit} {C : List (List Int)} {m : Int} (h : ∀ k i, 0 ≤ cnt C k i ∧ cnt C k i ≤ m) (k : Nat) : ∀ n : Nat, 0 ≤ ends u C k n ∧ ends u C k n ≤ m * n
  | 0 => by simp [ends]
  | n + 1 => by
    have := ends_bd (u := u) h k n
    have := h k n
    unfold ends
    rw [Int.natCast_add, Int.mul_add]
    simp only [Int.natCast_one, Int.mul_one]
    split <;> omega
def nsum (u : XApi_Unit) (P : List (Int × Int)) : Nat → Int
  | 0 => 0
  | k + 1 => nsum u P k + nrt u P k
theorem nrt_cons (u : XApi_Unit) (p : Int × Int) (P : List (Int × Int)) (k : Nat) : nrt u (p :: P) k = nrt u P k + if (p.1 == (k : Int) && !isRet u p.1 p.2) = true then 1 else 0 := by
  unfold nrt
  rw [List.countP_cons]
  split <;> simp
theorem nsum_cons (u : XApi_Unit) (p : Int × Int) (P : List (Int × Int)) : ∀ k : Nat, nsum u (p :: P) k = nsum u P k + if (decide (0 ≤ p.1 ∧ p.1 < (k : Int)) && !isRet u p.1 p.2) = true then 1 else 0
  | 0 => by
    have : decide (0 ≤ p.1 ∧ p.1 < ((0 : Nat) : Int)) = false := decide_eq_false (by omega)
    rw [this]; rfl
  | k + 1 => by
    unfold nsum
    rw [nsum_cons u p P k, nrt_cons]
    cases hb : isRet u p.1 p.2 with
    | true => simp
    | false =>
      simp only [Bool.not_false, Bool.and_true, decide_eq_true_eq, beq_iff_eq]
      by_cases h1 : p.1 = (k : Int)
      · rw [if_neg (by omega), if_pos h1, if_pos (by omega)]; omega
      · by_cases h2 : 0 ≤ p.1 ∧ p.1 < (k : Int)
        · rw [if_pos h2, if_neg h1, if_pos (by omega)]; omega
        · rw [if_neg h2, if_neg h1, if_neg (by omega)]; omega
theorem nsum_bd (u : XApi_Unit) : ∀ (P : List (Int × Int)) (k : Nat), 0 ≤ nsum u P k ∧ nsum u P k ≤ P.length
  | [], k => by
    have : nsum u [] k = 0 := by induction k with | zero => rfl | succ k ih => unfold nsum; rw [ih]; rfl
    simp [this]
  | p :: P, k => by
    have := nsum_bd u P k
    rw [nsum_cons, List.length_cons]
    push_cast
    split <;> omega
theorem stn_pos (P : List (Int × Int)) (k i : Nat) : 0 ≤ stn P k i := by unfold stn; omega
section
variable {u : XApi_Unit} {inp : List Int}
theorem kinds (hF : Fine u) {k j : Nat} (hk : k < u.Funcs.length) (hj : j < u.Funcs[k].Blocks.length) (h : u.Funcs[k].Blocks[j].End.Kind = 2) {i : Int} (hi : i ∈ u.Funcs[k].Blocks[j].End.To) : u.Funcs[k].Blocks[j].End.To = [i] := by
  have F := hF.fn k hk
  obtain ⟨_, hc⟩ := end_ok (F.blk j hj).fin F.to.1
  rcases hc with ⟨e, _⟩ | ⟨_, a, ht, _⟩ | ⟨e, _⟩
  · omega
  · rw [ht] at hi ⊢
    rw [List.mem_singleton] at hi
    rw [hi]
  · omega
structure Cn (u : XApi_Unit) (C : List (List Int)) (P : List (Int × Int)) (k : Nat) (hk : k < u.Funcs.length) : Prop where
  hC : k < C.length
  row : C[k].length = u.Funcs[k].Blocks.length
  n40 : u.Funcs[k].Blocks.length ≤ 40
  n1 : 1 ≤ u.Funcs[k].Blocks.length
  pos : ∀ i, 0 ≤ cnt C k i ∧ cnt C k i ≤ 3000
theorem cnt_at {C : List (List Int)} {k i : Nat} (hk : k < C.length) (hi : i < C[k].length) : cnt C k i = C[k][i] := by unfold cnt; rw [getD_lt hk, getD_lt hi]
theorem CI.cn (hF : Fine u) {n : Int} {C P} (h : CI u n C P) (hn : n ≤ 3000) {k : Nat} (hk : k < u.Funcs.length) : Cn u C P k hk :=
  have hC : k < C.length := by rw [h.len]; exact hk
  ⟨hC, h.lens k hC hk, (hF.fn k hk).to.1, (hF.fn k hk).blk1, fun i => ⟨(h.pos k i).1, by have := (h.pos k i).2; omega⟩⟩
variable {x3 : (List (List Int)) × XApi_Outcome × XApi_Fault} {P : List (Int × Int)}
theorem flow3 {k : Nat} (hk : k < u.Funcs.length) (h : Cn u x3.1 P k hk) {l : List Int} (hl : l.length ≤ 1000) (hin : ∀ x ∈ l, 0 ≤ x ∧ x < u.Funcs[k].Blocks.length) :
    Loop (fun (s : (Int × Int)) => law2_RunFlow_L3 x3 k l s.1 s.2) (0, 0) = some (sumL (cnt x3.1 k) l) := by
  have hC := h.hC
  have hb : ∀ j, 0 ≤ sumL (cnt x3.1 k) (l.take j) ∧ sumL (cnt x3.1 k) (l.take j) ≤ 3000 * 1000 := fun j => by
    have := sumL_bd (m := 3000) (by omega) h.pos (l.take j)
    have : (l.take j).length ≤ 1000 := by rw [List.length_take]; omega
    omega
  refine Loop_st (fun j => (sumL (cnt x3.1 k) (l.take j), (j : Int))) l.length (fun j hj => ?_) ?_
  · simp only [law2_RunFlow_L3, lt_dec hj, if_true, idx_lt hC, idx_lt hj, Option.bind_some]
    have hx := hin _ (List.getElem_mem hj)
    have hxl : (l[j]).toNat < x3.1[k].length := by rw [h.row]; omega
    have e : idx x3.1[k] l[j] = some (cnt x3.1 k (l[j]).toNat) := by
      rw [cnt_at hC hxl, ← idx_lt hxl, show (((l[j]).toNat : Nat) : Int) = l[j] by omega]
    have := hb j
    have := h.pos (l[j]).toNat
    rw [e, Option.bind_some, sumL_take _ hj, w64_id (by omega) (by omega), w64_succ (by omega)]
  · simp only [law2_RunFlow_L3, lt_dec', Bool.false_eq_true, if_false, List.take_length]
theorem flow2 (hF : Fine u) {n : Int} (hn0 : 0 ≤ n) (hn : n ≤ 2000) (hCI : CI u (n + 1) x3.1 P) {k : Nat} (hk : k < u.Funcs.length) :
    Loop (fun (s : (Int × Int)) => law2_RunFlow_L2 u n x3 k s.1 s.2) (0, 0) = some (.brk (ends u x3.1 k u.Funcs[k].Blocks.length)) := by
  have h := hCI.cn hF (by omega) hk
  have F := hF.fn k hk
  have hC := h.hC
  have hrow := h.row
  have h40 := h.n40
  rw [← hrow]
  refine Loop_st (fun i => (ends u x3.1 k i, (i : Int))) x3.1[k].length (fun i hi => ?_) ?_
  · have hi2 : i < u.Funcs[k].Blocks.length := by omega
    have hp := hCI.pos k i
    have hin : inb x3.1[k][i] 0 (w64 (n + 1)) = true := by
      rw [w64_id (by omega) (by omega), ← cnt_at hC hi]
      exact inb_iff.2 (by omega)
    have hjo : ∀ e : Int, law2_RunFlow_J1 u x3 k i e = some (.next (e, ((i + 1 : Nat) : Int))) := by
      intro e
      unfold law2_RunFlow_J1
      have hll := ahS_le (i : Int) u.Funcs[k].Blocks 0 fun b hb => (F.to.2 b hb).1
      rw [idx_lt hk, Option.bind_some, rahead_eq _ _ F.to, Option.bind_some]
      have hin2 : ∀ x ∈ ahS (i : Int) 0 u.Funcs[k].Blocks, 0 ≤ x ∧ x < u.Funcs[k].Blocks.length := by
        intro x hx
        obtain ⟨j, hj, e, _⟩ := ahS_mem hx
        omega
      refine (congrArg (fun x => Option.bind x _) (flow3 hk h (l := ahS (i : Int) 0 u.Funcs[k].Blocks) (by omega) hin2)).trans ?_
      rw [Option.bind_some]
      by_cases h0 : 0 < i
      · have hfl := hCI.flow k hk i h0 hi2
        have hle : sumL (fun j => cnt x3.1 k j - stn P k j) (ahS (i : Int) 0 u.Funcs[k].Blocks) ≤ sumL (cnt x3.1 k) (ahS (i : Int) 0 u.Funcs[k].Blocks) := sumL_le fun x _ => by
          have := stn_pos P k x.toNat
          show cnt x3.1 k x.toNat - stn P k x.toNat ≤ _
          omega
        have e1 : decide (0 < (i : Int)) = true := by simpa using h0
        rw [e1, if_pos rfl, idx_lt hC, Option.bind_some, idx_lt hi, Option.bind_some, Option.bind_some, ← cnt_at hC hi]
        rw [if_neg (by simp; omega), w64_succ (by omega)]
      · have e1 : decide (0 < (i : Int)) = false := by simpa using h0
        rw [e1, if_neg (by simp), Option.bind_some, if_neg (by simp), w64_succ (by omega)]
    show law2_RunFlow_L2 u n x3 k (ends u x3.1 k i) i = _
    unfold law2_RunFlow_L2
    rw [idx_lt hC, Option.bind_some, lt_dec hi, if_pos rfl, Option.bind_some, idx_lt hi, Option.bind_some, lin2, Option.bind_some, hin]
    simp only [Bool.not_true, Bool.false_eq_true, if_false]
    rw [idx_lt hk, Option.bind_some, idx_lt hi2, Option.bind_some]
    have hr := isRet_at hk hi2
    have hbd := ends_bd (u := u) (m := n + 1) hCI.pos k i
    have hmul : (n + 1) * (i : Int) ≤ 2001 * 40 := by
      refine Int.le_trans (Int.mul_le_mul_of_nonneg_right (by omega : n + 1 ≤ 2001) (by omega)) ?_
      exact Int.mul_le_mul_of_nonneg_left (by omega) (by omega)
    cases ht : u.Funcs[k].Blocks[i].End.To with
    | nil =>
      rw [ht] at hr
      have hr : isRet u k i = true := hr
      rw [List.length_nil, if_pos (by rfl), Option.bind_some, idx_lt hi, Option.bind_some, hjo, w64_id (by rw [← cnt_at hC hi]; omega) (by rw [← cnt_at hC hi]; omega), ← cnt_at hC hi]
      show _ = some (Lp.next (ends u x3.1 k (i + 1), ((i + 1 : Nat) : Int)))
      rw [show ends u x3.1 k (i + 1) = ends u x3.1 k i + if isRet u k i = true then cnt x3.1 k i else 0 from rfl, hr, if_pos rfl]
    | cons a l =>
      rw [ht] at hr
      have hr : isRet u k i = false := hr
      rw [if_neg (by simp; omega), hjo]
      show _ = some (Lp.next (ends u x3.1 k (i + 1), ((i + 1 : Nat) : Int)))
      rw [show ends u x3.1 k (i + 1) = ends u x3.1 k i + if isRet u k i = true then cnt x3.1 k i else 0 from rfl, hr, if_neg (by decide), Int.add_zero]
  · show law2_RunFlow_L2 u n x3 k (ends u x3.1 k x3.1[k].length) (x3.1[k].length : Nat) = _
    unfold law2_RunFlow_L2
    rw [idx_lt hC, Option.bind_some, lt_dec', if_neg (by decide)]
theorem runFlow_eq (hu : UOkS u) (n : Int) : law2_RunFlow u inp n = some true := by
  have hm := maxLen_big
  unfold law2_RunFlow
  rw [runFact_eq, Option.bind_some]
  simp only [Bool.not_true, Bool.false_eq_true, if_false, lin2, Option.bind_some]
  by_cases ha : inb n 0 2000 = true
  · rw [ha]
    have ha' := inb_iff.1 ha
    simp only [Bool.not_true, Bool.false_eq_true, if_false, Option.bind_some]
    have i1 : inb n 0 100000 = true := inb_iff.2 (by omega)
    by_cases hc : (chk u).Code ≠ 0
    · rw [counts_eq hu, if_pos hc, Option.bind_some]
      have : ((chk u).Code != 0) = true := by simpa using hc
      simp only [this, if_true, List.length_nil, Int.natCast_zero, beq_self_eq_true]
    · by_cases hi : 30 < inp.length
      · rw [counts_eq hu, if_neg hc, if_pos hi, Option.bind_some]; rfl
      · rw [counts_eq hu, if_neg hc, if_neg hi, if_neg (by rw [i1]; decide), Option.bind_some]
        have hF : Fine u := ⟨chk_code u (by simpa using hc), hu⟩
        have hfin := sall_fin hF (by omega : inp.length ≤ 30) ha'.1 (by omega)
        generalize hx3 : ((sall u inp n).Counts, outS (sall u inp n), (⟨0, 0⟩ : XApi_Fault)) = x3
        generalize hP : pairs (sall u inp n) = P
        have hCI : CI u (n + 1) x3.1 P := by rw [← hx3, ← hP]; exact hfin.ci
        have hst : x3.2.1.State = (sall u inp n).State := by rw [← hx3]; rfl
        have hcode : (x3.2.2.Code != 0) = false := by rw [← hx3]; rfl
        have hP30 : P.length ≤ 30 := by rw [← hP]; exact hfin.fr
        have hdone : x3.2.1.State = 0 → P = [] := by rw [hst, ← hP]; exact hfin.done
        rw [hcode, if_neg (by decide), hCI.len]
        have e0 : (((u.Funcs.length : Nat) : Int) != ((u.Funcs.length : Nat) : Int)) = false := by simp
        rw [e0, if_neg (by decide)]
        have h10 := hF.well.ten.2
        have hL : Loop (fun (s : (Int × Int)) => law2_RunFlow_L1 u n x3 s.1 s.2) (0, 0) = some (.brk (nsum u P u.Funcs.length)) := by
          rw [← hCI.len]
          refine Loop_st (fun k => (nsum u P k, (k : Int))) x3.1.length (fun k hk => ?_) ?_
          · have hk2 : k < u.Funcs.length := by rw [← hCI.len]; exact hk
            have h := hCI.cn hF (by omega) hk2
            have h1 : 0 < x3.1[k].length := by rw [h.row]; exact h.n1
            have e1 : ((x3.1[k].length : Int) != (u.Funcs[k].Blocks.length : Int)) = false := by simp [h.row]
            show law2_RunFlow_L1 u n x3 (nsum u P k) k = _
            unfold law2_RunFlow_L1
            rw [lt_dec hk, if_pos rfl, idx_lt hk, Option.bind_some, idx_lt hk2, Option.bind_some, e1, if_neg (by decide), Option.bind_some]
            have e2 : idx x3.1[k] 0 = some x3.1[k][0] := idx_lt (i := 0) h1
            rw [e2, Option.bind_some]
            refine (congrArg (fun x => Option.bind x _) (flow2 hF ha'.1 ha'.2 hCI hk2)).trans ?_
            rw [Option.bind_some]
            show (if decide (x3.1[k][0] < 0) = true then _ else _) = _
            have hp := hCI.pos k 0
            have ho := hCI.open_ k hk2
            have hbn := nsum_bd u P k
            have hbn2 := nsum_bd u P (k + 1)
            have hns : nsum u P (k + 1) = nsum u P k + nrt u P k := rfl
            rw [← cnt_at h.hC h1, if_neg (by simp; omega)]
            have e3 : (if (x3.2.1.State == 0) = true then cnt x3.1 k 0 != ends u x3.1 k u.Funcs[k].Blocks.length else false) = false := by
              by_cases hz : x3.2.1.State = 0
              · rw [hz, if_pos (by rfl)]
                have hP0 := hdone hz
                have : nrt u P k = 0 := by rw [hP0]; rfl
                simp; omega
              · rw [if_neg (by simpa using hz)]
            have hend := ends_bd (u := u) (m := n + 1) hCI.pos k u.Funcs[k].Blocks.length
            have h40 := h.n40
            have hmul : (n + 1) * (u.Funcs[k].Blocks.length : Int) ≤ 2001 * 40 := by
              refine Int.le_trans (Int.mul_le_mul_of_nonneg_right (by omega : n + 1 ≤ 2001) (by omega)) ?_
              exact Int.mul_le_mul_of_nonneg_left (by omega) (by omega)
            rw [e3, if_neg (by decide), w64_id (n := nsum u P k + cnt x3.1 k 0) (by omega) (by omega), w64_id (by omega) (by omega), w64_succ (by omega)]
            rw [hns, ho]
            congr 3
            omega
          · show law2_RunFlow_L1 u n x3 (nsum u P x3.1.length) (x3.1.length : Nat) = _
            unfold law2_RunFlow_L1
            rw [lt_dec', if_neg (by decide)]
        refine (congrArg (fun x => Option.bind x _) hL).trans ?_
        rw [Option.bind_some]
        have hbn := nsum_bd u P u.Funcs.length
        simp only [Br.go]
        rw [inb_iff.2 (by omega), if_pos rfl]
        by_cases hz : x3.2.1.State = 0
        · rw [hdone hz] at hbn ⊢
          have : nsum u [] u.Funcs.length = 0 := by simp at hbn; omega
          rw [this, hz]; rfl
        · rw [if_pos (by simpa using hz)]
  · have : inb n 0 2000 = false := by simpa using ha
    rw [this]; rfl
theorem str3 (hF : Fine u) {k : Nat} (hk : k < u.Funcs.length) (h : Cn u x3.1 P k hk) {l : List Int} (hl : l.length ≤ 1000) (hin : ∀ x ∈ l, 0 ≤ x ∧ x < u.Funcs[k].Blocks.length) :
    Loop (fun (s : (Int × Bool × Int)) => law2_RunStraight_L3 u x3 k l s.1 s.2.1 s.2.2) (0, true, 0) = some (sumL (cnt x3.1 k) l, l.all fun j => (ublk u k j).End.Kind == 2) := by
  have hC := h.hC
  have hb : ∀ j, 0 ≤ sumL (cnt x3.1 k) (l.take j) ∧ sumL (cnt x3.1 k) (l.take j) ≤ 3000 * 1000 := fun j => by
    have := sumL_bd (m := 3000) (by omega) h.pos (l.take j)
    have : (l.take j).length ≤ 1000 := by rw [List.length_take]; omega
    omega
  refine Loop_st (fun j => (sumL (cnt x3.1 k) (l.take j), (l.take j).all (fun j => (ublk u k j).End.Kind == 2), (j : Int))) l.length (fun j hj => ?_) ?_
  · show law2_RunStraight_L3 u x3 k l (sumL (cnt x3.1 k) (l.take j)) ((l.take j).all (fun j => (ublk u k j).End.Kind == 2)) j = _
    have hx := hin _ (List.getElem_mem hj)
    have hxl : (l[j]).toNat < x3.1[k].length := by rw [h.row]; omega
    have hxl2 : (l[j]).toNat < u.Funcs[k].Blocks.length := by omega
    have ex : (((l[j]).toNat : Nat) : Int) = l[j] := by omega
    have e : idx x3.1[k] l[j] = some (cnt x3.1 k (l[j]).toNat) := by
      rw [cnt_at hC hxl, ← idx_lt hxl, ex]
    have e2 : idx u.Funcs[k].Blocks l[j] = some (ublk u k l[j]) := by
      rw [← ex, ublk_at hk hxl2, idx_lt hxl2]
    have hbj := hb j
    have hpj := h.pos (l[j]).toNat
    have eall : (l.take (j + 1)).all (fun j => (ublk u k j).End.Kind == 2) = ((l.take j).all (fun j => (ublk u k j).End.Kind == 2) && ((ublk u k l[j]).End.Kind == 2)) := by
      rw [List.take_add_one, List.getElem?_eq_getElem hj, List.all_append]; simp
    unfold law2_RunStraight_L3
    simp only [lt_dec hj, if_true, idx_lt hC, idx_lt hj, idx_lt hk, Option.bind_some]
    rw [e, Option.bind_some, e2, Option.bind_some]
    simp only [sumL_take _ hj, eall]
    rw [w64_id (by omega) (by omega), w64_succ (by omega)]
    cases (l.take j).all fun j => (ublk u k j).End.Kind == 2 <;> rfl
  · show law2_RunStraight_L3 u x3 k l (sumL (cnt x3.1 k) (l.take l.length)) ((l.take l.length).all (fun j => (ublk u k j).End.Kind == 2)) (l.length : Nat) = _
    unfold law2_RunStraight_L3
    simp only [lt_dec', Bool.false_eq_true, if_false, List.take_length]
theorem str2 (hF : Fine u) {n : Int} (hn : n ≤ 3000) (hCI : CI u n x3.1 []) {k : Nat} (hk : k < u.Funcs.length) :
    Loop (fun (s : Int) => law2_RunStraight_L2 u x3 k s) 1 = some (.brk ()) := by
  have h := hCI.cn hF hn hk
  have F := hF.fn k hk
  have hC := h.hC
  have hrow := h.row
  have h40 := h.n40
  have h1 := h.n1
  have key := Loop_st (step := fun (s : Int) => law2_RunStraight_L2 u x3 k s) (fun i => ((i + 1 : Nat) : Int)) (x3.1[k].length - 1) (fun i0 hi0 => ?_) (o := .brk ()) ?_
  · exact key
  · obtain ⟨i, rfl⟩ : ∃ i, i = i0 + 1 := ⟨_, rfl⟩
    have hi : i0 + 1 < x3.1[k].length := by omega
    have hi2 : i0 + 1 < u.Funcs[k].Blocks.length := by omega
    have hll := ahS_le ((i0 + 1 : Nat) : Int) u.Funcs[k].Blocks 0 fun b hb => (F.to.2 b hb).1
    have hin2 : ∀ x ∈ ahS ((i0 + 1 : Nat) : Int) 0 u.Funcs[k].Blocks, 0 ≤ x ∧ x < u.Funcs[k].Blocks.length := by
      intro x hx
      obtain ⟨j, hj, e, _⟩ := ahS_mem hx
      omega
    show law2_RunStraight_L2 u x3 k ((i0 + 1 : Nat) : Int) = _
    unfold law2_RunStraight_L2
    rw [idx_lt hC, Option.bind_some, lt_dec hi, if_pos rfl, idx_lt hk, Option.bind_some, rahead_eq _ _ F.to, Option.bind_some]
    refine (congrArg (fun x => Option.bind x _) (str3 (P := []) hF hk h (l := ahS ((i0 + 1 : Nat) : Int) 0 u.Funcs[k].Blocks) (by omega) hin2)).trans ?_
    rw [Option.bind_some]
    simp only
    cases hall : (ahS ((i0 + 1 : Nat) : Int) 0 u.Funcs[k].Blocks).all fun j => (ublk u k j).End.Kind == 2 with
    | false => simp only [Bool.false_eq_true, if_false, Option.bind_some]; rw [w64_succ (by omega)]
    | true =>
      have hs := hCI.same k hk (i0 + 1) (by omega) hi2 fun j hj => by
        have e2 := List.all_eq_true.1 hall j hj
        obtain ⟨b, hb, e, hm⟩ := ahS_mem hj
        have e : j = (b : Int) := by omega
        subst e
        rw [ublk_at hk hb] at e2 ⊢
        exact kinds hF hk hb (by simpa using e2) hm
      have e3 : sumL (fun j => cnt x3.1 k j - stn [] k j) (ahS ((i0 + 1 : Nat) : Int) 0 u.Funcs[k].Blocks) = sumL (cnt x3.1 k) (ahS ((i0 + 1 : Nat) : Int) 0 u.Funcs[k].Blocks) := sumL_eq fun x _ => by
        show cnt x3.1 k x.toNat - stn [] k x.toNat = _
        have : stn [] k x.toNat = 0 := rfl
        omega
      rw [if_pos rfl, Option.bind_some, idx_lt hi, Option.bind_some, Option.bind_some, ← cnt_at hC hi, hs, e3]
      rw [if_neg (by simp), w64_succ (by omega)]
  · show law2_RunStraight_L2 u x3 k ((x3.1[k].length - 1 + 1 : Nat) : Int) = _
    rw [show x3.1[k].length - 1 + 1 = x3.1[k].length by omega]
    unfold law2_RunStraight_L2
    rw [idx_lt hC, Option.bind_some, lt_dec', if_neg (by decide)]
theorem runStraight_eq (hu : UOkS u) (n : Int) : law2_RunStraight u inp n = some true := by
  have hm := maxLen_big
  unfold law2_RunStraight
  rw [runFact_eq, Option.bind_some]
  simp only [Bool.not_true, Bool.false_eq_true, if_false, lin2, Option.bind_some]
  by_cases ha : inb n 0 2000 = true
  · rw [ha]
    have ha' := inb_iff.1 ha
    simp only [Bool.not_true, Bool.false_eq_true, if_false, Option.bind_some]
    have i1 : inb n 0 100000 = true := inb_iff.2 (by omega)
    by_cases hc : (chk u).Code ≠ 0
    · rw [counts_eq hu, if_pos hc, Option.bind_some]
      have : ((chk u).Code != 0) = true := by simpa using hc
      simp only [this, if_true, List.length_nil, Int.natCast_zero, beq_self_eq_true]
    · by_cases hi : 30 < inp.length
      · rw [counts_eq hu, if_neg hc, if_pos hi, Option.bind_some]; rfl
      · rw [counts_eq hu, if_neg hc, if_neg hi, if_neg (by rw [i1]; decide), Option.bind_some]
        have hF : Fine u := ⟨chk_code u (by simpa using hc), hu⟩
        have hfin := sall_fin hF (by omega : inp.length ≤ 30) ha'.1 (by omega)
        generalize hx3 : ((sall u inp n).Counts, outS (sall u inp n), (⟨0, 0⟩ : XApi_Fault)) = x3
        have hCI : CI u (n + 1) x3.1 (pairs (sall u inp n)) := by rw [← hx3]; exact hfin.ci
        have hst : x3.2.1.State = (sall u inp n).State := by rw [← hx3]; rfl
        have hcode : (x3.2.2.Code != 0) = false := by rw [← hx3]; rfl
        rw [hcode, if_neg (by decide), hCI.len]
        have e0 : (((u.Funcs.length : Nat) : Int) != ((u.Funcs.length : Nat) : Int)) = false := by simp
        rw [e0]
        simp only [Bool.false_eq_true, if_false]
        by_cases hz : x3.2.1.State = 0
        · have hP0 := hfin.done (by rw [← hst]; exact hz)
          rw [hP0] at hCI
          have h10 := hF.well.ten.2
          have hz' : (x3.2.1.State != 0) = false := by simpa using hz
          rw [hz', if_neg (by decide)]
          have hL : Loop (fun (s : Int) => law2_RunStraight_L1 u x3 s) 0 = some (.brk ()) := by
            refine Loop_st (fun k => (k : Int)) x3.1.length (fun k hk => ?_) ?_
            · have hk2 : k < u.Funcs.length := by rw [← hCI.len]; exact hk
              have h := hCI.cn hF (by omega) hk2
              have e1 : ((x3.1[k].length : Int) != (u.Funcs[k].Blocks.length : Int)) = false := by simp [h.row]
              show law2_RunStraight_L1 u x3 k = _
              unfold law2_RunStraight_L1
              rw [lt_dec hk, if_pos rfl, idx_lt hk, Option.bind_some, idx_lt hk2, Option.bind_some, e1, if_neg (by decide)]
              refine (congrArg (fun x => Option.bind x _) (str2 hF (by omega) hCI hk2)).trans ?_
              rw [Option.bind_some]
              show some (Lp.next (w64 ((k : Int) + 1))) = _
              have := hCI.len
              rw [w64_succ (by omega)]
            · show law2_RunStraight_L1 u x3 (x3.1.length : Nat) = _
              unfold law2_RunStraight_L1
              rw [lt_dec', if_neg (by decide)]
          refine (congrArg (fun x => Option.bind x _) hL).trans ?_
          rfl
        · have hz' : (x3.2.1.State != 0) = true := by simpa using hz
          rw [hz', if_pos rfl]
          simp
  · have : inb n 0 2000 = false := by simpa using ha
    rw [this]; rfl
end
end Go.Ab
namespace Go.Ab
open Go Go.Proofs
def opsB (b : XApi_Block) : List Int := b.List.map (·.Op)
def opsF (f : XApi_Func) : List Int := f.Blocks.flatMap opsB
def opsU (u : XApi_Unit) : List Int := u.Funcs.flatMap opsF
def setL (l : List Bool) (ops : List Int) : List Bool := ops.foldl (fun l op => l.set op.toNat true) l
theorem setL_append (l : List Bool) (a b : List Int) : setL l (a ++ b) = setL (setL l a) b := by unfold setL; rw [List.foldl_append]
theorem setL_len : ∀ (ops : List Int) (l : List Bool), (setL l ops).length = l.length
  | [], _ => rfl
  | x :: ops, l => by
    show (setL (l.set x.toNat true) ops).length = _
    rw [setL_len ops]; simp
theorem setL_get {k : Nat} : ∀ (ops : List Int) (l : List Bool), (setL l ops).getD k false = false → l.getD k false = false ∧ (k < l.length → ∀ x ∈ ops, 0 ≤ x → x ≠ (k : Int))
  | [], l, h => ⟨h, fun _ x hx => by simp at hx⟩
  | x :: ops, l, h => by
    have h2 : (setL (l.set x.toNat true) ops).getD k false = false := h
    obtain ⟨h3, h4⟩ := setL_get ops _ h2
    have e : (l.set x.toNat true).getD k false = if x.toNat = k ∧ x.toNat < l.length then true else l.getD k false := by
      simp only [List.getD_eq_getElem?_getD, List.getElem?_set]
      by_cases hij : x.toNat = k
      · subst hij
        by_cases hi : x.toNat < l.length
        · simp [hi]
        · simp [hi]
      · simp [hij]
    rw [e] at h3
    split at h3
    · cases h3
    · rename_i hn
      refine ⟨h3, fun hk y hy h0 => ?_⟩
      rcases List.mem_cons.1 hy with rfl | hy
      · intro e; exact hn ⟨by omega, by omega⟩
      · exact h4 (by simpa using hk) y hy h0
section
variable {u : XApi_Unit} {r : XTurneryref2_Run}
theorem flat_take {α : Type} (f : α → List Int) {l : List α} {j : Nat} (h : j < l.length) : (l.take (j + 1)).flatMap f = (l.take j).flatMap f ++ f l[j] := by
  rw [List.take_add_one, List.getElem?_eq_getElem h, List.flatMap_append]
  simp
theorem op_in (hF : Fine u) {i j : Nat} (hi : i < u.Funcs.length) (hj : j < u.Funcs[i].Blocks.length) {x : XApi_Ins} (hx : x ∈ u.Funcs[i].Blocks[j].List) : InOk u u.Funcs[i] x := by
  have F := hF.fn i hi
  exact ins_ok hF.well.ten.2 (by have := F.par0; have := F.regs; omega) F.regs1 ((F.blk j hj).ins x hx)
theorem has3 (hF : Fine u) {i j : Nat} (hi : i < u.Funcs.length) (hj : j < u.Funcs[i].Blocks.length) {l : List Bool} (hl : l.length = 23) :
    Loop (fun (s : (List Bool × Int)) => law2_RunPrints_L3 u i j s.1 s.2) (l, 0) = some (.brk (setL l (opsB u.Funcs[i].Blocks[j]))) := by
  have hn := ((hF.fn i hi).blk j hj).lsn
  refine (Loop_st (fun k => (setL l ((u.Funcs[i].Blocks[j].List.take k).map (·.Op)), (k : Int))) u.Funcs[i].Blocks[j].List.length (fun k hk => ?_) (o := Br.brk (setL l (opsB u.Funcs[i].Blocks[j]))) ?_)
  · show law2_RunPrints_L3 u i j (setL l ((u.Funcs[i].Blocks[j].List.take k).map (·.Op))) k = _
    have hop := (op_in hF hi hj (List.getElem_mem hk)).op
    have hop' := inb_iff.1 hop
    have hln : (setL l ((u.Funcs[i].Blocks[j].List.take k).map (·.Op))).length = 23 := by rw [setL_len, hl]
    unfold law2_RunPrints_L3
    simp only [idx_lt hi, idx_lt hj, idx_lt hk, Option.bind_some, lt_dec hk, if_true, lin2, hop, Bool.not_true, Bool.false_eq_true, if_false]
    rw [idx_in' (d := false) (by omega) (by omega), Option.bind_some, w64_succ (by omega)]
    rw [List.take_add_one, List.getElem?_eq_getElem hk, List.map_append, setL_append]
    rfl
  · show law2_RunPrints_L3 u i j (setL l ((u.Funcs[i].Blocks[j].List.take u.Funcs[i].Blocks[j].List.length).map (·.Op))) (u.Funcs[i].Blocks[j].List.length : Nat) = _
    unfold law2_RunPrints_L3
    simp only [idx_lt hi, idx_lt hj, Option.bind_some, lt_dec', Bool.false_eq_true, if_false, List.take_length]
    rfl
theorem has2 (hF : Fine u) {i : Nat} (hi : i < u.Funcs.length) {l : List Bool} (hl : l.length = 23) :
    Loop (fun (s : (List Bool × Int)) => law2_RunPrints_L2 u i s.1 s.2) (l, 0) = some (.brk (setL l (opsF u.Funcs[i]))) := by
  have hn := (hF.fn i hi).to.1
  refine (Loop_st (fun k => (setL l ((u.Funcs[i].Blocks.take k).flatMap opsB), (k : Int))) u.Funcs[i].Blocks.length (fun k hk => ?_) (o := Br.brk (setL l (opsF u.Funcs[i]))) ?_)
  · show law2_RunPrints_L2 u i (setL l ((u.Funcs[i].Blocks.take k).flatMap opsB)) k = _
    unfold law2_RunPrints_L2
    rw [idx_lt hi, Option.bind_some, lt_dec hk, if_pos rfl]
    refine (congrArg (fun x => Option.bind x _) (has3 hF hi hk (by rw [setL_len, hl]))).trans ?_
    rw [Option.bind_some, ← setL_append, ← flat_take opsB hk]
    show some (Lp.next (_, w64 ((k : Int) + 1))) = _
    rw [w64_succ (by omega)]
  · show law2_RunPrints_L2 u i (setL l ((u.Funcs[i].Blocks.take u.Funcs[i].Blocks.length).flatMap opsB)) (u.Funcs[i].Blocks.length : Nat) = _
    unfold law2_RunPrints_L2
    rw [idx_lt hi, Option.bind_some, lt_dec', if_neg (by decide), List.take_length]
    rfl
theorem has1 (hF : Fine u) {l : List Bool} (hl : l.length = 23) :
    Loop (fun (s : (List Bool × Int)) => law2_RunPrints_L1 u s.1 s.2) (l, 0) = some (.brk (setL l (opsU u))) := by
  have hn := hF.well.ten.2
  refine (Loop_st (fun k => (setL l ((u.Funcs.take k).flatMap opsF), (k : Int))) u.Funcs.length (fun k hk => ?_) (o := Br.brk (setL l (opsU u))) ?_)
  · show law2_RunPrints_L1 u (setL l ((u.Funcs.take k).flatMap opsF)) k = _
    unfold law2_RunPrints_L1
    rw [lt_dec hk, if_pos rfl]
    refine (congrArg (fun x => Option.bind x _) (has2 hF hk (by rw [setL_len, hl]))).trans ?_
    rw [Option.bind_some, ← setL_append, ← flat_take opsF hk]
    show some (Lp.next (_, w64 ((k : Int) + 1))) = _
    rw [w64_succ (by omega)]
  · show law2_RunPrints_L1 u (setL l ((u.Funcs.take u.Funcs.length).flatMap opsF)) (u.Funcs.length : Nat) = _
    unfold law2_RunPrints_L1
    rw [lt_dec', if_neg (by decide), List.take_length]
    rfl
theorem sstep_op (hF : Fine u) (hI : Inv u r) : sstep u r = send u (tick r) (tblk u r).End ∨ ∃ f x, InOk u f x ∧ x.Op ∈ opsU u ∧ Inv u (atUp (tick r)) ∧ sstep u r = sins u (atUp (tick r)) x ∧ (∀ i, sstep u { r with Input := i } = sins u { atUp (tick r) with Input := i } x) := by
  obtain ⟨i, j, H, ha0, ha1⟩ := hI.here
  have hi := H.hi; have hj := H.hj
  by_cases hat : (top r).At = (tblk u r).List.length
  · left; unfold sstep; rw [if_pos hat]
  · right
    have hlt : (top r).At.toNat < (tblk u r).List.length := by omega
    have hmem : (tblk u r).List.getD (top r).At.toNat in0 ∈ (u.Funcs[i]'H.hi).Blocks[j].List := by
      rw [getD_lt hlt, H.tblk.symm]; exact List.getElem_mem hlt
    have hat2 : (top r).At + 1 ≤ (u.Funcs[i]'H.hi).Blocks[j].List.length := by rw [← H.tblk]; omega
    have hIt : Inv u (atUp (tick r)) := hI.tickI.topI (f := { top (tick r) with At := (top (tick r)).At + 1 }) ⟨i, j, H.hi, H.hj, H.fn, H.bk, by show 0 ≤ (top r).At + 1; omega, hat2, H.regs⟩ rfl rfl
    refine ⟨_, (tblk u r).List.getD (top r).At.toNat in0, op_in hF hi hj hmem, ?_, hIt, ?_, fun inp => ?_⟩
    · unfold opsU opsF opsB
      exact List.mem_flatMap.2 ⟨_, List.getElem_mem hi, List.mem_flatMap.2 ⟨_, List.getElem_mem hj, List.mem_map.2 ⟨_, hmem, rfl⟩⟩⟩
    · unfold sstep; rw [if_neg hat]
    · unfold sstep; rw [if_neg (by exact hat)]; rfl
theorem srun_ind (hF : Fine u) (Q : XTurneryref2_Run → Prop) (hs : ∀ r, Inv u r → Q r → Q (sstep u r)) (ht : ∀ r, Q r → Q (sstop r 1)) : ∀ (n : Nat) (r : XTurneryref2_Run), Inv u r → Q r → Q (srun u n r)
  | 0, r, _, h => ht r h
  | n + 1, r, hI, h => by
    unfold srun
    split
    · obtain ⟨_, _, hg⟩ := hI.step hF oc0 (fuel := r.Steps + 1) (by omega)
      rcases hg with ⟨_, hI2⟩ | ⟨hz, _⟩
      · exact srun_ind hF Q hs ht n _ hI2 (hs r hI h)
      · omega
    · exact hs r hI h
theorem sins_spec {f : XApi_Func} {x : XApi_Ins} (hx : InOk u f x) : (x.Op ≠ 22 → (sins u r x).Out = r.Out) ∧
    ((sins u r x).State = r.State ∨ ((sins u r x).State = 5 ∧ x.Op = 22) ∨ ((sins u r x).State = 2 ∧ (x.Op = 5 ∨ x.Op = 6)) ∨ ((sins u r x).State = 3 ∧ (x.Op = 18 ∨ x.Op = 19)) ∨ ((sins u r x).State = 4 ∧ x.Op = 20)) := by
  have hop := inb_iff.1 hx.op
  unfold sins
  split
  · rename_i h
    split
    · split
      · exact ⟨fun _ => rfl, .inl rfl⟩
      · exact ⟨fun _ => sset_out _ _ _, .inl (sset_state _ _ _)⟩
    · exact ⟨fun _ => rfl, .inr (.inr (.inr (.inl ⟨rfl, h⟩)))⟩
  split
  · rename_i h
    split
    · exact ⟨fun _ => rfl, .inr (.inr (.inr (.inr ⟨rfl, h⟩)))⟩
    · exact ⟨fun _ => rfl, .inl rfl⟩
  split
  · exact ⟨fun _ => sset_out _ _ _, .inl (sset_state _ _ _)⟩
  split
  · rename_i h
    split
    · exact ⟨fun _ => rfl, .inr (.inl ⟨rfl, h⟩)⟩
    · exact ⟨fun hn => absurd h hn, .inl rfl⟩
  rename_i h1 h2 h3 h4
  split
  · exact ⟨fun _ => sset_out _ _ _, .inl (sset_state _ _ _)⟩
  · rename_i h5
    refine ⟨fun _ => rfl, .inr (.inr (.inl ⟨rfl, ?_⟩))⟩
    exact (two_some (op := x.Op) (sget r x.A) (sget r x.B) (inb_iff.2 (by omega))).2 (by simpa using h5)
theorem send_st (r : XTurneryref2_Run) (e : XApi_End) : (send u r e).State = r.State ∨ (send u r e).State = 0 := send_state r e
structure Ends (u : XApi_Unit) (r : XTurneryref2_Run) : Prop where
  p : 22 ∉ opsU u → r.Out = [] ∧ r.State ≠ 5
  d : 5 ∉ opsU u → 6 ∉ opsU u → r.State ≠ 2
  m : 18 ∉ opsU u → 19 ∉ opsU u → r.State ≠ 3
  c : 20 ∉ opsU u → r.State ≠ 4
theorem ends_step (hF : Fine u) (r : XTurneryref2_Run) (hI : Inv u r) (h : Ends u r) : Ends u (sstep u r) := by
  rcases sstep_op hF hI with e | ⟨f, x, hx, hop, hIt, e, _⟩
  · rw [e]
    have ho := send_out (u := u) (tick r) (tblk u r).End
    have ho : (send u (tick r) (tblk u r).End).Out = r.Out := ho
    have hst : (send u (tick r) (tblk u r).End).State = r.State ∨ (send u (tick r) (tblk u r).End).State = 0 := send_st (tick r) _
    refine ⟨fun hn => ⟨by rw [ho]; exact (h.p hn).1, ?_⟩, fun h1 h2 => ?_, fun h1 h2 => ?_, fun h1 => ?_⟩
    · have := (h.p hn).2; omega
    · have := h.d h1 h2; omega
    · have := h.m h1 h2; omega
    · have := h.c h1; omega
  · rw [e]
    obtain ⟨ho, hst⟩ := sins_spec (r := atUp (tick r)) hx
    have ho : x.Op ≠ 22 → (sins u (atUp (tick r)) x).Out = r.Out := ho
    have es : (atUp (tick r)).State = r.State := rfl
    rw [es] at hst
    have hne : ∀ k, k ∉ opsU u → x.Op ≠ k := fun k hk e => hk (e ▸ hop)
    refine ⟨fun hn => ⟨by rw [ho (hne _ hn)]; exact (h.p hn).1, ?_⟩, fun h1 h2 => ?_, fun h1 h2 => ?_, fun h1 => ?_⟩
    · have := (h.p hn).2; have := hne _ hn; omega
    · have := h.d h1 h2; have := hne _ h1; have := hne _ h2; omega
    · have := h.m h1 h2; have := hne _ h1; have := hne _ h2; omega
    · have := h.c h1; have := hne _ h1; omega
theorem sall_ends {inp : List Int} (hF : Fine u) (hi : inp.length ≤ 30) (n : Int) : Ends u (sall u inp n) := by
  have hI := (rst_inv hF hi).1
  have hst := hI.st
  refine srun_ind hF (Ends u) (fun r hI h => ends_step hF r hI h) (fun r h => ?_) n.toNat (rst u inp) hI ?_
  · exact ⟨fun hn => ⟨(h.p hn).1, by show ¬ (1 : Int) = 5; omega⟩, fun _ _ => by show ¬ (1 : Int) = 2; omega, fun _ _ => by show ¬ (1 : Int) = 3; omega, fun _ => by show ¬ (1 : Int) = 4; omega⟩
  · exact ⟨fun _ => ⟨rfl, by omega⟩, fun _ _ => by omega, fun _ _ => by omega, fun _ => by omega⟩
def wIn (i : List Int) (r : XTurneryref2_Run) : XTurneryref2_Run := { r with Input := i }
theorem sset_in (i : List Int) (r : XTurneryref2_Run) (d n : Int) : sset (wIn i r) d n = wIn i (sset r d n) := by
  unfold sset
  split <;> rfl
theorem send_in (i : List Int) (r : XTurneryref2_Run) (e : XApi_End) : send u (wIn i r) e = wIn i (send u r e) := by
  unfold send
  have e1 : sget (wIn i r) e.On = sget r e.On := rfl
  have e2 : ∀ t, sto u (wIn i r) t = wIn i (sto u r t) := fun t => rfl
  have e3 : (wIn i r).Frames = r.Frames := rfl
  have e4 : spop (wIn i r) = wIn i (spop r) := rfl
  have e5 : top (wIn i r) = top r := rfl
  rw [e1, e2, e2, e3, e4, e5, sset_in]
  split
  · rfl
  split
  · split <;> rfl
  split <;> rfl
theorem sins_in (i : List Int) (r : XTurneryref2_Run) {x : XApi_Ins} (hx : x.Op ≠ 21) : sins u (wIn i r) x = wIn i (sins u r x) := by
  have e1 : ∀ v, sget (wIn i r) v = sget r v := fun v => rfl
  have e2 : (wIn i r).Mem = r.Mem := rfl
  have e3 : (wIn i r).Frames = r.Frames := rfl
  have e4 : (wIn i r).Out = r.Out := rfl
  unfold sins
  rw [e1, e1, e2, e3, e4, sset_in, sset_in, if_neg hx, if_neg hx]
  split
  · split
    · split <;> rfl
    · rfl
  split
  · split <;> rfl
  split
  · split <;> rfl
  split <;> rfl
theorem srun_in (hF : Fine u) (h21 : 21 ∉ opsU u) (i : List Int) : ∀ (n : Nat) (r : XTurneryref2_Run), Inv u r → srun u n (wIn i r) = wIn i (srun u n r)
  | 0, r, _ => rfl
  | n + 1, r, hI => by
    have e : sstep u (wIn i r) = wIn i (sstep u r) := by
      rcases sstep_op hF hI with e | ⟨f, x, hx, hop, hIt, e, e2⟩
      · rw [e, ← send_in]
        unfold sstep at e ⊢
        by_cases hat : (top r).At = (tblk u r).List.length
        · rw [if_pos (by exact hat)]; rfl
        · rw [if_neg hat] at e
          rw [if_neg (by exact hat)]
          obtain ⟨i2, j, H, ha0, ha1⟩ := hI.here
          have hi := H.hi; have hj := H.hj
          have hlt : (top r).At.toNat < (tblk u r).List.length := by omega
          have hmem : (tblk u r).List.getD (top r).At.toNat in0 ∈ (u.Funcs[i2]'H.hi).Blocks[j].List := by
            rw [getD_lt hlt, H.tblk.symm]; exact List.getElem_mem hlt
          have hne : ((tblk u r).List.getD (top r).At.toNat in0).Op ≠ 21 := fun e => h21 (by
            rw [← e]
            unfold opsU opsF opsB
            exact List.mem_flatMap.2 ⟨_, List.getElem_mem hi, List.mem_flatMap.2 ⟨_, List.getElem_mem hj, List.mem_map.2 ⟨_, hmem, rfl⟩⟩⟩)
          rw [send_in, ← e, ← sins_in i _ hne]; rfl
      · have hne : x.Op ≠ 21 := fun e => h21 (e ▸ hop)
        rw [e, ← sins_in i _ hne]
        exact e2 i
    rw [srun_succ, srun_succ, e]
    have es : (wIn i (sstep u r)).State = (sstep u r).State := rfl
    rw [es]
    split
    · obtain ⟨_, _, hg⟩ := hI.step hF oc0 (fuel := r.Steps + 1) (by omega)
      rcases hg with ⟨_, hI2⟩ | ⟨hz, _⟩
      · exact srun_in hF h21 i n _ hI2
      · omega
    · rfl
theorem idx_bool {l : List Bool} (hl : l.length = 23) {k : Nat} (hk : k < 23) : idx l (k : Int) = some (l.getD k false) := by
  rw [idx_lt (by omega), getD_lt (by omega)]
theorem runPrints_eq (hu : UOkS u) (a b : List Int) (n : Int) : law2_RunPrints u a b n = some true := by
  have hm := maxLen_big
  obtain ⟨vb, hvb⟩ := vast_some u hu.1
  unfold law2_RunPrints
  rw [runFact_eq, Option.bind_some, hvb]
  simp only [Bool.not_true, Bool.false_eq_true, if_false, lin2, Option.bind_some]
  by_cases hnf : inb n 0 2000 = false
  · rw [hnf]; rfl
  have hn : inb n 0 2000 = true := by simpa using hnf
  rw [hn]
  have hn' := inb_iff.1 hn
  have i1 : inb n 0 100000 = true := inb_iff.2 (by omega)
  simp only [Bool.not_true, Bool.false_eq_true, if_false, Option.bind_some]
  by_cases hcond : (if (if vb = true then true else decide (30 < (a.length : Int))) = true then true else decide (30 < (b.length : Int))) = true
  · rw [if_pos hcond]
  rw [if_neg hcond]
  have hla : a.length ≤ 30 ∧ b.length ≤ 30 := by
    cases vb with
    | true => exact absurd (by simp) hcond
    | false =>
      by_cases h1 : (30 : Int) < (a.length : Int)
      · exact absurd (by simp [h1]) hcond
      · by_cases h2 : (30 : Int) < (b.length : Int)
        · exact absurd (by simp [h2]) hcond
        · omega
  by_cases hc : (chk u).Code ≠ 0
  · rw [rundo_eq hu, rundo_eq hu, if_pos hc, if_pos hc, Option.bind_some, Option.bind_some]
    have : ((chk u).Code != 0) = true := by simpa using hc
    simp only [this, if_true, beq_self_eq_true, Bool.and_self]
  have rd : ∀ x : List Int, x.length ≤ 30 → run_Do u x n = some (outS (sall u x n), ⟨0, 0⟩) := fun x hx => by
    rw [rundo_eq hu, if_neg hc, if_neg (by omega : ¬ 30 < x.length), if_neg (by rw [i1]; decide)]
  rw [rd a hla.1, rd b hla.2, Option.bind_some, Option.bind_some]
  have hF : Fine u := ⟨chk_code u (by simpa using hc), hu⟩
  simp only [bne_self_eq_false, Bool.false_eq_true, if_false]
  rw [mks_ok (by omega) (by omega), Option.bind_some]
  refine (congrArg (fun x => Option.bind x _) (has1 hF (l := List.replicate 23 false) (by simp))).trans ?_
  rw [Option.bind_some]
  generalize hL : setL (List.replicate 23 false) (opsU u) = L
  have hlen : L.length = 23 := by rw [← hL, setL_len]; simp
  have hno : ∀ k : Nat, k < 23 → L.getD k false = false → (k : Int) ∉ opsU u := by
    intro k hk h hmem
    rw [← hL] at h
    exact (setL_get _ _ h).2 (by simpa using hk) _ hmem (by omega) rfl
  have E := sall_ends (inp := a) hF hla.1 n
  have ho := (all_over hF hla.1 hn'.1 (by omega : n ≤ 100000) oc0).2.2
  simp only [Br.go]
  have g22 : idx L 22 = some (L.getD 22 false) := idx_bool hlen (k := 22) (by omega)
  have g5 : idx L 5 = some (L.getD 5 false) := idx_bool hlen (k := 5) (by omega)
  have g6 : idx L 6 = some (L.getD 6 false) := idx_bool hlen (k := 6) (by omega)
  have g18 : idx L 18 = some (L.getD 18 false) := idx_bool hlen (k := 18) (by omega)
  have g19 : idx L 19 = some (L.getD 19 false) := idx_bool hlen (k := 19) (by omega)
  have g20 : idx L 20 = some (L.getD 20 false) := idx_bool hlen (k := 20) (by omega)
  have g21 : idx L 21 = some (L.getD 21 false) := idx_bool hlen (k := 21) (by omega)
  have p1 : (if (!L.getD 22 false) = true then if decide (0 < ((outS (sall u a n)).Out.length : Int)) = true then true else (outS (sall u a n)).State == 5 else false) = false := by
    cases h : L.getD 22 false with
    | true => rfl
    | false =>
      obtain ⟨q1, q2⟩ := E.p (hno 22 (by omega) h)
      have e1 : (outS (sall u a n)).Out = [] := q1
      have e2 : (outS (sall u a n)).State = (sall u a n).State := rfl
      rw [e1, e2]
      simp [q2]
  have p2 : (if (!L.getD 5 false) = true then some (if (!L.getD 6 false) = true then (outS (sall u a n)).State == 2 else false) else some false) = some false := by
    cases h : L.getD 5 false with
    | true => rfl
    | false =>
      cases h6 : L.getD 6 false with
      | true => rfl
      | false =>
        have := E.d (hno 5 (by omega) h) (hno 6 (by omega) h6)
        have e2 : (outS (sall u a n)).State = (sall u a n).State := rfl
        rw [e2]
        simp [this]
  have p4 : (if (!L.getD 20 false) = true then (outS (sall u a n)).State == 4 else false) = false := by
    cases h : L.getD 20 false with
    | true => rfl
    | false =>
      have := E.c (hno 20 (by omega) h)
      have e2 : (outS (sall u a n)).State = (sall u a n).State := rfl
      rw [e2]
      simp [this]
  have p3 : (if (!L.getD 19 false) = true then (outS (sall u a n)).State == 3 else false) = false ∨ L.getD 18 false = true := by
    cases h18 : L.getD 18 false with
    | true => exact .inr rfl
    | false =>
      left
      cases h : L.getD 19 false with
      | true => rfl
      | false =>
        have := E.m (hno 18 (by omega) h18) (hno 19 (by omega) h)
        have e2 : (outS (sall u a n)).State = (sall u a n).State := rfl
        rw [e2]
        simp [this]
  rw [g22, Option.bind_some, p1, if_neg (by decide), g5, Option.bind_some]
  have p2' : (if (!L.getD 5 false) = true then (idx L 6).bind fun x17 => some (if (!x17) = true then (outS (sall u a n)).State == 2 else false) else some false) = some false := by
    rw [g6]; exact p2
  rw [p2', Option.bind_some, if_neg (by decide), g18, Option.bind_some, g19, g20]
  have p5 : (if (!L.getD 18 false) = true then (some (L.getD 19 false)).bind fun x19 => if (if (!x19) = true then (outS (sall u a n)).State == 3 else false) = true then some true else (some (L.getD 20 false)).bind fun x20 => some (if (!x20) = true then (outS (sall u a n)).State == 4 else false)
      else (some (L.getD 20 false)).bind fun x21 => some (if (!x21) = true then (outS (sall u a n)).State == 4 else false)) = some false := by
    simp only [Option.bind_some, p4]
    rcases p3 with h | h
    · rw [h]; simp
    · rw [h]; rfl
  rw [p5, Option.bind_some, if_neg (by decide), g21, Option.bind_some]
  cases h21 : L.getD 21 false with
  | true => rfl
  | false =>
    have hr : sall u b n = wIn b (sall u a n) := by
      have := srun_in hF (hno 21 (by omega) h21) b n.toNat (rst u a) (rst_inv hF hla.1).1
      unfold sall
      rw [← this]; rfl
    have e : outS (sall u b n) = outS (sall u a n) := by rw [hr]; rfl
    have s1 : same_Outcomes (outS (sall u a n)) (outS (sall u a n)) = some true := outcomes_refl (by have := ho.out; show (sall u a n).Out.length ≤ maxLen; omega)
    rw [e, s1]
    rfl
end
end Go.Ab
