/-
  A slice's copy: slices.Clone compares its argument with nil, which the machine does not know; both ways end in the same.
-/
import Derived.Test.YtbhpblokoecoaaaAbV4
namespace Go.Ab
open Go

theorem pr_equal_nil {P : Program} {T e : TypeId} {x y : Operand} {a : Option Addr} {l c : Nat} (hu : P.underlying T = some (.slice e)) :
    pureRun P (do eqGuard .eql T x y (.slice a l c) (.slice none 0 0); binOp .eql T (.slice a l c) (.slice none 0 0)) = some (.bool a.isNone) := by
  have e : (do eqGuard .eql T x y (.slice a l c) (.slice none 0 0); binOp .eql T (.slice a l c) (.slice none 0 0)) = (do pure (.bool (← Op.equal T (.slice a l c) (.slice none 0 0))) : Sem Value) := rfl
  rw [e, pr_bind]
  unfold Op.equal Op.maxDepth
  have : ∀ d, pureRun P (Op.equalIn (d + 1) T (.slice a l c) (.slice none 0 0)) = some a.isNone := fun d => by
    cases a <;> simp [Op.equalIn, pr_bind, pr_underlying hu, pr_pure]
  rw [this 9999]; rfl

/-- What it answers, as abstract values. -/
def cloneA (m : Nat) : List AV → Option (AV × List AV)
  | [.sl rows] => if (rows.all fun r => decide (r.length = m) && r.all AV.cell && immL r && flatL r) && decide (rows.length ≤ 4294967296) then some (.own rows rows.length, []) else none
  | _ => none
/-- .. as plain data. -/
def clone {α : Type} (l : List α) : Option (List α) := if l.length ≤ 4294967296 then some l else none
theorem clone_some {α : Type} {l r : List α} (h : clone l = some r) : l.length ≤ 4294967296 ∧ r = l := by
  unfold clone at h; split at h
  · exact ⟨‹_›, by simpa using h.symm⟩
  · cases h
theorem cloneA_of {α : Type} {c : α → List AV} {m : Nat} [hc : Imm c] [hf : Fl c] {l r : List α} (h : clone l = some r) (hl : ∀ x, (c x).length = m := by exact fun _ => rfl) : cloneA m [.sl (l.map c)] = some (.own (r.map c) r.length, []) := by
  obtain ⟨h1, rfl⟩ := clone_some h
  rw [show r.length = (r.map c).length by simp]
  show (if _ then _ else _) = _
  rw [if_pos (by
    simp only [Bool.and_eq_true, decide_eq_true_eq, List.length_map]
    refine ⟨?_, h1⟩
    simp only [List.all_map, List.all_eq_true, Function.comp, Bool.and_eq_true, decide_eq_true_eq]
    intro x _
    refine ⟨⟨⟨hl x, ?_⟩, hc.im x⟩, hf.fl x⟩
    exact fun y hy => List.all_eq_true.1 (hc.ce x) y hy)]

/-- Rows that may be copied. -/
def CRow (m : Nat) : Type := {r : List AV // (decide (r.length = m) && r.all AV.cell && immL r && flatL r) = true}
def CRow.v {m : Nat} (r : CRow m) : List AV := r.1
theorem crow_h {m : Nat} (r : CRow m) : r.v.length = m ∧ r.v.all AV.cell = true ∧ immL r.v = true ∧ flatL r.v = true := by
  have := r.2
  simp only [Bool.and_eq_true, decide_eq_true_eq] at this
  exact ⟨this.1.1.1, this.1.1.2, this.1.2, this.2⟩
instance {m : Nat} : Fl (CRow.v (m := m)) := ⟨fun r => (crow_h r).2.2.2⟩
instance {m : Nat} : Imm (CRow.v (m := m)) := ⟨fun r => (crow_h r).2.2.1, fun r => (crow_h r).2.1⟩

theorem sl_nil {w : World} {I : Nat → Prop} {β : Id → Option Loc} {v : Value} {α : Type} {c : α → List AV} {q : List α} {f : List Nat} (h : R w I β f v (.sl (q.map c))) : ∃ a l k, v = .slice a l k ∧ (a = none → q = []) := by
  generalize hx : AV.sl (q.map c) = x at h
  cases h with
  | sl0 => exact ⟨_, _, _, rfl, fun _ => by simpa using hx⟩
  | sl => exact ⟨_, _, _, rfl, fun h => by cases h⟩
  | _ => cases hx
section
variable {C : Cx} {f : FuncId} {fn : Func} {T e t1 t2 : TypeId} {m : Nat} {bb : Bool} {zc : List AV} {p0 p1 p2 p3 p4 p5 p6 p7 : String} {f0 f1 f2 f3 f4 f5 f6 f7 : Array Edge} {E : Env}
def nilA : Operand := .const (.slice none 0 0)
theorem clone_sound [hu : Ul C T (.slice e)] [Ao C e m] [Zc C e zc] [Sz C e bb m] (h0 : (decide (0 < m) && decide (m = zc.length) && decide (0 * m ≤ 1000)) = true) (hN : NC C) (hw : C.P.follows .mixedOrders = true) (hlive : ∀ f i, (C.live f i).Nodup) (hcut : CutOk C)
    (hc0 : ∀ i, C.cutR f i = none) (hc1 : ∀ i, C.cutS f i = none) (hfz : C.frz f = []) (hle : C.lend f = []) (hf : C.P.funcs[f]? = some fn) (hn : fn.ntmps = 8) (hres : fn.results.toList = [.tmp 2])
    (hb : fn.body = some (.seq (.region 0 ⟨[⟨some 2, .assign nilA, T, p0, f0, none⟩]⟩ false)
      (.seq (.seq (.region 1 ⟨[⟨some 3, .move (.tmp 0), T, p1, f1, none⟩, ⟨some 4, .binOp .eql T (.tmp 3) nilA T, t1, p2, f2, none⟩]⟩ false)
        (.cond (.tmp 4) (.seq (.region 2 ⟨[⟨some 2, .assign nilA, T, p3, f3, none⟩]⟩ false) .ret) .skip))
      (.seq (.region 3 ⟨[⟨some 5, .buildSlice T 0 ⟨[]⟩, T, p4, f4, none⟩, ⟨some 6, .move (.tmp 0), T, p5, f5, none⟩, ⟨some 7, .call ⟨.builtin .append, ⟨[.tmp 5, .tmp 6]⟩, ⟨[T, T]⟩⟩, t2, p6, f6, none⟩, ⟨some 2, .assign (.tmp 7), T, p7, f7, none⟩]⟩ false) .ret))))
    {g : List AV → Option (AV × List AV)} (hg : g = cloneA m) {args : List AV} {r : AV × List AV} (hr : g args = some r) (hit : ∀ k it, C.iter k = some it → IterSound C k it := by intro k it h; cases h) : Sound C f args r := by
  subst hg
  unfold cloneA at hr
  split at hr
  case h_2 => cases hr
  rename_i rows
  split at hr
  case isFalse => cases hr
  rename_i hall
  simp only [Option.some.injEq] at hr
  subst hr
  simp only [Bool.and_eq_true, decide_eq_true_eq] at hall
  obtain ⟨hall, hlen⟩ := hall
  obtain ⟨q, rfl⟩ : ∃ q : List (CRow m), rows = q.map CRow.v := by
    refine ⟨rows.attachWith _ (fun r hr => List.all_eq_true.1 hall r hr), ?_⟩
    exact (List.attachWith_map_subtype_val _).symm
  rw [show (q.map CRow.v).length = q.length from List.length_map _]
  intro w I0 fp vs hargs hnd hI hfp hglob
  refine .inl ⟨fn, _, hf, hb, ?_⟩
  refine (callsIn_wide (n := 0)).1 (callsIn_of_wp_marks hf hb trivial (wpIn_wide.2 ?_))
  obtain ⟨v, rfl⟩ : ∃ v, vs = [v] := by
    have := hargs.length
    match vs, this with
    | [v], _ => exact ⟨v, rfl⟩
  have hv : ∃ a l c, v = .slice a l c ∧ (a = none → q = []) := by
    obtain ⟨f1, f2, v', vs', rfl, e, k1, k2⟩ := RL.cons_inv hargs
    simp only [List.cons.injEq] at e
    obtain ⟨rfl, _⟩ := e
    exact sl_nil k1
  obtain ⟨ad, l, cp, rfl, hnil⟩ := hv
  let E : Env := ⟨w, (· ∈ fp), I0, w.heap.size, Nat.le_refl _⟩
  have henter : Nx C E (mkSt fn.ntmps [0] [.sl (q.map CRow.v)]) { tmps := ⟨[.slice ad l cp]⟩ ++ Array.replicate (fn.ntmps - (⟨[.slice ad l cp]⟩ : Array Value).size) undef, defers := [] } w := by
    refine SR.enter (I := I0) (f := fp) ?_ Dfs.nil ?_ (by simp) hnd (fun b hb => ⟨.inl hb, hI b hb⟩) (fun b hb => ⟨hfp b hb, .inl hb⟩) (Kept.refl w _) hglob
    · simp [hn]
    · simpa [hn] using hargs
  rw [show mkSt fn.ntmps [0] [.sl (q.map CRow.v)] = ⟨8, upd (fun _ => .junk) 0 (.sl (q.map CRow.v)), fun _ => none⟩ by rw [hn]; rfl] at henter
  have hkeep : ∀ ops, keepB (C.lend f) ops = true := fun ops => by simp [keepB, hle]
  have hcall : ∀ (k : FuncId) (as : List AV) (r : AV × List AV), (fun _ _ => none : CallT) k as = some r → Sound C k as r := fun _ _ _ h => by cases h
  have go : ∀ (c : Code) (S : St) (x : Exit × St) (a : Act) (w' : World) (Q : Exit → Act → World → Prop), okC C f c = true → evCode C f (fun _ _ => none) lpD c S = some x → Nx C E S a w' → (∀ a' w'', Nx C E x.2 a' w'' → Q x.1 a' w'') → c.wp C.P Q a w' := fun c S x a w' Q h1 h2 h3 h4 =>
    wpIn_wide.1 (ok_code hN hw hlive hcut hcall hit lpD_ok c none E (C.lend f) (fun j => a.tmps.getD j undef) S x.1 x.2 a w' Q (.inl rfl) (by unfold okC at h1; rw [Bool.and_eq_true] at h1; exact h1.1) (by unfold okC at h1; rw [Bool.and_eq_true] at h1; exact h1.2) h2 h3 (fun j hj => rfl) fun a' w'' hx _ => h4 a' w'' hx)
  have hfin : ∀ a' w' S', finish C fn (C.lend f) [.sl (q.map CRow.v)] S' = some (.own (q.map CRow.v) q.length, []) → Nx C E S' a' w' → LeavesInM Fence.wide 0 C.P fn a'.tmps (fun e w' => ∃ v, e = .returned v ∧ Res w fp I0 (lentV (C.lend f) [.slice ad l cp]) (.own (q.map CRow.v) q.length, []) v w') a'.defers .returning w' := by
    rintro a' w' S' hx ⟨β, F, hS⟩
    refine leaves_marks hx (Nat.le_refl _) hS rfl fun w2 v hk2 e1 ⟨I', fr, g1, g2, g3, g4⟩ => ?_
    rw [hle] at g1 ⊢
    exact ⟨v, rfl, hk2, I', fr, g1, g2, g3, g4⟩
  have hfr : ∀ {S' : St}, Fin C [.tmp 2] [] (.own (q.map CRow.v) q.length) [] (.ret, S') → finish C fn (C.lend f) [.sl (q.map CRow.v)] S' = some (.own (q.map CRow.v) q.length, []) := by
    rintro S' ⟨_, vs, ids, is, k1, k2, k3, k4⟩
    unfold finish
    rw [hres, hle, k1, k2]
    simp only [k3, if_true]
    cases vs with
    | nil => simp [oneR] at k4
    | cons v vs =>
      cases vs with
      | nil => simp only [oneR] at k4; rw [k4]
      | cons _ _ => simp [oneR] at k4
  -- region 0
  refine wp_seq ?_
  obtain ⟨x0, he0, hx0⟩ : W C f (fun _ _ => none) (.region 0 ⟨[⟨some 2, .assign nilA, T, p0, f0, none⟩]⟩ false) ⟨8, upd (fun _ => .junk) 0 (.sl (q.map CRow.v)), fun _ => none⟩ (fun x => x = (.normal, ⟨8, upd (upd (fun _ => .junk) 0 (.sl (q.map CRow.v))) 2 .snil, fun _ => none⟩)) :=
    rg (pp oAssign <| nl rfl) (hc0 0)
  subst hx0
  refine go _ _ _ _ _ _ (by simp [okC, okD, okW, hkeep]) he0 henter fun a1 w1 h1 => ?_
  show Code.wp C.P _ _ _ _
  refine wp_seq (wp_seq (wp_region ?_))
  show wpOps C.P _ _ [0, 1] _ _
  obtain ⟨β1, F1, h1⟩ := h1
  refine .inl (ok_op (f := f) hN hcall h1 (e := ⟨[(3, .sl (q.map CRow.v))], [], []⟩) rfl rfl fun a2 w2 h2 => ?_)
  obtain ⟨β2, F2, h2⟩ := h2
  have hs := h2.getU (.tmp 3)
  obtain ⟨ad2, l2, cp2, hv2, hnil2⟩ : ∃ a l c, a2.eval (.tmp 3) = .slice a l c ∧ (a = none → q = []) := by
    have hs : R w2 (Im E w2 F2) β2 [] (a2.eval (.tmp 3)) (.sl (q.map CRow.v)) := hs
    exact sl_nil hs
  refine .inl (ok_val (x := .val (.bool ad2.isNone)) (rd := []) h2 (s := do eqGuard .eql T (.tmp 3) nilA (a2.eval (.tmp 3)) (a2.eval nilA); binOp .eql T (a2.eval (.tmp 3)) (a2.eval nilA)) rfl (by simp [execOp]) (by rw [hv2]; exact pureRun_run (pr_equal_nil hu.ul)) (.val rfl) fun a3 w3 h3 => ?_)
  show Code.wp C.P _ _ _ _
  have h3' : Nx C E ⟨8, upd (upd (upd (upd (fun _ => .junk) 0 (.sl (q.map CRow.v))) 2 .snil) 3 (.sl (q.map CRow.v))) 4 (.val (.bool ad2.isNone)), fun _ => none⟩ a3 w3 := h3
  cases hb2 : ad2.isNone with
  | true =>
    have hq := hnil2 (by simpa using hb2)
    rw [hb2] at h3'
    obtain ⟨x1, he1, hx1⟩ : W C f (fun _ _ => none) (.cond (.tmp 4) (.seq (.region 2 ⟨[⟨some 2, .assign nilA, T, p3, f3, none⟩]⟩ false) .ret) .skip) ⟨8, upd (upd (upd (upd (fun _ => .junk) 0 (.sl (q.map CRow.v))) 2 .snil) 3 (.sl (q.map CRow.v))) 4 (.val (.bool true)), fun _ => none⟩ (fun x => Fin C [.tmp 2] [] (.own (q.map CRow.v) q.length) [] x ∧ x.1 = .ret) :=
      cdT (sr (pp oAssign <| nl <| rt ⟨by subst hq; exact fin, rfl⟩) (hc0 2) rfl)
    obtain ⟨e1, S1⟩ := x1
    obtain ⟨hx1, rfl⟩ := hx1
    refine go _ _ _ _ _ _ (by simp [okC, okD, okW, hkeep]) he1 h3' fun a4 w4 h4 => ?_
    exact hfin _ _ _ (hfr hx1) h4
  | false =>
    rw [hb2] at h3'
    obtain ⟨x1, he1, hx1⟩ : W C f (fun _ _ => none) (.cond (.tmp 4) (.seq (.region 2 ⟨[⟨some 2, .assign nilA, T, p3, f3, none⟩]⟩ false) .ret) .skip) ⟨8, upd (upd (upd (upd (fun _ => .junk) 0 (.sl (q.map CRow.v))) 2 .snil) 3 (.sl (q.map CRow.v))) 4 (.val (.bool false)), fun _ => none⟩ (fun x => x = (.normal, ⟨8, upd (upd (upd (upd (fun _ => .junk) 0 (.sl (q.map CRow.v))) 2 .snil) 3 (.sl (q.map CRow.v))) 4 (.val (.bool false)), fun _ => none⟩)) :=
      cdF (sk rfl)
    subst hx1
    refine go _ _ _ _ _ _ (by simp [okC, okD, okW, hkeep]) he1 h3' fun a4 w4 h4 => ?_
    show Code.wp C.P _ _ _ _
    have hlen' : app [] q = some q := by
      unfold app
      rw [if_pos (by simpa using hlen)]; rfl
    obtain ⟨x2, he2, hx2⟩ : W C f (fun _ _ => none) (.seq (.region 3 ⟨[⟨some 5, .buildSlice T 0 ⟨[]⟩, T, p4, f4, none⟩, ⟨some 6, .move (.tmp 0), T, p5, f5, none⟩, ⟨some 7, .call ⟨.builtin .append, ⟨[.tmp 5, .tmp 6]⟩, ⟨[T, T]⟩⟩, t2, p6, f6, none⟩, ⟨some 2, .assign (.tmp 7), T, p7, f7, none⟩]⟩ false) .ret) ⟨8, upd (upd (upd (upd (fun _ => .junk) 0 (.sl (q.map CRow.v))) 2 .snil) 3 (.sl (q.map CRow.v))) 4 (.val (.bool false)), fun _ => none⟩ (fun x => Fin C [.tmp 2] [] (.own (q.map CRow.v) q.length) [] x ∧ x.1 = .ret) := by
      refine sr (ww (oBSM (rows' := []) (hin := by rw [hfz]; rfl) (h0 := h0) (hq := psN) (hf := rfl) (hs := rfl)) <| pp oMove <| ww (oApp (c := CRow.v) (q := []) hlen' (hl := fun x => (crow_h x).1) (hcell := rowCell_im) (hfz := by rw [hfz]; rfl)) <| pp oAssign <| nl <| rt ⟨fin, rfl⟩) (hc0 3) rfl
    obtain ⟨e2, S2⟩ := x2
    obtain ⟨hx2, rfl⟩ := hx2
    refine go _ _ _ _ _ _ (by simp [okC, okD, okW, hkeep]) he2 h4 fun a5 w5 h5 => ?_
    exact hfin _ _ _ (hfr hx2) h5
end
end Go.Ab
