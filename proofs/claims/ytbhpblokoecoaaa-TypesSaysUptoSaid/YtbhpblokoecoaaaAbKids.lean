/-
  AN ITERATOR BY CONTRACT: a node's kids, as numbers in order and nodes.
-/
import Derived.Test.YtbhpblokoecoaaaAbIter
import Derived.Test.YtbhpblokoecoaaaAbClone
namespace Go.Ab
open Go
def kidsGo {α : Type} (nodes : List α) : Nat → List Int → Option (List (Int × α))
  | _, [] => some []
  | j, x :: l => (idx nodes x).bind fun n => (kidsGo nodes (j + 1) l).bind fun r => some (((j : Int), n) :: r)
def kidsOf {α : Type} (kids : α → List Int) (nodes : List α) (k : Int) : Option (List (Int × α)) := (idx nodes k).bind fun n => if (kids n).length ≤ 4294967296 then kidsGo nodes 0 (kids n) else none
def kidE {α : Type} (c : α → List AV) (y : Int × α) : List AV := [.val (.int .i64 y.1), .agg (c y.2)]
def cI64 (n : Int) : List AV := [.val (.int .i64 n)]
def intsOf : Rows → Option (List Int)
  | [] => some []
  | [.val (.int .i64 x)] :: l => (intsOf l).map (x :: ·)
  | _ => none
theorem intsOf_ok : ∀ {ks : Rows} {l : List Int}, intsOf ks = some l → ks = l.map cI64
  | [], l, h => by simp [intsOf] at h; subst h; rfl
  | r :: ks, l, h => by
    unfold intsOf at h
    split at h
    · rename_i e; cases e
    · rename_i x l' e
      cases e
      obtain ⟨l2, h1, rfl⟩ := Option.map_eq_some_iff.1 h
      rw [intsOf_ok h1]; rfl
    · cases h
theorem intsOf_map : ∀ l : List Int, intsOf (l.map cI64) = some l
  | [] => rfl
  | x :: l => by simp [cI64, intsOf]; exact intsOf_map l
def kidsCol (off : Nat) (r : List AV) : Option (List Int) := match r.drop off with
  | .sl ks :: _ => intsOf ks
  | _ => none
def kidsIt (m off : Nat) : List AV → Option (List (List AV))
  | [.vp [.sl rows], .vp [.val (.int .i64 k)]] => if (rows.all fun r => decide (r.length = m) && r.all AV.cell && immL r && flatL r) = true then (idx rows k).bind fun r => (kidsCol off r).bind fun l => if l.length ≤ 4294967296 then (kidsGo rows 0 l).map (·.map (kidE id)) else none else none
  | _ => none
theorem kidsGo_map {α : Type} {c : α → List AV} {nodes : List α} : ∀ {l : List Int} {j : Nat} {ys : List (Int × α)}, kidsGo nodes j l = some ys → kidsGo (nodes.map c) j l = some (ys.map fun y => (y.1, c y.2))
  | [], j, ys, h => by simp [kidsGo] at h; subst h; rfl
  | x :: l, j, ys, h => by
    simp only [kidsGo, Option.bind_eq_some_iff, Option.some.injEq] at h
    obtain ⟨n, h1, r, h2, rfl⟩ := h
    simp [kidsGo, idx_map h1, kidsGo_map h2]
theorem kidsIt_of {α : Type} {c : α → List AV} {kids : α → List Int} {rest : α → List AV} {nodes : List α} {k : Int} {ys : List (Int × α)} {m off : Nat} [hi : Imm c] [hf : Fl c] (h : kidsOf kids nodes k = some ys) (hl : ∀ x, (c x).length = m := by exact fun _ => rfl) (hc : ∀ x, (c x).drop off = .sl ((kids x).map cI64) :: rest x := by exact fun _ => rfl) :
    kidsIt m off [.vp [.sl (nodes.map c)], .vp [.val (.int .i64 k)]] = some (ys.map (kidE c)) := by
  unfold kidsOf at h
  simp only [Option.bind_eq_some_iff] at h
  obtain ⟨n, h1, h2⟩ := h
  split at h2
  case isFalse => cases h2
  rename_i hlen
  show (if _ then _ else _) = _
  rw [if_pos (by
    simp only [List.all_map, List.all_eq_true, Function.comp, Bool.and_eq_true, decide_eq_true_eq]
    intro x _
    exact ⟨⟨⟨hl x, fun y hy => List.all_eq_true.1 (hi.ce x) y hy⟩, hi.im x⟩, hf.fl x⟩), idx_map h1, Option.bind_some]
  simp only [kidsCol, hc, intsOf_map, Option.bind_some, kidsGo_map h2, Option.map_some, List.map_map, if_pos hlen]
  rfl
theorem kidsR {C : Cx} {k : FuncId} {α : Type} {c : α → List AV} {kids : α → List Int} {rest : α → List AV} {nodes : List α} {k0 : Int} {ys : List (Int × α)} {m off : Nat} [hi : Imm c] [hf : Fl c] (hk : C.iter k = some (kidsIt m off)) (h : kidsOf kids nodes k0 = some ys) (hl : ∀ x, (c x).length = m := by exact fun _ => rfl) (hc : ∀ x, (c x).drop off = .sl ((kids x).map cI64) :: rest x := by exact fun _ => rfl) :
    rangeOf C (.fn (.func k) [] [.vp [.sl (nodes.map c)], .vp [.val (.int .i64 k0)]]) = some (ys.map (kidE c)) := by
  show (if immL [.vp [.sl (nodes.map c)], .vp [.val (.int .i64 k0)]] = true then (C.iter k).bind (· [.vp [.sl (nodes.map c)], .vp [.val (.int .i64 k0)]]) else none) = _
  rw [if_pos (by simp [immL, imm]), hk]
  exact kidsIt_of h hl hc
theorem kidsGo_get {α : Type} {nodes : List α} : ∀ {l : List Int} {j : Nat} {ys : List (Int × α)}, kidsGo nodes j l = some ys → ys.length = l.length ∧ ∀ (i : Nat) (x : Int), l[i]? = some x → ∃ n, idx nodes x = some n ∧ ys[i]? = some (((j + i : Nat) : Int), n)
  | [], j, ys, h => by simp [kidsGo] at h; subst h; exact ⟨rfl, fun i x h => by simp at h⟩
  | x :: l, j, ys, h => by
    simp only [kidsGo, Option.bind_eq_some_iff, Option.some.injEq] at h
    obtain ⟨n, h1, r, h2, rfl⟩ := h
    obtain ⟨g1, g2⟩ := kidsGo_get h2
    refine ⟨by simp [g1], fun i x' hx => ?_⟩
    cases i with
    | zero => simp at hx; subst hx; exact ⟨n, h1, by simp⟩
    | succ i =>
      obtain ⟨n', k1, k2⟩ := g2 i x' (by simpa using hx)
      exact ⟨n', k1, by rw [List.getElem?_cons_succ, k2]; congr 3; omega⟩
def Wk (g f : Nat → AV) : Prop := ∀ t, f t = g t ∨ f t = .junk
theorem wkN {g : Nat → AV} : Wk g (fun _ => .junk) := fun _ => .inr rfl
theorem wkC {g f : Nat → AV} {s : Nat} {v : AV} (h : Wk g f) (hs : g s = v := by exact rfl) : Wk g (upd f s v) := fun t => by
  by_cases e : t = s
  · subst e; left; simp [upd, hs]
  · simpa [upd, e] using h t
theorem YS.weak {C : Cx} {J Jx : JT} {z : Option Nat} {a : Act} {W : World} {n : Nat} {t t' : Nat → AV} {h : Id → Option (Option Rows)} (hw : Wk t t') (hS : YS C J Jx z ⟨n, t, h⟩ a W) : YS C J Jx z ⟨n, t', h⟩ a W := by
  obtain ⟨h0, E, β, F, h1, h2, h3, h4⟩ := hS
  refine ⟨h0, E, β, F, { n := h1.n, df := h1.df, slot := fun u => ?_, obj := h1.obj, dead := h1.dead, nd := h1.nd, dj := h1.dj, dom := h1.dom, lt := h1.lt, kept := h1.kept, glob := h1.glob }, h2, h3, h4⟩
  rcases hw u with e | e
  · simp only [e]; exact h1.slot u
  · simp only [e]; exact .junk
section
variable {C : Cx} {f : FuncId} {call : CallT} {l : Nat} {ys : List (List AV)} {z : Option Nat} {Q : Exit → Option Nat → St → Prop} {c : Code} {n : Nat} {t : Nat → AV} {h : Id → Option (Option Rows)}
theorem ycount (L : Nat) (rep : Nat → Nat → AV) (h0 : Wk t (rep 0)) (round : ∀ j, j ≤ L → YW C f call l ys c (some j) ⟨n, rep j, h⟩ fun e z' S' => match e with | .normal => j < L ∧ z' = some (j + 1) ∧ S'.n = n ∧ S'.h = h ∧ Wk S'.t (rep (j + 1)) | e => Q e z' S') : YW C f call l ys (.loop c) (some 0) ⟨n, t, h⟩ Q := by
  intro J Jx hY a W Qc hS hQ
  refine wpIn_loop_ghost (fun m a W => ∃ j, j + m = L ∧ YS C J Jx (some j) ⟨n, rep j, h⟩ a W) L ⟨0, by omega, hS.weak h0⟩ ?_
  rintro m a W ⟨j, hj, hS⟩
  refine round j (by omega) J Jx hY a W _ hS fun e z' S' a' W' hq hS' => ?_
  cases e with
  | normal =>
    obtain ⟨h1, rfl, h2, h3, h4⟩ := hq
    obtain ⟨n', t', h'⟩ := S'
    simp only at h2 h3 h4
    subst h2 h3
    exact ⟨m - 1, by omega, j + 1, by omega, hS'.weak h4⟩
  | _ => exact hQ _ _ _ _ _ hq hS'
end
section
variable {C : Cx} {k : FuncId} {fn : Func} {TT TN TI ND KS TB : TypeId} {m off kf : Nat} {y0 y1 y2 y3 y4 y5 y6 y7 y8 y9 y10 y11 y12 y13 y14 y15 y16 y17 y18 y19 y20 y21 y22 y23 y24 : TypeId} {p0 p1 p2 p3 p4 p5 p6 p7 p8 p9 p10 p11 p12 p13 p14 p15 p16 p17 p18 p19 p20 p21 p22 p23 p24 : String} {f0 f1 f2 f3 f4 f5 f6 f7 f8 f9 f10 f11 f12 f13 f14 f15 f16 f17 f18 f19 f20 f21 f22 f23 f24 : Array Edge}
set_option maxHeartbeats 2000000 in
theorem kids_sound [Fd C TT 0 0 1 false] [Sz C TN false 1] [Ul C TN (.slice ND)] [Sz C ND true m] [Fd C ND kf off 1 false] [Sz C KS false 1] [Ul C KS (.slice TI)] [Sz C TI false 1] (hm0 : Nat.blt off m = true) (hN : NC C) (hf : C.P.funcs[k]? = some fn) (hn : fn.ntmps = 28) (hres : fn.results = #[])
    (hb : fn.body = some (.seq (.region 0 ⟨[⟨some 6, .fieldAddr TT (.tmp 1) 0, y0, p0, f0, none⟩, ⟨some 7, .load TN (.tmp 6), y1, p1, f1, none⟩, ⟨some 8, .load TI (.tmp 2), y2, p2, f2, none⟩, ⟨some 9, .indexAddr TN (.tmp 7) (.tmp 8), y3, p3, f3, none⟩, ⟨some 10, .fieldAddr ND (.tmp 9) kf, y4, p4, f4, none⟩, ⟨some 11, .load KS (.tmp 10), y5, p5, f5, none⟩, ⟨some 12, .call ⟨.builtin .len, ⟨[.tmp 11]⟩, ⟨[KS]⟩⟩, y6, p6, f6, none⟩, ⟨some 13, .move (.const (.int .i64 0)), y7, p7, f7, none⟩]⟩ false)
    (.block 0 (.loop (.seq (.region 1 ⟨[⟨some 14, .binOp .lss TI (.tmp 13) (.tmp 12) TI, y8, p8, f8, none⟩]⟩ false)
      (.seq (.cond (.tmp 14) .skip (.exit 0))
        (.seq (.block 1 (.seq (.region 2 ⟨[⟨some 15, .move (.tmp 13), y9, p9, f9, none⟩, ⟨some 16, .indexAddr KS (.tmp 11) (.tmp 13), y10, p10, f10, none⟩, ⟨some 17, .load TI (.tmp 16), y11, p11, f11, none⟩, ⟨some 4, .assign (.tmp 15), y12, p12, f12, none⟩, ⟨some 5, .assign (.tmp 17), y13, p13, f13, none⟩]⟩ false)
          (.seq (.region 3 ⟨[⟨some 18, .move (.tmp 0), y14, p14, f14, none⟩, ⟨some 19, .move (.tmp 4), y15, p15, f15, none⟩, ⟨some 20, .fieldAddr TT (.tmp 1) 0, y16, p16, f16, none⟩, ⟨some 21, .load TN (.tmp 20), y17, p17, f17, none⟩, ⟨some 22, .move (.tmp 5), y18, p18, f18, none⟩, ⟨some 23, .indexAddr TN (.tmp 21) (.tmp 22), y19, p19, f19, none⟩, ⟨some 24, .load ND (.tmp 23), y20, p20, f20, none⟩, ⟨some 25, .call ⟨.value (.tmp 18), ⟨[.tmp 19, .tmp 24]⟩, ⟨[TI, ND]⟩⟩, y21, p21, f21, none⟩, ⟨some 26, .unOp .not TB (.tmp 25), y22, p22, f22, none⟩]⟩ false)
            (.cond (.tmp 26) .ret .skip))))
          (.region 4 ⟨[⟨some 27, .binOp .add TI (.tmp 13) (.const (.int .i64 1)) TI, y23, p23, f23, none⟩, ⟨some 13, .move (.tmp 27), y24, p24, f24, none⟩]⟩ false)))))))) : IterSound C k (kidsIt m off) := by
  have hm : off < m := of_decide_eq_true (blt_decide hm0)
  refine iter_sound (call := fun _ _ => none) hN (fun _ _ _ h => by cases h) hf hb hres ?_ ?_ ?_
  · intro caps ys h
    unfold kidsIt at h
    split at h
    · simp [hn]
    · cases h
  · intro l caps ys h id
    unfold kidsIt at h
    split at h
    · rfl
    · cases h
  intro l caps ys h
  rw [hn]
  unfold kidsIt at h
  split at h
  case h_2 => cases h
  rename_i rows k0
  split at h
  case isFalse => cases h
  rename_i hall
  obtain ⟨q, rfl⟩ : ∃ q : List (CRow m), rows = q.map CRow.v := by
    refine ⟨rows.attachWith _ (fun r hr => List.all_eq_true.1 hall r hr), ?_⟩
    exact (List.attachWith_map_subtype_val _).symm
  clear hall
  simp only [Option.bind_eq_some_iff] at h
  obtain ⟨r0', h1, ks, h2, h3⟩ := h
  split at h3
  case isFalse => cases h3
  rename_i hbd
  obtain ⟨yl, h4, rfl⟩ := Option.map_eq_some_iff.1 h3
  obtain ⟨r0, hr0, rfl⟩ : ∃ r0, idx q k0 = some r0 ∧ r0' = r0.v := by
    have hb := idx_bounds h1
    obtain ⟨r0, hr⟩ : ∃ r0, q[k0.toNat]? = some r0 := ⟨_, List.getElem?_eq_getElem (by simp at hb; omega)⟩
    have : idx q k0 = some r0 := by unfold idx; rw [if_pos hb.1, hr]
    refine ⟨r0, this, ?_⟩
    rw [idx_map this] at h1
    exact (Option.some.inj h1).symm
  obtain ⟨rs, hcol⟩ : ∃ rs, r0.v.drop off = .sl (ks.map cI64) :: rs := by
    unfold kidsCol at h2
    split at h2
    · rename_i ks' rs e; rw [intsOf_ok h2] at e; exact ⟨rs, e⟩
    · cases h2
  have hlen : ∀ r : CRow m, r.v.length = m := fun r => (crow_h r).1
  have hle : ∀ r : CRow m, Nat.ble off r.v.length = true := fun r => Nat.ble_eq_true_of_le (by rw [hlen]; omega)
  have hm1 : Nat.blt 0 m = true := by simp [Nat.blt]; omega
  obtain ⟨gl, gg⟩ := kidsGo_get h4
  have hyl : (yl.map (kidE id)).length = ks.length := by simp [gl]
  rw [hyl]
  let st : Nat → Nat → AV := fun j => upd (upd (upd (upd (upd (upd (fun _ => .junk) 0 (.fn (.yield l) [] [])) 1 (.vp [.sl (q.map CRow.v)])) 2 (.vp [.val (.int .i64 k0)])) 11 (.sl (ks.map cI64))) 12 (.val (.int .i64 ks.length))) 13 (.val (.int .i64 (j : Int)))
  show YW C k (fun _ _ => none) l (yl.map (kidE id)) _ (some 0) ⟨28, upd (upd (upd (fun _ => .junk) 2 (.vp [.val (.int .i64 k0)])) 1 (.vp [.sl (q.map CRow.v)])) 0 (.fn (.yield l) [] []), fun _ => none⟩ _
  refine ysr <| yp (oFA (C := C)) <| yp oLd <| yp oLd <| yp (oIx hr0 (h0 := hm1) (hr := hlen _)) <| yp (oFA (hl := hle _)) <| yp (oLd (hv := hcol)) <| yp oLenSl <| yp oMove <| ynl <| ybl <| ycount ks.length st ?_ ?_
  · exact wkC (wkC (wkC (wkC (wkC (wkC wkN)))))
  intro j hj
  refine ysr <| yp (oLss (a := (j : Int)) (b := (ks.length : Int))) <| ynl ?_
  rcases Nat.lt_or_ge j ks.length with hlt | hge
  · have hd : decide ((j : Int) < (ks.length : Int)) = true := by simp; omega
    obtain ⟨x, hx⟩ : ∃ x, ks[j]? = some x := ⟨_, List.getElem?_eq_getElem hlt⟩
    have hix : idx ks (j : Int) = some x := by unfold idx; rw [if_pos (by omega)]; simpa using hx
    obtain ⟨nd, hnd, hy⟩ := gg j x hx
    obtain ⟨nd, hnd2, rfl⟩ : ∃ r, idx q x = some r ∧ nd = r.v := by
      have hb := idx_bounds hnd
      obtain ⟨r, hr⟩ : ∃ r, q[x.toNat]? = some r := ⟨_, List.getElem?_eq_getElem (by simp at hb; omega)⟩
      have : idx q x = some r := by unfold idx; rw [if_pos hb.1, hr]
      refine ⟨r, this, ?_⟩
      rw [idx_map this] at hnd
      exact (Option.some.inj hnd).symm
    have hyy : (yl.map (kidE id))[j]? = some [.val (.int .i64 (j : Int)), .agg nd.v] := by
      rw [List.getElem?_map, hy]; simp [kidE]
    have htk : nd.v.take m = nd.v := List.take_of_length_le (by rw [hlen]; omega)
    refine yseq (ycd (bb := true) (by rw [← hd]; rfl) (ysk ?_))
    refine yseq (ybl ?_)
    refine ysr <| yp oMove <| yp (oIx (c := cI64) hix) <| yp oLd <| yp oAssign <| yp oAssign <| ynl ?_
    refine ysr <| yp (oMove (v := .fn (.yield l) [] []) (h := rfl)) <| yp oMove <| yp oFA <| yp oLd <| yp oMove <| yp (oIx hnd2 (h0 := hm1) (hr := hlen _)) <| yp (oLdA (hl := Nat.ble_eq_true_of_le (by rw [hlen]; omega)) (hv := htk)) <| yy rfl hyy rfl ?_ ?_ ?_
    · have := (crow_h nd).2.2.1; simp [immL, imm, this]
    · refine yp oNot <| ynl <| ycd (bb := false) rfl (ysk ?_)
      have hw : (IntKind.i64.wrap ((j : Int) + 1)) = ((j + 1 : Nat) : Int) := by
        simp only [IntKind.wrap, IntKind.bits, IntKind.signed]
        simp
        split <;> omega
      refine yrg <| yp oAdd <| yp oMove <| ynl ⟨hlt, rfl, rfl, rfl, ?_⟩
      exact wkC (wkC (wkC (wkC (wkC (wkC wkN))))) (by show AV.val (.int .i64 (IntKind.i64.wrap ((j : Int) + 1))) = _; rw [hw])
    · exact yp oNot <| ynl <| ycd (bb := true) rfl (yrt ⟨.inr rfl, .inr rfl⟩)
  · have hd : decide ((j : Int) < (ks.length : Int)) = false := by simp; omega
    refine yseq (ycd (bb := false) (by rw [← hd]; rfl) (yex ?_))
    obtain rfl : j = ks.length := by omega
    exact ⟨.inl rfl, .inl rfl⟩
end
end Go.Ab
