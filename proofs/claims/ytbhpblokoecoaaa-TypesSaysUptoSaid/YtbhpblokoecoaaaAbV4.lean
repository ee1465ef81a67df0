/-
  STEPS (second making): what was lent comes back; loops; functions.
-/
import Derived.Test.YtbhpblokoecoaaaAbV3
namespace Go.Ab
open Go
def eqLen {α : Type} (a b : List α) : Option Unit := if a.length = b.length then some () else none
theorem eqLen_ok {α : Type} {a b : List α} {u : Unit} (h : eqLen a b = some u) : a.length = b.length := by
  unfold eqLen at h; split at h
  · (first | (with_reducible assumption) | assumption)
  · cases h
section
variable {L : Id → Option (Option Rows)} {id : Id} {cs old as bs args : List AV} {n m : Nat} {α : Type} {c : α → List AV} {q q0 : List α} {w w2 : List (Id × Option Rows)} {a b : AV} {j : Nat} {l : List Nat}
theorem ryM (ha : a = .mp id 0 0 := by exact rfl) (hb : b = .ownp cs := by exact rfl) (hh : L id = some (some [old]) := by exact rfl) (hl : cs.length = old.length := by exact rfl) : relay1 L a b = some [(id, some [cs])] := by
  subst ha hb; simp [relay1, hh, hl]
theorem ryR (hlen : q.length = q0.length) (ha : a = .rs id 0 m := by exact rfl) (hb : b = .own (q.map c) q.length := by exact rfl) (hh : L id = some (some (q0.map c)) := by exact rfl) (hm : m = q0.length := by exact len_ok) (hn : ∀ x, (c x).length = n := by exact fun _ => rfl) : relay1 L a b = some [(id, some (q.map c))] := by
  subst ha hb hm
  cases q0 with
  | nil =>
    obtain rfl : q = [] := List.length_eq_zero_iff.1 hlen
    simp only [List.map_nil] at hh
    simp [relay1, hh]
  | cons x q0 =>
    simp only [List.map_cons] at hh
    simp only [relay1, hh]
    rw [if_pos ⟨by simpa using hlen, by simpa using hlen, by simp, by simp [hn]⟩]
theorem ryS {r : Rows} (ha : a = .sl r := by exact rfl) : relay1 L a b = some [] := by subst ha; rfl
theorem rcN (ha : as = [] := by exact rfl) (hb : bs = [] := by exact rfl) : relayC L as bs = some [] := by subst ha hb; rfl
theorem rcC (ha : cs = a :: as) (hb : old = b :: bs) (h1 : relay1 L a b = some w) (h2 : relayC L as bs = some w2) : relayC L cs old = some (w ++ w2) := by subst ha hb; simp [relayC, h1, h2]
theorem ry1 (hn : (match a with | .agg _ => false | _ => true) = true) (h : relay1 L a b = some w) : relay L a b = some w := by
  cases a <;> first | exact h | cases hn
theorem rlN (hb : bs = [] := by exact rfl) : relayL L args [] bs = some [] := by subst hb; rfl
theorem rlC (hb : old = b :: bs) (ha : args[j]? = some a) (h1 : relay L a b = some w) (h2 : relayL L args l bs = some w2) : relayL L args (j :: l) old = some (w ++ w2) := by subst hb; simp [relayL, ha, h1, h2]
theorem rlk {y : Option (List (Id × Option Rows))} (h : relayL L args l bs = y := by repeat' (first | exact rlN | exact ryM | exact ryV | exact ryS | exact ryR (by (first | (with_reducible assumption) | assumption)) | exact rcN | (apply rcC; exact rfl; exact rfl) | (apply ryA; exact rfl; exact rfl) | (apply ry1; exact rfl) | (apply rlC; exact rfl; exact rfl))) : relayL L args l bs = y := h
end
section
variable {C : Cx} {f : FuncId} {call : CallT} {S : St} {g : Bool}
variable {d : Nat} {ty : TypeId} {pos : String} {af : Array Edge} {gd : Option (Nat × Bool)} {v v' : AV}
theorem oCallT {xs : Array Operand} {ts : Array TypeId} {kf : FuncId} {ms lend : List Nat} {args outs : List AV} {seen tk fzn : List Id} {r : AV} {back wr1 wr : List (Id × Option Rows)} (hc : call kf args = some (r, outs)) (hm : C.modes kf = ms := by exact rfl) (hm0 : ms.isEmpty = false := by exact rfl) (hle : C.lend kf = lend := by exact rfl)
    (ht : takeL S.h ms (xs.toList.map fun x => un g (S.get C x)) = some (args, seen, tk, fzn) := by exact tkk) (hz : (C.frz f).contains d = false := by exact rfl) (hb : relayL S.h (xs.toList.map fun x => un g (S.get C x)) lend outs = some back := by exact rlk)
    (h1 : (nodupB (tk ++ fzn) && disj seen (tk ++ fzn)) = true := by exact rfl) (h2 : (seen.isEmpty || mine r && outs.all mine) = true := by first | exact rfl | exact h2k mik mil) (h3 : (nodupB (back.map (·.1)) && (back.all fun x => tk.contains x.1)) = true := by exact rfl)
    (hi : imp [d] r = (v', wr1) := by exact impk) (hf : fresh S.h wr1 = true := by exact rfl) (hw : wr1 ++ (back ++ (tk ++ fzn).map fun i => (i, none)) = wr := by exact spine) (hpt : C.path kf = none := by exact rfl) :
    evOp C f call S g ⟨some d, .call ⟨.value (.func kf), xs, ts⟩, ty, pos, af, gd⟩ = some ⟨[(d, v')], seen, wr⟩ :=
  callT0 hm hm0 hle ht hc (v := r) (by simp only [inFrz, hz, Bool.false_eq_true, if_false]) hb h1 h2 h3 hi hf hw hpt
theorem oCallTZ {xs : Array Operand} {ts : Array TypeId} {kf : FuncId} {ms lend : List Nat} {args outs : List AV} {seen tk fzn : List Id} {r : AV} {back wr1 wr : List (Id × Option Rows)} (hc : call kf args = some (r, outs)) (hm : C.modes kf = ms := by exact rfl) (hm0 : ms.isEmpty = false := by exact rfl) (hle : C.lend kf = lend := by exact rfl)
    (ht : takeL S.h ms (xs.toList.map fun x => un g (S.get C x)) = some (args, seen, tk, fzn) := by exact tkk) (hz : (C.frz f).contains d = true := by exact rfl) (hv : fz r = v := by exact fzk) (hb : relayL S.h (xs.toList.map fun x => un g (S.get C x)) lend outs = some back := by exact rlk)
    (h1 : (nodupB (tk ++ fzn) && disj seen (tk ++ fzn)) = true := by exact rfl) (h2 : (seen.isEmpty || mine r && outs.all mine) = true := by first | exact rfl | exact h2k mik mil) (h3 : (nodupB (back.map (·.1)) && (back.all fun x => tk.contains x.1)) = true := by exact rfl)
    (hi : imp [d] v = (v', wr1) := by exact impk) (hf : fresh S.h wr1 = true := by exact rfl) (hw : wr1 ++ (back ++ (tk ++ fzn).map fun i => (i, none)) = wr := by exact spine) (hpt : C.path kf = none := by exact rfl) :
    evOp C f call S g ⟨some d, .call ⟨.value (.func kf), xs, ts⟩, ty, pos, af, gd⟩ = some ⟨[(d, v')], seen, wr⟩ :=
  callT0 hm hm0 hle ht hc (v := v) (by simp only [inFrz, hz, if_true, hv]) hb h1 h2 h3 hi hf hw hpt
end
theorem dnE {C : Cx} {f : FuncId} {a b : Nat} {args : List AV} {r : Option (AV × List AV)} (h : den C a f args = r) (e : a = b) : den C b f args = r := e ▸ h
def oneR : List AV → AV | [r] => r | vs => .tup vs
def Fin (C : Cx) (rv : List ResultVar) (lend : List Nat) (r : AV) (outs : List AV) (x : Exit × St) : Prop :=
  (x.1 = .ret ∨ x.1 = .normal) ∧ ∃ vs ids is, ressC C x.2 rv = some (vs, ids) ∧ packL x.2.h x.2.t lend = some (outs, is) ∧ nodupB (ids ++ is) = true ∧ oneR vs = r
section
variable {C : Cx} {f : FuncId} {call : CallT} {S : St} {T : TypeId}
variable {rv : List ResultVar} {lend : List Nat} {vs outs cs r : List AV} {ids is : List Id} {v v' : AV}
theorem rsN : ressC C S [] = some ([], []) := rfl
theorem rsT {t : Nat} (h : pk S.h 9 (un true (S.t t)) = some (v, ids)) (hr : ressC C S rv = some (vs, is)) : ressC C S (.tmp t :: rv) = some (v :: vs, ids ++ is) := by
  show (resC C S (.tmp t)).bind _ = _
  simp only [resC, h, Option.bind_some, hr, Option.map_some]
theorem rsR {a m : Nat} {id : Id} {bb : Bool} [ha : Sz C T bb m] (hx : un true (S.t a) = .mp id 0 0) (hh : S.h id = some (some [r])) (hl : Nat.ble m r.length = true) (hv : mkV bb (r.take m) = some v) (h : pk S.h 9 v = some (v', ids)) (hr : ressC C S rv = some (vs, is)) :
    ressC C S (.cell a T :: rv) = some (v' :: vs, id :: ids ++ is) := by
  show (resC C S (.cell a T)).bind _ = _
  have hl' : 0 + m ≤ r.length := by have := Nat.le_of_ble_eq_true hl; omega
  simp only [resC, ha.ag, ha.sz, hx, hh, List.getElem?_cons_zero, if_pos hl', List.drop_zero, hv, Option.bind_some, h, hr, Option.map_some]
theorem mkVs {cells : List AV} (hc : cells = [v]) : mkV false cells = some v := by subst hc; rfl
theorem mkVa {cells : List AV} (hc : cells = cs := by exact spine) : mkV true cells = some (.agg cs) := by subst hc; rfl
theorem rsk {y : Option (List AV × List Id)} (h : ressC C S rv = y := by repeat' (first | with_reducible exact rsN | ((with_reducible apply rsT); exact pkk) | ((with_reducible apply rsR); exact rfl; exact rfl; exact rfl; (first | exact mkVa | exact mkVs rfl); exact pkk) | ((with_reducible apply rsV); exact rfl; exact rfl; (first | exact mkVa | exact mkVs rfl); exact pkk))) : ressC C S rv = y := h
theorem fin {r : AV} (h : ressC C S rv = some (vs, ids) := by exact rsk) (hp : packL S.h S.t lend = some (outs, is) := by exact plk) (hn : nodupB (ids ++ is) = true := by exact rfl) (hr : oneR vs = r := by exact rfl) : Fin C rv lend r outs (.ret, S) := ⟨.inl rfl, vs, ids, is, h, hp, hn, hr⟩
theorem fnA {fn : Func} {c : Code} {args : List AV} {nn N : Nat} {r : AV} {t : Nat → AV} {h : Id → Option (Option Rows)} {sl : List Nat} (hf : C.P.funcs[f]? = some fn) (hn : fn.ntmps = N) (hr : fn.results.toList = rv) (k : W C f (den C nn) c ⟨N, t, h⟩ (Fin C rv lend r outs)) (hb : fn.body = some c := by exact rfl) (he : C.ext f = none := by exact rfl) (hle : C.lend f = lend := by exact rfl) (hl : Nat.ble args.length N = true := by exact rfl)
    (hsl : List.range args.length = sl := by exact rfl) (hm : mkSt N sl args = ⟨N, t, h⟩ := by exact mkk) : den C (nn + 1) f args = some (r, outs) := by
  obtain ⟨⟨e, s⟩, h1, h2, vs, ids, is, h3, h6, h4, h5⟩ := k
  subst hr hn hle hsl
  show evBody C (den C nn) lpD f args = _
  unfold evBody
  simp only [he, hf, hb, if_pos (Nat.le_of_ble_eq_true hl), hm, h1, Option.bind_some]
  have hfin : finish C fn (C.lend f) args s = some (r, outs) := by
    unfold finish
    simp only at h3 h6
    rw [h3, h6]
    simp only [h4, if_true]
    rw [← h5]
    congr 2
    cases vs with
    | nil => rfl
    | cons a l => cases l <;> rfl
  rcases h2 with h2 | h2
  · simp only at h2; subst h2; exact hfin
  · simp only at h2; subst h2; exact hfin
end
def Br.go {τ ρ ρ' : Type} (kb : τ → Option ρ) (kr : ρ' → Option ρ) : Br τ ρ' → Option ρ
  | .brk x => kb x
  | .ret r => kr r
section
variable {C : Cx} {f : FuncId} {call : CallT} {S : St} {Q : Exit × St → Prop} {c : Code} {σ τ ρ ρ' : Type} {r : ρ} {k : Nat} {o : Option (Bool × List Nat)} {rep : σ → St}
def Ql (o : Option (Bool × List Nat)) (rep : σ → St) (Rel : τ → Exit × St → Prop) (y : Lp σ τ) (x : Exit × St) : Prop := match y with | .next s' => x.1 = .normal ∧ cutC o x.2 = some (rep s') | .out v => x.1 ≠ .normal ∧ Rel v x
def headKey (C : Cx) (f : FuncId) (c : Code) : Option (Bool × List Nat) := match firstRegion c with | some i => some (C.shr f i, C.live f i) | none => some (false, [])
theorem lp0 {step : σ → Option (Lp σ τ)} (Rel : τ → Exit × St → Prop) {s0 : σ} {v : τ} (hL : Loop step s0 = some v) (h0 : cutC (headKey C f c) S = some (rep s0))
    (body : ∀ s y, step s = some y → W C f call c (rep s) (Ql (headKey C f c) rep Rel y)) : ∃ x, evCode C f call lpD (.loop c) S = some x ∧ Rel v x := by
  obtain ⟨m, hm⟩ := Loop_N hL
  have key : ∀ (b : Bool) (slots : List Nat), headKey C f c = some (b, slots) → (match firstRegion c with | some i => C.live f i | none => []) = slots → (match firstRegion c with | some i => C.shr f i | none => false) = b → ∃ x, evCode C f call lpD (.loop c) S = some x ∧ Rel v x := by
    intro b slots hk hs hb
    rw [hk] at h0 body
    cases b with
    | true =>
      have key : ∀ m s, LoopN step m s = some v → ∃ x, lpD St (fun S' => evCode C f call lpD c S') (fun S' => norm S' slots) (rep s) = some x ∧ Rel v x := by
        intro m
        induction m with
        | zero => intro s h; simp [LoopN] at h
        | succ m ih =>
          intro s h
          simp only [LoopN, Option.bind_eq_some_iff] at h
          obtain ⟨y, h1, h2⟩ := h
          obtain ⟨⟨e, S'⟩, h3, h4⟩ := body s y h1
          rw [lpD_unfolds]
          simp only [h3, Option.bind_some]
          cases y with
          | next s' =>
            obtain ⟨rfl, h5⟩ := h4
            have h5 : norm S' slots = some (rep s') := h5
            simp only [h5, Option.bind_some]
            exact ih s' h2
          | out o' =>
            obtain ⟨h5, h6⟩ := h4
            obtain rfl : o' = v := by simpa using h2
            cases e with
            | normal => exact absurd rfl h5
            | _ => exact ⟨_, rfl, h6⟩
      obtain ⟨x, h3, h4⟩ := key m s0 hm
      refine ⟨x, ?_, h4⟩
      subst hs
      simp only [evCode]
      refine (if_pos hb).trans ?_
      exact (congrArg (Option.bind · _) (show norm S _ = some (rep s0) from h0)).trans h3
    | false =>
      have h0 : (renorm S slots).map (mkSt S.n slots) = some (rep s0) := h0
      obtain ⟨tv0, h01, h02⟩ := Option.map_eq_some_iff.1 h0
      have hn : ∀ s, (∃ tv, mkSt S.n slots tv = rep s) → (rep s).n = S.n := fun s ⟨tv, h⟩ => by rw [← h, mkSt_n]
      have key : ∀ m s tv, mkSt S.n slots tv = rep s → LoopN step m s = some v → ∃ x, lpD (List AV) (fun tvs => evCode C f call lpD c (mkSt S.n slots tvs)) (fun S' => renorm S' slots) tv = some x ∧ Rel v x := by
        intro m
        induction m with
        | zero => intro s tv _ h; simp [LoopN] at h
        | succ m ih =>
          intro s tv htv h
          simp only [LoopN, Option.bind_eq_some_iff] at h
          obtain ⟨y, h1, h2⟩ := h
          obtain ⟨⟨e, S'⟩, h3, h4⟩ := body s y h1
          rw [lpD_unfolds]
          simp only [htv, h3, Option.bind_some]
          cases y with
          | next s' =>
            obtain ⟨rfl, h5⟩ := h4
            have h5 : (renorm S' slots).map (mkSt S'.n slots) = some (rep s') := h5
            obtain ⟨tv', h51, h52⟩ := Option.map_eq_some_iff.1 h5
            have hSn : S'.n = S.n := by rw [evCode_n lpD_ok _ _ _ h3]; exact hn s ⟨tv, htv⟩
            rw [hSn] at h52
            simp only [h51, Option.bind_some]
            exact ih s' tv' h52 h2
          | out o' =>
            obtain ⟨h5, h6⟩ := h4
            obtain rfl : o' = v := by simpa using h2
            cases e with
            | normal => exact absurd rfl h5
            | _ => exact ⟨_, rfl, h6⟩
      obtain ⟨x, h3, h4⟩ := key m s0 tv0 h02 hm
      refine ⟨x, ?_, h4⟩
      subst hs
      simp only [evCode]
      refine (if_neg fun e => Bool.noConfusion (hb.symm.trans e)).trans ?_
      exact (congrArg (Option.bind · _) h01).trans h3
  unfold headKey at key
  split at key
  · exact key _ _ rfl rfl rfl
  · exact key _ _ rfl rfl rfl
def RX (C : Cx) (f : FuncId) (k : Nat) (rep2 : τ → St) (v : τ) (x : Exit × St) : Prop := x.1 = .exit k ∧ cutC (C.cutB f k) x.2 = some (rep2 v)
def RXR (C : Cx) (f : FuncId) (k : Nat) (rep2 : τ → St) (R : ρ' → Exit × St → Prop) : Br τ ρ' → Exit × St → Prop
  | .brk v, x => RX C f k rep2 v x
  | .ret r, x => R r x
theorem lp {step : σ → Option (Lp σ τ)} {s0 : σ} {Bk : τ → Option ρ} (rep : σ → St) (rep2 : τ → St) (hF : (Loop step s0).bind Bk = some r) (h0 : cutC (headKey C f c) S = some (rep s0))
    (body : ∀ s y, step s = some y → W C f call c (rep s) (Ql (headKey C f c) rep (RX C f k rep2) y)) (post : ∀ v, Bk v = some r → Q (.normal, rep2 v)) : W C f call (.block k (.loop c)) S Q := by
  obtain ⟨v, h1, h2⟩ := bindS hF
  obtain ⟨⟨e, S'⟩, h3, rfl, h5⟩ := lp0 (RX C f k rep2) h1 h0 body
  exact bl ⟨_, h3, qbHC h5 (post v h2)⟩
theorem lpR {step : σ → Option (Lp σ (Br τ ρ'))} {s0 : σ} {kb : τ → Option ρ} {kr : ρ' → Option ρ} (rep : σ → St) (rep2 : τ → St) (R : ρ' → Exit × St → Prop) (hF : (Loop step s0).bind (Br.go kb kr) = some r) (h0 : cutC (headKey C f c) S = some (rep s0))
    (body : ∀ s y, step s = some y → W C f call c (rep s) (Ql (headKey C f c) rep (RXR C f k rep2 R) y)) (post : ∀ v, kb v = some r → Q (.normal, rep2 v)) (far : ∀ v, kr v = some r → ∀ x, R v x → Qb C f k Q x) : W C f call (.block k (.loop c)) S Q := by
  obtain ⟨v, h1, h2⟩ := bindS hF
  obtain ⟨x, h3, h4⟩ := lp0 (RXR C f k rep2 R) h1 h0 body
  cases v with
  | brk v =>
    obtain ⟨e, S'⟩ := x
    obtain ⟨rfl, h5⟩ := h4
    exact bl ⟨_, h3, qbHC h5 (post v h2)⟩
  | ret v => exact bl ⟨_, h3, far v h2 _ h4⟩
variable {Rel : τ → Exit × St → Prop} {rep2 : τ → St} {R : ρ' → Exit × St → Prop}
theorem ln {s' : σ} {y : Lp σ τ} (hy : some (Lp.next s') = some y) (hc : cutC o S = some (rep s')) : Ql o rep Rel y (.normal, S) := by cases hy; exact ⟨rfl, hc⟩
theorem lx {v : τ} {y : Lp σ τ} (hy : some (Lp.out v) = some y) (hc : cutC (C.cutB f k) S = some (rep2 v)) : Ql o rep (RX C f k rep2) y (.exit k, S) := by cases hy; exact ⟨by simp, rfl, hc⟩
theorem lxR {v : τ} {y : Lp σ (Br τ ρ')} (hy : some (Lp.out (Br.brk v)) = some y) (hc : cutC (C.cutB f k) S = some (rep2 v)) : Ql o rep (RXR C f k rep2 R) y (.exit k, S) := by cases hy; exact ⟨by simp, rfl, hc⟩
theorem lr {v : ρ'} {y : Lp σ (Br τ ρ')} (hy : some (Lp.out (Br.ret v)) = some y) (h : R v (.ret, S)) : Ql o rep (RXR C f k rep2 R) y (.ret, S) := by cases hy; exact ⟨by simp, h⟩
end
theorem inj {α : Type} {a b : α} (h : some a = some b) : a = b := Option.some.inj h
end Go.Ab
