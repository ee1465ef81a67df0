/-
  STEPS: a range over a function.
-/
import Derived.Test.YtbhpblokoecoaaaAbV8
namespace Go.Ab
open Go
inductive Rg (σ τ : Type) where
  | go (s : σ)
  | ret (t : τ)
  | ex (t : τ)
def RangeL {α σ τ : Type} (step : α → σ → Option (Rg σ τ)) : List α → σ → Option (Rg σ τ)
  | [], s => some (.go s)
  | y :: ys, s => (step y s).bind fun z => match z with
    | .go s' => RangeL step ys s'
    | z => some z
def Rg.on {σ τ ρ : Type} (kg : σ → Option ρ) (kr ke : τ → Option ρ) : Rg σ τ → Option ρ
  | .go s => kg s
  | .ret s => kr s
  | .ex s => ke s
section
variable {C : Cx} {f : FuncId} {call : CallT} {S : St} {Q : Exit × St → Prop} {assign body : Code} {α σ τ ρ : Type} {r : ρ} {rep : σ → St} {rep2 : τ → St} {enc : α → List AV} {gp : Operand} {ps : Array Tmp} {j : Nat}
def Qr (o : Option (Bool × List Nat)) (rep : σ → St) (rep2 : τ → St) (j : Nat) (z : Rg σ τ) (x : Exit × St) : Prop := match z with
  | .go s => x.1 = .normal ∧ cutC o x.2 = some (rep s)
  | .ret s => x.1 = .ret ∧ cutC o x.2 = some (rep2 s)
  | .ex s => x.1 = .exit j ∧ cutC o x.2 = some (rep2 s)
def Ra (C : Cx) (f : FuncId) (call : CallT) (body : Code) (Q : Exit × St → Prop) (x : Exit × St) : Prop := x.1 = .normal ∧ W C f call body x.2 Q
theorem rga {S : St} (h : W C f call body S Q) : Ra C f call body Q (.normal, S) := ⟨rfl, h⟩
theorem rng {step : α → σ → Option (Rg σ τ)} {ys : List α} {s0 : σ} {kg : σ → Option ρ} {kr ke : τ → Option ρ} (rep : σ → St) (rep2 : τ → St) (j : Nat) (hF : (RangeL step ys s0).bind (Rg.on kg kr ke) = some r) (hg : rangeOf C (un true (S.get C gp)) = some (ys.map enc))
    (h0 : cutC (rangeCut C f assign body) S = some (rep s0)) (R : α → σ → St) (hR : ∀ y s, roundSt (rep s) ps.toList (enc y) = some (R y s))
    (round : ∀ y s z, step y s = some z → W C f call assign (R y s) (Ra C f call body (Qr (rangeCut C f assign body) rep rep2 j z)))
    (pg : ∀ s, kg s = some r → Q (.normal, rep s)) (pr : ∀ s, kr s = some r → Q (.ret, rep2 s)) (pe : ∀ s, ke s = some r → Q (.exit j, rep2 s)) : W C f call (.rangeFunc gp ps assign body) S Q := by
  obtain ⟨v, h1, h2⟩ := Option.bind_eq_some_iff.1 hF
  have key : ∀ (ys : List α) (s : σ), RangeL step ys s = some v → ∃ x, evRange (fun S1 => (evCode C f call lpD assign S1).bind fun x => match x.1 with | .normal => evCode C f call lpD body x.2 | _ => none) (cutC (rangeCut C f assign body)) ps.toList (ys.map enc) (rep s) = some x ∧ Q x := by
    intro ys
    induction ys with
    | nil =>
      intro s h
      simp only [RangeL, Option.some.injEq] at h
      subst h
      exact ⟨_, rfl, pg s h2⟩
    | cons y ys ih =>
      intro s h
      simp only [RangeL, Option.bind_eq_some_iff] at h
      obtain ⟨z, hz, h⟩ := h
      obtain ⟨⟨e, S1⟩, g1, rfl, ⟨e2, S2⟩, g2, g3⟩ := round y s z hz
      simp only [List.map_cons, evRange, hR, Option.bind_some, g1, g2]
      cases z with
      | go s' =>
        obtain ⟨rfl, g3⟩ := g3
        simp only at g3
        simp only [g3, Option.bind_some]
        exact ih s' h
      | ret s' =>
        obtain ⟨rfl, g3⟩ := g3
        simp only [Option.some.injEq] at h; subst h
        simp only at g3
        simp only [g3, Option.bind_some]
        exact ⟨_, rfl, pr s' h2⟩
      | ex s' =>
        obtain ⟨rfl, g3⟩ := g3
        simp only [Option.some.injEq] at h; subst h
        simp only at g3
        simp only [g3, Option.bind_some]
        exact ⟨_, rfl, pe s' h2⟩
  obtain ⟨x, h3, h4⟩ := key ys s0 h1
  refine ⟨x, ?_, h4⟩
  simp only [evCode, hg, Option.bind_some, h0]
  exact h3
theorem rng2 {step : α → σ → Option (Rg σ τ)} {ys : List α} {s0 : σ} {kg : σ → Option ρ} {kr ke : τ → Option ρ} (rep : σ → St) (rep2 : τ → St) (j : Nat) (hF : (RangeL step ys s0).bind (Rg.on kg kr ke) = some r) (hg : rangeOf C (un true (S.get C gp)) = some (ys.map enc))
    (h0 : cutC (rangeCut C f assign body) S = some (rep s0)) {n : Nat} (hn : ∀ s, (rep s).n = n) (hl : ∀ y, ps.toList.length = (enc y).length) (hp : (ps.toList.all fun p => Nat.blt p n) = true)
    (round : ∀ y s z, step y s = some z → W C f call assign ⟨(rep s).n, putPs (rep s).t (ps.toList.zip (enc y)), (rep s).h⟩ (Ra C f call body (Qr (rangeCut C f assign body) rep rep2 j z)))
    (pg : ∀ s, kg s = some r → Q (.normal, rep s)) (pr : ∀ s, kr s = some r → Q (.ret, rep2 s)) (pe : ∀ s, ke s = some r → Q (.exit j, rep2 s)) : W C f call (.rangeFunc gp ps assign body) S Q :=
  rng rep rep2 j hF hg h0 (fun y s => ⟨(rep s).n, putPs (rep s).t (ps.toList.zip (enc y)), (rep s).h⟩) (fun y s => by
    unfold roundSt
    rw [if_pos ⟨hl y, by
      rw [List.all_eq_true] at hp ⊢
      intro p hpm
      rw [decide_eq_true_eq, hn]
      exact of_decide_eq_true (blt_decide (hp p hpm))⟩]) round pg pr pe
theorem rgo {o : Option (Bool × List Nat)} {z : Rg σ τ} {s : σ} {S : St} (hF : some (Rg.go s) = some z) (h : cutC o S = some (rep s)) : Qr o rep rep2 j z (.normal, S) := by cases hF; exact ⟨rfl, h⟩
theorem rgr {o : Option (Bool × List Nat)} {z : Rg σ τ} {s : τ} {S : St} (hF : some (Rg.ret s) = some z) (h : cutC o S = some (rep2 s)) : Qr o rep rep2 j z (.ret, S) := by cases hF; exact ⟨rfl, h⟩
end
section
variable {C : Cx} {f : FuncId} {call : CallT} {c : Code} {Q : Exit × St → Prop} {n : Nat} {t t2 : Nat → AV} {h : Id → Option (Option Rows)} {l : List Nat} {vs : List AV} {zs : List (Nat × AV)}
theorem rmk (k : W C f call c ⟨n, t2, h⟩ Q) (hm : mkSt n l vs = ⟨n, t, h⟩ := by exact mkk) (ht : putPs t zs = t2 := by exact rfl) : W C f call c ⟨(mkSt n l vs).n, putPs (mkSt n l vs).t zs, (mkSt n l vs).h⟩ Q := by subst ht; rw [hm]; exact k
theorem rstm {l : List (Nat × AV)} {h : List (Id × Rows)} (k : W C f call c ⟨n, t2, mkH h⟩ Q) (ht : putPs (updS (fun _ => .junk) l) zs = t2 := by exact rfl) : W C f call c ⟨(stN n l h).n, putPs (stN n l h).t zs, (stN n l h).h⟩ Q := by subst ht; exact k
end
end Go.Ab
