/-
  STEPS: ways through code.
-/
import Derived.Test.YtbgakafgplbbnaaDoorAbOv
namespace Go.Ab
open Go

section
variable {C : Cx} {f : FuncId} {call : CallT} {S : St} {n : Nat} {t : Nat → AV} {h : Id → Option (Option Rows)}
variable {Q : Exit × St → Prop} {K : List HKey → St → Prop} {a b c : Code} {ρ : Type} {r : ρ}
variable {ops : Array Oper} {l : List Oper} {i : Nat} {ks : List HKey}

/-- What follows a part: b. -/
def Qseq (C : Cx) (f : FuncId) (call : CallT) (b : Code) (Q : Exit × St → Prop) (x : Exit × St) : Prop := match x.1 with | .normal => W C f call b x.2 Q | _ => Q x
theorem v_seq (h : W C f call a S (Qseq C f call b Q)) : W C f call (.seq a b) S Q := w_seq h
theorem q_seq (h : W C f call b S Q) : Qseq C f call b Q (.normal, S) := h
theorem q_seqR (h : Q (.ret, S)) : Qseq C f call b Q (.ret, S) := h
theorem q_seqE {k : Nat} (h : Q (.exit k, S)) : Qseq C f call b Q (.exit k, S) := h
/-- Where ways meet. -/
def Qjoin (J : St → Prop) (Q : Exit × St → Prop) (x : Exit × St) : Prop := match x.1 with | .normal => J x.2 | _ => Q x
theorem q_join {J : St → Prop} (h : J S) : Qjoin J Q (.normal, S) := h
theorem q_joinR {J : St → Prop} (h : Q (.ret, S)) : Qjoin J Q (.ret, S) := h
theorem q_joinE {J : St → Prop} {k : Nat} (h : Q (.exit k, S)) : Qjoin J Q (.exit k, S) := h
theorem v_join {σ : Type} (n : Nat) (P : σ → (Nat → AV) → (Id → Option (Option Rows)) → Prop) (Ff : σ → Option ρ) (ha : W C f call a S (Qjoin (fun S' => ∃ s t h, S' = ⟨n, t, h⟩ ∧ P s t h ∧ Ff s = some r) Q))
    (hk : ∀ s t h, P s t h → Ff s = some r → W C f call b ⟨n, t, h⟩ Q) : W C f call (.seq a b) S Q := by
  refine w_seq ?_
  obtain ⟨⟨e, s⟩, h1, h2⟩ := ha
  refine ⟨_, h1, ?_⟩
  cases e with
  | normal => obtain ⟨s, t, h, rfl, h3, h4⟩ := h2; exact hk s t h h3 h4
  | _ => exact h2
def Qblk (k : Nat) (Q : Exit × St → Prop) (x : Exit × St) : Prop := match x.1 with | .exit j => if j = k then Q (.normal, x.2) else Q (.exit j, x.2) | _ => Q x
theorem v_block {k : Nat} (h : W C f call c S (Qblk k Q)) : W C f call (.block k c) S Q := by
  refine w_block ?_
  obtain ⟨⟨e, s⟩, h1, h2⟩ := h
  refine ⟨_, h1, ?_⟩
  cases e with
  | exit j =>
    simp only [Qblk] at h2 ⊢
    split at h2
    · rename_i hj; subst hj; simpa using h2
    · rename_i hj; simpa [hj] using h2
  | _ => exact h2
theorem q_blk {k : Nat} (h : Q (.normal, S)) : Qblk k Q (.normal, S) := h
theorem q_blkR {k : Nat} (h : Q (.ret, S)) : Qblk k Q (.ret, S) := h
theorem q_blkH {k : Nat} (h : Q (.normal, S)) : Qblk k Q (.exit k, S) := by simpa [Qblk] using h
theorem q_blkM {k j : Nat} (hj : Nat.beq j k = false) (h : Q (.exit j, S)) : Qblk k Q (.exit j, S) := by
  have : j ≠ k := fun e => by subst e; simp at hj
  simpa [Qblk, this] using h

/-- How a loop's round ends. -/
inductive Br (τ ρ : Type) where
  | brk (x : τ)
  | ret (r : ρ)
def Qloop {σ τ : Type} (slots : List Nat) (rep : σ → List AV) (Rel : τ → Exit × St → Prop) (y : Lp σ τ) (x : Exit × St) : Prop :=
  match y with
  | .next s' => x.1 = .normal ∧ renorm x.2 slots = some (rep s')
  | .out o => x.1 ≠ .normal ∧ Rel o x
theorem q_next {σ τ : Type} {slots : List Nat} {rep : σ → List AV} {Rel : τ → Exit × St → Prop} {s' : σ} (h : renorm S slots = some (rep s')) : Qloop slots rep Rel (.next s') (.normal, S) := ⟨rfl, h⟩
theorem q_out {σ τ : Type} {slots : List Nat} {rep : σ → List AV} {Rel : τ → Exit × St → Prop} {o : τ} {k : Nat} (h : Rel o (.exit k, S)) : Qloop slots rep Rel (.out o) (.exit k, S) := ⟨by simp, h⟩
theorem q_outR {σ τ : Type} {slots : List Nat} {rep : σ → List AV} {Rel : τ → Exit × St → Prop} {o : τ} (h : Rel o (.ret, S)) : Qloop slots rep Rel (.out o) (.ret, S) := ⟨by simp, h⟩
theorem v_loop {σ τ : Type} {step : σ → Option (Lp σ τ)} (rep : σ → List AV) (Rel : τ → Exit × St → Prop) {s0 : σ} {o : τ} {slots : List Nat} (hL : Loop step s0 = some o)
    (hs : (match firstRegion c with | some i => C.live f i | none => []) = slots) (h0 : renorm ⟨n, t, h⟩ slots = some (rep s0))
    (body : ∀ s y, step s = some y → W C f call c (mkSt n slots (rep s)) (Qloop slots rep Rel y))
    (post : ∀ x, Rel o x → Q x) : W C f call (.loop c) ⟨n, t, h⟩ Q := w_loop rep Rel hL hs h0 body post
theorem packL_mk {L : Id → Option (Option Rows)} {s : Nat} {sl : List Nat} {v : AV} {ids : List Id} {vs : List AV} {is : List Id} (h1 : pk L 9 (t s) = some (v, ids)) (h2 : packL L t sl = some (vs, is)) : packL L t (s :: sl) = some (v :: vs, ids ++ is) := by
  rw [packL_cons, h1, Option.bind_some, h2]; rfl
theorem packL_0 {L : Id → Option (Option Rows)} : packL L t [] = some ([], []) := rfl
theorem renorm_of {slots : List Nat} {vs : List AV} {is : List Id} (h1 : packL h t slots = some (vs, is)) (h2 : nodupB is = true) : renorm ⟨n, t, h⟩ slots = some vs := by
  rw [renorm_mk, h1]; simp [h2]
theorem pk_of {L : Id → Option (Option Rows)} {x v : AV} (hx : x = v) (h : pk L 9 v = some (v, [])) : pk L 9 x = some (v, []) := by rw [hx]; exact h
theorem pk_rsT {L : Id → Option (Option Rows)} {x : AV} {id : Id} {α : Type} {c : α → List AV} {q : List α} (hx : x = .rs id 0 q.length) (hh : L id = some (some (q.map c))) (hf : ∀ y, flatL (c y) = true) : pk L 9 x = some (.own (q.map c), [id]) := by
  rw [hx]; exact pk_rs hh (by simp) (flatR_map c q hf)
theorem pk_mpT {L : Id → Option (Option Rows)} {x : AV} {id : Id} {cs : List AV} (hx : x = .mp id 0 0) (hh : L id = some (some [cs])) (hf : flatL cs = true) : pk L 9 x = some (.ownp cs, [id]) := by
  rw [hx]; simp [pk, pkC, hh, hf]
theorem pk_nilT {L : Id → Option (Option Rows)} {x : AV} {α : Type} {c : α → List AV} (hx : x = .snil) : pk L 9 x = some (.own (([] : List α).map c), []) := by rw [hx]; rfl

theorem if_elim {A B : Option ρ} {p : Bool} {G : Prop} (hF : (if p = true then A else B) = some r) (h1 : p = true → A = some r → G) (h2 : p = false → B = some r → G) : G := by
  cases p with
  | true => exact h1 rfl (by simpa using hF)
  | false => exact h2 rfl (by simpa using hF)
/-- A region's part, behind which ways meet. -/
theorem rw_join {t0 : Nat → AV} {h0 : Id → Option (Option Rows)} (m : Nat) (P : (Nat → AV) → (Id → Option (Option Rows)) → Prop)
    (ha : RW C f call ops i (l.take m) ks ⟨n, t0, h0⟩ (fun ks' S' => (∃ k2, ks' = ks ++ k2 ∧ readsOnly k2 = true) ∧ ∃ t h, S' = ⟨n, t, h⟩ ∧ P t h))
    (hk : ∀ k2 t h, readsOnly k2 = true → P t h → RW C f call ops (i + (l.take m).length) (l.drop m) (ks ++ k2) ⟨n, t, h⟩ K) : RW C f call ops i l ks ⟨n, t0, h0⟩ K := by
  obtain ⟨x, h1, ⟨k2, h2, h3⟩, t, h, h4, h5⟩ := ha
  obtain ⟨y, h6, h7⟩ := hk k2 t h h3 h5
  have key : ∀ (l1 : List Oper) (l2 : List Oper) (i : Nat) (S : St) (x y : St × List HKey), evOps C f call ops i l1 S = some x → evOps C f call ops (i + l1.length) l2 x.1 = some y → evOps C f call ops i (l1 ++ l2) S = some (y.1, x.2 ++ y.2) := by
    intro l1
    induction l1 with
    | nil => intro l2 i S x y e1 e2; simp [evOps] at e1; subst e1; simpa using e2
    | cons o l1 ih =>
      intro l2 i S x y e1 e2
      simp only [evOps, List.cons_append, Option.bind_eq_some_iff] at e1 ⊢
      obtain ⟨e, e3, e4⟩ := e1
      refine ⟨e, e3, ?_⟩
      split at e4
      · rename_i hs
        rw [if_pos hs]
        simp only [Option.map_eq_some_iff] at e4 ⊢
        obtain ⟨z, e5, rfl⟩ := e4
        refine ⟨_, ih l2 (i + 1) _ z y e5 (by rw [← e2]; simp [Nat.add_comm, Nat.add_left_comm, Nat.add_assoc]), ?_⟩
        rw [hkey_cons i e z.2, hkey_cons i e (z.2 ++ y.2)]
        simp
      · cases e4
  refine ⟨(y.1, x.2 ++ y.2), ?_, ?_⟩
  · have := key (l.take m) (l.drop m) i _ x y h1 (by rw [h4]; exact h6)
    rwa [List.take_append_drop] at this
  · have e : x.2 = k2 := by simpa using h2
    rw [e, ← List.append_assoc]; exact h7
/-- The end of such a part. -/
theorem rw_meet {P : (Nat → AV) → (Id → Option (Option Rows)) → Prop} {k2 : List HKey} (hk : readsOnly k2 = true) (hP : P t h) :
    RW C f call ops i [] (ks ++ k2) ⟨n, t, h⟩ (fun ks' S' => (∃ k2, ks' = ks ++ k2 ∧ readsOnly k2 = true) ∧ ∃ t h, S' = ⟨n, t, h⟩ ∧ P t h) := rw_nil ⟨⟨k2, rfl, hk⟩, t, h, rfl, hP⟩
theorem rw_gt {d : Nat} {ty : TypeId} {pos : String} {af : Array Edge} {op : Op} {v : AV} {j : Nat} {wt g : Bool} {l0 : List Oper} (hg : guardD wt ⟨n, t, h⟩ (dstL l0 j) = some g) (hgt : g = true) (he : evOp C f call ⟨n, t, h⟩ true ⟨some d, op, ty, pos, af, some (j, wt)⟩ = some ⟨[(d, v)], [], []⟩) (hs : Nat.blt d n = true)
    (k : RW C f call ⟨l0⟩ (i + 1) l ks ⟨n, upd t d (.gv true v), h⟩ K) : RW C f call ⟨l0⟩ i (⟨some d, op, ty, pos, af, some (j, wt)⟩ :: l) ks ⟨n, t, h⟩ K := rw_g (by rw [hg, hgt]) he hs k
theorem heapFree_reads (ah : List (Nat × Nat)) : ∀ ks : List HKey, readsOnly ks = true → heapFree ah ks = true
  | [], _ => rfl
  | x :: l, hk => by
    simp only [readsOnly, List.all_cons, Bool.and_eq_true] at hk
    have h1 := heapFree_reads ah l hk.2
    simp only [heapFree, h1, Bool.and_true, List.all_eq_true, Bool.or_eq_true]
    intro y hy
    right
    have h2 := List.all_eq_true.1 hk.2 y hy
    simp only [List.isEmpty_iff] at hk h2
    simp [disjH, hk.1, h2]
theorem readsOnly_append (a b : List HKey) : readsOnly (a ++ b) = (readsOnly a && readsOnly b) := by simp [readsOnly]
end
end Go.Ab
