/-
  STEPS (second making): ways through code, operation by operation; what can be found by looking is found by itself.
-/
import Derived.Test.YtbhpblokoecoaaaAbFn
import Derived.Test.YtbhpblokoecoaaaAbSimp
namespace Go.Ab
open Go
abbrev CallT := FuncId → List AV → Option (AV × List AV)
abbrev w64 (n : Int) : Int := IntKind.i64.wrap n
def idx {α : Type} (l : List α) (i : Int) : Option α := if 0 ≤ i then l[i.toNat]? else none
theorem idx_map {α β : Type} {c : α → β} {l : List α} {i : Int} {x : α} (h : idx l i = some x) : idx (l.map c) i = some (c x) := by
  unfold idx at *
  split at h
  · rw [if_pos ‹_›]; simp [h]
  · cases h
theorem idx_nat {α : Type} {l : List α} {i : Int} {x : α} (h : idx l i = some x) : l[i.toNat]? = some x := by
  unfold idx at h; split at h
  · exact h
  · cases h
theorem idx_bounds {α : Type} {l : List α} {i : Int} {x : α} (h : idx l i = some x) : 0 ≤ i ∧ i < (l.length : Nat) := by
  unfold idx at h; split at h
  · rename_i hp
    refine ⟨hp, ?_⟩
    rcases Nat.lt_or_ge i.toNat l.length with h' | h'
    · omega
    · rw [List.getElem?_eq_none h'] at h; cases h
  · cases h
theorem bindS {α β : Type} {o : Option α} {k : α → Option β} {r : β} (h : o.bind k = some r) : ∃ x, o = some x ∧ k x = some r := Option.bind_eq_some_iff.1 h
theorem bb {α β : Type} {o : Option α} {k : α → Option β} {r : β} {G : Prop} (h : o.bind k = some r) (g : ∀ x, o = some x → k x = some r → G) : G := by
  obtain ⟨x, h1, h2⟩ := bindS h
  exact g x h1 h2
def W (C : Cx) (f : FuncId) (call : CallT) (c : Code) (S : St) (Q : Exit × St → Prop) : Prop := ∃ x, evCode C f call lpD c S = some x ∧ Q x
theorem ar {P : Prop} (h : P := by exact rfl) : P := h
def RW (C : Cx) (f : FuncId) (call : CallT) (ops : Array Oper) (i : Nat) (l : List Oper) (ks : List HKey) (S : St) (Q : List HKey → St → Prop) : Prop := ∃ x, evOps C f call ops i l S = some x ∧ Q (ks ++ x.2) x.1
inductive Lp (σ τ : Type) where
  | next (s : σ)
  | out (x : τ)
inductive Br (τ ρ : Type) where
  | brk (x : τ)
  | ret (r : ρ)
def LoopN {σ τ : Type} (step : σ → Option (Lp σ τ)) : Nat → σ → Option τ
  | 0, _ => none
  | m + 1, s => (step s).bind fun y => match y with | .next s' => LoopN step m s' | .out x => some x
open Classical in
noncomputable def Loop {σ τ : Type} (step : σ → Option (Lp σ τ)) (s : σ) : Option τ := if h : ∃ x m, LoopN step m s = some x then some (Classical.choose h) else none
theorem LoopN_up {σ τ : Type} {step : σ → Option (Lp σ τ)} : ∀ {m : Nat} {s : σ} {x : τ} (k : Nat), LoopN step m s = some x → LoopN step (m + k) s = some x
  | 0, _, _, _, h => by simp [LoopN] at h
  | m + 1, s, x, k, h => by
    rw [Nat.add_right_comm]
    simp only [LoopN, Option.bind_eq_some_iff] at h ⊢
    obtain ⟨y, h1, h2⟩ := h
    refine ⟨y, h1, ?_⟩
    cases y with
    | next s' => exact LoopN_up k h2
    | out x => exact h2
theorem LoopN_det {σ τ : Type} {step : σ → Option (Lp σ τ)} {m m' : Nat} {s : σ} {x y : τ} (h1 : LoopN step m s = some x) (h2 : LoopN step m' s = some y) : x = y := by
  have e1 := LoopN_up m' h1
  have e2 := LoopN_up m h2
  rw [Nat.add_comm] at e2
  rw [e1] at e2
  exact Option.some.inj e2
theorem Loop_of {σ τ : Type} {step : σ → Option (Lp σ τ)} {m : Nat} {s : σ} {x : τ} (h : LoopN step m s = some x) : Loop step s = some x := by
  unfold Loop
  have hx : ∃ x m, LoopN step m s = some x := ⟨x, m, h⟩
  rw [dif_pos hx]
  obtain ⟨m', h'⟩ := Classical.choose_spec hx
  rw [LoopN_det h' h]
theorem Loop_N {σ τ : Type} {step : σ → Option (Lp σ τ)} {s : σ} {x : τ} (h : Loop step s = some x) : ∃ m, LoopN step m s = some x := by
  unfold Loop at h
  split at h
  · rename_i hx
    simp only [Option.some.injEq] at h; subst h
    exact Classical.choose_spec hx
  · cases h
theorem Loop_eq {σ τ : Type} (step : σ → Option (Lp σ τ)) (s : σ) : Loop step s = (step s).bind fun y => match y with | .next s' => Loop step s' | .out x => some x := by
  apply Option.ext
  intro x
  constructor
  · intro h
    obtain ⟨m, h⟩ := Loop_N h
    cases m with
    | zero => simp [LoopN] at h
    | succ m =>
      simp only [LoopN, Option.bind_eq_some_iff] at h ⊢
      obtain ⟨y, h1, h2⟩ := h
      refine ⟨y, h1, ?_⟩
      cases y with
      | next s' => exact Loop_of h2
      | out x => exact h2
  · intro h
    simp only [Option.bind_eq_some_iff] at h
    obtain ⟨y, h1, h2⟩ := h
    cases y with
    | next s' =>
      obtain ⟨m, h3⟩ := Loop_N h2
      exact Loop_of (m := m + 1) (by simp only [LoopN, h1, Option.bind_some, h3])
    | out x => exact Loop_of (m := 1) (by simp only [LoopN, h1, Option.bind_some]; exact h2)
section
variable {C : Cx} {f : FuncId} {call : CallT} {S : St} {n : Nat} {t : Nat → AV} {h : Id → Option (Option Rows)}
variable {Q : Exit × St → Prop} {a b c : Code} {ρ : Type} {r : ρ} {l : List Oper} {id k : Nat}
def Qs (C : Cx) (f : FuncId) (call : CallT) (b : Code) (Q : Exit × St → Prop) (x : Exit × St) : Prop := match x.1 with | .normal => ∃ S', cutC (seqKey C f b) x.2 = some S' ∧ W C f call b S' Q | _ => Q x
theorem sq (h : W C f call a S (Qs C f call b Q)) : W C f call (.seq a b) S Q := by
  obtain ⟨⟨e, s⟩, h1, h2⟩ := h
  cases e with
  | normal =>
    obtain ⟨S', h5, y, h3, h4⟩ := h2
    exact ⟨y, by simp only [evCode, h1, Option.bind_some, h5, h3], h4⟩
  | _ => exact ⟨_, by simp only [evCode, h1, Option.bind_some], h2⟩
theorem qs (h : W C f call b S Q) (hk : seqKey C f b = none := by exact rfl) : Qs C f call b Q (.normal, S) := ⟨S, by rw [hk]; rfl, h⟩
theorem qsR (h : Q (.ret, S)) : Qs C f call b Q (.ret, S) := h
theorem qsE (h : Q (.exit k, S)) : Qs C f call b Q (.exit k, S) := h
theorem cd {x : Operand} {p : Bool} {A B : Option ρ} (hF : (if p = true then A else B) = some r)
    (h1 : A = some r → W C f call a S Q) (h2 : B = some r → W C f call b S Q) (hc : un true (S.get C x) = .val (.bool p) := by exact rfl) : W C f call (.cond x a b) S Q := by
  cases p with
  | true =>
    obtain ⟨y, h3, h4⟩ := h1 (by simpa using hF)
    exact ⟨y, by simp only [evCode, hc]; simpa using h3, h4⟩
  | false =>
    obtain ⟨y, h3, h4⟩ := h2 (by simpa using hF)
    exact ⟨y, by simp only [evCode, hc]; simpa using h3, h4⟩
theorem sk (h : Q (.normal, S)) : W C f call .skip S Q := ⟨_, rfl, h⟩
theorem rt (h : Q (.ret, S)) : W C f call .ret S Q := ⟨_, rfl, h⟩
theorem ex (h : Q (.exit k, S)) : W C f call (.exit k) S Q := ⟨_, rfl, h⟩
def Qb (C : Cx) (f : FuncId) (k : Nat) (Q : Exit × St → Prop) (x : Exit × St) : Prop :=
  match x.1 with
  | .normal => ∃ S', cutC (C.cutB f k) x.2 = some S' ∧ Q (.normal, S')
  | .exit j => if j = k then ∃ S', cutC (C.cutB f k) x.2 = some S' ∧ Q (.normal, S') else Q (.exit j, x.2)
  | _ => Q x
theorem bl (h : W C f call c S (Qb C f k Q)) : W C f call (.block k c) S Q := by
  obtain ⟨⟨e, s⟩, h1, h2⟩ := h
  cases e with
  | normal =>
    obtain ⟨S', h3, h4⟩ := h2
    exact ⟨_, by simp only [evCode, h1, Option.bind_some, h3, Option.map_some], h4⟩
  | exit j =>
    simp only [Qb] at h2
    split at h2
    · rename_i hj
      obtain ⟨S', h3, h4⟩ := h2
      exact ⟨_, by simp only [evCode, h1, Option.bind_some, hj, if_true, h3, Option.map_some], h4⟩
    · rename_i hj
      exact ⟨_, by simp only [evCode, h1, Option.bind_some, hj, if_false], h2⟩
  | _ => exact ⟨_, by simp only [evCode, h1, Option.bind_some], h2⟩
theorem qb (h : Q (.normal, S)) (hk : C.cutB f k = none := by exact rfl) : Qb C f k Q (.normal, S) := ⟨S, by rw [hk]; rfl, h⟩
theorem qbR (h : Q (.ret, S)) : Qb C f k Q (.ret, S) := h
theorem qbHC {S' : St} (hc : cutC (C.cutB f k) S = some S') (h : Q (.normal, S')) : Qb C f k Q (.exit k, S) := by
  simp only [Qb, if_true]; exact ⟨S', hc, h⟩
def Qj (σ : Type) (o : Option (Bool × List Nat)) (rep : σ → St) (Ff : σ → Option ρ) (r : ρ) (Q : Exit × St → Prop) (x : Exit × St) : Prop := match x.1 with | .normal => ∃ s, cutC o x.2 = some (rep s) ∧ Ff s = some r | _ => Q x
theorem sjn {σ : Type} (rep : σ → St) (Ff : σ → Option ρ) (ha : W C f call a S (Qj σ (seqKey C f b) rep Ff r Q)) (hk : ∀ s, Ff s = some r → W C f call b (rep s) Q) : W C f call (.seq a b) S Q := by
  refine sq ?_
  obtain ⟨⟨e, s⟩, h1, h2⟩ := ha
  refine ⟨_, h1, ?_⟩
  cases e with
  | normal => obtain ⟨s, h3, h4⟩ := h2; exact ⟨_, h3, hk s h4⟩
  | _ => exact h2
theorem qj {σ : Type} {o : Option (Bool × List Nat)} {rep : σ → St} {Ff : σ → Option ρ} (s : σ) (hF : Ff s = some r) (hc : cutC o S = some (rep s)) : Qj σ o rep Ff r Q (.normal, S) := ⟨s, hc, hF⟩
theorem qjR {σ : Type} {o : Option (Bool × List Nat)} {rep : σ → St} {Ff : σ → Option ρ} (h : Q (.ret, S)) : Qj σ o rep Ff r Q (.ret, S) := h
section
variable {σ : Type} {rep : σ → St} {Ff : σ → Option ρ}
end
section
variable {K : List HKey → St → Prop} {ops : Array Oper} {i : Nat} {ks : List HKey}
theorem rg (h : RW C f call ⟨l⟩ 0 l [] S fun _ S' => Q (.normal, S')) (hk : C.cutR f id = none := by exact rfl) : W C f call (.region id ⟨l⟩ false) S Q := by
  obtain ⟨x, h1, h2⟩ := h
  exact ⟨_, by simp [evCode, evRegion, h1, hk, cutC], h2⟩
def KD (C : Cx) (f : FuncId) (id : Nat) (P : St → Prop) (ks : List HKey) (S : St) : Prop := heapFree (C.ah f id) ks = true ∧ P S
theorem rgD (h : RW C f call ⟨l⟩ 0 l [] S (KD C f id fun S' => Q (.normal, S'))) (hk : C.cutR f id = none := by exact rfl) : W C f call (.region id ⟨l⟩ true) S Q := by
  obtain ⟨x, h1, h2, h3⟩ := h
  simp only [List.nil_append] at h2
  exact ⟨_, by simp [evCode, evRegion, h1, h2, hk, cutC], h3⟩
theorem sr (h : RW C f call ⟨l⟩ 0 l [] S fun _ S' => W C f call b S' Q) (hk : C.cutR f id = none := by exact rfl) (hk2 : seqKey C f b = none := by exact rfl) : W C f call (.seq (.region id ⟨l⟩ false) b) S Q :=
  sq (rg (by obtain ⟨x, h1, h2⟩ := h; exact ⟨x, h1, qs h2 hk2⟩) hk)
theorem srD (h : RW C f call ⟨l⟩ 0 l [] S (KD C f id fun S' => W C f call b S' Q)) (hk : C.cutR f id = none := by exact rfl) (hk2 : seqKey C f b = none := by exact rfl) : W C f call (.seq (.region id ⟨l⟩ true) b) S Q :=
  sq (rgD (by obtain ⟨x, h1, h2, h3⟩ := h; exact ⟨x, h1, h2, qs h3 hk2⟩) hk)
theorem nl (h : K ks S) : RW C f call ops i [] ks S K := ⟨_, rfl, by simpa using h⟩
def readsOnly (ks : List HKey) : Bool := ks.all fun k => k.2.2.isEmpty
theorem heapFree_reads (ah : List (Nat × Nat)) : ∀ ks : List HKey, readsOnly ks = true → heapFree ah ks = true
  | [], _ => rfl
  | x :: l, hk => by
    simp only [readsOnly, List.all_cons, Bool.and_eq_true] at hk
    have h1 := heapFree_reads ah l hk.2
    simp only [heapFree, h1, Bool.and_true, List.all_eq_true, Bool.or_eq_true]
    intro y hy
    right
    have h2 := List.all_eq_true.1 hk.2 y hy
    simp only [List.isEmpty_iff] at hk h2
    simp [disjH, hk.1, h2]
theorem ro_app {a b : List HKey} (h : readsOnly a = true) (k : readsOnly b = true) : readsOnly (a ++ b) = true := by
  simp only [readsOnly, List.all_append, Bool.and_eq_true] at *
  exact ⟨h, k⟩
theorem rok {ah : List (Nat × Nat)} {ks : List HKey} (h : readsOnly ks = true := by repeat' (first | apply ro_app | assumption | exact rfl)) : heapFree ah ks = true := heapFree_reads ah ks h
theorem readsOnly_append (a b : List HKey) : readsOnly (a ++ b) = (readsOnly a && readsOnly b) := by simp [readsOnly]
theorem nlD {P : St → Prop} (h : P S) (hf : heapFree (C.ah f id) ks = true := by first | exact rfl | exact heapFree_reads _ _ rfl | (apply heapFree_reads; simp [readsOnly_append, *]; done) | (apply heapFree_reads; simp only [readsOnly_append, Bool.and_eq_true]; (repeat' constructor) <;> first | assumption | rfl)) : RW C f call ops i [] ks S (KD C f id P) := ⟨_, rfl, by simpa using hf, h⟩
def KC (σ : Type) (C : Cx) (f : FuncId) (id : Nat) (draw : Bool) (rep : σ → St) (x : σ) (ks : List HKey) (S : St) : Prop := (draw = true → heapFree (C.ah f id) ks = true) ∧ cutC (C.cutR f id) S = some (rep x)
theorem rgC {σ : Type} {draw : Bool} {A : Option σ} {Bk : σ → Option ρ} (rep : σ → St) (hF : A.bind Bk = some r) (k1 : ∀ x, A = some x → RW C f call ⟨l⟩ 0 l [] S (KC σ C f id draw rep x)) (k2 : ∀ x, Bk x = some r → Q (.normal, rep x)) : W C f call (.region id ⟨l⟩ draw) S Q := by
  obtain ⟨x, h1, h2⟩ := bindS hF
  obtain ⟨y, h3, h4, h5⟩ := k1 x h1
  simp only [List.nil_append] at h4
  refine ⟨_, ?_, k2 x h2⟩
  simp only [evCode, evRegion, h3, Option.bind_some]
  cases draw with
  | false => simp [h5]
  | true => simp [h4 rfl, h5]
theorem srC {σ : Type} {draw : Bool} {A : Option σ} {Bk : σ → Option ρ} (rep : σ → St) (hF : A.bind Bk = some r) (k1 : ∀ x, A = some x → RW C f call ⟨l⟩ 0 l [] S (KC σ C f id draw rep x)) (k2 : ∀ x, Bk x = some r → W C f call b (rep x) Q) (hk2 : seqKey C f b = none := by exact rfl) : W C f call (.seq (.region id ⟨l⟩ draw) b) S Q :=
  sq (rgC rep hF k1 fun x hx => qs (k2 x hx) hk2)
theorem nlC {σ : Type} {rep : σ → St} {x : σ} (hc : cutC (C.cutR f id) S = some (rep x)) : RW C f call ops i [] ks S (KC σ C f id false rep x) := ⟨_, rfl, And.intro (fun e => Bool.noConfusion e) hc⟩
theorem nlCD {σ : Type} {rep : σ → St} {x : σ} (hc : cutC (C.cutR f id) S = some (rep x)) (hf : heapFree (C.ah f id) ks = true := by first | exact rfl | exact heapFree_reads _ _ rfl | (apply heapFree_reads; simp [readsOnly_append, *]; done) | (apply heapFree_reads; simp only [readsOnly_append, Bool.and_eq_true]; (repeat' constructor) <;> first | assumption | rfl)) : RW C f call ops i [] ks S (KC σ C f id true rep x) := ⟨_, rfl, And.intro (fun _ => by simpa using hf) hc⟩
variable {d : Nat} {ty : TypeId} {pos : String} {af : Array Edge} {gd : Option (Nat × Bool)} {op : Op} {v : AV} {g : Bool}
theorem hkey_cons (i : Nat) (e : Eff) (l : List HKey) : hkey i e l = hkey i e [] ++ l := by unfold hkey; split <;> simp
theorem rw_op {o : Oper} {e : Eff} (he : evG C f call S ops o = some e) (hs : (e.sw.all fun x => decide (x.1 < S.n)) = true) (k : RW C f call ops (i + 1) l (ks ++ hkey i e []) (S.app e) K) : RW C f call ops i (o :: l) ks S K := by
  obtain ⟨x, h1, h2⟩ := k
  refine ⟨(x.1, hkey i e x.2), ?_, ?_⟩
  · simp only [evOps, he, Option.bind_some]
    rw [if_pos hs, h1]; rfl
  · rw [hkey_cons]; simpa using h2
theorem blt_decide {d n : Nat} (h : Nat.blt d n = true) : decide (d < n) = true := by
  simp [Nat.blt] at h ⊢; omega
theorem pp (he : evOp C f call ⟨n, t, h⟩ true ⟨some d, op, ty, pos, af, none⟩ = some ⟨[(d, v)], [], []⟩) (k : RW C f call ops (i + 1) l ks ⟨n, upd t d v, h⟩ K) (hs : Nat.blt d n = true := by exact rfl) :
    RW C f call ops i (⟨some d, op, ty, pos, af, none⟩ :: l) ks ⟨n, t, h⟩ K :=
  rw_op (e := ⟨[(d, v)], [], []⟩) he (by simpa using blt_decide hs) (by simpa [hkey, St.app] using k)
theorem rr {y : Id} {rd : List Id} (he : evOp C f call ⟨n, t, h⟩ true ⟨some d, op, ty, pos, af, none⟩ = some ⟨[(d, v)], y :: rd, []⟩) (k : RW C f call ops (i + 1) l (ks ++ [(i, y :: rd, [])]) ⟨n, upd t d v, h⟩ K) (hs : Nat.blt d n = true := by exact rfl) :
    RW C f call ops i (⟨some d, op, ty, pos, af, none⟩ :: l) ks ⟨n, t, h⟩ K :=
  rw_op (e := ⟨[(d, v)], y :: rd, []⟩) he (by simpa using blt_decide hs) (by simpa [hkey, St.app] using k)
theorem ww {od : Option Nat} {sw : List (Nat × AV)} {rd : List Id} {x : Id × Option Rows} {wr : List (Id × Option Rows)} (he : evOp C f call ⟨n, t, h⟩ true ⟨od, op, ty, pos, af, none⟩ = some ⟨sw, rd, x :: wr⟩)
    (k : RW C f call ops (i + 1) l (ks ++ [(i, rd, (x :: wr).map (·.1))]) ⟨n, updS t sw, updH h (x :: wr)⟩ K) (hs : (sw.all fun x => Nat.blt x.1 n) = true := by exact rfl) :
    RW C f call ops i (⟨od, op, ty, pos, af, none⟩ :: l) ks ⟨n, t, h⟩ K :=
  rw_op (e := ⟨sw, rd, x :: wr⟩) he (by
    rw [List.all_eq_true] at hs ⊢
    exact fun y hy => blt_decide (hs y hy)) (by simpa [hkey, St.app] using k)
theorem pg {j : Nat} {wt : Bool} {l0 : List Oper} (hg : guardD wt ⟨n, t, h⟩ (dstL l0 j) = some g) (he : evOp C f call ⟨n, t, h⟩ g ⟨some d, op, ty, pos, af, some (j, wt)⟩ = some ⟨[(d, v)], [], []⟩)
    (k : RW C f call ⟨l0⟩ (i + 1) l ks ⟨n, upd t d (.gv g v), h⟩ K) (hs : Nat.blt d n = true := by exact rfl) : RW C f call ⟨l0⟩ i (⟨some d, op, ty, pos, af, some (j, wt)⟩ :: l) ks ⟨n, t, h⟩ K :=
  rw_op (e := ⟨[(d, .gv g v)], [], []⟩) (by rw [evG_some, hg, contG_some, evGg_eq, he]; rfl) (by simpa using blt_decide hs) (by simpa [hkey, St.app] using k)
theorem rgd {j : Nat} {wt : Bool} {l0 : List Oper} {y : Id} {rd : List Id} (hg : guardD wt ⟨n, t, h⟩ (dstL l0 j) = some g) (he : evOp C f call ⟨n, t, h⟩ g ⟨some d, op, ty, pos, af, some (j, wt)⟩ = some ⟨[(d, v)], y :: rd, []⟩)
    (k : RW C f call ⟨l0⟩ (i + 1) l (ks ++ [(i, y :: rd, [])]) ⟨n, upd t d (.gv g v), h⟩ K) (hs : Nat.blt d n = true := by exact rfl) : RW C f call ⟨l0⟩ i (⟨some d, op, ty, pos, af, some (j, wt)⟩ :: l) ks ⟨n, t, h⟩ K :=
  rw_op (e := ⟨[(d, .gv g v)], y :: rd, []⟩) (by rw [evG_some, hg, contG_some, evGg_eq, he]; rfl) (by simpa using blt_decide hs) (by simpa [hkey, St.app] using k)
theorem pt {j : Nat} {wt : Bool} {l0 : List Oper} (hg : guardD wt ⟨n, t, h⟩ (dstL l0 j) = some true) (he : evOp C f call ⟨n, t, h⟩ true ⟨some d, op, ty, pos, af, some (j, wt)⟩ = some ⟨[(d, v)], [], []⟩)
    (k : RW C f call ⟨l0⟩ (i + 1) l ks ⟨n, upd t d (.gv true v), h⟩ K) (hs : Nat.blt d n = true := by exact rfl) : RW C f call ⟨l0⟩ i (⟨some d, op, ty, pos, af, some (j, wt)⟩ :: l) ks ⟨n, t, h⟩ K := pg hg he k hs
theorem rt_ {j : Nat} {wt : Bool} {l0 : List Oper} {y : Id} {rd : List Id} (hg : guardD wt ⟨n, t, h⟩ (dstL l0 j) = some true) (he : evOp C f call ⟨n, t, h⟩ true ⟨some d, op, ty, pos, af, some (j, wt)⟩ = some ⟨[(d, v)], y :: rd, []⟩)
    (k : RW C f call ⟨l0⟩ (i + 1) l (ks ++ [(i, y :: rd, [])]) ⟨n, upd t d (.gv true v), h⟩ K) (hs : Nat.blt d n = true := by exact rfl) : RW C f call ⟨l0⟩ i (⟨some d, op, ty, pos, af, some (j, wt)⟩ :: l) ks ⟨n, t, h⟩ K := rgd hg he k hs
theorem gf {wt : Bool} {d : Nat} {u : AV} {od : Option Nat} (hd : od = some d := by exact rfl) (h : S.t d = .gv false u := by exact rfl) : guardD wt S od = some false := by
  subst hd
  rw [guardD_some, h]
  cases u with
  | val v => cases v <;> simp [guardV]
  | _ => rfl
theorem no {d : Nat} {j : Nat} {wt : Bool} {l0 : List Oper} (k : ∀ u ks', readsOnly ks' = true → RW C f call ⟨l0⟩ (i + 1) l (ks ++ ks') ⟨n, upd t d (.gv false u), h⟩ K) (hg : guardD wt ⟨n, t, h⟩ (dstL l0 j) = some false := by first | exact gf | exact rfl) (hs : Nat.blt d n = true := by exact rfl) :
    RW C f call ⟨l0⟩ i (⟨some d, op, ty, pos, af, some (j, wt)⟩ :: l) ks ⟨n, t, h⟩ K := by
  have hj : ∀ (v : AV) (rd : List Id), evG C f call ⟨n, t, h⟩ ⟨l0⟩ ⟨some d, op, ty, pos, af, some (j, wt)⟩ = some ⟨[(d, .gv false v)], rd, []⟩ → RW C f call ⟨l0⟩ i (⟨some d, op, ty, pos, af, some (j, wt)⟩ :: l) ks ⟨n, t, h⟩ K := fun v rd he =>
    rw_op he (by simpa using blt_decide hs) (by
      have := k v (hkey i ⟨[(d, .gv false v)], rd, []⟩ []) (by unfold hkey readsOnly; split <;> simp)
      simpa [St.app, updS] using this)
  rw [evG_some, hg, contG_some, evGg_eq] at hj
  cases he : evOp C f call ⟨n, t, h⟩ false ⟨some d, op, ty, pos, af, some (j, wt)⟩ with
  | none => exact hj .junk [] (by rw [he]; rfl)
  | some e =>
    obtain ⟨sw, rd, wr⟩ := e
    cases wr with
    | cons x wr => exact hj .junk [] (by rw [he]; rfl)
    | nil =>
      rcases shaped_op he with ⟨v, hv⟩ | ⟨hv, _⟩
      · simp only [put] at hv; subst hv
        exact hj v rd (by rw [he]; rfl)
      · exact absurd rfl hv
theorem spl {A B : Option ρ} {d : Nat} {p : Bool} (hF : (if p = true then A else B) = some r) (h1 : A = some r → RW C f call ops i l ks ⟨n, upd t d (.val (.bool true)), h⟩ K) (h2 : B = some r → RW C f call ops i l ks ⟨n, upd t d (.val (.bool false)), h⟩ K)
    (hd : t d = .val (.bool p) := by exact rfl) : RW C f call ops i l ks ⟨n, t, h⟩ K := by
  have e : ∀ q, t d = .val (.bool q) → upd t d (.val (.bool q)) = t := fun q hq => by
    funext j; unfold upd; split
    · rename_i hj; subst hj; exact hq.symm
    · rfl
  cases p with
  | true => have := h1 (by simpa using hF); rwa [e _ hd] at this
  | false => have := h2 (by simpa using hF); rwa [e _ hd] at this
theorem splG {A B : Option ρ} {d : Nat} {p : Bool} (hF : (if p = true then A else B) = some r) (h1 : A = some r → RW C f call ops i l ks ⟨n, upd t d (.gv true (.val (.bool true))), h⟩ K) (h2 : B = some r → RW C f call ops i l ks ⟨n, upd t d (.gv true (.val (.bool false))), h⟩ K)
    (hd : t d = .gv true (.val (.bool p)) := by exact rfl) : RW C f call ops i l ks ⟨n, t, h⟩ K := by
  have e : ∀ q, t d = .gv true (.val (.bool q)) → upd t d (.gv true (.val (.bool q))) = t := fun q hq => by
    funext j; unfold upd; split
    · rename_i hj; subst hj; exact hq.symm
    · rfl
  cases p with
  | true => have := h1 (by simpa using hF); rwa [e _ hd] at this
  | false => have := h2 (by simpa using hF); rwa [e _ hd] at this
end
end
end Go.Ab
