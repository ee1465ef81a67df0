/-
  STEPS: one lemma for each construct, for proofs written by program.
-/
import Derived.Test.YtbgakafgplbbnaaDoorAbFn
import Derived.Test.YtbgakafgplbbnaaDoorAbSimp
namespace Go.Ab
open Go

abbrev CallT := FuncId → List AV → Option (AV × List AV)
abbrev w64 (n : Int) : Int := IntKind.i64.wrap n
def idx {α : Type} (l : List α) (i : Int) : Option α := if 0 ≤ i then l[i.toNat]? else none
theorem idx_map {α β : Type} {c : α → β} {l : List α} {i : Int} {x : α} (h : idx l i = some x) : idx (l.map c) i = some (c x) := by
  unfold idx at *
  split at h
  · rw [if_pos ‹_›]; simp [h]
  · cases h

/-- Code comes to an end of which Q holds. -/
def W (C : Cx) (f : FuncId) (call : CallT) (c : Code) (S : St) (Q : Exit × St → Prop) : Prop := ∃ x, evCode C f call lpD c S = some x ∧ Q x
/-- Operations of a region. -/
def RW (C : Cx) (f : FuncId) (call : CallT) (ops : Array Oper) (i : Nat) (l : List Oper) (ks : List HKey) (S : St) (Q : List HKey → St → Prop) : Prop := ∃ x, evOps C f call ops i l S = some x ∧ Q (ks ++ x.2) x.1

section
variable {C : Cx} {f : FuncId} {call : CallT} {S : St} {g : Bool} {ops : Array Oper} {l : List Oper} {i : Nat} {ks : List HKey} {n : Nat} {t : Nat → AV} {h : Id → Option (Option Rows)}
variable {Q : Exit × St → Prop} {K : List HKey → St → Prop} {a b c : Code}
variable {d : Nat} {ty : TypeId} {pos : String} {af : Array Edge} {gd : Option (Nat × Bool)} {op : Op} {v : AV}

theorem bindS {α β : Type} {o : Option α} {k : α → Option β} {r : β} (h : o.bind k = some r) : ∃ x, o = some x ∧ k x = some r := Option.bind_eq_some_iff.1 h

/-! ### Code -/
theorem w_seq (h : W C f call a S fun x => match x.1 with | .normal => W C f call b x.2 Q | _ => Q x) : W C f call (.seq a b) S Q := by
  obtain ⟨⟨e, s⟩, h1, h2⟩ := h
  cases e with
  | normal =>
    obtain ⟨y, h3, h4⟩ := h2
    exact ⟨y, by simp only [evCode, h1, Option.bind_some, h3], h4⟩
  | _ => exact ⟨_, by simp only [evCode, h1, Option.bind_some], h2⟩
theorem w_reg {id : Nat} (h : RW C f call ⟨l⟩ 0 l [] S fun _ S' => Q (.normal, S')) : W C f call (.region id ⟨l⟩ false) S Q := by
  obtain ⟨x, h1, h2⟩ := h
  exact ⟨_, by simp [evCode, evRegion, h1], h2⟩
theorem w_regD {id : Nat} (h : RW C f call ⟨l⟩ 0 l [] S fun ks S' => heapFree (C.ah f id) ks = true ∧ Q (.normal, S')) : W C f call (.region id ⟨l⟩ true) S Q := by
  obtain ⟨x, h1, h2, h3⟩ := h
  simp only [List.nil_append] at h2
  exact ⟨_, by simp [evCode, evRegion, h1, h2], h3⟩
theorem w_sreg {id : Nat} (h : RW C f call ⟨l⟩ 0 l [] S fun _ S' => W C f call b S' Q) : W C f call (.seq (.region id ⟨l⟩ false) b) S Q := w_seq (w_reg h)
theorem w_sregD {id : Nat} (h : RW C f call ⟨l⟩ 0 l [] S fun ks S' => heapFree (C.ah f id) ks = true ∧ W C f call b S' Q) : W C f call (.seq (.region id ⟨l⟩ true) b) S Q := w_seq (w_regD h)
theorem w_skip (h : Q (.normal, S)) : W C f call .skip S Q := ⟨_, rfl, h⟩
theorem w_ret (h : Q (.ret, S)) : W C f call .ret S Q := ⟨_, rfl, h⟩
theorem w_exit {k : Nat} (h : Q (.exit k, S)) : W C f call (.exit k) S Q := ⟨_, rfl, h⟩
theorem w_block {k : Nat} (h : W C f call c S fun x => Q (match x.1 with | .exit j => if j = k then .normal else .exit j | e => e, x.2)) : W C f call (.block k c) S Q := by
  obtain ⟨x, h1, h2⟩ := h
  exact ⟨_, by simp only [evCode, h1]; rfl, h2⟩
theorem w_if {x : Operand} {p : Bool} {ρ : Type} {A B : Option ρ} {r : ρ} (hF : (if p = true then A else B) = some r) (hc : un true (S.get C x) = .val (.bool p))
    (h1 : p = true → A = some r → W C f call a S Q) (h2 : p = false → B = some r → W C f call b S Q) : W C f call (.cond x a b) S Q := by
  cases p with
  | true =>
    obtain ⟨y, h3, h4⟩ := h1 rfl (by simpa using hF)
    exact ⟨y, by simp only [evCode, hc]; simpa using h3, h4⟩
  | false =>
    obtain ⟨y, h3, h4⟩ := h2 rfl (by simpa using hF)
    exact ⟨y, by simp only [evCode, hc]; simpa using h3, h4⟩

/-- One round: on with a new state, or out. -/
inductive Lp (σ τ : Type) where
  | next (s : σ)
  | out (x : τ)

def LoopN {σ τ : Type} (step : σ → Option (Lp σ τ)) : Nat → σ → Option τ
  | 0, _ => none
  | m + 1, s => (step s).bind fun y => match y with | .next s' => LoopN step m s' | .out x => some x
open Classical in
/-- A loop. -/
noncomputable def Loop {σ τ : Type} (step : σ → Option (Lp σ τ)) (s : σ) : Option τ := if h : ∃ x m, LoopN step m s = some x then some (Classical.choose h) else none

theorem LoopN_up {σ τ : Type} {step : σ → Option (Lp σ τ)} : ∀ {m : Nat} {s : σ} {x : τ} (k : Nat), LoopN step m s = some x → LoopN step (m + k) s = some x
  | 0, _, _, _, h => by simp [LoopN] at h
  | m + 1, s, x, k, h => by
    rw [Nat.add_right_comm]
    simp only [LoopN, Option.bind_eq_some_iff] at h ⊢
    obtain ⟨y, h1, h2⟩ := h
    refine ⟨y, h1, ?_⟩
    cases y with
    | next s' => exact LoopN_up k h2
    | out x => exact h2
theorem LoopN_det {σ τ : Type} {step : σ → Option (Lp σ τ)} {m m' : Nat} {s : σ} {x y : τ} (h1 : LoopN step m s = some x) (h2 : LoopN step m' s = some y) : x = y := by
  have e1 := LoopN_up m' h1
  have e2 := LoopN_up m h2
  rw [Nat.add_comm] at e2
  rw [e1] at e2
  exact Option.some.inj e2
theorem Loop_of {σ τ : Type} {step : σ → Option (Lp σ τ)} {m : Nat} {s : σ} {x : τ} (h : LoopN step m s = some x) : Loop step s = some x := by
  unfold Loop
  have hx : ∃ x m, LoopN step m s = some x := ⟨x, m, h⟩
  rw [dif_pos hx]
  obtain ⟨m', h'⟩ := Classical.choose_spec hx
  rw [LoopN_det h' h]
theorem Loop_N {σ τ : Type} {step : σ → Option (Lp σ τ)} {s : σ} {x : τ} (h : Loop step s = some x) : ∃ m, LoopN step m s = some x := by
  unfold Loop at h
  split at h
  · rename_i hx
    simp only [Option.some.injEq] at h; subst h
    exact Classical.choose_spec hx
  · cases h
theorem Loop_eq {σ τ : Type} (step : σ → Option (Lp σ τ)) (s : σ) : Loop step s = (step s).bind fun y => match y with | .next s' => Loop step s' | .out x => some x := by
  apply Option.ext
  intro x
  constructor
  · intro h
    obtain ⟨m, h⟩ := Loop_N h
    cases m with
    | zero => simp [LoopN] at h
    | succ m =>
      simp only [LoopN, Option.bind_eq_some_iff] at h ⊢
      obtain ⟨y, h1, h2⟩ := h
      refine ⟨y, h1, ?_⟩
      cases y with
      | next s' => exact Loop_of h2
      | out x => exact h2
  · intro h
    simp only [Option.bind_eq_some_iff] at h
    obtain ⟨y, h1, h2⟩ := h
    cases y with
    | next s' =>
      obtain ⟨m, h3⟩ := Loop_N h2
      exact Loop_of (m := m + 1) (by simp only [LoopN, h1, Option.bind_some, h3])
    | out x => exact Loop_of (m := 1) (by simp only [LoopN, h1, Option.bind_some]; exact h2)

theorem w_loop {σ τ : Type} {step : σ → Option (Lp σ τ)} (rep : σ → List AV) (Rel : τ → Exit × St → Prop) {s0 : σ} {o : τ} {slots : List Nat} (hL : Loop step s0 = some o)
    (hs : (match firstRegion c with | some i => C.live f i | none => []) = slots) (h0 : renorm ⟨n, t, h⟩ slots = some (rep s0))
    (body : ∀ s y, step s = some y → W C f call c (mkSt n slots (rep s)) fun x => match y with | .next s' => x.1 = .normal ∧ renorm x.2 slots = some (rep s') | .out o => x.1 ≠ .normal ∧ Rel o x)
    (post : ∀ x, Rel o x → Q x) : W C f call (.loop c) ⟨n, t, h⟩ Q := by
  obtain ⟨m, hm⟩ := Loop_N hL
  have key : ∀ m s, LoopN step m s = some o → ∃ x, lpD (fun tvs => evCode C f call lpD c (mkSt n slots tvs)) (fun S' => renorm S' slots) (rep s) = some x ∧ Rel o x := by
    intro m
    induction m with
    | zero => intro s h; simp [LoopN] at h
    | succ m ih =>
      intro s h
      simp only [LoopN, Option.bind_eq_some_iff] at h
      obtain ⟨y, h1, h2⟩ := h
      obtain ⟨⟨e, S'⟩, h3, h4⟩ := body s y h1
      rw [lpD_unfolds]
      simp only [h3, Option.bind_some]
      cases y with
      | next s' =>
        obtain ⟨rfl, h5⟩ := h4
        simp only [h5, Option.bind_some]
        exact ih s' h2
      | out o' =>
        obtain ⟨h5, h6⟩ := h4
        obtain rfl : o' = o := by simpa using h2
        cases e with
        | normal => exact absurd rfl h5
        | _ => exact ⟨_, rfl, h6⟩
  obtain ⟨x, h3, h4⟩ := key m s0 hm
  subst hs
  refine ⟨x, ?_, post x h4⟩
  exact (congrArg (Option.bind · _) h0).trans h3

/-! ### Regions -/
theorem rw_nil (h : K ks S) : RW C f call ops i [] ks S K := ⟨_, rfl, by simpa using h⟩
theorem hkey_cons (i : Nat) (e : Eff) (l : List HKey) : hkey i e l = hkey i e [] ++ l := by unfold hkey; split <;> simp
theorem rw_op {o : Oper} {e : Eff} (he : evG C f call S ops o = some e) (hs : (e.sw.all fun x => decide (x.1 < S.n)) = true) (k : RW C f call ops (i + 1) l (ks ++ hkey i e []) (S.app e) K) : RW C f call ops i (o :: l) ks S K := by
  obtain ⟨x, h1, h2⟩ := k
  refine ⟨(x.1, hkey i e x.2), ?_, ?_⟩
  · simp only [evOps, he, Option.bind_some]
    rw [if_pos hs, h1]; rfl
  · rw [hkey_cons]; simpa using h2
theorem blt_decide {d n : Nat} (h : Nat.blt d n = true) : decide (d < n) = true := by
  simp [Nat.blt] at h ⊢; omega
/-- No guard, nothing of the heap. -/
theorem rw_p (he : evOp C f call ⟨n, t, h⟩ true ⟨some d, op, ty, pos, af, none⟩ = some ⟨[(d, v)], [], []⟩) (hs : Nat.blt d n = true) (k : RW C f call ops (i + 1) l ks ⟨n, upd t d v, h⟩ K) :
    RW C f call ops i (⟨some d, op, ty, pos, af, none⟩ :: l) ks ⟨n, t, h⟩ K :=
  rw_op (e := ⟨[(d, v)], [], []⟩) he (by simpa using blt_decide hs) (by simpa [hkey, St.app] using k)
/-- No guard; the heap is looked at. -/
theorem rw_r {y : Id} {rd : List Id} (he : evOp C f call ⟨n, t, h⟩ true ⟨some d, op, ty, pos, af, none⟩ = some ⟨[(d, v)], y :: rd, []⟩) (hs : Nat.blt d n = true) (k : RW C f call ops (i + 1) l (ks ++ [(i, y :: rd, [])]) ⟨n, upd t d v, h⟩ K) :
    RW C f call ops i (⟨some d, op, ty, pos, af, none⟩ :: l) ks ⟨n, t, h⟩ K :=
  rw_op (e := ⟨[(d, v)], y :: rd, []⟩) he (by simpa using blt_decide hs) (by simpa [hkey, St.app] using k)
/-- No guard; the heap is turned. -/
theorem rw_w {od : Option Nat} {sw : List (Nat × AV)} {rd : List Id} {x : Id × Option Rows} {wr : List (Id × Option Rows)} (he : evOp C f call ⟨n, t, h⟩ true ⟨od, op, ty, pos, af, none⟩ = some ⟨sw, rd, x :: wr⟩) (hs : (sw.all fun x => Nat.blt x.1 n) = true)
    (k : RW C f call ops (i + 1) l (ks ++ [(i, rd, (x :: wr).map (·.1))]) ⟨n, updS t sw, updH h (x :: wr)⟩ K) :
    RW C f call ops i (⟨od, op, ty, pos, af, none⟩ :: l) ks ⟨n, t, h⟩ K :=
  rw_op (e := ⟨sw, rd, x :: wr⟩) he (by
    rw [List.all_eq_true] at hs ⊢
    exact fun y hy => blt_decide (hs y hy)) (by simpa [hkey, St.app] using k)
/-- Under a guard, and well whether it holds or not. -/
theorem rw_g {j : Nat} {wt : Bool} {l0 : List Oper} (hg : guardD wt ⟨n, t, h⟩ (dstL l0 j) = some g) (he : evOp C f call ⟨n, t, h⟩ g ⟨some d, op, ty, pos, af, some (j, wt)⟩ = some ⟨[(d, v)], [], []⟩) (hs : Nat.blt d n = true)
    (k : RW C f call ⟨l0⟩ (i + 1) l ks ⟨n, upd t d (.gv g v), h⟩ K) : RW C f call ⟨l0⟩ i (⟨some d, op, ty, pos, af, some (j, wt)⟩ :: l) ks ⟨n, t, h⟩ K :=
  rw_op (e := ⟨[(d, .gv g v)], [], []⟩) (by rw [evG_some, hg, contG_some, evGg_eq, he]; rfl) (by simpa using blt_decide hs) (by simpa [hkey, St.app] using k)
theorem rw_gr {j : Nat} {wt : Bool} {l0 : List Oper} {y : Id} {rd : List Id} (hg : guardD wt ⟨n, t, h⟩ (dstL l0 j) = some g) (he : evOp C f call ⟨n, t, h⟩ g ⟨some d, op, ty, pos, af, some (j, wt)⟩ = some ⟨[(d, v)], y :: rd, []⟩) (hs : Nat.blt d n = true)
    (k : RW C f call ⟨l0⟩ (i + 1) l (ks ++ [(i, y :: rd, [])]) ⟨n, upd t d (.gv g v), h⟩ K) : RW C f call ⟨l0⟩ i (⟨some d, op, ty, pos, af, some (j, wt)⟩ :: l) ks ⟨n, t, h⟩ K :=
  rw_op (e := ⟨[(d, .gv g v)], y :: rd, []⟩) (by rw [evG_some, hg, contG_some, evGg_eq, he]; rfl) (by simpa using blt_decide hs) (by simpa [hkey, St.app] using k)
/-- Keys that only look. -/
def readsOnly (ks : List HKey) : Bool := ks.all fun k => k.2.2.isEmpty
/-- Under a guard that does not hold. -/
theorem rw_no {j : Nat} {wt : Bool} {l0 : List Oper} (hg : guardD wt ⟨n, t, h⟩ (dstL l0 j) = some false) (hs : Nat.blt d n = true)
    (k : ∀ u ks', readsOnly ks' = true → RW C f call ⟨l0⟩ (i + 1) l (ks ++ ks') ⟨n, upd t d (.gv false u), h⟩ K) : RW C f call ⟨l0⟩ i (⟨some d, op, ty, pos, af, some (j, wt)⟩ :: l) ks ⟨n, t, h⟩ K := by
  have hj : ∀ (v : AV) (rd : List Id), evG C f call ⟨n, t, h⟩ ⟨l0⟩ ⟨some d, op, ty, pos, af, some (j, wt)⟩ = some ⟨[(d, .gv false v)], rd, []⟩ → RW C f call ⟨l0⟩ i (⟨some d, op, ty, pos, af, some (j, wt)⟩ :: l) ks ⟨n, t, h⟩ K := fun v rd he =>
    rw_op he (by simpa using blt_decide hs) (by
      have := k v (hkey i ⟨[(d, .gv false v)], rd, []⟩ []) (by unfold hkey readsOnly; split <;> simp)
      simpa [St.app] using this)
  rw [evG_some, hg, contG_some, evGg_eq] at hj
  cases he : evOp C f call ⟨n, t, h⟩ false ⟨some d, op, ty, pos, af, some (j, wt)⟩ with
  | none => exact hj .junk [] (by rw [he]; rfl)
  | some e =>
    obtain ⟨sw, rd, wr⟩ := e
    cases wr with
    | cons x wr => exact hj .junk [] (by rw [he]; rfl)
    | nil =>
      rcases shaped_op he with ⟨v, hv⟩ | ⟨hv, _⟩
      · simp only [put] at hv; subst hv
        exact hj v rd (by rw [he]; rfl)
      · exact absurd rfl hv
end
end Go.Ab
