/-
  ITERATORS: a walk of an iterator's code, in which each call of yield goes on or ends the loop.
-/
import Derived.Test.YtbhpblokoecoaaaAbV9
namespace Go.Ab
open Go
abbrev JT := Nat → (Nat → Prop) → World → Prop
def JK (J : JT) : Prop := ∀ i X Y W W', J i X W → Kept W W' (fun _ => False) → (∀ b, Y b → (X b ∨ W.heap.size ≤ b) ∧ b < W'.heap.size) → J i Y W'
def Js (J Jx : JT) : Option Nat → (Nat → Prop) → World → Prop
  | some i, X, W => J i X W
  | none, X, W => ∃ i, Jx i X W
def YS (C : Cx) (J Jx : JT) (z : Option Nat) (S : St) (a : Act) (W : World) : Prop :=
  a.defers = [] ∧ ∃ E β F, SR C E W S a β F ∧ (∀ b, ¬ E.F0 b) ∧ (∀ id, S.h id = none) ∧ Js J Jx z (Im E W F) W
def plainB : Op → Bool
  | .move _ | .assign _ | .load _ _ | .fieldAddr _ _ _ | .indexAddr _ _ _ | .binOp _ _ _ _ _ | .unOp _ _ _ | .field _ _ _ | .extract _ _ | .box _ _ | .alloc _ | .build _ _ => true
  | .call c => match c.callee with | .builtin .len => true | _ => false
  | _ => false
theorem run_v_ne {P : Program} {w w' : World} {s : Sem Value} {d : Deferred} : (do pure (Next.value (← s)) : Sem Next).run P w ≠ .ok (.defer d) w' := by
  intro h
  rw [Sem.run_bind] at h
  cases hs : s.run P w with
  | ok v w1 => rw [hs] at h; simp at h
  | halt x w1 => rw [hs] at h; cases h
theorem plain_run {P : Program} {ρ : Operand → Value} {o : Oper} {w w' : World} {d : Deferred} (hp : plainB o.op = true) : (execOp ρ o).run P w ≠ .ok (.defer d) w' := by
  unfold plainB at hp
  split at hp
  all_goals try (rename_i ho; unfold execOp; rw [ho]; exact run_v_ne)
  · rename_i ho; unfold execOp; rw [ho]; intro h; cases h
  · rename_i ho; unfold execOp; rw [ho]; intro h; cases h
  · rename_i c ho
    split at hp
    · rename_i hc
      have e : execOp ρ o = builtin .len c.argTypes o.type (c.args.map fun | .const _ => true | _ => false) (c.args.map ρ) := by
        unfold execOp; rw [ho]; simp only [resolve, hc]; rfl
      rw [e]
      exact run_v_ne
    · cases hp
  · cases hp
theorem plain_nd {o : Oper} (hp : plainB o.op = true) (c : Call) : o.op ≠ .defer c := fun e => by rw [e] at hp; cases hp
section
variable {C : Cx} {f : FuncId} {call : CallT} {J Jx : JT} {z : Option Nat} {S : St} {a : Act} {W w : World}
theorem wp_plain {P : Program} {o : Oper} {next next' : Act → World → Prop} {Q : Exit → Act → World → Prop} (hp : plainB o.op = true) (h : o.wp P a w next Q) (hn : ∀ w' v, next (a.put o.dst v) w' → next' (a.put o.dst v) w') : o.wpIn Fence.wide 0 P a w next' Q := by
  refine ⟨fun f _ => Fnc_fn none f, ?_⟩
  rw [Oper.semAt_eq _ _ _ (plain_nd hp)]
  unfold Oper.wp at h
  have hnd : ∀ d w', (execOp a.eval o).run P w ≠ .ok (.defer d) w' := fun d w' => plain_run hp
  generalize (execOp a.eval o).run P w = r at *
  cases r with
  | ok x w' =>
    cases x with
    | value v => exact hn _ v h
    | skip => exact hn _ undef h
    | defer d => exact absurd rfl (hnd d w')
    | enter f args => exact ⟨Fnc_depth none, calls_Fnc (ro := none) (h.mono fun e w'' he => by cases e <;> first | exact hn _ _ he | exact he)⟩
    | row row args => exact ⟨Fnc_depth none, rows_Fnc (ro := none) (h.mono fun v w'' he => hn _ _ he)⟩
    | round l f tmps assign body => exact h.elim
    | _ => exact h
  | halt x w' => cases x <;> exact h
theorem YS.start (hJ : JK J) (hJx : JK Jx) (h : YS C J Jx z S a W) : a.defers = [] ∧ ∃ E β F, SR C E W S a β F ∧ E.w0 = W ∧ (∀ b, ¬ E.F0 b) ∧ (∀ id, F id = []) ∧ (∀ id, S.h id = none) ∧ Js J Jx z (Im E W F) W := by
  obtain ⟨h0, E, β, F, h1, h2, h3, h4⟩ := h
  have hF : ∀ id, F id = [] := fun id => h1.dead id (by rw [h3]; simp)
  refine ⟨h0, E.at W F, β, F, h1.reroot, rfl, fun b hb => ?_, hF, h3, ?_⟩
  · obtain ⟨id, hm⟩ := hb; rw [hF] at hm; cases hm
  · have key : ∀ b, Im (E.at W F) W F b → (Im E W F b ∨ W.heap.size ≤ b) ∧ b < W.heap.size := fun b hb => ⟨.inl (Im_at.1 hb), hb.2.1⟩
    cases z with
    | some i => exact hJ _ _ _ _ _ h4 (Kept.refl _ _) key
    | none => obtain ⟨i, h4⟩ := h4; exact ⟨i, hJx _ _ _ _ _ h4 (Kept.refl _ _) key⟩
theorem YS.fin {E : Env} {F : Id → List Nat} (hJ : JK J) (hJx : JK Jx) (h0 : E.w0 = W) (hE : ∀ b, ¬ E.F0 b) (hF : ∀ id, F id = []) (hj : Js J Jx z (Im E W F) W) {S' : St} {a' : Act} {w' : World} (hS : Nx C E S' a' w') (hh : ∀ id, S'.h id = none) (hd : a'.defers = []) : YS C J Jx z S' a' w' := by
  subst h0
  obtain ⟨β', F', h'⟩ := hS
  have hk : Kept E.w0 w' (fun _ => False) := ⟨h'.kept.size, fun b h1 _ => h'.kept.blk b h1 (hE b), h'.kept.os, h'.kept.out, h'.kept.frz, h'.kept.szs⟩
  have key : ∀ b, Im E w' F' b → (Im E E.w0 F b ∨ E.w0.heap.size ≤ b) ∧ b < w'.heap.size := fun b hb => ⟨by
    rcases Nat.lt_or_ge b E.w0.heap.size with h | h
    · refine .inl ⟨?_, h, fun id hm => by rw [hF] at hm; cases hm⟩
      rcases hb.1 with h1 | h1 | h1
      · exact .inl h1
      · exact absurd h1 (hE b)
      · omega
    · exact .inr h, hb.2.1⟩
  refine ⟨hd, E, β', F', h', hE, hh, ?_⟩
  cases z with
  | some i => exact hJ _ _ _ _ _ hj hk key
  | none => obtain ⟨i, hj⟩ := hj; exact ⟨i, hJx _ _ _ _ _ hj hk key⟩
structure Yw (C : Cx) (call : CallT) (l : Nat) (ys : List (List AV)) (J Jx : JT) : Prop where
  n : NC C
  calls : ∀ k as r, call k as = some r → Sound C k as r
  j : JK J
  jx : JK Jx
  y : ∀ i X W vs y, J i X W → ys[i]? = some y → RL W X noB [] vs y → YieldAt Fence.wide 0 C.P l ⟨vs⟩ W fun e W' => ((e = .returned (.bool true) ∧ J (i + 1) X W') ∨ (e = .returned (.bool false) ∧ Jx (i + 1) X W')) ∧ ∀ b, X b → W'.heap[b]? = W.heap[b]?
def YW (C : Cx) (f : FuncId) (call : CallT) (l : Nat) (ys : List (List AV)) (c : Code) (z : Option Nat) (S : St) (Q : Exit → Option Nat → St → Prop) : Prop :=
  ∀ J Jx, Yw C call l ys J Jx → ∀ a W Qc, YS C J Jx z S a W → (∀ e z' S' a' W', Q e z' S' → YS C J Jx z' S' a' W' → Qc e a' W') → c.wpIn Fence.wide 0 C.P Qc a W
def YO (C : Cx) (f : FuncId) (call : CallT) (l : Nat) (ys : List (List AV)) (ops : Array Oper) (i : Nat) (os : List Oper) (z : Option Nat) (S : St) (Q : Option Nat → St → Prop) : Prop :=
  (∀ j, os[j]? = ops[i + j]?) → ∀ J Jx, Yw C call l ys J Jx → ∀ a W Qc, YS C J Jx z S a W → (∀ z' S' a' W', Q z' S' → YS C J Jx z' S' a' W' → Qc .normal a' W') → wpOpsIn Fence.wide 0 C.P ops Qc (List.range' i os.length) a W
end
section
variable {C : Cx} {f : FuncId} {call : CallT} {l : Nat} {ys : List (List AV)} {z : Option Nat} {S : St} {Q : Exit → Option Nat → St → Prop} {c b : Code} {ops : Array Oper} {i n d : Nat} {os : List Oper} {K : Option Nat → St → Prop}
variable {t : Nat → AV} {h : Id → Option (Option Rows)} {op : Op} {ty : TypeId} {pos : String} {af : Array Edge} {v : AV}
theorem ynl (k : K z S) : YO C f call l ys ops i [] z S K := fun _ J Jx _ a W Qc hS hQ => hQ _ _ _ _ k hS
theorem yp (he : evOp C f call ⟨n, t, h⟩ true ⟨some d, op, ty, pos, af, none⟩ = some ⟨[(d, v)], [], []⟩) (k : YO C f call l ys ops (i + 1) os z ⟨n, upd t d v, h⟩ K) (hs : Nat.blt d n = true := by exact rfl) (hp : plainB op = true := by exact rfl) :
    YO C f call l ys ops i (⟨some d, op, ty, pos, af, none⟩ :: os) z ⟨n, t, h⟩ K := by
  intro hl J Jx hY a W Qc hS hQ
  have h0 : ops[i]? = some ⟨some d, op, ty, pos, af, none⟩ := by simpa using (hl 0).symm
  obtain ⟨g0, E, β, F, g1, g2, g3, g4, g5, g6⟩ := hS.start hY.j hY.jx
  rw [List.length_cons, List.range'_succ, wpOpsIn_cons]
  unfold wpOpIn
  simp only [h0]
  have hw : Region.wanted (⟨some d, op, ty, pos, af, none⟩ : Oper) (yielded ops a.tmps) = true := rfl
  rw [if_pos hw]
  have hlt : d < n := of_decide_eq_true (blt_decide hs)
  refine wp_plain hp (ok_op (next := Nx C E ⟨n, upd t d v, h⟩) hY.n hY.calls g1 he (by simp [inB, hlt]) fun a' w' hx => hx) fun w' u hx => ?_
  exact k (fun j => by have := hl (j + 1); simpa [Nat.add_assoc, Nat.add_comm 1 j] using this) J Jx hY _ _ Qc (YS.fin (E := E) (F := F) hY.j hY.jx g2 g3 g4 g6 hx g5 (by rw [put_defers]; exact g0)) hQ
theorem yy {fo : Operand} {xs : List Operand} {ts : Array TypeId} {k : Nat} {y : List AV} (hfo : un true ((⟨n, t, h⟩ : St).get C fo) = .fn (.yield l) [] []) (hy : ys[k]? = some y) (hxs : (xs.map fun x => un true ((⟨n, t, h⟩ : St).get C x)) = y) (hi : immL y = true)
    (k1 : YO C f call l ys ops (i + 1) os (some (k + 1)) ⟨n, upd t d (.val (.bool true)), h⟩ K) (k2 : YO C f call l ys ops (i + 1) os none ⟨n, upd t d (.val (.bool false)), h⟩ K) (hs : Nat.blt d n = true := by exact rfl) :
    YO C f call l ys ops i (⟨some d, .call ⟨.value fo, ⟨xs⟩, ts⟩, ty, pos, af, none⟩ :: os) (some k) ⟨n, t, h⟩ K := by
  intro hl J Jx hY a W Qc hS hQ
  have h0 : ops[i]? = some ⟨some d, .call ⟨.value fo, ⟨xs⟩, ts⟩, ty, pos, af, none⟩ := by simpa using (hl 0).symm
  obtain ⟨g0, E, β, F, g1, g2, g3, g4, g5, g6⟩ := hS.start hY.j hY.jx
  have hlt : d < n := of_decide_eq_true (blt_decide hs)
  have hfv := g1.getU fo
  rw [hfo] at hfv
  obtain ⟨_, v1, v2, hfv, r1, r2⟩ := hfv.fn_inv
  obtain ⟨_, rfl⟩ := r1.nil_inv
  obtain ⟨_, rfl⟩ := r2.nil_inv
  have hargs := RL.ofMap g1 xs
  rw [hxs] at hargs
  have hargs2 : RL W (Im E W F) noB [] (xs.map a.eval) y := RL.imm_noB hargs hi
  obtain ⟨fn, tmps, assign, body, hrun, hR⟩ := hY.y k _ W _ y g6 hy hargs2
  rw [List.length_cons, List.range'_succ, wpOpsIn_cons]
  unfold wpOpIn
  simp only [h0]
  have hw : Region.wanted (⟨some d, .call ⟨.value fo, ⟨xs⟩, ts⟩, ty, pos, af, none⟩ : Oper) (yielded ops a.tmps) = true := rfl
  rw [if_pos hw]
  refine ⟨fun f _ => Fnc_fn none f, ?_⟩
  rw [Oper.semAt_eq _ _ _ (fun c e => by cases e)]
  have hex : (execOp a.eval (⟨some d, .call ⟨.value fo, ⟨xs⟩, ts⟩, ty, pos, af, none⟩ : Oper)).run C.P W = .ok (.round l fn tmps assign body) W := by
    have e1 : (⟨xs⟩ : Array Operand).map a.eval = ⟨xs.map a.eval⟩ := by apply Array.ext'; simp
    simp only [execOp, resolve, hfv]
    rw [e1]
    simpa [invoke, go_sem] using hrun
  rw [hex, Oper.uponIn_round]
  refine ⟨Fnc_depth none, hR.mono ?_⟩
  have fin : ∀ (z' : Option Nat) (bb : Bool) (W' : World), (Js J Jx z' (Im E W F) W') → (∀ b, Im E W F b → W'.heap[b]? = W.heap[b]?) → YO C f call l ys ops (i + 1) os z' ⟨n, upd t d (.val (.bool bb)), h⟩ K → wpOpsIn Fence.wide 0 C.P ops Qc (List.range' (i + 1) os.length) (a.put (some d) (.bool bb)) W' := by
    intro z' bb W' hj hb kk
    have hIb : ∀ b, Im E W F b → b < W'.heap.size := fun b hb' => by
      have := hb b hb'
      rcases Nat.lt_or_ge b W'.heap.size with h1 | h1
      · exact h1
      · rw [Array.getElem?_eq_none h1, Array.getElem?_eq_getElem hb'.2.1] at this; cases this
    have hlF : ∀ (id : Id) (b : Nat), b ∉ F id := fun id b hm => by rw [g4] at hm; cases hm
    let E' : Env := ⟨W', fun _ => False, Im E W F, 0, Nat.zero_le _⟩
    have hIm : ∀ b, Im E W F b → Im E' W' F b := fun b hb' => ⟨.inl hb', hIb b hb', fun id => hlF id b⟩
    refine kk (fun j => by have := hl (j + 1); simpa [Nat.add_assoc, Nat.add_comm 1 j] using this) J Jx hY _ _ Qc ⟨by rw [put_defers]; exact g0, E', β, F, ?_, fun _ h => h, g5, ?_⟩ hQ
    · refine { n := (by rw [put_size]; exact g1.n), df := (by rw [put_defers, g0]; exact Dfs.nil), slot := fun t' => ?_, obj := fun id rows hr => (by rw [g5] at hr; cases hr), dead := fun id _ => g4 id, nd := fun id => (by rw [g4]; exact List.nodup_nil), dj := fun i j b hm => absurd hm (hlF i b), dom := g1.dom, lt := fun id b hm => absurd hm (hlF id b), kept := Kept.refl _ _, glob := fun g cs hg => (g1.glob g cs hg).mono hIm (fun b hb' => hb b (by rcases hb' with h1 | h1 <;> first | exact h1 | cases h1)) (fun _ _ h => h) }
      rw [put_get a d t' _ (by rw [g1.n]; exact hlt)]
      by_cases e : t' = d
      · subst e; simp only [if_true, upd]; exact .val rfl
      · simp only [if_neg e, upd]
        exact (g1.slot t').mono hIm (fun b hb' => hb b (by rcases hb' with h1 | h1 <;> first | exact h1 | cases h1)) (fun _ _ h => h)
    · have key : ∀ b, Im E' W' F b → (Im E W F b ∨ W'.heap.size ≤ b) ∧ b < W'.heap.size := fun b hb' => ⟨by
        rcases hb'.1 with h1 | h1 | h1
        · exact .inl h1
        · exact h1.elim
        · exact .inr h1, hb'.2.1⟩
      cases z' with
      | some i => exact hY.j _ _ _ _ _ hj (Kept.refl _ _) key
      | none => obtain ⟨i, hj⟩ := hj; exact ⟨i, hY.jx _ _ _ _ _ hj (Kept.refl _ _) key⟩
  rintro e W' ⟨⟨rfl, hj⟩ | ⟨rfl, hj⟩, hb⟩
  · exact fin (some (k + 1)) true W' hj hb k1
  · exact fin none false W' ⟨_, hj⟩ hb k2
theorem yrg {id : Nat} (k : YO C f call l ys ⟨os⟩ 0 os z S fun z' S' => Q .normal z' S') : YW C f call l ys (.region id ⟨os⟩ false) z S Q := fun J Jx hY a W Qc hS hQ => by
  refine wpIn_region ?_
  have := k (fun j => by simp) J Jx hY a W Qc hS (fun z' S' a' W' hq => hQ _ _ _ _ _ hq)
  simpa [List.range_eq_range'] using this
theorem yseq {a : Code} (k : YW C f call l ys a z S fun e z' S' => match e with | .normal => YW C f call l ys b z' S' Q | e => Q e z' S') : YW C f call l ys (.seq a b) z S Q := fun J Jx hY ac W Qc hS hQ => by
  refine wpIn_seq (k J Jx hY ac W _ hS fun e z' S' a' W' hq hS' => ?_)
  cases e with
  | normal => exact hq J Jx hY _ _ _ hS' hQ
  | _ => exact hQ _ _ _ _ _ hq hS'
theorem ysr {id : Nat} (k : YO C f call l ys ⟨os⟩ 0 os z S fun z' S' => YW C f call l ys b z' S' Q) : YW C f call l ys (.seq (.region id ⟨os⟩ false) b) z S Q := yseq (yrg k)
theorem ysk (k : Q .normal z S) : YW C f call l ys .skip z S Q := fun J Jx hY a W Qc hS hQ => wpIn_skip (hQ _ _ _ _ _ k hS)
theorem yrt (k : Q .ret z S) : YW C f call l ys .ret z S Q := fun J Jx hY a W Qc hS hQ => wpIn_ret (hQ _ _ _ _ _ k hS)
theorem yex {j : Nat} (k : Q (.exit j) z S) : YW C f call l ys (.exit j) z S Q := fun J Jx hY a W Qc hS hQ => wpIn_exit (hQ _ _ _ _ _ k hS)
theorem ycd {x : Operand} {bb : Bool} {c1 c2 : Code} (hx : un true (S.get C x) = .val (.bool bb)) (k : YW C f call l ys (if bb then c1 else c2) z S Q) : YW C f call l ys (.cond x c1 c2) z S Q := fun J Jx hY a W Qc hS hQ => by
  have hv : a.eval x = .bool bb := by
    obtain ⟨_, E, β, F, g1, _⟩ := hS
    have := g1.getU x
    rw [hx] at this
    exact this.val_inv.2
  exact wpIn_cond hv (by
    have := k J Jx hY a W Qc hS hQ
    cases bb <;> exact this)
theorem ybl {j : Nat} (k : YW C f call l ys c z S fun e z' S' => Q (match e with | .exit i => if i = j then .normal else .exit i | e => e) z' S') : YW C f call l ys (.block j c) z S Q := fun J Jx hY a W Qc hS hQ => by
  refine wpIn_block (k J Jx hY a W _ hS fun e z' S' a' W' hq hS' => ?_)
  cases e with
  | exit i =>
    simp only [Exit.inBlock]
    simp only at hq
    split at hq
    · rename_i e; subst e; simpa using hQ _ _ _ _ _ hq hS'
    · rename_i e; simpa [e] using hQ _ _ _ _ _ hq hS'
  | _ => exact hQ _ _ _ _ _ hq hS'
theorem ylp (I : Nat → Option Nat → St → Prop) {m : Nat} (h0 : I m z S) (round : ∀ m z S, I m z S → YW C f call l ys c z S fun e z' S' => match e with | .normal => ∃ m', m' < m ∧ I m' z' S' | e => Q e z' S') : YW C f call l ys (.loop c) z S Q := fun J Jx hY a W Qc hS hQ => by
  refine wpIn_loop_ghost (fun m a W => ∃ z S, I m z S ∧ YS C J Jx z S a W) m ⟨z, S, h0, hS⟩ ?_
  rintro m a W ⟨z, S, hI, hS⟩
  refine round m z S hI J Jx hY a W _ hS fun e z' S' a' W' hq hS' => ?_
  cases e with
  | normal => obtain ⟨m', h1, h2⟩ := hq; exact ⟨m', h1, z', S', h2, hS'⟩
  | _ => exact hQ _ _ _ _ _ hq hS'
end
theorem iter_sound {C : Cx} {k : FuncId} {fn : Func} {c : Code} {call : CallT} {it : List AV → Option (List (List AV))} (hN : NC C) (hcall : ∀ k as r, call k as = some r → Sound C k as r) (hf : C.P.funcs[k]? = some fn) (hb : fn.body = some c) (hres : fn.results = #[]) (hnt : ∀ caps ys, it caps = some ys → 1 + caps.length ≤ fn.ntmps)
    (hh : ∀ l caps ys, it caps = some ys → ∀ id, (mkSt fn.ntmps (List.range (1 + caps.length)) (.fn (.yield l) [] [] :: caps)).h id = none)
    (hw : ∀ l caps ys, it caps = some ys → YW C k call l ys c (some 0) (mkSt fn.ntmps (List.range (1 + caps.length)) (.fn (.yield l) [] [] :: caps)) fun e z _ => (e = .normal ∨ e = .ret) ∧ (z = some ys.length ∨ z = none)) : IterSound C k it := by
  refine ⟨⟨fn, c, hf, hb⟩, fun caps ys hit w0 I cs hcs hI hgl l J Jx W hW hJ hJx hy h0 => ?_⟩
  refine callsIn_of_wp hf hb trivial ?_
  have hvl := hcs.length
  let vs : List Value := .func (.yield l) #[] #[] :: cs
  let args : List AV := .fn (.yield l) [] [] :: caps
  have hvl2 : vs.length = args.length := by simp [vs, args, hvl]
  have hnt' := hnt caps ys hit
  have hcW : RL W I noB [] cs caps := hcs.mono (fun _ h => h) (fun b hb => hW b (by rcases hb with h | h <;> first | exact h | cases h)) (fun _ _ h => h)
  have hargs : RL W I noB [] vs args := R.cons (f1 := []) (f2 := []) (.fn .nil .nil) hcW
  have hIW : ∀ b, I b → b < W.heap.size := fun b hb => by
    have := hW b hb
    rcases Nat.lt_or_ge b W.heap.size with h1 | h1
    · exact h1
    · rw [Array.getElem?_eq_none h1, Array.getElem?_eq_getElem (hI b hb)] at this; cases this
  have hget : (List.range args.length).map ((⟨vs⟩ ++ Array.replicate (fn.ntmps - (⟨vs⟩ : Array Value).size) undef : Array Value).getD · undef) = vs := by
    apply List.ext_getElem?
    intro k
    rw [List.getElem?_map]
    rcases Nat.lt_or_ge k args.length with hk | hk
    · rw [List.getElem?_range hk]
      simp only [Option.map_some]
      rw [Array.getD_eq_getD_getElem?, Array.getElem?_append_left (by simpa [hvl2] using hk)]
      have : k < vs.length := by omega
      simp [this]
    · rw [List.getElem?_eq_none (by simpa using hk), List.getElem?_eq_none (by omega)]
      rfl
  let E : Env := ⟨W, fun _ => False, I, W.heap.size, Nat.le_refl _⟩
  have henter : Nx C E (mkSt fn.ntmps (List.range args.length) args) { tmps := ⟨vs⟩ ++ Array.replicate (fn.ntmps - (⟨vs⟩ : Array Value).size) undef, defers := [] } W := by
    refine SR.enter (I := I) (f := []) ?_ Dfs.nil ?_ List.nodup_range List.nodup_nil (fun b hb => ⟨.inl hb, hIW b hb, by simp⟩) (fun b hb => by cases hb) (Kept.refl W _) (fun g cs hg => ?_)
    · have : args.length = 1 + caps.length := by simp [args]; omega
      simp [hvl2]; omega
    · rw [hget]; exact hargs
    · exact (hgl g cs hg).mono (fun _ h => h) (fun b hb => hW b (by rcases hb with h | h <;> first | exact h | cases h)) (fun _ _ h => h)
  have hlen : args.length = 1 + caps.length := by simp [args]; omega
  obtain ⟨β, F, hS⟩ := henter
  have hho : ∀ id, (mkSt fn.ntmps (List.range args.length) args).h id = none := by rw [hlen]; exact hh l caps ys hit
  have hF : ∀ id, F id = [] := fun id => hS.dead id (by rw [hho]; simp)
  have hYS : YS C J Jx (some 0) (mkSt fn.ntmps (List.range (1 + caps.length)) args) { tmps := ⟨vs⟩ ++ Array.replicate (fn.ntmps - (⟨vs⟩ : Array Value).size) undef, defers := [] } W := by
    rw [← hlen]
    refine ⟨rfl, E, β, F, hS, fun _ h => h, hho, ?_⟩
    exact hJ _ _ _ _ _ h0 (Kept.refl _ _) fun b hb => ⟨by
      rcases hb.1 with h1 | h1 | h1
      · exact .inl h1
      · exact h1.elim
      · exact .inr h1, hb.2.1⟩
  refine hw l caps ys hit J Jx ⟨hN, hcall, hJ, hJx, hy⟩ _ _ _ hYS ?_
  rintro e z S' a' W' ⟨he, hz⟩ ⟨hd, E', β', F', _, _, _, hj⟩
  have hq : (∃ X, J ys.length X W') ∨ ∃ i X, Jx i X W' := by
    rcases hz with rfl | rfl
    · exact .inl ⟨_, hj⟩
    · obtain ⟨i, hj⟩ := hj; exact .inr ⟨i, _, hj⟩
  have hr : ∃ v, (results fn a'.tmps).run C.P W' = .ok v W' := ⟨.tuple #[], by simp [results, hres]⟩
  obtain ⟨v, hr⟩ := hr
  rcases he with rfl | rfl
  · exact ⟨hd, v, hr, ⟨v, rfl⟩, hq⟩
  · exact ⟨hd, v, hr, ⟨v, rfl⟩, hq⟩
end Go.Ab
