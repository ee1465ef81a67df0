/-
  A RANGE OVER A FUNCTION: the rule, over an iterator that has its contract.
-/
import Derived.Test.YtbhpblokoecoaaaAbRound
namespace Go.Ab
open Go
structure IterSound (C : Cx) (k : FuncId) (it : List AV → Option (List (List AV))) : Prop where
  fn : ∃ fn c, C.P.funcs[k]? = some fn ∧ fn.body = some c
  ok : ∀ caps ys, it caps = some ys → ∀ (w0 : World) (I : Nat → Prop) (cs : List Value), RL w0 I noB [] cs caps → (∀ b, I b → b < w0.heap.size) → (∀ g cs, C.glob g = some cs → R w0 I noB [] (.pointer (some ⟨g, 0, none⟩)) (.vp cs)) →
    ∀ (l : Nat) (J Jx : Nat → (Nat → Prop) → World → Prop) (W : World), (∀ b, I b → W.heap[b]? = w0.heap[b]?) →
      (∀ i X Y W W', J i X W → Kept W W' (fun _ => False) → (∀ b, Y b → (X b ∨ W.heap.size ≤ b) ∧ b < W'.heap.size) → J i Y W') →
      (∀ i X Y W W', Jx i X W → Kept W W' (fun _ => False) → (∀ b, Y b → (X b ∨ W.heap.size ≤ b) ∧ b < W'.heap.size) → Jx i Y W') →
      (∀ i X W vs y, J i X W → ys[i]? = some y → RL W X noB [] vs y → YieldAt Fence.wide 0 C.P l ⟨vs⟩ W fun e W' => ((e = .returned (.bool true) ∧ J (i + 1) X W') ∨ (e = .returned (.bool false) ∧ Jx (i + 1) X W')) ∧ ∀ b, X b → W'.heap[b]? = W.heap[b]?) →
      J 0 I W → CallsIn Fence.wide 0 C.P k ⟨.func (.yield l) #[] #[] :: cs⟩ W fun e W' => (∃ v, e = .returned v) ∧ ((∃ X, J ys.length X W') ∨ ∃ i X, Jx i X W')
section
variable {C : Cx} {E : Env} {w : World} {S : St} {a : Act} {β : Id → Option Loc} {F : Id → List Nat}
theorem Dfs.put {I : Nat → Prop} {ds : List Deferred} (h : Dfs w I ds) {l : Nat} {r : Loop} (hl : w.heap[l]? = some (.loop r)) (o : Obj) : Dfs (w.putObj l o) I ds := by
  obtain ⟨Ds, h1, h2, h3⟩ := h
  refine ⟨Ds, h1, h2, fun D hD => ⟨?_, (h3 D hD).2⟩⟩
  rw [World.putObj_heap_other]
  · exact (h3 D hD).1
  · intro e; subst e
    rw [(h3 D hD).1] at hl; cases hl
theorem SR.grow (h : SR C E w S a β F) {w' : World} (hk : Kept w w' (fun _ => False)) : SR C E w' S a β F := by
  have hb : ∀ b, b < w.heap.size → w'.heap[b]? = w.heap[b]? := fun b hb => hk.blk b hb (fun h => h)
  have hI : ∀ b, Im E w F b → Im E w' F b := fun b h => ⟨h.1, Nat.lt_of_lt_of_le h.2.1 hk.size, h.2.2⟩
  have hz := h.kept.size
  exact { n := h.n
          df := h.df.mono (fun b hb => ⟨hI b hb.1, hb.2⟩) (fun b hb' => hb b hb'.1.2.1)
          slot := fun t => (h.slot t).mono hI (fun b hb' => hb b (by rcases hb' with h1 | h1 <;> first | exact h1.2.1 | cases h1)) (fun _ _ h => h)
          obj := fun id rows hr => (h.obj id rows hr).mono hI (fun b hb' => hb b (by rcases hb' with h1 | h1; exact h1.2.1; exact (h.lt id b h1).1)) (fun _ _ h => h)
          dead := h.dead
          nd := h.nd
          dj := h.dj
          dom := h.dom
          lt := fun id b hm => ⟨Nat.lt_of_lt_of_le (h.lt id b hm).1 hk.size, (h.lt id b hm).2⟩
          kept := ⟨Nat.le_trans hz hk.size, fun b h1 h2 => (hb b (Nat.lt_of_lt_of_le h1 hz)).trans (h.kept.blk b h1 h2), hk.os.trans h.kept.os, hk.out.trans h.kept.out, fun x hx => (hk.frz x (Nat.lt_of_lt_of_le hx hz)).trans (h.kept.frz x hx), fun b n hB => hk.szs b n (h.kept.szs b n hB)⟩
          glob := fun g cs hg => (h.glob g cs hg).mono hI (fun b hb' => hb b (by rcases hb' with h1 | h1 <;> first | exact h1.2.1 | cases h1)) (fun _ _ h => h) }
theorem put_slots {I : Nat → Prop} {n : Nat} : ∀ (ps : List Nat) (vs : List Value) (y : List AV) (tmps : Array Value) (t0 : Nat → AV), ps.length = y.length → RL w I noB [] vs y → (∀ p ∈ ps, p < n) → tmps.size = n →
    (∀ t, R w I β [] (tmps.getD t undef) (t0 t)) →
    ((ps.zip vs).foldl (fun t (x : Nat × Value) => t.setIfInBounds x.1 x.2) tmps).size = n ∧ (∀ t, R w I β [] (((ps.zip vs).foldl (fun t (x : Nat × Value) => t.setIfInBounds x.1 x.2) tmps).getD t undef) (putPs t0 (ps.zip y) t)) ∧
    ∀ t, t ∉ ps → ((ps.zip vs).foldl (fun t (x : Nat × Value) => t.setIfInBounds x.1 x.2) tmps).getD t undef = tmps.getD t undef
  | [], vs, y, tmps, t0, _, _, _, hn, h => ⟨hn, h, fun _ _ => rfl⟩
  | p :: ps, vs, [], tmps, t0, hl, _, _, _, _ => by simp at hl
  | p :: ps, vs, y :: ys, tmps, t0, hl, hr, hp, hn, h => by
    obtain ⟨f1, f2, v, vs', e0, rfl, h1, h2⟩ := hr.cons_inv
    obtain ⟨rfl, rfl⟩ : f1 = [] ∧ f2 = [] := by simpa using e0.symm
    have hpn := hp p (List.mem_cons_self ..)
    have hset : ∀ t, (tmps.setIfInBounds p v).getD t undef = if t = p then v else tmps.getD t undef := fun t => by
      simp only [Array.getD_eq_getD_getElem?, Array.getElem?_setIfInBounds]
      by_cases e : p = t
      · subst e; rw [if_pos rfl, if_pos (by omega), if_pos rfl]; rfl
      · rw [if_neg e, if_neg (fun x => e x.symm)]
    obtain ⟨g1, g2, g3⟩ := put_slots ps vs' ys (tmps.setIfInBounds p v) (upd t0 p y) (by simpa using hl) h2 (fun q hq => hp q (List.mem_cons_of_mem _ hq)) (by simpa using hn) (fun t => by
      rw [hset]
      by_cases e : t = p
      · subst e; simpa [upd] using h1.up
      · simpa [upd, e] using h t)
    refine ⟨g1, g2, fun t ht => ?_⟩
    simp only [List.mem_cons, not_or] at ht
    rw [List.zip_cons_cons, List.foldl_cons, g3 t ht.2, hset, if_neg ht.1]
def KL (l : List Nat) (v : Nat → Value) (a : Act) : Prop := ∀ j ∈ l, a.tmps.getD j undef = v j
theorem mkSt_junk (n : Nat) : ∀ (slots : List Nat) (tvs : List AV) (t : Nat), t ∉ slots → (mkSt n slots tvs).t t = .junk
  | [], tvs, t, _ => by cases tvs <;> rfl
  | s :: l, [], t, _ => rfl
  | s :: l, v :: vs, t, h => by
    simp only [List.mem_cons, not_or] at h
    simp only [mkSt, upd, if_neg h.1]
    exact mkSt_junk n l vs t h.2
theorem mkT_junk (l : List (Id × Id)) (t0 : Nat → AV) : ∀ (slots : List Nat) (t : Nat), t ∉ slots → mkT l t0 slots t = .junk
  | [], t, _ => rfl
  | s :: r, t, h => by
    simp only [List.mem_cons, not_or] at h
    simp only [mkT, upd, if_neg h.1]
    exact mkT_junk l t0 r t h.2
theorem norm_junk {S S' : St} {slots : List Nat} (h : norm S slots = some S') {t : Nat} (ht : t ∉ slots) : S'.t t = .junk := by
  unfold norm normN at h
  obtain ⟨S1, _, h⟩ := Option.bind_eq_some_iff.1 h
  unfold normL at h
  split at h
  · obtain ⟨hl, _, rfl⟩ := Option.map_eq_some_iff.1 h
    exact mkT_junk _ _ _ _ ht
  · cases h
theorem cut_junk {b : Bool} {slots : List Nat} {S S' : St} (h : cutC (some (b, slots)) S = some S') {t : Nat} (ht : t ∉ slots) : S'.t t = .junk := by
  cases b with
  | true => exact norm_junk h ht
  | false =>
    obtain ⟨tv, _, rfl⟩ := Option.map_eq_some_iff.1 h
    exact mkSt_junk _ _ _ _ ht
theorem SR.cutX {o : Option (Bool × List Nat)} (ho : ∀ b l, o = some (b, l) → l.Nodup) {S' : St} (h : SR C E w S a β F) (hc : cutC o S = some S') :
    ∃ β' F', SR C E w S' a β' F' ∧ (∀ b, b < w.heap.size → (∀ id, b ∉ F id) → ∀ id, b ∉ F' id) ∧ ∀ b, Im E w F b → Im E w F' b := by
  obtain ⟨β', F', h'⟩ := Nx.cut ho ⟨β, F, h.reroot⟩ hc
  obtain ⟨h1, h2, h3⟩ := h.back h'
  exact ⟨β', F', h1, fun b hb hn => (h2 b hb hn).2, h3⟩
def Walks (C : Cx) (ev : St → Option (Exit × St)) (c : Code) (slots : List Nat) (v : Nat → Value) : Prop :=
  ∀ (l : Nat) (E : Env) (S : St) (x : Exit) (S' : St) (a : Act) (w : World) (Q : Exit → Act → World → Prop), ¬ LetsOut Q → ev S = some (x, S') → Nx C E S a w → KL slots v a → (∀ a' w', Nx C E S' a' w' → KL slots v a' → Q x a' w') → c.wpIn (Fnc (some l)) 0 C.P Q a w
theorem SR.alloc1 (h : SR C E w S a β F) (o : Obj) : SR C E (w.alloc o) S a β F := by
  refine h.allocOdd o rfl (h.df.mono (fun b hb => ⟨⟨hb.1.1, by rw [World.size_alloc]; exact Nat.lt_succ_of_lt hb.1.2.1, hb.1.2.2⟩, hb.2⟩) (fun b hb => RowKit.Below.heap_alloc w o b hb.1.2.1))
theorem ok_range {evA evB : St → Option (Exit × St)} {assign body : Code} {slots : List Nat} {b : Bool} {ps : Array Tmp} (hA : Walks C evA assign slots (fun j => a.tmps.getD j undef)) (hB : Walks C evB body slots (fun j => a.tmps.getD j undef))
    (nA : ∀ S x, evA S = some x → x.2.n = S.n) (nB : ∀ S x, evB S = some x → x.2.n = S.n) (hs : slots.Nodup) (hps : ∀ p ∈ ps.toList, p ∉ slots) (hN : NoCount C.P) (hiter : ∀ k it, C.iter k = some it → IterSound C k it) (h : SR C E w S a β F) {g : Operand} {ys : List (List AV)}
    (hg : rangeOf C (un true (S.get C g)) = some ys) {S0 : St} (h0 : cutC (some (b, slots)) S = some S0) {x : Exit} {Sf : St}
    (hr : evRange (fun S1 => (evA S1).bind fun x => match x.1 with | .normal => evB x.2 | _ => none) (cutC (some (b, slots))) ps.toList ys S0 = some (x, Sf)) {Q : Exit → Act → World → Prop}
    (hQ : ∀ a' w', Nx C E Sf a' w' → a'.tmps = a.tmps → Q x a' w') : (Code.rangeFunc g ps assign body).wpIn (Fnc none) 0 C.P Q a w := by
  have hnd : ∀ b' l, some (b, slots) = some (b', l) → l.Nodup := fun b' l e => by simp only [Option.some.injEq, Prod.mk.injEq] at e; rw [← e.2]; exact hs
  -- the iterator
  have hfo := h.getU g
  unfold rangeOf at hg
  split at hg
  case h_2 => cases hg
  rename_i k caps hfn
  split at hg
  case isFalse => cases hg
  rename_i himm
  obtain ⟨it, hit, hys⟩ := Option.bind_eq_some_iff.1 hg
  rw [hfn] at hfo
  obtain ⟨_, vs1, cs, hfv, g1, g2⟩ := hfo.fn_inv
  obtain ⟨_, rfl⟩ := g1.nil_inv
  obtain ⟨⟨fn, fc, hfk, hfb⟩, hok⟩ := hiter k it hit
  -- the state at the loop's head
  obtain ⟨β0, F0, hS0, _, hI0⟩ := h.cutX hnd h0
  have hcs : RL w (Im E w F0) noB [] cs caps := (RL.imm_noB g2 himm).mono hI0 (fun _ _ => rfl) (fun _ _ h => h)
  have hgl : ∀ g cs, C.glob g = some cs → R w (Im E w F0) noB [] (.pointer (some ⟨g, 0, none⟩)) (.vp cs) := fun g cs hg => R.imm_noB (hS0.glob g cs hg) rfl
  have hyc := hok caps ys hys w (Im E w F0) cs hcs (fun b hb => hb.2.1) hgl
  refine wpIn_rangeFunc ?_
  intro fnId _
  obtain ⟨rc, hrc⟩ : ∃ rc : LoopState → Option Code → Loop, rc = fun st pe => { state := st, pending := pe, fn := fnId, tmps := a.tmps, params := ps, assign, body, defers := w.heap.size } := ⟨_, rfl⟩
  obtain ⟨W1, hW1⟩ : ∃ W1, (w.alloc (.deferred (some []))).alloc (.loop (rc .ready none)) = W1 := ⟨_, rfl⟩
  have hL1 : W1.heap[w.heap.size + 1]? = some (.loop (rc .ready none)) := by
    rw [← hW1]; have := World.alloc_heap_new (w.alloc (.deferred (some []))) (.loop (rc .ready none)); rwa [World.size_alloc] at this
  have hK1 : W1.heap[w.heap.size]? = some (.deferred (some [])) := by
    rw [← hW1]; exact (RowKit.Below.heap_alloc _ _ _ (by simp)).trans (World.alloc_heap_new w _)
  have hsz1 : W1.heap.size = w.heap.size + 2 := by rw [← hW1]; simp
  have hw1 : ∀ b, b < w.heap.size → W1.heap[b]? = w.heap[b]? := fun b hb => by
    rw [← hW1]; exact (RowKit.Below.heap_alloc _ _ _ (by simp; omega)).trans (RowKit.Below.heap_alloc _ _ _ hb)
  have hEw := h.kept.size
  let am : Act := ⟨a.tmps, mkD w.heap.size :: a.defers⟩
  have hIm1 : ∀ b, Im E w F0 b → Im E W1 F0 b := fun b hb => ⟨hb.1, by rw [hsz1]; have := hb.2.1; omega, hb.2.2⟩
  have hSR1 : SR C E W1 S0 am β0 F0 := by
    have h1 := (hS0.alloc1 (.deferred (some []))).alloc1 (.loop (rc .ready none))
    rw [hW1] at h1
    refine h1.re h1.n rfl ?_ h1.slot
    obtain ⟨Ds, e1, e2, e3⟩ := hS0.df
    refine ⟨w.heap.size :: Ds, by rw [show am.defers = mkD w.heap.size :: a.defers from rfl, e1]; rfl, List.nodup_cons.2 ⟨fun hm => ?_, e2⟩, fun D hD => ?_⟩
    · have := (e3 _ hm).2.1.2.1; omega
    · rcases List.mem_cons.1 hD with rfl | hD
      · exact ⟨hK1, ⟨.inr (.inr hEw), by omega, fun id hm => by have := (hS0.lt id _ hm).1; omega⟩, Nat.le_trans E.le hEw⟩
      · exact ⟨(hw1 D (e3 D hD).2.1.2.1).trans (e3 D hD).1, hIm1 D (e3 D hD).2.1, (e3 D hD).2.2⟩
  -- between two rounds
  let rnd : St → Option (Exit × St) := fun S1 => (evA S1).bind fun x => match x.1 with | .normal => evB x.2 | _ => none
  let J : Nat → (Nat → Prop) → World → Prop := fun i X W => ∃ Sk β F, (evRange rnd (cutC (some (b, slots))) ps.toList (ys.drop i) Sk = some (x, Sf) ∧ (∀ t, t ∉ slots → Sk.t t = .junk)) ∧ SR C E W Sk am β F ∧
    (W.heap[w.heap.size + 1]? = some (.loop (rc .ready none)) ∧ ∀ id, w.heap.size + 1 ∉ F id) ∧ (∀ b, Im E w F0 b → W.heap[b]? = w.heap[b]? ∧ Im E W F b) ∧ ∀ b, X b → Im E W F b ∧ b ≠ w.heap.size + 1
  let Jx : Nat → (Nat → Prop) → World → Prop := fun _ _ W => ∃ β F c, SR C E W Sf am β F ∧ W.heap[w.heap.size + 1]? = some (.loop (rc .done (some c))) ∧ ((x = .ret ∧ c = .ret) ∨ ∃ id, x = .exit id ∧ c = .exit id)
  have hJ0 : J 0 (Im E w F0) W1 := ⟨S0, β0, F0, ⟨hr, fun t ht => cut_junk h0 ht⟩, hSR1, ⟨hL1, fun id hm => by have := (hS0.lt id _ hm).1; omega⟩, fun b hb => ⟨hw1 b hb.2.1, hIm1 b hb⟩, fun b hb => ⟨hIm1 b hb, by have := hb.2.1; omega⟩⟩
  have hJk : ∀ i X Y W W', J i X W → Kept W W' (fun _ => False) → (∀ b, Y b → (X b ∨ W.heap.size ≤ b) ∧ b < W'.heap.size) → J i Y W' := fun i X Y W W' ⟨Sk, β, F, h1, h2, ⟨h3, h4⟩, h5, h6⟩ hk hY => by
    have hb : ∀ b, b < W.heap.size → W'.heap[b]? = W.heap[b]? := fun b hb => hk.blk b hb (fun h => h)
    have hI : ∀ b, Im E W F b → Im E W' F b := fun b h => ⟨h.1, Nat.lt_of_lt_of_le h.2.1 hk.size, h.2.2⟩
    refine ⟨Sk, β, F, h1, h2.grow hk, ⟨(hb _ (lt_of_heap h3)).trans h3, h4⟩, fun b hb' => ⟨(hb b (h5 b hb').2.2.1).trans (h5 b hb').1, hI b (h5 b hb').2⟩, fun b hb' => ?_⟩
    obtain ⟨hxb | hn, hlt⟩ := hY b hb'
    · exact ⟨hI b (h6 b hxb).1, (h6 b hxb).2⟩
    · have := lt_of_heap h3
      have hEW := h2.kept.size
      exact ⟨⟨.inr (.inr (by omega)), hlt, fun id hm => by have := (h2.lt id b hm).1; omega⟩, by omega⟩
  have hJxk : ∀ i X Y W W', Jx i X W → Kept W W' (fun _ => False) → (∀ b, Y b → (X b ∨ W.heap.size ≤ b) ∧ b < W'.heap.size) → Jx i Y W' := fun i X Y W W' ⟨β, F, c, h1, h2, h3⟩ hk _ =>
    ⟨β, F, c, h1.grow hk, (hk.blk _ (lt_of_heap h2) (fun h => h)).trans h2, h3⟩
  -- one round
  have hround : ∀ i X W vs y, J i X W → ys[i]? = some y → RL W X noB [] vs y → YieldAt Fence.wide 0 C.P (w.heap.size + 1) ⟨vs⟩ W fun e W' => ((e = .returned (.bool true) ∧ J (i + 1) X W') ∨ (e = .returned (.bool false) ∧ Jx (i + 1) X W')) ∧ ∀ b, X b → W'.heap[b]? = W.heap[b]? := by
    rintro i X W vs y ⟨Sk, β2, F2, ⟨hev, hjk⟩, hSR, ⟨hl, hlF⟩, hIk, hX⟩ hy hvy
    have hi : i < ys.length := (List.getElem?_eq_some_iff.1 hy).1
    have hdrop : ys.drop i = y :: ys.drop (i + 1) := by rw [List.drop_eq_getElem_cons hi]; congr 1; rw [List.getElem?_eq_getElem hi] at hy; exact Option.some.inj hy
    rw [hdrop] at hev
    simp only [evRange, Option.bind_eq_some_iff] at hev
    obtain ⟨S1, hst, ⟨x1, S2⟩, hgo, S3, hcut, hev⟩ := hev
    simp only at hcut hev
    unfold roundSt at hst
    split at hst
    case isFalse => cases hst
    rename_i hlen
    simp only [Option.some.injEq] at hst
    obtain ⟨hlen, hlt⟩ := hlen
    have hvl := hvy.length
    obtain ⟨hp1, hp2, hp3⟩ := put_slots (β := β2) (n := Sk.n) ps.toList vs y a.tmps Sk.t hlen (hvy.mono (fun b hb => (hX b hb).1) (fun _ _ => rfl) (fun _ _ h => h)) (fun p hp => by simpa using List.all_eq_true.1 hlt p hp) hSR.n hSR.slot
    let tm : Array Value := (ps.toList.zip vs).foldl (fun t (x : Nat × Value) => t.setIfInBounds x.1 x.2) a.tmps
    have hlE : E.w0.heap.size ≤ w.heap.size + 1 := Nat.le_succ_of_le hEw
    have hyield := run_yield (P := C.P) (args := ⟨vs⟩) hl (by rw [hrc]; simp only [List.size_toArray]; rw [hvl, ← hlen]; simp)
    rw [hrc] at hyield
    have hfold : ((ps.zip (⟨vs⟩ : Array Value)).foldl (fun tmps (t, a) => tmps.setIfInBounds t a) a.tmps) = tm := by
      rw [← Array.foldl_toList, Array.toList_zip]
    refine ⟨fnId, tm, assign, body, by rw [← hfold]; exact hyield, roundIn_of_wpIn trivial ?_⟩
    -- the round's first state
    have hS1 : SR C E W S1 ⟨tm, []⟩ β2 F2 := by
      rw [← hst]
      exact hSR.re hp1 rfl Dfs.nil hp2
    have hKL1 : KL slots (fun j => a.tmps.getD j undef) ⟨tm, []⟩ := fun j hj => hp3 j fun hm => hps j hm hj
    obtain ⟨⟨xa, Sa⟩, hga, hgb⟩ := Option.bind_eq_some_iff.1 hgo
    cases xa with
    | normal =>
      simp only at hgb
      refine hA (w.heap.size + 1) (E.at W F2) S1 .normal Sa ⟨tm, []⟩ W _ (fun ⟨_, _, hf⟩ => hf) hga ⟨β2, F2, hS1.reroot⟩ hKL1 ?_
      rintro a1 w1 ⟨βa, Fa, hSa⟩ hK1'
      obtain ⟨hSa, hba, hIa⟩ := hS1.back hSa
      have hl1 : w1.heap[w.heap.size + 1]? = some (.loop (rc .ready none)) := ((hba _ (lt_of_heap hl) hlF).1).trans hl
      have hlFa := (hba _ (lt_of_heap hl) hlF).2
      refine ⟨_, run_beginRound hl1 (by rw [hrc]), ?_⟩
      obtain ⟨w2, hw2⟩ : ∃ w2, w1.putObj (w.heap.size + 1) (.loop { rc .ready none with state := .busy }) = w2 := ⟨_, rfl⟩
      rw [hw2]
      have hS2 : SR C E w2 Sa a1 βa Fa := by
        rw [← hw2]
        exact hSa.putOdd hl1 rfl hlE rfl (hSa.df.put hl1 _)
      have hl2 : w2.heap[w.heap.size + 1]? = some (.loop (rc .busy none)) := by
        rw [← hw2, World.putObj_heap_same (lt_of_heap hl1), hrc]
      have hoth2 : ∀ b, b ≠ w.heap.size + 1 → w2.heap[b]? = w1.heap[b]? := fun b hb => by rw [← hw2]; exact World.putObj_heap_other hb
      have hsz2 : w2.heap.size = w1.heap.size := by rw [← hw2]; simp
      refine hB (w.heap.size + 1) (E.at w2 Fa) Sa x1 S2 a1 w2 _ (fun ⟨_, _, hf⟩ => hf) hgb ⟨βa, Fa, hS2.reroot⟩ hK1' ?_
      rintro a3 w3 ⟨βb, Fb, hSb⟩ hK3
      obtain ⟨hSb, hbb, hIb⟩ := hS2.back hSb
      have hl3 : w3.heap[w.heap.size + 1]? = some (.loop (rc .busy none)) := ((hbb _ (lt_of_heap hl2) hlFa).1).trans hl2
      have hlFb := (hbb _ (lt_of_heap hl2) hlFa).2
      obtain ⟨βc, Fc, hSc, hbc, hIc⟩ := hSb.cutX hnd hcut
      have hlFc := hbc _ (lt_of_heap hl3) hlFb
      -- what has stayed
      have hstay : ∀ b, Im E W F2 b → b ≠ w.heap.size + 1 → w3.heap[b]? = W.heap[b]? ∧ Im E w3 Fc b := fun b hb hne => by
        have h1 := hba b hb.2.1 hb.2.2
        have h1' := hIa b hb
        have h2' : Im E w2 Fa b := ⟨h1'.1, by rw [hsz2]; exact h1'.2.1, h1'.2.2⟩
        have h3 := hbb b h2'.2.1 h2'.2.2
        exact ⟨h3.1.trans ((hoth2 b hne).trans h1.1), hIc b (hIb b h2')⟩
      have hIw : ∀ b, Im E w F0 b → w3.heap[b]? = w.heap[b]? ∧ Im E w3 Fc b := fun b hb => by
        obtain ⟨e1, e2⟩ := hstay b (hIk b hb).2 (by have := hb.2.1; omega)
        exact ⟨e1.trans (hIk b hb).1, e2⟩
      have hnn : S3.n = Sk.n := by
        rw [cutC_n hcut]
        have e1 := nB _ _ hgb
        have e2 := nA _ _ hga
        simp only at e1 e2
        rw [e1, e2, ← hst]
      have hdf3 : Dfs w3 (fun b => Im E w3 Fc b ∧ E.m ≤ b) am.defers := by
        obtain ⟨Ds, e1, e2, e3⟩ := hSR.df
        refine ⟨Ds, e1, e2, fun D hD => ?_⟩
        obtain ⟨k1, k2⟩ := hstay D (e3 D hD).2.1 (fun e => by have := (e3 D hD).1; rw [e, hl] at this; cases this)
        exact ⟨k1.trans (e3 D hD).1, k2, (e3 D hD).2.2⟩
      have hSd : SR C E w3 S3 am βc Fc := by
        refine hSc.re (by rw [hnn]; exact hSR.n) rfl hdf3 fun t => ?_
        by_cases ht : t ∈ slots
        · have := hSc.slot t
          rw [hK3 t ht] at this
          exact this
        · rw [cut_junk hcut ht]; exact .junk
      have hput : ∀ o, SR C E (w3.putObj (w.heap.size + 1) o) S3 am βc Fc := fun o => hSd.putOdd hl3 rfl hlE rfl (hSd.df.put hl3 o)
      have hend : ∀ (jump : Option Code), (Instr.endRound (w.heap.size + 1) jump).run C.P w3 = .ok (.bool jump.isNone) (w3.putObj (w.heap.size + 1) (.loop (rc (if jump.isNone then .ready else .done) jump))) := fun jump => by
        have := run_endRound (P := C.P) jump hl3
        rw [hrc] at this ⊢
        exact this
      have hs' : ∀ o : Obj, (w3.putObj (w.heap.size + 1) o).heap[w.heap.size + 1]? = some o := fun o => World.putObj_heap_same (lt_of_heap hl3)
      have ho' : ∀ (o : Obj) b, Im E w F0 b → (w3.putObj (w.heap.size + 1) o).heap[b]? = w.heap[b]? := fun o b hb => (World.putObj_heap_other (by have := hb.2.1; omega)).trans (hIw b hb).1
      have hXs : ∀ (o : Obj) b, X b → (w3.putObj (w.heap.size + 1) o).heap[b]? = W.heap[b]? := fun o b hb => (World.putObj_heap_other (hX b hb).2).trans (hstay b (hX b hb).1 (hX b hb).2).1
      cases x1 with
      | normal =>
        simp only at hev
        refine ⟨_, _, hend none, .inl ⟨rfl, ⟨S3, βc, Fc, ⟨hev, fun t ht => cut_junk hcut ht⟩, hput _, ⟨hs' _, hlFc⟩, fun b hb => ⟨ho' _ b hb, ?_⟩, fun b hb => ⟨?_, (hX b hb).2⟩⟩⟩, hXs _⟩
        · have := (hIw b hb).2
          exact ⟨this.1, by rw [World.putObj_size]; exact this.2.1, this.2.2⟩
        · have := (hstay b (hX b hb).1 (hX b hb).2).2
          exact ⟨this.1, by rw [World.putObj_size]; exact this.2.1, this.2.2⟩
      | ret =>
        simp only [Option.some.injEq, Prod.mk.injEq] at hev
        obtain ⟨rfl, rfl⟩ := hev
        exact ⟨_, _, hend (some .ret), .inr ⟨rfl, βc, Fc, .ret, hput _, hs' _, .inl ⟨rfl, rfl⟩⟩, hXs _⟩
      | exit id =>
        simp only [Option.some.injEq, Prod.mk.injEq] at hev
        obtain ⟨rfl, rfl⟩ := hev
        exact ⟨_, _, hend (some (.exit id)), .inr ⟨rfl, βc, Fc, .exit id, hput _, hs' _, .inr ⟨id, rfl, rfl⟩⟩, hXs _⟩
      | _ => cases hev
    | _ => cases hgb
  -- the statement
  refine ⟨w.heap.size + 1, [mkD w.heap.size], W1, { target := .fn (.func k) ⟨cs⟩, args := #[.func (.yield (w.heap.size + 1)) #[] #[]] }, W1, k, ⟨.func (.yield (w.heap.size + 1)) #[] #[] :: cs⟩, W1, ?_, ?_, fun _ _ => trivial, ?_, fun hd => Fnc_depth none hd, ?_⟩
  · rw [← hW1, hrc]; exact run_enterLoop_outer _ _ _ _ _
  · simp only [resolve, hfv]
    simp [go_sem]
  · have := run_callFunc hN hfk hfb (P := C.P) (w := W1) ⟨.func (.yield (w.heap.size + 1)) #[] #[] :: cs⟩
    simpa [invoke, go_sem] using this
  · refine (hyc (w.heap.size + 1) J Jx W1 (fun b hb => hw1 b hb.2.1) hJk hJxk hround hJ0).mono ?_
    rintro e W2 ⟨⟨v, rfl⟩, ⟨_, Sk, β2, F2, ⟨hev, _⟩, hSR, ⟨hl, _⟩, _⟩ | ⟨i, _, β2, F2, c, hSR, hl, hxc⟩⟩
    · rw [List.drop_length] at hev
      simp only [evRange, Option.some.injEq, Prod.mk.injEq] at hev
      obtain ⟨rfl, rfl⟩ := hev
      refine ⟨none, _, by have := run_endLoop (P := C.P) hl (by rw [hrc]; simp); rw [hrc] at this; exact this, hQ _ _ ⟨β2, F2, ?_⟩ rfl⟩
      exact hSR.putOdd hl rfl (Nat.le_succ_of_le hEw) rfl (hSR.df.put hl _)
    · refine ⟨some c, _, by have := run_endLoop (P := C.P) hl (by rw [hrc]; simp); rw [hrc] at this; exact this, ?_⟩
      have hfin := hQ _ (W2.putObj (w.heap.size + 1) (.loop { rc .done (some c) with state := .exhausted })) ⟨β2, F2, hSR.putOdd hl rfl (Nat.le_succ_of_le hEw) rfl (hSR.df.put hl _)⟩ rfl
      rcases hxc with ⟨rfl, rfl⟩ | ⟨id, rfl, rfl⟩
      · exact wpIn_ret (by rw [hrc] at hfin; exact hfin)
      · exact wpIn_exit (by rw [hrc] at hfin; exact hfin)
end
end Go.Ab
