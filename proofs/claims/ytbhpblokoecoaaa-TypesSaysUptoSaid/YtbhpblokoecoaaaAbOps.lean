/-
  EACH OPERATION DOES WHAT THE MACHINE SAYS OF IT (calls and append apart).
-/
import Derived.Test.YtbhpblokoecoaaaAbSt
import Derived.Laws.MakeOwn
namespace Go.Ab
open Go
theorem pureRun_run {α : Type} {P : Program} {w : World} : ∀ {s : Sem α} {v : α}, pureRun P s = some v → s.run P w = .ok v w := by
  intro s
  induction s with
  | pure a => intro v h; simp [pureRun] at h; subst h; rfl
  | program k ih => intro v h; simp only [pureRun] at h; exact ih P h
  | _ => intro v h; simp [pureRun] at h
section
variable {C : Cx} {w : World}
theorem run_und {t : TypeId} {d : TypeDesc} (h : C.P.underlying t = some d) : (underlying t).run C.P w = .ok d w := by simp [underlying, h]
theorem run_size {t : TypeId} {n : Nat} (h : sizeC C t = some n) : (sizeOf t).run C.P w = .ok n w := by
  unfold sizeC at h
  cases hi : C.P.info? t with
  | none => simp [hi] at h
  | some i => simp [hi] at h; simp [sizeOf, typeInfo, hi, h]
theorem run_isA {t : TypeId} {b : Bool} (h : isAggC C t = some b) : (isAgg t).run C.P w = .ok b w := by
  unfold isAggC at h
  cases hd : C.P.underlying t with
  | none => simp [hd] at h
  | some d =>
    simp only [hd, Option.map_some, Option.some.injEq] at h
    subst h
    unfold isAgg
    rw [Sem.run_bind, run_und hd, Result.andThen_ok]
    cases d <;> rfl
theorem run_v {P : Program} {s : Sem Value} {v : Value} {w w' : World} (h : s.run P w = .ok v w') : (do pure (Next.value (← s)) : Sem Next).run P w = .ok (.value v) w' := by
  rw [Sem.run_bind, h]; rfl
theorem run_u {P : Program} {s : Sem Unit} {w w' : World} (h : s.run P w = .ok () w') : (do s; pure Next.skip : Sem Next).run P w = .ok .skip w' := by
  rw [Sem.run_bind, h]; rfl
end
theorem flat_len {α : Type} {sz : Nat} : ∀ {l : List (List α)}, (∀ r ∈ l, r.length = sz) → l.flatten.length = l.length * sz
  | [], _ => by simp
  | r :: l, h => by
    have h1 := h r (List.mem_cons_self ..)
    have h2 := flat_len (l := l) fun r hr => h r (List.mem_cons_of_mem _ hr)
    simp only [List.flatten_cons, List.length_append, h1, h2, List.length_cons, Nat.add_mul]; omega
theorem rows_split {α : Type} {rows : List (List α)} {i : Nat} {r : List α} (h : rows[i]? = some r) : rows = rows.take i ++ r :: rows.drop (i + 1) ∧ i < rows.length := by
  have hi : i < rows.length := by
    rcases Nat.lt_or_ge i rows.length with h' | h'
    · exact h'
    · simp [List.getElem?_eq_none h'] at h
  refine ⟨?_, hi⟩
  rw [List.getElem?_eq_getElem hi, Option.some.injEq] at h
  subst h
  rw [← List.drop_eq_getElem_cons hi, List.take_append_drop]
theorem flat_part {α : Type} {rows : List (List α)} {i sz off n : Nat} {r : List α} (h : rows[i]? = some r) (hs : ∀ r ∈ rows, r.length = sz) (ho : off + n ≤ r.length) :
    i * sz + off + n ≤ rows.flatten.length ∧ (rows.flatten.drop (i * sz + off)).take n = (r.drop off).take n ∧
    ∀ cs : List α, (rows.set i (r.take off ++ cs ++ r.drop (off + n))).flatten = rows.flatten.take (i * sz + off) ++ cs ++ rows.flatten.drop (i * sz + off + n) := by
  obtain ⟨e, hi⟩ := rows_split h
  have hl : (rows.take i).flatten.length = i * sz := by
    rw [flat_len (sz := sz) fun r hr => hs r (List.mem_of_mem_take hr), List.length_take]; congr 1; omega
  have ef : rows.flatten = (rows.take i).flatten ++ (r ++ (rows.drop (i + 1)).flatten) := by
    conv => lhs; rw [e]
    simp
  refine ⟨?_, ?_, fun cs => ?_⟩
  · rw [ef]; simp only [List.length_append, hl]; omega
  · rw [ef, List.drop_append, hl, List.drop_of_length_le (by omega), List.nil_append, show i * sz + off - i * sz = off by omega, List.drop_append_of_le_length (by omega), List.take_append_of_le_length (by simp; omega)]
  · have es : rows.set i (r.take off ++ cs ++ r.drop (off + n)) = rows.take i ++ (r.take off ++ cs ++ r.drop (off + n)) :: rows.drop (i + 1) := by
      rw [List.set_eq_take_append_cons_drop, if_pos hi]
    rw [es, ef]
    have e1 : ((rows.take i).flatten ++ (r ++ (rows.drop (i + 1)).flatten)).take (i * sz + off) = (rows.take i).flatten ++ r.take off := by
      rw [List.take_append, hl, List.take_of_length_le (by omega), show i * sz + off - i * sz = off by omega, List.take_append_of_le_length (by omega)]
    have e2 : ((rows.take i).flatten ++ (r ++ (rows.drop (i + 1)).flatten)).drop (i * sz + off + n) = r.drop (off + n) ++ (rows.drop (i + 1)).flatten := by
      rw [List.drop_append, hl, List.drop_of_length_le (by omega), List.nil_append, show i * sz + off + n - i * sz = off + n by omega, List.drop_append_of_le_length (by omega)]
    rw [e1, e2]
    simp
section
variable {w : World} {I : Nat → Prop} {β : Id → Option Loc}
theorem mkV_sound {f : List Nat} {vs : List Value} {cs : List AV} {b : Bool} {x : AV} (h : RL w I β f vs cs) (hm : mkV b cs = some x) :
    ∃ v, R w I β f v x ∧ (b = true → v = .agg ⟨vs⟩) ∧ (b = false → vs = [v]) := by
  cases b
  · simp only [mkV, Bool.false_eq_true, if_false] at hm
    match cs, hm with
    | [c], hm =>
      simp at hm; subst hm
      obtain ⟨f1, f2, v, vs', rfl, rfl, h1, h2⟩ := RL.cons_inv h
      obtain ⟨rfl, rfl⟩ := h2.nil_inv
      exact ⟨v, by simpa using h1, by simp, fun _ => rfl⟩
  · simp only [mkV, if_true, Option.some.injEq] at hm
    subst hm
    exact ⟨_, h, fun _ => rfl, by simp⟩
theorem run_loadV {C : Cx} {t : TypeId} {b : Bool} {n blk o : Nat} {vs : List Value} {v : Value} (hb : isAggC C t = some b) (hn : sizeC C t = some n) (hc : Cl w blk o vs) (hl : vs.length = n)
    (h1 : b = true → v = .agg ⟨vs⟩) (h2 : b = false → vs = [v]) : (loadVar t ⟨blk, o, none⟩).run C.P w = .ok v w := by
  unfold loadVar
  rw [Sem.run_bind, run_isA hb, Result.andThen_ok]
  cases b
  · have h2 := h2 rfl
    subst h2
    have := hc 0 v rfl
    simp only [Bool.false_eq_true, if_false]
    rw [run_load, show (⟨blk, o, none⟩ : Addr) = ⟨blk, o + 0, none⟩ from rfl, this]
  · have h1 := h1 rfl
    subst h1 hl
    simp only [if_true]
    rw [Sem.run_bind, run_size hn, Result.andThen_ok, Sem.run_bind, run_loadCells_list w ⟨blk, o, none⟩ vs (fun j v hj => by rw [add_none]; exact hc j v hj)]
    rfl
theorem plainV_of {v : Value} (h1 : ∀ c, v ≠ .agg c) (h2 : ∀ c, v ≠ .tuple c) : plainV v = true := by
  cases v with
  | agg c => exact absurd rfl (h1 c)
  | tuple c => exact absurd rfl (h2 c)
  | _ => rfl
theorem cellsOfV_sound {f : List Nat} {v : Value} {x : AV} {b : Bool} {cs : List AV} (h : R w I β f v x) (hc : cellsOfV b x = some cs) :
    ∃ vs, v.cells = ⟨vs⟩ ∧ RL w I β [] vs cs ∧ (∀ u ∈ vs, plainV u = true) := by
  have key : ∀ {as : List AV} {f : List Nat} {vs : List Value}, RL w I β f vs as → as.all AV.cell = true → ∀ u ∈ vs, plainV u = true := by
    intro as
    induction as with
    | nil => intro f vs h _ u hu; obtain ⟨rfl, rfl⟩ := h.nil_inv; cases hu
    | cons a as ih =>
      intro f vs h hc u hu
      simp only [List.all_cons, Bool.and_eq_true] at hc
      obtain ⟨f1, f2, v, vs', rfl, rfl, h1, h2⟩ := RL.cons_inv h
      cases hu with
      | head =>
        obtain ⟨p1, p2, _⟩ := h1.plain hc.1
        exact plainV_of p1 p2
      | tail _ hm => exact ih h2 hc.2 u hm
  cases x with
  | agg as =>
    simp only [cellsOfV] at hc
    split at hc
    · rename_i hh
      simp only [Bool.and_eq_true] at hh
      simp at hc; subst hc
      cases h with
      | nil => exact ⟨[], rfl, .nil, fun _ h => by cases h⟩
      | cons h1 h2 =>
        have hr : RL w I β _ _ _ := R.cons h1 h2
        have e := hr.fp_cell hh.2
        rw [e] at hr
        exact ⟨_, rfl, hr, key hr hh.2⟩
    · cases hc
  | _ =>
    simp only [cellsOfV] at hc
    split at hc
    · rename_i hh
      simp only [Bool.and_eq_true] at hh
      simp at hc; subst hc
      obtain ⟨p1, p2, p3⟩ := h.plain hh.2
      have e := h.fp_cell hh.2
      refine ⟨[v], by rw [p3], ?_, ?_⟩
      · rw [e] at h
        exact R.cons h .nil
      · intro u hu
        simp at hu; subst hu
        exact plainV_of p1 p2
    · cases hc
theorem R.gv_inv {f : List Nat} {v : Value} {g : Bool} {x : AV} (h : R w I β f v (.gv g x)) : f = [] ∧ (g = true → R w I β [] v x) := by
  cases h with
  | gv1 h => exact ⟨rfl, fun _ => h⟩
  | gv0 => exact ⟨rfl, fun h => by cases h⟩
theorem R.un {v : Value} {x : AV} (h : R w I β [] v x) : R w I β [] v (un true x) := by
  cases x with
  | gv g y =>
    cases g
    · exact .junk
    · exact h.gv_inv.2 rfl
  | _ => exact h
theorem R.val_inv {f : List Nat} {v u : Value} (h : R w I β f v (.val u)) : f = [] ∧ v = u := by
  cases h; exact ⟨rfl, rfl⟩
theorem R.vp_inv {f : List Nat} {v : Value} {cells : List AV} (h : R w I β f v (.vp cells)) : f = [] ∧ ∃ b o vs, v = .pointer (some ⟨b, o, none⟩) ∧ I b ∧ Cl w b o vs ∧ RL w I noB [] vs cells := by
  cases h with | vp h1 h2 h3 => exact ⟨rfl, _, _, _, rfl, h1, h2, h3⟩
theorem R.mp_inv {f : List Nat} {v : Value} {id : Id} {row off : Nat} (h : R w I β f v (.mp id row off)) : f = [] ∧ ∃ b o sz n, β id = some (.blk b o sz n) ∧ v = .pointer (some ⟨b, o + row * sz + off, none⟩) := by
  cases h with | mp h => exact ⟨rfl, _, _, _, _, h, rfl⟩
theorem R.rs_inv {f : List Nat} {v : Value} {id : Id} {off len : Nat} (h : R w I β f v (.rs id off len)) : f = [] ∧
    ((∃ a l, len = 0 ∧ v = .slice a 0 0 ∧ β id = some l ∧ l.isRow = true) ∨ ∃ b o sz n cap, β id = some (.blk b o sz n) ∧ o + (off + cap) * sz ≤ n ∧ len ≤ cap ∧ v = .slice (some ⟨b, o + off * sz, none⟩) len cap) := by
  cases h with
  | rs0 h hl => exact ⟨rfl, .inl ⟨_, _, rfl, rfl, h, hl⟩⟩
  | rs h1 h2 h3 => exact ⟨rfl, .inr ⟨_, _, _, _, _, h1, h2, h3, rfl⟩⟩
theorem R.sl_inv {f : List Nat} {v : Value} {rows : Rows} (h : R w I β f v (.sl rows)) : f = [] ∧
    ((∃ a cap, rows = [] ∧ v = .slice a 0 cap) ∨ ∃ b o sz cap vs, (∀ r ∈ rows, r.length = sz) ∧ I b ∧ Cl w b o vs ∧ RL w I noB [] vs rows.flatten ∧ rows.length ≤ cap ∧ v = .slice (some ⟨b, o, none⟩) rows.length cap) := by
  cases h with
  | sl0 => exact ⟨rfl, .inl ⟨_, _, rfl, rfl⟩⟩
  | sl h2 h3 h4 h6 h5 => exact ⟨rfl, .inr ⟨_, _, _, _, _, h2, h3, h4, h5, h6, rfl⟩⟩
theorem R.mr_inv {f : List Nat} {v : Value} {id : Id} (h : R w I β f v (.mr id)) : f = [] ∧ ∃ b, β id = some (.map b) ∧ v = .map (some b) := by
  cases h with | mr h => exact ⟨rfl, _, h, rfl⟩
theorem R.om_inv {f : List Nat} {v : Value} {rows : Rows} (h : R w I β f v (.om rows)) : ∃ b, f = [b] ∧ v = .map (some b) ∧ MB w b rows := by
  cases h with | om h => exact ⟨_, rfl, rfl, h⟩
theorem R.im_inv {f : List Nat} {v : Value} {rows : Rows} (h : R w I β f v (.im rows)) : f = [] ∧ ∃ b, v = .map (some b) ∧ I b ∧ MB w b rows := by
  cases h with | im h1 h2 => exact ⟨rfl, _, rfl, h1, h2⟩
theorem R.snil_inv {f : List Nat} {v : Value} (h : R w I β f v .snil) : f = [] ∧ ∃ a, v = .slice a 0 0 := by
  cases h; exact ⟨rfl, _, rfl⟩
theorem R.tup_inv {f : List Nat} {v : Value} {l : List AV} (h : R w I β f v (.tup l)) : ∃ vs, v = .tuple ⟨vs⟩ ∧ RL w I β f vs l := by
  cases h with | tup h => exact ⟨_, rfl, h⟩
theorem R.agg_inv {f : List Nat} {v : Value} {l : List AV} (h : R w I β f v (.agg l)) : ∃ vs, v = .agg ⟨vs⟩ ∧ RL w I β f vs l := by
  cases h with
  | nil => exact ⟨_, rfl, .nil⟩
  | cons h1 h2 => exact ⟨_, rfl, .cons h1 h2⟩
theorem R.fn_inv {f : List Nat} {v : Value} {k : Fn} {a b : List AV} (h : R w I β f v (.fn k a b)) : f = [] ∧ ∃ vs cs, v = .func k ⟨vs⟩ ⟨cs⟩ ∧ RL w I β [] vs a ∧ RL w I β [] cs b := by
  cases h with | fn h1 h2 => exact ⟨rfl, _, _, rfl, h1, h2⟩
end
section
variable {C : Cx} {E : Env} {w : World} {S : St} {a : Act} {β : Id → Option Loc} {F : Id → List Nat}
def Nx (C : Cx) (E : Env) (S : St) (a : Act) (w : World) : Prop := ∃ β F, SR C E w S a β F
theorem SR.get (h : SR C E w S a β F) (x : Operand) : R w (Im E w F) β [] (a.eval x) (S.get C x) := by
  cases x with
  | tmp t => exact h.slot t
  | const v =>
    simp only [Act.eval, St.get]
    split
    · exact .val ‹_›
    · split
      · exact .snil
      · exact .junk
  | global g =>
    simp only [Act.eval, St.get]
    cases hg : C.glob g with
    | some cs => exact h.glob g cs hg
    | none => exact .junk
  | func f => exact .fn .nil .nil
theorem SR.getU (h : SR C E w S a β F) (x : Operand) : R w (Im E w F) β [] (a.eval x) (un true (S.get C x)) := (h.get x).un
theorem put_size (a : Act) (d : Option Tmp) (v : Value) : (a.put d v).tmps.size = a.tmps.size := by
  cases d <;> simp [Act.put]
theorem put_get (a : Act) (d t : Nat) (v : Value) (hd : d < a.tmps.size) : (a.put (some d) v).tmps.getD t undef = if t = d then v else a.tmps.getD t undef := by
  simp only [Act.put, Array.getD_eq_getD_getElem?, Array.getElem?_setIfInBounds]
  by_cases h : d = t
  · subst h; simp [hd]
  · rw [if_neg h, if_neg (fun e => h e.symm)]
theorem SR.val (h : SR C E w S a β F) (o : Oper) {v : Value} {x : AV} (rd : List Id) (hx : R w (Im E w F) β [] v x) (hd : (put o x rd []).sw.all (fun y => decide (y.1 < S.n)) = true) :
    SR C E w (S.app (put o x rd [])) (a.put o.dst v) β F := by
  refine h.step (fun _ => False) (by rw [put_size]; exact h.n) (Nat.le_refl _) rfl rfl (fun _ => rfl) (fun _ _ _ => rfl) (fun _ _ h => h) (fun id b hb => .inl ⟨id, hb⟩) (fun _ _ => ⟨rfl, rfl⟩)
    (fun _ _ h => h.elim) (fun _ h => h.elim) (fun _ h => h.elim) (fun _ _ _ h => h.elim) h.dom ?_
  intro _ t
  cases hdst : o.dst with
  | none =>
    refine .inl ⟨by simp [Act.put], ?_⟩
    simp [St.app, put, hdst, updS]
  | some d =>
    have hd' : d < a.tmps.size := by rw [h.n]; simpa [put, hdst] using hd
    rw [put_get a d t v hd']
    by_cases ht : t = d
    · subst ht
      rw [if_pos rfl]
      refine .inr ?_
      simpa [St.app, put, hdst, updS, upd] using hx
    · rw [if_neg ht]
      refine .inl ⟨rfl, ?_⟩
      simp [St.app, put, hdst, updS, upd, ht]
theorem wp_val {P : Program} {o : Oper} {a : Act} {w w' : World} {v : Value} {next : Act → World → Prop} {Q : Exit → Act → World → Prop}
    (h : (execOp a.eval o).run P w = .ok (.value v) w') (hn : next (a.put o.dst v) w') : o.wp P a w next Q := by
  unfold Oper.wp; rw [h]; exact hn
theorem wp_skp {P : Program} {o : Oper} {a : Act} {w w' : World} {next : Act → World → Prop} {Q : Exit → Act → World → Prop}
    (h : (execOp a.eval o).run P w = .ok .skip w') (hn : next (a.put o.dst undef) w') : o.wp P a w next Q := by
  unfold Oper.wp; rw [h]; exact hn
theorem SR.new (h : SR C E w S a β F) (o : Oper) (d : Nat) (hdst : o.dst = some d) (id : Id) (c : Array Value) (e : TypeId) (rows : Rows) (sz : Nat) (vs : List Value) {v : Value} {x : AV}
    (hf : S.h id = none) (hne : rows ≠ []) (hsz : ∀ r ∈ rows, r.length = sz) (hfit : rows.length * sz ≤ c.size) (hvs : ∀ (k : Nat) (u : Value), vs[k]? = some u → c[k]? = some u) (hr : RL w (Im E w F) β [] vs rows.flatten)
    (hx : ∀ I' β', β' id = some (.blk w.heap.size 0 sz c.size) → R (w.alloc (.cells c e)) I' β' [] v x) (rd : List Id) (hd : (put o x rd [(id, some rows)]).sw.all (fun y => decide (y.1 < S.n)) = true) :
    Nx C E (S.app (put o x rd [(id, some rows)])) (a.put o.dst v) (w.alloc (.cells c e)) := by
  have hβ0 : β id = none := h.dom id hf
  have hF0 : F id = [] := h.dead id (by rw [hf]; simp)
  have hold : ∀ b, b < w.heap.size → (w.alloc (.cells c e)).heap[b]? = w.heap[b]? := fun b hb => heap_alloc_old _ _ _ hb
  have hnew : (w.alloc (.cells c e)).heap[w.heap.size]? = some (.cells c e) := heap_alloc_new _ _
  refine ⟨upd β id (some (.blk w.heap.size 0 sz c.size)), upd F id [w.heap.size], ?_⟩
  have hβ : ∀ i l, β i = some l → upd β id (some (.blk w.heap.size 0 sz c.size)) i = some l := fun i l hl => by
    by_cases hi : i = id
    · subst hi; rw [hβ0] at hl; cases hl
    · simpa [upd, hi] using hl
  refine h.step (· = id) (by rw [put_size]; exact h.n) (by simp) rfl rfl (fun x => ?_) (fun b hb _ => hold b hb) hβ ?_ ?_ ?_ ?_ ?_ ?_ ?_ ?_ (hbs := blk_old hold)
  · by_cases hx : x.block = w.heap.size
    · have e2 : w.heap[x.block]? = none := by rw [hx]; simp
      simp only [World.frozen?, hx, hnew]
      simp
    · rw [World.frozen?_alloc_old _ _ _ hx]
  · intro i b hb
    by_cases hi : i = id
    · subst hi
      simp [upd] at hb; subst hb
      exact .inr ⟨Nat.le_refl _, by simp⟩
    · simp [upd, hi] at hb
      exact .inl ⟨i, hb⟩
  · intro i hi
    exact ⟨by simp [upd, hi], by simp [St.app, put, updH, upd, hi]⟩
  · intro hI i hi rows' hr'
    subst hi
    simp [St.app, put, updH, upd] at hr'
    subst hr'
    refine .inr (.inr ⟨w.heap.size, 0, sz, c.size, vs, [], by simp [upd], by simp [upd], ⟨c, e, hnew, rfl⟩, ⟨hne, hsz⟩, by omega, ?_, ?_⟩)
    · intro k u hu
      rw [cell_of_row _ _ _ c e (0, 0) hnew]
      simpa using hvs k u hu
    · exact hr.mono hI (fun b hb => hb.elim (fun hb => hold b hb.2.1) (fun hb => by cases hb)) hβ
  · intro i hi hn
    subst hi
    exact absurd (by simp [St.app, put, updH, upd]) (hn rows)
  · intro i hi; subst hi; simp [upd]
  · intro i j b hi hb hb'
    subst hi
    simp [upd] at hb; subst hb
    by_cases hj : j = i
    · exact hj.symm
    · simp [upd, hj] at hb'
      exact absurd (h.lt j _ hb').1 (Nat.lt_irrefl _)
  · intro i hi
    by_cases hid : i = id
    · subst hid; simp [St.app, put, updH, upd] at hi
    · simp [St.app, put, updH, upd, hid] at hi
      simp [upd, hid, h.dom i hi]
  · intro hI t
    have hd' : d < a.tmps.size := by rw [h.n]; simpa [put, hdst] using hd
    rw [hdst, put_get a d t v hd']
    by_cases ht : t = d
    · subst ht
      rw [if_pos rfl]
      refine .inr ?_
      have := hx (Im E (w.alloc (.cells c e)) (upd F id [w.heap.size])) (upd β id (some (.blk w.heap.size 0 sz c.size))) (by simp [upd])
      simpa [St.app, put, hdst, updS, upd] using this
    · rw [if_neg ht]
      refine .inl ⟨rfl, ?_⟩
      simp [St.app, put, hdst, updS, upd, ht]
theorem SR.newNil (h : SR C E w S a β F) (o : Oper) (d : Nat) (hdst : o.dst = some d) (id : Id) {ad : Option Addr} (hf : S.h id = none) (rd : List Id)
    (hd : (put o (.rs id 0 0) rd [(id, some [])]).sw.all (fun y => decide (y.1 < S.n)) = true) : Nx C E (S.app (put o (.rs id 0 0) rd [(id, some [])])) (a.put o.dst (.slice ad 0 0)) w := by
  have hβ0 : β id = none := h.dom id hf
  have hF0 : F id = [] := h.dead id (by rw [hf]; simp)
  refine ⟨upd β id (some .nil), F, ?_⟩
  have hβ : ∀ i l, β i = some l → upd β id (some .nil) i = some l := fun i l hl => by
    by_cases hi : i = id
    · subst hi; rw [hβ0] at hl; cases hl
    · simpa [upd, hi] using hl
  refine h.step (· = id) (by rw [put_size]; exact h.n) (Nat.le_refl _) rfl rfl (fun _ => rfl) (fun b hb _ => rfl) hβ (fun i b hb => .inl ⟨i, hb⟩) ?_ ?_ (fun i _ _ => by subst_vars; exact hF0) ?_ ?_ ?_ ?_
  · intro i hi; exact ⟨rfl, by simp [St.app, put, updH, upd, hi]⟩
  · intro _ i hi rows' hr'
    subst hi
    simp [St.app, put, updH, upd] at hr'
    exact .inl ⟨by simp [upd], hr', hF0⟩
  · intro i hi; exact h.nd i
  · intro i j b _ hb hb'; exact h.dj i j b hb hb'
  · intro i hi
    by_cases hid : i = id
    · subst hid; simp [St.app, put, updH, upd] at hi
    · simp [St.app, put, updH, upd, hid] at hi
      simp [upd, hid, h.dom i hi]
  · intro hI t
    have hd' : d < a.tmps.size := by rw [h.n]; simpa [put, hdst] using hd
    rw [hdst, put_get a d t _ hd']
    by_cases ht : t = d
    · subst ht
      rw [if_pos rfl]
      refine .inr ?_
      have : R w (Im E w F) (upd β id (some .nil)) [] (.slice ad 0 0) (.rs id 0 0) := .rs0 (l := .nil) (by simp [upd]) rfl
      simpa [St.app, put, hdst, updS, upd] using this
    · rw [if_neg ht]
      refine .inl ⟨rfl, ?_⟩
      simp [St.app, put, hdst, updS, upd, ht]
end
end Go.Ab
