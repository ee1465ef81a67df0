/-
  WHAT AN ABSTRACT VALUE SAYS OF A VALUE IN A WORLD, with the blocks that it alone leads to; and how it is carried on.
-/
import Derived.Test.YtbhpblokoecoaaaAbBase
namespace Go.Ab
open Go
inductive Loc where
  | nil
  | blk (b o sz n : Nat)
  | map (b : Nat)
def Loc.isRow : Loc → Bool
  | .map _ => false
  | _ => true
def MB (w : World) (b : Nat) (rows : Rows) : Prop := ∃ es clock, w.heap[b]? = some (.map es clock) ∧ rows = es.toList.map (fun e => [.val e.key, .val e.val]) ∧ ∀ e ∈ es.toList, isSc e.key = true ∧ isSc e.val = true
theorem MB.mono {w w' : World} {b : Nat} {rows : Rows} (h : MB w b rows) (hb : w'.heap[b]? = w.heap[b]?) : MB w' b rows := by
  obtain ⟨es, c, h1, h2⟩ := h; exact ⟨es, c, hb ▸ h1, h2⟩
def Blk (w : World) (b n : Nat) : Prop := ∃ c e, w.heap[b]? = some (.cells c e (0, 0)) ∧ c.size = n
def Cl (w : World) (b o : Nat) (vs : List Value) : Prop := ∀ k v, vs[k]? = some v → w.cell? ⟨b, o + k, none⟩ = some v
def noB : Id → Option Loc := fun _ => none
inductive R (w : World) (I : Nat → Prop) : (Id → Option Loc) → List Nat → Value → AV → Prop
  | val {β : Id → Option Loc} {v : Value} : isSc v = true → R w I β [] v (.val v)
  | snil {β : Id → Option Loc} {a : Option Addr} : R w I β [] (.slice a 0 0) .snil
  | sl0 {β : Id → Option Loc} {a : Option Addr} {cap : Nat} : R w I β [] (.slice a 0 cap) (.sl [])
  | sl {β : Id → Option Loc} {b o sz cap : Nat} {vs : List Value} {rows : Rows} : (∀ r ∈ rows, r.length = sz) → I b → Cl w b o vs → rows.length ≤ cap → R w I noB [] (.agg ⟨vs⟩) (.agg rows.flatten) → R w I β [] (.slice (some ⟨b, o, none⟩) rows.length cap) (.sl rows)
  | vp {β : Id → Option Loc} {b o : Nat} {vs : List Value} {cells : List AV} : I b → Cl w b o vs → R w I noB [] (.agg ⟨vs⟩) (.agg cells) → R w I β [] (.pointer (some ⟨b, o, none⟩)) (.vp cells)
  | rs0 {β : Id → Option Loc} {a : Option Addr} {id : Id} {off : Nat} {l : Loc} : β id = some l → l.isRow = true → R w I β [] (.slice a 0 0) (.rs id off 0)
  | rs {β : Id → Option Loc} {id : Id} {off len cap b o sz n : Nat} : β id = some (.blk b o sz n) → o + (off + cap) * sz ≤ n → len ≤ cap → R w I β [] (.slice (some ⟨b, o + off * sz, none⟩) len cap) (.rs id off len)
  | mp {β : Id → Option Loc} {id : Id} {row off b o sz n : Nat} : β id = some (.blk b o sz n) → R w I β [] (.pointer (some ⟨b, o + row * sz + off, none⟩)) (.mp id row off)
  | fn {β : Id → Option Loc} {f : Fn} {vs cs : List Value} {as bs : List AV} : R w I β [] (.agg ⟨vs⟩) (.agg as) → R w I β [] (.agg ⟨cs⟩) (.agg bs) → R w I β [] (.func f ⟨vs⟩ ⟨cs⟩) (.fn f as bs)
  | nil {β : Id → Option Loc} : R w I β [] (.agg ⟨[]⟩) (.agg [])
  | cons {β : Id → Option Loc} {f1 f2 : List Nat} {v : Value} {vs : List Value} {a : AV} {as : List AV} : R w I β f1 v a → R w I β f2 (.agg ⟨vs⟩) (.agg as) → R w I β (f1 ++ f2) (.agg ⟨v :: vs⟩) (.agg (a :: as))
  | tup {β : Id → Option Loc} {f : List Nat} {vs : List Value} {as : List AV} : R w I β f (.agg ⟨vs⟩) (.agg as) → R w I β f (.tuple ⟨vs⟩) (.tup as)
  | own0 {β : Id → Option Loc} {a : Option Addr} : R w I β [] (.slice a 0 0) (.own [] 0)
  | own {β : Id → Option Loc} {b o sz cap n len : Nat} {fps : List Nat} {vs : List Value} {rows : Rows} : rows ≠ [] → (∀ r ∈ rows, r.length = sz) → Blk w b n → o + cap * sz ≤ n ∧ o + rows.length * sz ≤ n → len ≤ cap ∧ len ≤ rows.length → Cl w b o vs → R w I β fps (.agg ⟨vs⟩) (.agg rows.flatten) → R w I β (b :: fps) (.slice (some ⟨b, o, none⟩) len cap) (.own rows len)
  | own1 {β : Id → Option Loc} {a : Option Addr} {b o sz n : Nat} {fps : List Nat} {vs : List Value} {rows : Rows} : rows ≠ [] → (∀ r ∈ rows, r.length = sz) → Blk w b n → o + rows.length * sz ≤ n → Cl w b o vs → R w I β fps (.agg ⟨vs⟩) (.agg rows.flatten) → R w I β (b :: fps) (.slice a 0 0) (.own rows 0)
  | ownp {β : Id → Option Loc} {b o n : Nat} {fps : List Nat} {vs : List Value} {cells : List AV} : Blk w b n → o + cells.length ≤ n → Cl w b o vs → R w I β fps (.agg ⟨vs⟩) (.agg cells) → R w I β (b :: fps) (.pointer (some ⟨b, o, none⟩)) (.ownp cells)
  | gv1 {β : Id → Option Loc} {v : Value} {x : AV} : R w I β [] v x → R w I β [] v (.gv true x)
  | gv0 {β : Id → Option Loc} {x : AV} : R w I β [] undef (.gv false x)
  | nn {β : Id → Option Loc} {t : TypeId} {x : Value} : R w I β [] (.iface t x) .nn
  | mr {β : Id → Option Loc} {id : Id} {b : Nat} : β id = some (.map b) → R w I β [] (.map (some b)) (.mr id)
  | om {β : Id → Option Loc} {b : Nat} {rows : Rows} : MB w b rows → R w I β [b] (.map (some b)) (.om rows)
  | im {β : Id → Option Loc} {b : Nat} {rows : Rows} : I b → MB w b rows → R w I β [] (.map (some b)) (.im rows)
  | junk {β : Id → Option Loc} {v : Value} : R w I β [] v .junk
abbrev RL (w : World) (I : Nat → Prop) (β : Id → Option Loc) (f : List Nat) (vs : List Value) (as : List AV) : Prop := R w I β f (.agg ⟨vs⟩) (.agg as)
section
variable {w : World} {I : Nat → Prop} {β : Id → Option Loc}
theorem cell_of_heap {w w' : World} {b o : Nat} (h : w'.heap[b]? = w.heap[b]?) : w'.cell? ⟨b, o, none⟩ = w.cell? ⟨b, o, none⟩ := by
  simp [World.cell?, h]
theorem Cl.mono {w w' : World} {b o : Nat} {vs : List Value} (h : Cl w b o vs) (hb : w'.heap[b]? = w.heap[b]?) : Cl w' b o vs := fun k v hk => by
  rw [cell_of_heap hb]; exact h k v hk
theorem Blk.mono {w w' : World} {b n : Nat} (h : Blk w b n) (hb : w'.heap[b]? = w.heap[b]?) : Blk w' b n := by
  obtain ⟨c, e, h1, h2⟩ := h; exact ⟨c, e, hb ▸ h1, h2⟩
theorem R.mono' {f : List Nat} {v : Value} {a : AV} (h : R w I β f v a) {w' : World} {I' : Nat → Prop} (hI : ∀ b, I b → I' b) :
    (∀ b, (I b ∨ b ∈ f) → w'.heap[b]? = w.heap[b]?) → ∀ {β' : Id → Option Loc}, (∀ i l, β i = some l → β' i = some l) → R w' I' β' f v a := by
  induction h with
  | val h => intro _ _ _; exact .val h
  | snil => intro _ _ _; exact .snil
  | sl0 => intro _ _ _; exact .sl0
  | sl h1 h2 h3 h4 _ ih => intro hw _ _; exact .sl h1 (hI _ h2) (h3.mono (hw _ (.inl h2))) h4 (ih (fun b hb => hw b hb) (fun _ _ h => h))
  | vp h1 h2 _ ih => intro hw _ _; exact .vp (hI _ h1) (h2.mono (hw _ (.inl h1))) (ih (fun b hb => hw b hb) (fun _ _ h => h))
  | rs0 h hl => intro _ _ hβ; exact .rs0 (hβ _ _ h) hl
  | rs h1 h2 h3 => intro _ _ hβ; exact .rs (hβ _ _ h1) h2 h3
  | mp h => intro _ _ hβ; exact .mp (hβ _ _ h)
  | fn _ _ ih1 ih2 => intro hw _ hβ; exact .fn (ih1 hw hβ) (ih2 hw hβ)
  | nil => intro _ _ _; exact .nil
  | cons _ _ ih1 ih2 => intro hw _ hβ; exact .cons (ih1 (fun b hb => hw b (hb.imp id fun h => List.mem_append.2 (.inl h))) hβ) (ih2 (fun b hb => hw b (hb.imp id fun h => List.mem_append.2 (.inr h))) hβ)
  | tup _ ih => intro hw _ hβ; exact .tup (ih hw hβ)
  | own0 => intro _ _ _; exact .own0
  | own h0 h1 h2 h3 h4 h5 _ ih =>
    intro hw _ hβ
    exact .own h0 h1 (h2.mono (hw _ (.inr (List.mem_cons_self ..)))) h3 h4 (h5.mono (hw _ (.inr (List.mem_cons_self ..)))) (ih (fun b hb => hw b (hb.imp id fun h => List.mem_cons_of_mem _ h)) hβ)
  | own1 h0 h1 h2 h3 h5 _ ih =>
    intro hw _ hβ
    exact .own1 h0 h1 (h2.mono (hw _ (.inr (List.mem_cons_self ..)))) h3 (h5.mono (hw _ (.inr (List.mem_cons_self ..)))) (ih (fun b hb => hw b (hb.imp id fun h => List.mem_cons_of_mem _ h)) hβ)
  | ownp h1 h2 h3 _ ih =>
    intro hw _ hβ
    exact .ownp (h1.mono (hw _ (.inr (List.mem_cons_self ..)))) h2 (h3.mono (hw _ (.inr (List.mem_cons_self ..)))) (ih (fun b hb => hw b (hb.imp id fun h => List.mem_cons_of_mem _ h)) hβ)
  | gv1 _ ih => intro hw _ hβ; exact .gv1 (ih hw hβ)
  | gv0 => intro _ _ _; exact .gv0
  | nn => intro _ _ _; exact .nn
  | mr h => intro _ _ hβ; exact .mr (hβ _ _ h)
  | om h => intro hw _ _; exact .om (h.mono (hw _ (.inr (List.mem_cons_self ..))))
  | im h1 h2 => intro hw _ _; exact .im (hI _ h1) (h2.mono (hw _ (.inl h1)))
  | junk => intro _ _ _; exact .junk
theorem R.mono {f : List Nat} {v : Value} {a : AV} (h : R w I β f v a) {w' : World} {I' : Nat → Prop} {β' : Id → Option Loc} (hI : ∀ b, I b → I' b)
    (hw : ∀ b, (I b ∨ b ∈ f) → w'.heap[b]? = w.heap[b]?) (hβ : ∀ i l, β i = some l → β' i = some l) : R w' I' β' f v a := h.mono' hI hw hβ
theorem noB_up {β : Id → Option Loc} : ∀ i l, noB i = some l → β i = some l := fun _ _ h => by cases h
theorem R.imm_noB {f : List Nat} {v : Value} {a : AV} (h : R w I β f v a) : imm a = true → R w I noB f v a := by
  induction h with
  | val h => intro _; exact .val h
  | nn => intro _; exact .nn
  | im h1 h2 => intro _; exact .im h1 h2
  | sl0 => intro _; exact .sl0
  | sl h1 h2 h3 h4 h5 _ => intro _; exact .sl h1 h2 h3 h4 h5
  | vp h1 h2 h3 _ => intro _; exact .vp h1 h2 h3
  | fn _ _ ih1 ih2 =>
    intro hf
    simp only [imm, Bool.and_eq_true] at hf
    exact .fn (ih1 (by simpa [imm] using hf.1)) (ih2 (by simpa [imm] using hf.2))
  | nil => intro _; exact .nil
  | cons _ _ ih1 ih2 =>
    intro hf
    simp only [imm, immL, Bool.and_eq_true] at hf
    exact .cons (ih1 hf.1) (ih2 (by simpa [imm] using hf.2))
  | tup _ ih => intro hf; exact .tup (ih (by simpa [imm] using hf))
  | _ => intro hf; simp [imm] at hf
theorem R.imm_fp {f : List Nat} {v : Value} {a : AV} (h : R w I β f v a) : imm a = true → f = [] := by
  induction h with
  | cons _ _ ih1 ih2 =>
    intro hf
    simp only [imm, immL, Bool.and_eq_true] at hf
    rw [ih1 hf.1, ih2 (by simpa [imm] using hf.2)]; rfl
  | tup _ ih => intro hf; exact ih (by simpa [imm] using hf)
  | om _ => intro hf; simp [imm] at hf
  | own _ _ _ _ _ _ _ _ => intro hf; simp [imm] at hf
  | own1 _ _ _ _ _ _ _ => intro hf; simp [imm] at hf
  | ownp _ _ _ _ _ => intro hf; simp [imm] at hf
  | _ => intro _; rfl
theorem R.up {f : List Nat} {v : Value} {a : AV} (h : R w I noB f v a) : R w I β f v a := h.mono (fun _ h => h) (fun _ _ => rfl) noB_up
theorem RL.imm_noB {f : List Nat} {vs : List Value} {as : List AV} (h : RL w I β f vs as) (hi : immL as = true) : RL w I noB f vs as := R.imm_noB h (by simpa [imm] using hi)
theorem immL_append (a b : List AV) : immL (a ++ b) = (immL a && immL b) := by
  induction a with
  | nil => simp [immL]
  | cons c cs ih => simp [immL, ih, Bool.and_assoc]
theorem immR_flatten : ∀ rows : Rows, immR rows = true → immL rows.flatten = true
  | [], _ => by simp [immL]
  | r :: rs, h => by
    simp only [immR, List.all_cons, Bool.and_eq_true] at h
    rw [List.flatten_cons, immL_append, h.1, immR_flatten rs h.2]; rfl
theorem R.nz {f : List Nat} {v : Value} {a : AV} (h : R w I β f v a) : R w I β f v (nz a) := by
  cases h with
  | snil => exact .sl0
  | val h => exact .val h
  | sl0 => exact .sl0
  | sl h1 h2 h3 h4 h5 => exact .sl h1 h2 h3 h4 h5
  | vp h1 h2 h3 => exact .vp h1 h2 h3
  | rs0 h hl => exact .rs0 h hl
  | rs h1 h2 h3 => exact .rs h1 h2 h3
  | mp h => exact .mp h
  | fn h1 h2 => exact .fn h1 h2
  | nil => exact .nil
  | cons h1 h2 => exact .cons h1 h2
  | tup h => exact .tup h
  | own0 => exact .own0
  | own h1 h2 h3 h4 h5 h6 h7 => exact .own h1 h2 h3 h4 h5 h6 h7
  | own1 h1 h2 h3 h4 h5 h6 => exact .own1 h1 h2 h3 h4 h5 h6
  | ownp h1 h2 h3 h4 => exact .ownp h1 h2 h3 h4
  | gv1 h => exact .gv1 h
  | gv0 => exact .gv0
  | nn => exact .nn
  | mr h => exact .mr h
  | om h => exact .om h
  | im h1 h2 => exact .im h1 h2
  | junk => exact .junk
theorem nzL_flatten (rows : Rows) : (rows.map nzL).flatten = nzL rows.flatten := by
  induction rows with
  | nil => rfl
  | cons r rs ih => simp only [List.map_cons, List.flatten_cons, ih]; simp [nzL]
theorem RL.length {f : List Nat} {vs : List Value} {as : List AV} (h : RL w I β f vs as) : vs.length = as.length := by
  induction as generalizing f vs with
  | nil => cases h; rfl
  | cons a as ih => cases h with | cons _ h => simp [ih h]
theorem RL.nz {as : List AV} : ∀ {f : List Nat} {vs : List Value}, RL w I β f vs as → RL w I β f vs (nzL as) := by
  induction as with
  | nil => intro f vs h; cases h; exact .nil
  | cons a as ih => intro f vs h; cases h with | cons h1 h2 => exact .cons h1.nz (ih h2)
theorem RL.nil_inv {f : List Nat} {vs : List Value} (h : RL w I β f vs []) : f = [] ∧ vs = [] := by cases h; exact ⟨rfl, rfl⟩
theorem RL.cons_inv {f : List Nat} {vs : List Value} {a : AV} {as : List AV} (h : RL w I β f vs (a :: as)) :
    ∃ f1 f2 v vs', f = f1 ++ f2 ∧ vs = v :: vs' ∧ R w I β f1 v a ∧ RL w I β f2 vs' as := by
  cases h with | cons h1 h2 => exact ⟨_, _, _, _, rfl, rfl, h1, h2⟩
theorem RL.append {f1 f2 : List Nat} {v1 v2 : List Value} {a1 a2 : List AV} (h1 : RL w I β f1 v1 a1) (h2 : RL w I β f2 v2 a2) : RL w I β (f1 ++ f2) (v1 ++ v2) (a1 ++ a2) := by
  induction a1 generalizing f1 v1 with
  | nil => obtain ⟨rfl, rfl⟩ := h1.nil_inv; simpa using h2
  | cons a as ih =>
    obtain ⟨g1, g2, v, vs, rfl, rfl, h, h'⟩ := h1.cons_inv
    rw [List.append_assoc]
    exact .cons h (ih h')
theorem RL.split {a1 a2 : List AV} : ∀ {f : List Nat} {vs : List Value}, RL w I β f vs (a1 ++ a2) →
    ∃ f1 f2 v1 v2, f = f1 ++ f2 ∧ vs = v1 ++ v2 ∧ RL w I β f1 v1 a1 ∧ RL w I β f2 v2 a2 := by
  induction a1 with
  | nil => intro f vs h; exact ⟨[], f, [], vs, rfl, rfl, .nil, h⟩
  | cons a as ih =>
    intro f vs h
    obtain ⟨g1, g2, v, vs', rfl, rfl, h1, h2⟩ := RL.cons_inv h
    obtain ⟨f1, f2, v1, v2, rfl, rfl, h3, h4⟩ := ih h2
    exact ⟨g1 ++ f1, f2, v :: v1, v2, by simp, rfl, .cons h1 h3, h4⟩
theorem RL.split3 {as : List AV} {f : List Nat} {vs : List Value} (h : RL w I β f vs as) (off n : Nat) (hn : off + n ≤ as.length) :
    ∃ f1 f2 f3, f = f1 ++ (f2 ++ f3) ∧ RL w I β f1 (vs.take off) (as.take off) ∧ RL w I β f2 ((vs.drop off).take n) ((as.drop off).take n) ∧ RL w I β f3 (vs.drop (off + n)) (as.drop (off + n)) := by
  have e : as = as.take off ++ ((as.drop off).take n ++ as.drop (off + n)) := by
    rw [show as.drop (off + n) = (as.drop off).drop n by simp, List.take_append_drop, List.take_append_drop]
  rw [e] at h
  obtain ⟨f1, f23, v1, v23, rfl, rfl, h1, h23⟩ := RL.split h
  obtain ⟨f2, f3, v2, v3, rfl, rfl, h2, h3⟩ := RL.split h23
  have l1 := h1.length
  have l2 := h2.length
  simp only [List.length_take, List.length_drop] at l1 l2
  have l1' : v1.length = off := by omega
  have l2' : v2.length = n := by omega
  refine ⟨f1, f2, f3, rfl, ?_, ?_, ?_⟩
  · rw [List.take_append_of_le_length (by omega), List.take_of_length_le (by omega)]; exact h1
  · rw [List.drop_append_of_le_length (by omega), List.drop_of_length_le (by omega), List.nil_append, List.take_append_of_le_length (by omega), List.take_of_length_le (by omega)]; exact h2
  · have e3 : (v1 ++ (v2 ++ v3)).drop (off + n) = v3 := by
      rw [← List.append_assoc, List.drop_append_of_le_length (by simp; omega), List.drop_of_length_le (by simp; omega), List.nil_append]
    rw [e3]; exact h3
theorem R.fp_cell {f : List Nat} {v : Value} {a : AV} (h : R w I β f v a) (hc : a.cell = true) : f = [] := by
  cases h <;> simp_all [AV.cell]
theorem RL.fp_cell {as : List AV} : ∀ {f : List Nat} {vs : List Value}, RL w I β f vs as → as.all AV.cell = true → f = [] := by
  induction as with
  | nil => intro f vs h _; exact h.nil_inv.1
  | cons a as ih =>
    intro f vs h hc
    simp only [List.all_cons, Bool.and_eq_true] at hc
    obtain ⟨f1, f2, v, vs', rfl, rfl, h1, h2⟩ := h.cons_inv
    rw [h1.fp_cell hc.1, ih h2 hc.2]
    rfl
theorem R.plain {f : List Nat} {v : Value} {a : AV} (h : R w I β f v a) (hc : a.cell = true) : (∀ c, v ≠ .agg c) ∧ (∀ c, v ≠ .tuple c) ∧ v.cells = #[v] := by
  cases h <;> simp_all [AV.cell, Value.cells]
  case val h => cases v <;> simp_all [isSc]
theorem Cl.take {b o : Nat} {vs : List Value} (h : Cl w b o vs) (n : Nat) : Cl w b o (vs.take n) := fun k v hk => by
  rw [List.getElem?_take] at hk
  split at hk
  · exact h k v hk
  · cases hk
theorem Cl.drop {b o : Nat} {vs : List Value} (h : Cl w b o vs) (n : Nat) : Cl w b (o + n) (vs.drop n) := fun k v hk => by
  rw [List.getElem?_drop] at hk
  have := h _ v hk
  rwa [← Nat.add_assoc] at this
end
end Go.Ab
