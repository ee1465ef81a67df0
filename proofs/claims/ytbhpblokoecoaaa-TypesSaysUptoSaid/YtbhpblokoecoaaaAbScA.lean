/-
  PLAIN LAWS: names in rooms.
-/
/-
  PLAIN LAWS: what is declared, on both sides.
-/
/-
  PLAIN LAWS: how a name is found, on both sides.
-/
/-
  PLAIN LAWS: the program's walk and the reference's look.
-/
/-
  PLAIN LAWS: one node, on both sides.
-/
/-
  PLAIN LAWS: names of a whole tree; ScopeSays.
-/
/-
  What came in as a tree is of no more than so much.
-/
import Derived.Test.YtbhpblokoecoaaaAbT7
import Derived.Test.YtbhpblokoecoaaaAbDec
namespace Go.Ab
open Go Go.Proofs
theorem size_dl (s : ByteArray) : s.size = s.data.toList.length := by cases s; simp [ByteArray.size]
theorem bal_loop' (s : ByteArray) : ∀ (k i : Nat) (r : List UInt8), s.size - i = k → i ≤ s.size → ByteArray.toList.loop s i r = r.reverse ++ s.data.toList.drop i := by
  intro k
  induction k with
  | zero =>
    intro i r hk hi
    unfold ByteArray.toList.loop
    rw [if_neg (by omega), List.drop_eq_nil_of_le (by rw [← size_dl]; omega)]; simp
  | succ k ih =>
    intro i r hk hi
    unfold ByteArray.toList.loop
    have hlt : i < s.size := by omega
    have hlt' : i < s.data.toList.length := by rw [← size_dl]; exact hlt
    rw [if_pos hlt, ih (i + 1) _ (by omega) (by omega), List.drop_eq_getElem_cons hlt']
    have : s.get! i = s.data.toList[i] := by
      have : s.get! i = s.data[i]! := by cases s; rfl
      rw [this]
      have h2 : i < s.data.size := hlt
      simp only [Array.getElem_toList]
      exact getElem!_pos s.data i h2
    simp [this]
theorem ba_tl (s : ByteArray) : s.toList = s.data.toList := by
  unfold ByteArray.toList
  rw [bal_loop' s _ 0 [] rfl (Nat.zero_le _)]; simp
theorem tl_eq (a b : ByteArray) : (a.toList == b.toList) = eqS a b := by
  rw [Bool.eq_iff_iff, eqS_iff, ba_tl, ba_tl]
  constructor
  · intro h
    have h := eq_of_beq h
    cases a; cases b
    simp only [ByteArray.mk.injEq]
    exact Array.ext' h
  · intro h; subst h; simp
theorem eqS_self (a : ByteArray) : eqS a a = true := eqS_iff.2 rfl
theorem eqS_ne {a b : ByteArray} (h : a ≠ b) : eqS a b = false := by
  cases e : eqS a b with
  | true => exact absurd (eqS_iff.1 e) h
  | false => rfl
theorem eqS_dec (a b : ByteArray) : eqS a b = decide (a = b) := by
  by_cases h : a = b
  · subst h; simp [eqS_self]
  · simp [h, eqS_ne h]
theorem mget_mput {V : Type} : ∀ (l : List (ByteArray × V)) (k s : ByteArray) (v : V), mget eqS (mput eqS l k v) s = if s = k then some v else mget eqS l s
  | [], k, s, v => by
    simp only [mput, mget, eqS_dec]
    by_cases h : s = k <;> simp [h]
  | e :: l, k, s, v => by
    by_cases h : k = e.1
    · subst h
      simp only [mput, eqS_self, if_true, mget, eqS_dec]
      by_cases h2 : s = e.1 <;> simp [h2]
    · simp only [mput, eqS_ne h, Bool.false_eq_true, if_false, mget, eqS_dec, mget_mput l k s v]
      by_cases h2 : s = e.1
      · subst h2; simp only [decide_true, if_true]; rw [if_neg (fun e => h (Eq.symm e))]
      · simp [h2]
def lk (N : Ns) (j : Int) (s : ByteArray) : List (Int × Int) → Option Int
  | [] => none
  | p :: l => if p.2 = j ∧ (nd N p.1.toNat).Text = s then some p.1 else lk N j s l
theorem lk_app {N : Ns} {j : Int} {s : ByteArray} : ∀ (l l' : List (Int × Int)), lk N j s (l ++ l') = match lk N j s l with | some h => some h | none => lk N j s l'
  | [], l' => rfl
  | p :: l, l' => by
    simp only [List.cons_append, lk]
    split
    · rfl
    · exact lk_app l l'
theorem lk_mem {N : Ns} {j : Int} {s : ByteArray} : ∀ {l : List (Int × Int)} {h : Int}, lk N j s l = some h → (h, j) ∈ l ∧ (nd N h.toNat).Text = s
  | p :: l, h, e => by
    unfold lk at e
    split at e
    · rename_i hc
      simp only [Option.some.injEq] at e; subst e
      exact ⟨by rw [← hc.1]; exact List.mem_cons_self .., hc.2⟩
    · obtain ⟨h1, h2⟩ := lk_mem e
      exact ⟨List.mem_cons_of_mem _ h1, h2⟩
theorem lk_none {N : Ns} {j : Int} {s : ByteArray} : ∀ {l : List (Int × Int)}, lk N j s l = none ↔ ∀ p ∈ l, ¬ (p.2 = j ∧ (nd N p.1.toNat).Text = s)
  | [] => by simp [lk]
  | p :: l => by
    unfold lk
    split
    · rename_i hc
      constructor
      · intro h; cases h
      · intro h; exact absurd hc (h p (List.mem_cons_self ..))
    · rename_i hc
      rw [lk_none]
      constructor
      · intro h q hq
        rcases List.mem_cons.1 hq with rfl | hq
        · exact hc
        · exact h q hq
      · intro h q hq; exact h q (List.mem_cons_of_mem _ hq)
def Uq (N : Ns) (l : List (Int × Int)) : Prop := l.Pairwise fun p q => ¬ (p.2 = q.2 ∧ (nd N p.1.toNat).Text = (nd N q.1.toNat).Text)
theorem Uq.snoc {N : Ns} {l : List (Int × Int)} {p : Int × Int} (h : Uq N l) (hp : lk N p.2 (nd N p.1.toNat).Text l = none) : Uq N (l ++ [p]) := by
  unfold Uq
  rw [List.pairwise_append]
  refine ⟨h, List.pairwise_singleton .., fun q hq r hr => ?_⟩
  simp only [List.mem_singleton] at hr; subst hr
  intro ⟨h1, h2⟩
  exact lk_none.1 hp q hq ⟨h1, h2⟩
def Fst (N : Ns) (k : Nat) : Nat := k + 1 - M N k
theorem kids_pos {N : Ns} {n : XApi_Node} : ∀ {i a b : Nat}, kidsC N n i a = some b → (∀ j, j < a → 1 ≤ M N j ∧ M N j ≤ j + 1) → i ≤ n.Kids.length →
    ∃ P : Nat → Nat, P i = a ∧ P 0 = b ∧ ∀ t, t < i → n.Kids.getD t 0 = ((P (t + 1) - 1 : Nat) : Int) ∧ P t < P (t + 1) ∧ P (t + 1) ≤ a ∧ P t = Fst N (P (t + 1) - 1) ∧ goesS n.Kind t n.Kids.length (nd N (P (t + 1) - 1)).Kind = true
  | 0, a, b, h, _, _ => by
    simp only [kidsC, Option.some.injEq] at h; subst h
    exact ⟨fun _ => a, rfl, rfl, fun t ht => by omega⟩
  | i + 1, a, b, h, hM, hi => by
    unfold kidsC at h
    split at h
    · cases h
    · rename_i hc
      simp only [not_or, Decidable.not_not, Bool.not_eq_false] at hc
      obtain ⟨h0, h1, h2⟩ := hc
      obtain ⟨m1, m2⟩ := hM (a - 1) (by omega)
      obtain ⟨P, p1, p2, p3⟩ := kids_pos h (fun j hj => hM j (by omega)) (by omega)
      obtain ⟨Q, hQ⟩ : ∃ Q : Nat → Nat, ∀ t, Q t = if t = i + 1 then a else P t := ⟨_, fun _ => rfl⟩
      refine ⟨Q, by rw [hQ, if_pos rfl], by rw [hQ, if_neg (by omega)]; exact p2, fun t ht => ?_⟩
      by_cases e : t = i
      · subst e
        rw [hQ t, hQ (t + 1), if_pos rfl, if_neg (show ¬ t = t + 1 by omega), p1]
        refine ⟨by rw [h1]; omega, by omega, Nat.le_refl _, by unfold Fst; omega, h2⟩
      · rw [hQ t, hQ (t + 1), if_neg (show ¬ t + 1 = i + 1 by omega), if_neg (show ¬ t = i + 1 by omega)]
        obtain ⟨q1, q2, q3, q4, q5⟩ := p3 t (by omega)
        exact ⟨q1, q2, by omega, q4, q5⟩
theorem good_pos {N : Ns} {k : Nat} (h : GoodTo N k) {j : Nat} (hj : j < k) : ∃ P : Nat → Nat, P (nd N j).Kids.length = j ∧ P 0 = Fst N j ∧ ∀ t, t < (nd N j).Kids.length → (nd N j).Kids.getD t 0 = ((P (t + 1) - 1 : Nat) : Int) ∧ P t < P (t + 1) ∧ P (t + 1) ≤ j ∧ P t = Fst N (P (t + 1) - 1) ∧ goesS (nd N j).Kind t (nd N j).Kids.length (nd N (P (t + 1) - 1)).Kind = true := by
  obtain ⟨_, h1, h2, h3, _⟩ := good_facts h j hj
  exact kids_pos h3 (fun i hi => ⟨(good_facts h i (by omega)).2.1, (good_facts h i (by omega)).2.2.1⟩) (Nat.le_refl _)
end Go.Ab
namespace Go.Ab
open Go Go.Proofs
def Dcl (N : Ns) (h : Nat) : Prop := (nd N h).Kind = 2 ∨ (nd N h).Kind = 3 ∨ (nd N h).Kind = 4 ∨ (nd N h).Kind = 12
structure Rel (N : Ns) (f : XScope_finder) (r : XTurneryref1_Rooms) (m : Nat) : Prop where
  t : f.t = ⟨N⟩
  out : f.out = r.Of
  olen : r.Of.length = N.length
  n : f.room.2 = m + 1
  len : m + 1 ≤ f.room.1.length
  now : r.Now = m
  hl : r.Has.length = r.Room.length
  has : ∀ p ∈ r.Has.zip r.Room, ∃ h j : Nat, p = ((h : Int), (j : Int)) ∧ h < N.length ∧ j ≤ m
  lk : ∀ j, j ≤ m → ∃ mp, f.room.1[j]? = some mp ∧ ∀ s, mget eqS mp s = Ab.lk N (j : Int) s (r.Has.zip r.Room)
  uq : Uq N (r.Has.zip r.Room)
  small : m ≤ 700
  dk : ∀ p ∈ r.Has.zip r.Room, Dcl N p.1.toNat
section
variable {N : Ns} {f : XScope_finder} {r : XTurneryref1_Rooms} {m : Nat}
theorem Rel.get (h : Rel N f r m) {i : Nat} (hi : i < r.Has.length) : ∃ hh j : Nat, r.Has[i]? = some (hh : Int) ∧ r.Room[i]? = some (j : Int) ∧ (r.Has.zip r.Room)[i]? = some ((hh : Int), (j : Int)) ∧ hh < N.length ∧ j ≤ m := by
  have hz : i < (r.Has.zip r.Room).length := by rw [List.length_zip, ← h.hl]; omega
  obtain ⟨hh, j, e, h1, h2⟩ := h.has _ (List.getElem_mem hz)
  have e2 : (r.Has.zip r.Room)[i]? = some ((hh : Int), (j : Int)) := by rw [List.getElem?_eq_getElem hz, e]
  have hr : i < r.Room.length := by rw [← h.hl]; exact hi
  rw [List.getElem_zip] at e
  simp only [Prod.mk.injEq] at e
  exact ⟨hh, j, by rw [List.getElem?_eq_getElem hi, e.1], by rw [List.getElem?_eq_getElem hr, e.2], e2, h1, h2⟩
theorem idx_get {α : Type} {l : List α} {i : Nat} {x : α} (h : l[i]? = some x) : idx l (i : Int) = some x := by
  unfold idx; rw [if_pos (by omega)]; simpa using h
theorem take_succ' {α : Type} {l : List α} {i : Nat} {x : α} (h : l[i]? = some x) : l.take (i + 1) = l.take i ++ [x] := by
  rw [List.take_add_one, h]; rfl
theorem findI_lk {ρ : Type} {j : Int} {s : ByteArray} (x : ρ) : ∀ (l : List (Int × Int)) (i : Nat), findI (fun _ p => if p.2 = j ∧ (nd N p.1.toNat).Text = s then some x else none) i l = (lk N j s l).map fun _ => x
  | [], _ => rfl
  | p :: l, i => by
    unfold findI lk
    by_cases h : p.2 = j ∧ (nd N p.1.toNat).Text = s
    · simp [h]
    · simp only [h, if_false]; exact findI_lk x l (i + 1)
theorem rdecl_loop (h : Rel N f r m) {k : Nat} (hk : k < N.length) (hb : r.Has.length ≤ 4000) : Loop (fun i => ref1_Rooms_declare_L1 r ⟨N⟩ (k : Int) i) 0 = some (brOf ((lk N (m : Int) (nd N k).Text (r.Has.zip r.Room)).map fun _ => XTurneryref1_Rooms.mk r.Has r.Room r.Now ⟨7, k⟩ r.Of)) := by
  have hzl : (r.Has.zip r.Room).length = r.Has.length := by rw [List.length_zip, ← h.hl]; omega
  rw [Loop_find (l := r.Has.zip r.Room) (fun _ p => if p.2 = (m : Int) ∧ (nd N p.1.toNat).Text = (nd N k).Text then some (XTurneryref1_Rooms.mk r.Has r.Room r.Now ⟨7, k⟩ r.Of) else none) ?_ ?_, findI_lk]
  · intro i hi
    have hlt : i < r.Has.length := by omega
    obtain ⟨hh, j, e1, e2, e3, e4, e5⟩ := h.get hlt
    have e6 : (r.Has.zip r.Room)[i] = ((hh : Int), (j : Int)) := by
      rw [List.getElem?_eq_getElem hi] at e3; exact Option.some.inj e3
    unfold ref1_Rooms_declare_L1
    simp only [lt_dec hlt, if_true, idx_get e2, Option.bind_some, h.now, e6, Int.toNat_natCast]
    by_cases hj : (j : Int) = m
    · simp only [hj, beq_self_eq_true, if_true, idx_get e1, Option.bind_some, nd_idx e4, nd_idx hk, tl_eq, eqS_dec, rfault, true_and]
      by_cases ht : (nd N hh).Text = (nd N k).Text
      · simp [ht]
      · simp [ht, w64_succ (show i < 9223372036854775807 by omega)]
    · have hj' : ((j : Int) == (m : Int)) = false := by simpa using hj
      simp [hj', hj, w64_succ (show i < 9223372036854775807 by omega)]
  · unfold ref1_Rooms_declare_L1
    rw [hzl]
    simp
theorem declare_ok (h : Rel N f r m) (hc : r.Bad.Code = 0) {k : Nat} (hk : k < N.length) (hd : Dcl N k) (hb : r.Has.length ≤ 4000) :
    ∃ e f' r', scope_finder_declare f (k : Int) = some (e, f') ∧ ref1_Rooms_declare r ⟨N⟩ (k : Int) = some r' ∧
      ((e = 7 ∧ r'.Bad = ⟨7, k⟩ ∧ f'.room.2 = m + 1 ∧ m + 1 ≤ f'.room.1.length) ∨ (e = 0 ∧ r'.Bad = r.Bad ∧ Rel N f' r' m ∧ r'.Has.length = r.Has.length + 1 ∧ r'.Of = r.Of.set k k ∧ ∀ j, j < m → f'.room.1[j]? = f.room.1[j]?)) := by
  obtain ⟨mp, hm, hmg⟩ := h.lk m (Nat.le_refl _)
  have hsm := h.small
  have hlen := h.len
  have hn := h.n
  have hstk : stk (f.room.1, f.room.2) = some () := by unfold stk; rw [if_pos (by rw [hn]; exact hlen)]
  have hw : w64 ((f.room.2 : Int) - 1) = (m : Int) := by rw [hn, w64_id (by omega) (by omega)]; omega
  have hroom : idx (List.take f.room.2 f.room.1) (m : Int) = some mp := by
    refine idx_get ?_
    rw [List.getElem?_take, if_pos (by omega)]; exact hm
  have hof : idx r.Of (k : Int) = some (r.Of[k]'(by rw [h.olen]; exact hk)) := idx_lt (by rw [h.olen]; exact hk)
  unfold scope_finder_declare ref1_Rooms_declare
  rw [rdecl_loop h hk hb]
  simp only [hstk, Option.bind_some, hw, hroom, hmg, h.t, nd_idx hk, h.out, hof, Int.toNat_natCast]
  cases hl : lk N (m : Int) (nd N k).Text (r.Has.zip r.Room) with
  | some x =>
    simp only [Option.isSome_some, if_true, Option.map_some, brOf, Option.bind_some, Br.go]
    exact ⟨_, _, _, rfl, rfl, .inl ⟨rfl, rfl, h.n, by simpa using h.len⟩⟩
  | none =>
    have hrl : r.Room.length ≤ 4000 := by rw [← h.hl]; exact hb
    simp only [Option.isSome_none, Bool.false_eq_true, if_false, Option.map_none, brOf, Option.bind_some, Br.go, app, List.length_nil, List.nil_append]
    rw [if_pos (by omega), Option.bind_some, if_pos (by omega), Option.bind_some, if_pos (by simp; omega), Option.bind_some, if_pos (by simp; omega), Option.bind_some]
    refine ⟨_, _, _, rfl, rfl, .inr ⟨rfl, rfl, ?_, by simp, rfl, fun j hj => ?_⟩⟩
    · have hz : (r.Has ++ [(k : Int)]).zip (r.Room ++ [r.Now]) = r.Has.zip r.Room ++ [((k : Int), (m : Int))] := by
        rw [List.zip_append h.hl, h.now]; rfl
      refine ⟨rfl, rfl, by simp [h.olen], h.n, by simpa using h.len, h.now, by simp [h.hl], ?_, ?_, ?_, h.small, ?_⟩
      · simp only [hz]
        intro p hp
        rcases List.mem_append.1 hp with hp | hp
        · exact h.has p hp
        · simp only [List.mem_singleton] at hp; subst hp
          exact ⟨k, m, rfl, hk, Nat.le_refl _⟩
      · intro j hj
        simp only [hz]
        by_cases e : j = m
        · subst e
          refine ⟨mput eqS mp (nd N k).Text (k : Int), by rw [List.getElem?_set_self (by omega)], fun s => ?_⟩
          rw [mget_mput, hmg, lk_app]
          simp only [lk, Int.toNat_natCast, true_and]
          by_cases hs : s = (nd N k).Text
          · subst hs; rw [if_pos rfl, hl]; simp
          · rw [if_neg hs, if_neg (fun e => hs e.symm)]
            split <;> rename_i e2 <;> rw [e2]
        · obtain ⟨mp2, q1, q2⟩ := h.lk j hj
          refine ⟨mp2, by rw [List.getElem?_set_ne (by omega)]; exact q1, fun s => ?_⟩
          rw [q2, lk_app]
          simp only [lk, Int.toNat_natCast]
          rw [if_neg (fun c => e (by have := c.1; omega))]
          split <;> rename_i e2 <;> rw [e2]
      · simp only [hz]
        exact h.uq.snoc (by simpa using hl)
      · simp only [hz]
        intro p hp
        rcases List.mem_append.1 hp with hp | hp
        · exact h.dk p hp
        · simp only [List.mem_singleton] at hp; subst hp
          simpa using hd
    · simp only
      rw [List.getElem?_set_ne (by omega)]
end
end Go.Ab
namespace Go.Ab
open Go Go.Proofs
def dn (N : Ns) (s : ByteArray) (l : List (Int × Int)) : Nat → Option Int
  | 0 => none
  | c + 1 => match lk N (c : Int) s l with | some h => some h | none => dn N s l c
theorem dn_some {N : Ns} {s : ByteArray} {l : List (Int × Int)} {j : Nat} {h : Int} : ∀ {c : Nat}, j < c → lk N (j : Int) s l = some h → (∀ j' : Nat, j < j' → lk N (j' : Int) s l = none) → dn N s l c = some h
  | c + 1, hj, hl, hn => by
    unfold dn
    by_cases e : j = c
    · subst e; rw [hl]
    · rw [hn c (by omega)]; exact dn_some (by omega) hl hn
theorem dn_none {N : Ns} {s : ByteArray} {l : List (Int × Int)} (hn : ∀ j' : Nat, lk N (j' : Int) s l = none) : ∀ c : Nat, dn N s l c = none
  | 0 => rfl
  | c + 1 => by unfold dn; rw [hn c]; exact dn_none hn c
section
variable {N : Ns} {f : XScope_finder} {r : XTurneryref1_Rooms} {m : Nat}
theorem dn_mem (h : Rel N f r m) {s : ByteArray} {x : Int} : ∀ {c : Nat}, dn N s (r.Has.zip r.Room) c = some x → ∃ k : Nat, x = k ∧ k < N.length ∧ Dcl N k
  | c + 1, e => by
    unfold dn at e
    split at e
    · rename_i hh hl
      simp only [Option.some.injEq] at e; subst e
      obtain ⟨k, j, e1, e2, _⟩ := h.has _ (lk_mem hl).1
      simp only [Prod.mk.injEq] at e1
      have hd := h.dk _ (lk_mem hl).1
      rw [e1.1] at hd
      exact ⟨k, e1.1, e2, by simpa using hd⟩
    · exact dn_mem h e
theorem find_ok (h : Rel N f r m) (s : ByteArray) : scope_finder_find f s 0 = some ((dn N s (r.Has.zip r.Room) (m + 1)).getD (-1)) := by
  have hsm := h.small
  have hlen := h.len
  have key : ∀ c, c ≤ m + 1 → Loop (fun i => scope_finder_find_L1 f s 0 i) ((c : Int) - 1) = some (brOf (dn N s (r.Has.zip r.Room) c)) := by
    intro c
    induction c with
    | zero =>
      intro _
      have : scope_finder_find_L1 f s 0 (((0 : Nat) : Int) - 1) = some (.out (.brk ())) := by
        unfold scope_finder_find_L1
        rw [if_neg (by simp)]
      rw [Loop_eq, this]; rfl
    | succ c ih =>
      intro hc
      obtain ⟨mp, q1, q2⟩ := h.lk c (by omega)
      have e : ((c + 1 : Nat) : Int) - 1 = (c : Int) := by omega
      have hst : scope_finder_find_L1 f s 0 (c : Int) = some (match lk N (c : Int) s (r.Has.zip r.Room) with | some x => .out (.ret x) | none => .next ((c : Int) - 1)) := by
        unfold scope_finder_find_L1
        rw [if_pos (by simp), idx_get (x := mp) (by rw [List.getElem?_take, if_pos (by rw [h.n]; omega)]; exact q1), Option.bind_some, q2]
        cases lk N (c : Int) s (r.Has.zip r.Room) with
        | some x => simp
        | none => simp [w64_id (show -9223372036854775808 ≤ (c : Int) - 1 by omega) (by omega)]
      rw [e, Loop_eq, hst]
      unfold dn
      cases lk N (c : Int) s (r.Has.zip r.Room) with
      | some x => rfl
      | none => exact ih (by omega)
  have hl : (List.take f.room.2 f.room.1).length = m + 1 := by rw [List.length_take, h.n]; omega
  unfold scope_finder_find
  rw [hl, w64_id (by omega) (by omega), key (m + 1) (Nat.le_refl _)]
  cases dn N s (r.Has.zip r.Room) (m + 1) <;> rfl
def Best (N : Ns) (s : ByteArray) (l : List (Int × Int)) (i : Nat) (best : Int) : Prop :=
  (best = -1 ∧ ∀ j : Int, lk N j s (l.take i) = none) ∨ ∃ b hh j : Nat, best = (b : Int) ∧ b < i ∧ l[b]? = some ((hh : Int), (j : Int)) ∧ lk N (j : Int) s (l.take i) = some (hh : Int) ∧ ∀ j' : Int, (j : Int) < j' → lk N j' s (l.take i) = none
theorem rfind_ok (h : Rel N f r m) (s : ByteArray) (hb : r.Has.length ≤ 4000) : ref1_Rooms_find r ⟨N⟩ s = some ((dn N s (r.Has.zip r.Room) (m + 1)).getD (-1)) := by
  have hzl : (r.Has.zip r.Room).length = r.Has.length := by rw [List.length_zip, ← h.hl]; omega
  obtain ⟨best, h1, h2⟩ := Loop_ind (step := fun s' : Int × Int => ref1_Rooms_find_L1 r ⟨N⟩ s s'.1 s'.2) (fun n s' => ∃ i : Nat, i + n = r.Has.length ∧ s'.2 = (i : Int) ∧ Best N s (r.Has.zip r.Room) i s'.1) (fun b => Best N s (r.Has.zip r.Room) r.Has.length b) (by
    rintro n ⟨best, y⟩ ⟨i, hi, hy, hB⟩
    simp only at hy hB
    subst hy
    cases n with
    | zero =>
      have e : i = r.Has.length := by omega
      subst e
      refine ⟨.out best, ?_, hB⟩
      simp only [ref1_Rooms_find_L1, lt_dec', Bool.false_eq_true, if_false]
    | succ n =>
      have hlt : i < r.Has.length := by omega
      obtain ⟨hh, j, e1, e2, e3, e4, e5⟩ := h.get hlt
      have hw := w64_succ (show i < 9223372036854775807 by omega)
      have hskip : ¬ (nd N hh).Text = s → ∀ j' : Int, lk N j' s ((r.Has.zip r.Room).take (i + 1)) = lk N j' s ((r.Has.zip r.Room).take i) := fun ht j' => by
        rw [take_succ' e3, lk_app]
        simp only [lk, Int.toNat_natCast]
        rw [if_neg (fun c => ht c.2)]
        split <;> rename_i e <;> rw [e]
      by_cases ht : (nd N hh).Text = s
      · have hnew : ∀ j' : Int, lk N j' s ((r.Has.zip r.Room).take (i + 1)) = match lk N j' s ((r.Has.zip r.Room).take i) with | some x => some x | none => if (j : Int) = j' then some (hh : Int) else none := fun j' => by
          rw [take_succ' e3, lk_app]
          simp only [lk, Int.toNat_natCast, ht, and_true]
          all_goals (cases lk N j' s ((r.Has.zip r.Room).take i) <;> rfl)
        rcases hB with ⟨rfl, hnone⟩ | ⟨b, hh0, j0, rfl, hbi, hb0, hl0, hn0⟩
        · refine ⟨.next ((i : Int), ((i + 1 : Nat) : Int)), ?_, n, by omega, i + 1, by omega, rfl, .inr ⟨i, hh, j, rfl, by omega, e3, ?_, fun j' hj' => ?_⟩⟩
          · simp [ref1_Rooms_find_L1, hlt, idx_get e1, nd_idx e4, tl_eq, eqS_dec, ht, ref1_Rooms_find_J1, hw]
          · rw [hnew, hnone]; simp
          · rw [hnew, hnone]; simp only; rw [if_neg (by omega)]
        · obtain ⟨hh1, j1, a1, a2, a3, a4, a5⟩ := h.get (show b < r.Has.length by omega)
          rw [hb0] at a3
          simp only [Option.some.injEq, Prod.mk.injEq] at a3
          obtain ⟨a6, a7⟩ := a3
          rw [← a7] at a2
          by_cases hj : (j0 : Int) < (j : Int)
          · refine ⟨.next ((i : Int), ((i + 1 : Nat) : Int)), ?_, n, by omega, i + 1, by omega, rfl, .inr ⟨i, hh, j, rfl, by omega, e3, ?_, fun j' hj' => ?_⟩⟩
            · have hbn : ¬ ((b : Int) < 0) := by omega
              simp [ref1_Rooms_find_L1, hlt, idx_get e1, nd_idx e4, tl_eq, eqS_dec, ht, ref1_Rooms_find_J1, hw, hbn, idx_get e2, idx_get a2, show j0 < j by omega]
            · rw [hnew, hn0 _ hj]; simp
            · rw [hnew, hn0 _ (by omega)]; simp only; rw [if_neg (by omega)]
          · refine ⟨.next ((b : Int), ((i + 1 : Nat) : Int)), ?_, n, by omega, i + 1, by omega, rfl, .inr ⟨b, hh0, j0, rfl, by omega, hb0, ?_, fun j' hj' => ?_⟩⟩
            · have hbn : ¬ ((b : Int) < 0) := by omega
              simp [ref1_Rooms_find_L1, hlt, idx_get e1, nd_idx e4, tl_eq, eqS_dec, ht, ref1_Rooms_find_J1, hw, hbn, idx_get e2, idx_get a2, show ¬ j0 < j by omega]
            · rw [hnew, hl0]
            · rw [hnew, hn0 _ hj']; simp only; rw [if_neg (by omega)]
      · refine ⟨.next (best, ((i + 1 : Nat) : Int)), ?_, n, by omega, i + 1, by omega, rfl, ?_⟩
        · simp [ref1_Rooms_find_L1, hlt, idx_get e1, nd_idx e4, tl_eq, eqS_dec, ht, ref1_Rooms_find_J1, hw]
        · rcases hB with ⟨rfl, hnone⟩ | ⟨b, hh0, j0, rfl, hbi, hb0, hl0, hn0⟩
          · exact .inl ⟨rfl, fun j' => by rw [hskip ht]; exact hnone j'⟩
          · exact .inr ⟨b, hh0, j0, rfl, by omega, hb0, by rw [hskip ht]; exact hl0, fun j' hj' => by rw [hskip ht]; exact hn0 j' hj'⟩) (n := r.Has.length) (s := ((-1 : Int), (0 : Int))) ⟨0, by omega, rfl, .inl ⟨rfl, fun j => rfl⟩⟩
  unfold ref1_Rooms_find
  rw [h1, Option.bind_some]
  have htk : (r.Has.zip r.Room).take r.Has.length = r.Has.zip r.Room := List.take_of_length_le (by omega)
  rcases h2 with ⟨rfl, hnone⟩ | ⟨b, hh, j, rfl, hbi, hb0, hl0, hn0⟩
  · rw [htk] at hnone
    rw [dn_none (fun j' => hnone j')]; rfl
  · rw [htk] at hl0 hn0
    obtain ⟨hh1, j1, a1, a2, a3, a4, a5⟩ := h.get hbi
    rw [hb0] at a3
    simp only [Option.some.injEq, Prod.mk.injEq] at a3
    have hj : j ≤ m := by omega
    rw [dn_some (j := j) (by omega) hl0 (fun j' hj' => hn0 j' (by omega))]
    rw [if_neg (by simp), idx_get a1]
    simp [a3.1]
def callAt (N : Ns) (s : ByteArray) (l : List (Int × Int)) : Int := match lk N 0 s l with
  | some h => if (nd N h.toNat).Kind = 3 then h else -1
  | none => -1
theorem call_ok (h : Rel N f r m) (n : XApi_Node) (hb : r.Has.length ≤ 4000) : Loop (fun s : Int × Int => ref1_Rooms_look_L1 r ⟨N⟩ n s.1 s.2) (-1, 0) = some (callAt N n.Text (r.Has.zip r.Room)) := by
  have hzl : (r.Has.zip r.Room).length = r.Has.length := by rw [List.length_zip, ← h.hl]; omega
  refine Loop_traj (step := fun s : Int × Int => ref1_Rooms_look_L1 r ⟨N⟩ n s.1 s.2) (fun i => (callAt N n.Text ((r.Has.zip r.Room).take i), (i : Int))) r.Has.length _ rfl (fun i hlt => ?_) ?_
  · obtain ⟨hh, j, e1, e2, e3, e4, e5⟩ := h.get hlt
    have hw := w64_succ (show i < 9223372036854775807 by omega)
    have hnew : lk N 0 n.Text ((r.Has.zip r.Room).take (i + 1)) = match lk N 0 n.Text ((r.Has.zip r.Room).take i) with | some x => some x | none => if (j : Int) = 0 ∧ (nd N hh).Text = n.Text then some (hh : Int) else none := by
      rw [take_succ' e3, lk_app]
      simp only [lk, Int.toNat_natCast]
      all_goals (cases lk N 0 n.Text ((r.Has.zip r.Room).take i) <;> rfl)
    by_cases hc : (j : Int) = 0 ∧ (nd N hh).Text = n.Text
    · have hold : lk N 0 n.Text ((r.Has.zip r.Room).take i) = none := by
        rw [lk_none]
        intro q hq hc2
        have hu := h.uq
        rw [Uq, ← List.take_append_drop (i + 1) (r.Has.zip r.Room), take_succ' e3] at hu
        have hu := (List.pairwise_append.1 (List.pairwise_append.1 hu).1).2.2 q hq _ (List.mem_singleton.2 rfl)
        exact hu ⟨by rw [hc2.1]; exact hc.1.symm, by rw [hc2.2]; simpa using hc.2.symm⟩
      rw [hold] at hnew
      simp only [if_pos hc] at hnew
      simp only [callAt, hold, hnew, Int.toNat_natCast]
      by_cases hk : (nd N hh).Kind = 3
      · simp [ref1_Rooms_look_L1, hlt, idx_get e2, hc.1, idx_get e1, nd_idx e4, tl_eq, eqS_dec, hc.2, hk, ref1_Rooms_look_J3, hw]
      · simp [ref1_Rooms_look_L1, hlt, idx_get e2, hc.1, idx_get e1, nd_idx e4, tl_eq, eqS_dec, hc.2, hk, ref1_Rooms_look_J3, hw]
    · have hsame : callAt N n.Text ((r.Has.zip r.Room).take (i + 1)) = callAt N n.Text ((r.Has.zip r.Room).take i) := by
        simp only [callAt, hnew, if_neg hc]
        all_goals (cases lk N 0 n.Text ((r.Has.zip r.Room).take i) <;> rfl)
      rw [hsame]
      by_cases hj : (j : Int) = 0
      · have ht : ¬ (nd N hh).Text = n.Text := fun e => hc ⟨hj, e⟩
        simp [ref1_Rooms_look_L1, hlt, idx_get e2, hj, idx_get e1, nd_idx e4, tl_eq, eqS_dec, ht, ref1_Rooms_look_J3, hw]
      · have hj' : ((j : Int) == 0) = false := by simpa using hj
        simp only [ref1_Rooms_look_L1, lt_dec hlt, if_true, idx_get e2, Option.bind_some, hj', Bool.false_eq_true, if_false, ref1_Rooms_look_J3, hw]
  · simp only [ref1_Rooms_look_L1, lt_dec', Bool.false_eq_true, if_false]
    rw [List.take_of_length_le (by omega)]
end
end Go.Ab
namespace Go.Ab
open Go Go.Proofs
def Pre (N : Ns) (f : XScope_finder) (a b : Nat) : Prop := ∀ j, a ≤ j → j < b → (nd N j).Kind = 33 → f.out[j]? = some (-1)
def helpB (s : ByteArray) : Bool := (s.toList == (ByteArray.mk #[114, 101, 97, 100]).toList) || (s.toList == (ByteArray.mk #[112, 114, 105, 110, 116]).toList)
def Nm (N : Ns) (l : List Int) (j : Nat) : Prop := ((nd N j).Kind = 32 → ∃ q : Nat, l[j]? = some (q : Int) ∧ q < N.length ∧ ((nd N q).Kind = 2 ∨ (nd N q).Kind = 4 ∨ (nd N q).Kind = 12)) ∧
  ((nd N j).Kind = 33 → (l[j]? = some (-1) ∧ helpB (nd N j).Text = true) ∨ ∃ q : Nat, l[j]? = some (q : Int) ∧ q < N.length ∧ (nd N q).Kind = 3)
theorem Nm.eq {N : Ns} {l l' : List Int} {j : Nat} (h : Nm N l j) (e : l'[j]? = l[j]?) : Nm N l' j := by unfold Nm; rw [e]; exact h
theorem Nm.no {N : Ns} {l : List Int} {j : Nat} (h1 : (nd N j).Kind ≠ 32) (h2 : (nd N j).Kind ≠ 33) : Nm N l j := ⟨fun h => absurd h h1, fun h => absurd h h2⟩
theorem fst_leaf {N : Ns} {k : Nat} (hg : GoodTo N N.length) (hk : k < N.length) (h : (nd N k).Kids = []) : Fst N k = k := by
  obtain ⟨P, hP1, hP0, _⟩ := good_pos hg hk
  rw [h] at hP1; rw [← hP0]; exact hP1
structure Ok (N : Ns) (f : XScope_finder) (r : XTurneryref1_Rooms) (f' : XScope_finder) (r' : XTurneryref1_Rooms) (m a b : Nat) : Prop where
  rel : Rel N f' r' m
  bad : r'.Bad.Code = 0
  len : r'.Has.length ≤ 600 + b
  of : ∀ j, j < a ∨ b ≤ j → r'.Of[j]? = r.Of[j]?
  rooms : ∀ j, j < m → f'.room.1[j]? = f.room.1[j]?
  nam : ∀ j, a ≤ j → j < b → Nm N r'.Of j
def ErS (f' : XScope_finder) (r' : XTurneryref1_Rooms) (e : XApi_Fault) (m : Nat) : Prop := e.Code ≠ 0 ∧ r'.Bad = e ∧ f'.room.2 = m + 1 ∧ m + 1 ≤ f'.room.1.length
def Sim (N : Ns) (f : XScope_finder) (r : XTurneryref1_Rooms) (m a b : Nat) (x : Option (XApi_Fault × XScope_finder)) (y : Option XTurneryref1_Rooms) : Prop :=
  ∃ e f' r', x = some (e, f') ∧ y = some r' ∧ (ErS f' r' e m ∨ e = ⟨0, 0⟩ ∧ Ok N f r f' r' m a b)
def walkP (N : Ns) (k : Nat) : Prop := ∀ fp fr m f r, 3 * k + 3 ≤ fp → 2 * k + 2 ≤ fr → Rel N f r m → r.Bad.Code = 0 → m + k + 1 ≤ N.length → r.Has.length ≤ 600 + Fst N k → Pre N f (Fst N k) (k + 1) →
  Sim N f r m (Fst N k) (k + 1) (scope_finder_walk fp f (k : Int)) (ref1_Rooms_look fr r ⟨N⟩ (k : Int))
section
variable {N : Ns} {f : XScope_finder} {r : XTurneryref1_Rooms} {m : Nat}
theorem Rel.stk (h : Rel N f r m) : Go.Ab.stk (f.room.1, f.room.2) = some () := by unfold Go.Ab.stk; rw [if_pos (by rw [h.n]; exact h.len)]
theorem Pre.mono {f' : XScope_finder} {a b a' b' : Nat} (h : Pre N f a b) (ha : a ≤ a') (hb : b' ≤ b) (ho : ∀ j, a' ≤ j → j < b' → f'.out[j]? = f.out[j]?) : Pre N f' a' b' := fun j h1 h2 h3 => by
  rw [ho j h1 h2]; exact h j (by omega) (by omega) h3
theorem Ok.trans {f' f'' : XScope_finder} {r' r'' : XTurneryref1_Rooms} {a b b' : Nat} (h : Ok N f r f' r' m a b) (h' : Ok N f' r' f'' r'' m b b') (ha : a ≤ b) (hb : b ≤ b') : Ok N f r f'' r'' m a b' :=
  ⟨h'.rel, h'.bad, h'.len, fun j hj => (h'.of j (by omega)).trans (h.of j (by omega)), fun j hj => (h'.rooms j hj).trans (h.rooms j hj), fun j h1 h2 => if hc : j < b then (h.nam j h1 hc).eq (h'.of j (.inl hc)) else h'.nam j (by omega) h2⟩
theorem Rel.setOf (h : Rel N f r m) (k : Nat) (x : Int) : Rel N ⟨f.t, f.out.set k x, f.room⟩ ⟨r.Has, r.Room, r.Now, r.Bad, r.Of.set k x⟩ m :=
  ⟨h.t, by rw [h.out], by simp [h.olen], h.n, h.len, h.now, h.hl, h.has, h.lk, h.uq, h.small, h.dk⟩
theorem all_ok {k : Nat} (hg : GoodTo N N.length) (hk : k < N.length) (h6 : N.length ≤ 600) (hw : ∀ c, c < k → walkP N c) {fp fr : Nat} (hfp : 3 * k + 1 ≤ fp) (hfr : 2 * k + 1 ≤ fr) (h : Rel N f r m) (hc : r.Bad.Code = 0) (hm : m + k ≤ N.length) (hh : r.Has.length ≤ 600 + Fst N k) (hp : Pre N f (Fst N k) k) :
    Sim N f r m (Fst N k) k (scope_finder_all fp f (nd N k).Kids) (ref1_Rooms_all fr r ⟨N⟩ (k : Int)) := by
  obtain ⟨P, hP1, hP0, hPt⟩ := good_pos hg hk
  obtain ⟨gp, rfl⟩ : ∃ g, fp = g + 1 := ⟨fp - 1, by omega⟩
  obtain ⟨gr, rfl⟩ : ∃ g, fr = g + 1 := ⟨fr - 1, by omega⟩
  have hkl := kids_len hg hk
  have hPm : ∀ t, t ≤ (nd N k).Kids.length → P t ≤ k ∧ Fst N k ≤ P t := by
    intro t ht
    have up : ∀ d, t + d = (nd N k).Kids.length → P t ≤ k := by
      intro d
      induction d generalizing t with
      | zero => intro e; simp at e; subst e; omega
      | succ d ih => intro e; have := ih (t + 1) (by omega) (by omega); have := (hPt t (by omega)).2.1; omega
    have dn' : ∀ t, t ≤ (nd N k).Kids.length → Fst N k ≤ P t := by
      intro t
      induction t with
      | zero => intro _; omega
      | succ t ih => intro e; have := ih (by omega); have := (hPt t (by omega)).2.1; omega
    exact ⟨up ((nd N k).Kids.length - t) (by omega), dn' t ht⟩
  have loop : ∀ d t ft rt, t + d = (nd N k).Kids.length → Ok N f r ft rt m (Fst N k) (P t) →
      ∃ x r', Loop (fun s : XScope_finder × Int => scope_finder_all_L1 (scope_finder_walk gp) (nd N k).Kids s.1 s.2) (ft, (t : Int)) = some x ∧ Loop (fun s : XTurneryref1_Rooms × Int => ref1_Rooms_all_L1 (ref1_Rooms_look gr) ⟨N⟩ (k : Int) s.1 s.2) (rt, (t : Int)) = some r' ∧
        ((∃ e f', x = .ret (e, f') ∧ ErS f' r' e m) ∨ ∃ f', x = .brk f' ∧ Ok N f r f' r' m (Fst N k) k) := by
    intro d
    induction d with
    | zero =>
      intro t ft rt ht ho
      simp only [Nat.add_zero] at ht; subst ht
      refine ⟨.brk ft, rt, ?_, ?_, .inr ⟨ft, rfl, by rw [hP1] at ho; exact ho⟩⟩
      · have : scope_finder_all_L1 (scope_finder_walk gp) (nd N k).Kids ft ((nd N k).Kids.length : Int) = some (.out (.brk ft)) := by
          simp only [scope_finder_all_L1, ho.rel.stk, Option.bind_some, lt_dec', Bool.false_eq_true, if_false]
        rw [Loop_eq, this]; rfl
      · have : ref1_Rooms_all_L1 (ref1_Rooms_look gr) ⟨N⟩ (k : Int) rt ((nd N k).Kids.length : Int) = some (.out rt) := by
          simp only [ref1_Rooms_all_L1, nd_idx hk, Option.bind_some, lt_dec', Bool.false_eq_true, if_false]
        rw [Loop_eq, this]; rfl
    | succ d ih =>
      intro t ft rt ht ho
      have htl : t < (nd N k).Kids.length := by omega
      obtain ⟨q1, q2, q3, q4, _⟩ := hPt t htl
      have hb2 := (hPm t (by omega)).2
      have hw64 := w64_succ (show t < 9223372036854775807 by omega)
      have hki : idx (nd N k).Kids (t : Int) = some ((P (t + 1) - 1 : Nat) : Int) := by
        rw [idx_lt htl]
        rw [← q1]; simp [htl]
      obtain ⟨e, f', r', g1, g2, g3⟩ := hw (P (t + 1) - 1) (by omega) gp gr m ft rt (by omega) (by omega) ho.rel ho.bad (by omega) (by rw [← q4]; exact ho.len) (hp.mono (by rw [← q4]; exact hb2) (by omega) fun j h1 h2 => by
        rw [ho.rel.out, h.out]; exact ho.of j (.inr (by rw [q4]; exact h1)))
      have rstep : ref1_Rooms_all_L1 (ref1_Rooms_look gr) ⟨N⟩ (k : Int) rt (t : Int) = some (.next (r', ((t + 1 : Nat) : Int))) := by
        simp only [ref1_Rooms_all_L1, nd_idx hk, Option.bind_some, lt_dec htl, if_true, ho.bad, beq_self_eq_true, hki, g2, hw64]
      rcases g3 with g3 | ⟨rfl, g3⟩
      · refine ⟨.ret (e, f'), r', ?_, ?_, .inl ⟨e, f', rfl, g3⟩⟩
        · have : scope_finder_all_L1 (scope_finder_walk gp) (nd N k).Kids ft (t : Int) = some (.out (.ret (e, f'))) := by
            have he : e.Code ≠ 0 := g3.1
            simp only [scope_finder_all_L1, ho.rel.stk, Option.bind_some, lt_dec htl, if_true, hki]
            rw [show (XScope_finder.mk ft.t ft.out (ft.room.1, ft.room.2)) = ft from rfl, g1]
            simp [he]
          rw [Loop_eq, this]; rfl
        · rw [Loop_eq, rstep]
          have hbad : (r'.Bad.Code == 0) = false := by rw [g3.2.1]; simpa using g3.1
          have : ref1_Rooms_all_L1 (ref1_Rooms_look gr) ⟨N⟩ (k : Int) r' ((t + 1 : Nat) : Int) = some (.out r') := by
            simp only [ref1_Rooms_all_L1, nd_idx hk, Option.bind_some, hbad]
            cases decide (((t + 1 : Nat) : Int) < ((nd N k).Kids.length : Int)) <;> rfl
          show Loop _ (r', ((t + 1 : Nat) : Int)) = _
          rw [Loop_eq, this]; rfl
      · have hpos : P (t + 1) - 1 + 1 = P (t + 1) := by omega
        rw [hpos, ← q4] at g3
        obtain ⟨x, r'', a1, a2, a3⟩ := ih (t + 1) f' r' (by omega) (ho.trans g3 hb2 (by omega))
        refine ⟨x, r'', ?_, ?_, a3⟩
        · have : scope_finder_all_L1 (scope_finder_walk gp) (nd N k).Kids ft (t : Int) = some (.next (f', ((t + 1 : Nat) : Int))) := by
            simp only [scope_finder_all_L1, ho.rel.stk, Option.bind_some, lt_dec htl, if_true, hki]
            rw [show (XScope_finder.mk ft.t ft.out (ft.room.1, ft.room.2)) = ft from rfl, g1]
            simp [hw64]
          rw [Loop_eq, this]; exact a1
        · rw [Loop_eq, rstep]; exact a2
  obtain ⟨x, r', a1, a2, a3⟩ := loop (nd N k).Kids.length 0 f r (by omega) ⟨h, hc, by rw [hP0]; exact hh, fun _ _ => rfl, fun _ _ => rfl, fun j h1 h2 => by omega⟩
  have e2 : ref1_Rooms_all (gr + 1) r ⟨N⟩ (k : Int) = some r' := by
    show ref1_Rooms_all_B gr (ref1_Rooms_all gr) (ref1_Rooms_look gr) r ⟨N⟩ (k : Int) = _
    unfold ref1_Rooms_all_B
    show (Loop (fun s : XTurneryref1_Rooms × Int => ref1_Rooms_all_L1 (ref1_Rooms_look gr) ⟨N⟩ (k : Int) s.1 s.2) (r, 0)).bind _ = _
    have a2' : Loop (fun s : XTurneryref1_Rooms × Int => ref1_Rooms_all_L1 (ref1_Rooms_look gr) ⟨N⟩ (k : Int) s.1 s.2) (r, 0) = some r' := a2
    rw [a2']; rfl
  have e1 : scope_finder_all (gp + 1) f (nd N k).Kids = (some x).bind (Br.go (fun v1 => (Go.Ab.stk (v1.room.1, v1.room.2)).bind fun _ => some ((XApi_Fault.mk 0 0), (XScope_finder.mk v1.t v1.out (v1.room.1, v1.room.2)))) (fun r1 => some r1)) := by
    show scope_finder_all_B gp (scope_finder_all gp) (scope_finder_within gp) (scope_finder_walk gp) f (nd N k).Kids = _
    unfold scope_finder_all_B
    rw [h.stk, Option.bind_some]
    have a1' : Loop (fun s : XScope_finder × Int => scope_finder_all_L1 (scope_finder_walk gp) (nd N k).Kids s.1 s.2) (f, 0) = some x := a1
    show (Loop (fun s : XScope_finder × Int => scope_finder_all_L1 (scope_finder_walk gp) (nd N k).Kids s.1 s.2) (f, 0)).bind _ = _
    rw [a1']
  rcases a3 with ⟨e, f', rfl, a4⟩ | ⟨f', rfl, a4⟩
  · exact ⟨e, f', r', e1, e2, .inl a4⟩
  · refine ⟨⟨0, 0⟩, f', r', ?_, e2, .inr ⟨rfl, a4⟩⟩
    rw [e1]
    simp only [Option.bind_some, Br.go, a4.rel.stk]
end
end Go.Ab
namespace Go.Ab
open Go Go.Proofs
def kbB (k : Int) : Bool := k == 3 || k == 11 || k == 17 || k == 18
theorem set_same {α : Type} : ∀ {l : List α} {i : Nat} {x : α}, l[i]? = some x → l.set i x = l
  | [], i, x, h => by simp at h
  | y :: l, 0, x, h => by simp at h; subst h; rfl
  | y :: l, i + 1, x, h => by simp only [List.set_cons_succ]; rw [set_same (by simpa using h)]
section
variable {N : Ns} {f : XScope_finder} {r : XTurneryref1_Rooms} {m : Nat}
theorem walk_B {gp k : Nat} (hk : k < N.length) (h : Rel N f r m) : scope_finder_walk (gp + 1) f (k : Int) = scope_finder_walk_J2 (scope_finder_all gp) (scope_finder_within gp) f (k : Int) (nd N k) (kbB (nd N k).Kind) := by
  show scope_finder_walk_B gp (scope_finder_all gp) (scope_finder_within gp) (scope_finder_walk gp) f (k : Int) = _
  unfold scope_finder_walk_B
  rw [h.stk, Option.bind_some, h.t, nd_idx hk, Option.bind_some]
  show (if ((nd N k).Kind == 3) = true then scope_finder_walk_J2 (scope_finder_all gp) (scope_finder_within gp) f (k : Int) (nd N k) ((nd N k).Kind == 3) else if ((nd N k).Kind == 11) = true then scope_finder_walk_J2 (scope_finder_all gp) (scope_finder_within gp) f (k : Int) (nd N k) ((nd N k).Kind == 11) else if ((nd N k).Kind == 17) = true then scope_finder_walk_J2 (scope_finder_all gp) (scope_finder_within gp) f (k : Int) (nd N k) ((nd N k).Kind == 17) else scope_finder_walk_J2 (scope_finder_all gp) (scope_finder_within gp) f (k : Int) (nd N k) ((nd N k).Kind == 18)) = _
  unfold kbB
  cases (nd N k).Kind == 3 <;> cases (nd N k).Kind == 11 <;> cases (nd N k).Kind == 17 <;> rfl
theorem Rel.setO (h : Rel N f r m) {k : Nat} (hk : k < N.length) : idx f.out (k : Int) = some (f.out[k]'(by rw [h.out, h.olen]; exact hk)) := idx_lt (by rw [h.out, h.olen]; exact hk)
theorem Rel.setR (h : Rel N f r m) {k : Nat} (hk : k < N.length) : idx r.Of (k : Int) = some (r.Of[k]'(by rw [h.olen]; exact hk)) := idx_lt (by rw [h.olen]; exact hk)
theorem J1_eq {f : XScope_finder} {r : XTurneryref1_Rooms} (h : Rel N f r m) (g : Nat) (n : XApi_Node) : scope_finder_walk_J1 (scope_finder_all g) n f = scope_finder_all g f n.Kids := by
  unfold scope_finder_walk_J1
  rw [h.stk, Option.bind_some]
  show (scope_finder_all g f n.Kids).bind _ = _
  cases scope_finder_all g f n.Kids <;> rfl
theorem all_nil {f : XScope_finder} {r : XTurneryref1_Rooms} (h : Rel N f r m) (g : Nat) : scope_finder_all (g + 1) f [] = some (⟨0, 0⟩, f) := by
  show scope_finder_all_B g (scope_finder_all g) (scope_finder_within g) (scope_finder_walk g) f [] = _
  unfold scope_finder_all_B
  rw [h.stk, Option.bind_some]
  have e : scope_finder_all_L1 (scope_finder_walk g) [] f 0 = some (.out (.brk f)) := by
    unfold scope_finder_all_L1
    rw [h.stk, Option.bind_some]
    rfl
  show (Loop (fun s : XScope_finder × Int => scope_finder_all_L1 (scope_finder_walk g) [] s.1 s.2) (f, 0)).bind _ = _
  rw [Loop_eq, e]
  simp only [Option.bind_some, Br.go, h.stk]
theorem Sim.code {k : Nat} {e : Int} {f' : XScope_finder} (he : e = 7 ∨ e = 0) : scope_finder_code f' e (k : Int) = some (if e = 0 then ⟨0, 0⟩ else ⟨e, k⟩) := by
  rcases he with rfl | rfl <;> rfl
theorem decl_sim {f0 : XScope_finder} {r0 : XTurneryref1_Rooms} {k : Nat} (hk : k < N.length) {a : Nat} (hak : a ≤ k) (hd : Dcl N k) (ho : Ok N f0 r0 f r m a k) (h6 : N.length ≤ 600) : ∃ e f' r', scope_finder_declare f (k : Int) = some (e, f') ∧ ref1_Rooms_declare r ⟨N⟩ (k : Int) = some r' ∧ (e = 7 ∨ e = 0) ∧
    (ErS f' r' (if e = 0 then ⟨0, 0⟩ else ⟨e, k⟩) m ∨ (if e = 0 then (⟨0, 0⟩ : XApi_Fault) else ⟨e, k⟩) = ⟨0, 0⟩ ∧ Ok N f0 r0 f' r' m a (k + 1)) := by
  obtain ⟨e, f', r', h1, h2, h3⟩ := declare_ok ho.rel ho.bad hk hd (by have := ho.len; omega)
  refine ⟨e, f', r', h1, h2, ?_⟩
  rcases h3 with ⟨rfl, h3, h4, h5⟩ | ⟨rfl, h3, h4, h5, h7, h8⟩
  · exact ⟨.inl rfl, .inl ⟨by simp, by simpa using h3, h4, h5⟩⟩
  · refine ⟨.inr rfl, .inr ⟨rfl, h4, by rw [h3]; exact ho.bad, by have := ho.len; omega, fun j hj => ?_, fun j hj => (h8 j hj).trans (ho.rooms j hj), fun j h9 h10 => ?_⟩⟩
    · rw [h7, List.getElem?_set_ne (by omega)]
      exact ho.of j (by omega)
    · by_cases hjk : j = k
      · subst hjk
        exact Nm.no (by unfold Dcl at hd; omega) (by unfold Dcl at hd; omega)
      · exact (ho.nam j h9 (by omega)).eq (by rw [h7, List.getElem?_set_ne (by omega)])
theorem walk_ok (hg : GoodTo N N.length) (h6 : N.length ≤ 600) : ∀ k, k < N.length → walkP N k := by
  intro k
  induction k using Nat.strongRecOn with
  | ind k ih =>
    intro hk fp fr m f r hfp hfr h hc hm hh hp
    obtain ⟨gp, rfl⟩ : ∃ g, fp = g + 1 := ⟨fp - 1, by omega⟩
    obtain ⟨gr, rfl⟩ : ∃ g, fr = g + 1 := ⟨fr - 1, by omega⟩
    have hMk := (good_facts hg k hk).2.1
    have hFk : Fst N k ≤ k := by unfold Fst; omega
    have hHl : r.Has.length ≤ 4000 := by omega
    have hsm := h.small
    -- the kids, from any state that stands alike
    have kids : ∀ {f0 : XScope_finder} {r0 : XTurneryref1_Rooms} {m0 : Nat} {g1 g2 : Nat}, 3 * k + 1 ≤ g1 → 2 * k + 1 ≤ g2 → Rel N f0 r0 m0 → r0.Bad.Code = 0 → m0 + k ≤ N.length → r0.Has.length ≤ 600 + Fst N k → (∀ j, j < k → f0.out[j]? = f.out[j]?) →
        Sim N f0 r0 m0 (Fst N k) k (scope_finder_all g1 f0 (nd N k).Kids) (ref1_Rooms_all g2 r0 ⟨N⟩ (k : Int)) := fun h1 h2 h3 h4 h5 h7 h8 =>
      all_ok hg hk h6 (fun c hc => ih c hc (by omega)) h1 h2 h3 h4 h5 h7 (hp.mono (Nat.le_refl _) (by omega) fun j _ hj => h8 j hj)
    rw [walk_B hk h]
    show Sim N f r m (Fst N k) (k + 1) _ (ref1_Rooms_look_B gr (ref1_Rooms_all gr) (ref1_Rooms_look gr) r ⟨N⟩ (k : Int))
    unfold ref1_Rooms_look_B scope_finder_walk_J2
    rw [show (Go.Ab.stk ((f.room.1, f.room.2).1, (f.room.1, f.room.2).2)) = some () from h.stk, Option.bind_some, nd_idx hk, Option.bind_some]
    have hkb : (if (if (if (nd N k).Kind == 3 then true else (nd N k).Kind == 11) then true else (nd N k).Kind == 17) then true else (nd N k).Kind == 18) = kbB (nd N k).Kind := by
      simp only [ifT, kbB]
    rw [hkb]
    cases hB : kbB (nd N k).Kind with
    | true =>
      simp only [if_true]
      -- a room of its own
      have hn32 : (nd N k).Kind ≠ 32 := fun e => by rw [e] at hB; exact absurd hB (by decide)
      have hn33 : (nd N k).Kind ≠ 33 := fun e => by rw [e] at hB; exact absurd hB (by decide)
      have hlen := h.len
      have hn := h.n
      obtain ⟨g, rfl⟩ : ∃ g, gp = g + 1 := ⟨gp - 1, by omega⟩
      have htk : (List.take f.room.2 f.room.1).length = m + 1 := by rw [List.length_take, hn]; omega
      have happ : app (List.take f.room.2 f.room.1) ([([] : List (ByteArray × Int))] : List (List (ByteArray × Int))) = some (List.take f.room.2 f.room.1 ++ [[]]) := by
        unfold app; rw [if_pos (by rw [htk]; simp; omega)]
      have hget : ∀ j, j < m + 1 → (List.take f.room.2 f.room.1 ++ [([] : List (ByteArray × Int))])[j]? = f.room.1[j]? := fun j hj => by
        rw [List.getElem?_append_left (by omega), List.getElem?_take, if_pos (by omega)]
      have hlast : (List.take f.room.2 f.room.1 ++ [([] : List (ByteArray × Int))])[m + 1]? = some [] := by
        rw [List.getElem?_append_right (by omega), htk]; simp
      have hnow : w64 (r.Now + 1) = ((m + 1 : Nat) : Int) := by rw [h.now, w64_succ (by omega)]
      have hrel : Rel N ⟨f.t, f.out, (List.take f.room.2 f.room.1 ++ [[]], (List.take f.room.2 f.room.1 ++ [([] : List (ByteArray × Int))]).length)⟩ ⟨r.Has, r.Room, w64 (r.Now + 1), r.Bad, r.Of⟩ (m + 1) := by
        refine ⟨h.t, h.out, h.olen, by simp [htk], by simp [htk], hnow, h.hl, fun p hp => ?_, fun j hj => ?_, h.uq, by omega, h.dk⟩
        · obtain ⟨a, b, e1, e2, e3⟩ := h.has p hp; exact ⟨a, b, e1, e2, by omega⟩
        · by_cases e : j = m + 1
          · subst e
            refine ⟨[], hlast, fun s => ?_⟩
            rw [lk_none.2]
            · rfl
            · intro p hp hc2
              obtain ⟨a, b, e1, e2, e3⟩ := h.has p hp
              subst e1
              have := hc2.1
              simp only at this; omega
          · obtain ⟨mp, q1, q2⟩ := h.lk j (by omega)
            exact ⟨mp, by show _ = _; rw [hget j (by omega)]; exact q1, q2⟩
      obtain ⟨e, f2, r2, a1, a2, a3⟩ := kids (g1 := g) (g2 := gr) (by omega) (by omega) hrel hc (by omega) hh (fun j _ => rfl)
      have hwith : scope_finder_within (g + 1) f (nd N k).Kids = (Go.Ab.stk (f2.room.1, f2.room.2)).bind fun _ => (cutN f2.room.2 (w64 ((f2.room.2 : Int) - 1))).bind fun x3 => some (e, (XScope_finder.mk f2.t f2.out (f2.room.1, x3))) := by
        show scope_finder_within_B g (scope_finder_all g) (scope_finder_within g) (scope_finder_walk g) f (nd N k).Kids = _
        unfold scope_finder_within_B
        rw [h.stk, Option.bind_some, happ, Option.bind_some]
        show ((scope_finder_all g ⟨f.t, f.out, _⟩ (nd N k).Kids).bind _).bind _ = _
        have hset : (List.take f.room.2 f.room.1 ++ [([] : List (ByteArray × Int))]).set (((List.take f.room.2 f.room.1).length : Nat) : Int).toNat [] = List.take f.room.2 f.room.1 ++ [[]] := by
          rw [Int.toNat_natCast]; exact set_same (by rw [htk]; exact hlast)
        rw [hset, a1]; rfl
      have hcut : f2.room.2 = m + 2 → cutN f2.room.2 (w64 ((f2.room.2 : Int) - 1)) = some (m + 1) := fun e2 => by
        rw [e2, w64_id (by omega) (by omega)]
        unfold cutN
        rw [if_pos (by omega)]
        congr 1; omega
      have hw' : scope_finder_within (g + 1) (XScope_finder.mk f.t f.out ((f.room.1, f.room.2).1, (f.room.1, f.room.2).2)) (nd N k).Kids = scope_finder_within (g + 1) f (nd N k).Kids := rfl
      rw [hw', hwith, a2]
      rcases a3 with ⟨b1, b2, b3, b4⟩ | ⟨rfl, ho⟩
      · have hst : Go.Ab.stk (f2.room.1, f2.room.2) = some () := by unfold Go.Ab.stk; rw [if_pos (by rw [b3]; exact b4)]
        rw [hst, Option.bind_some, hcut b3, Option.bind_some]
        exact ⟨_, _, _, rfl, rfl, .inl ⟨b1, b2, rfl, by show m + 1 ≤ f2.room.1.length; omega⟩⟩
      · rw [ho.rel.stk, Option.bind_some, hcut ho.rel.n, Option.bind_some]
        have hkeep : ∀ j, j < m + 1 → f2.room.1[j]? = f.room.1[j]? := fun j hj => (ho.rooms j hj).trans (hget j hj)
        refine ⟨_, _, _, rfl, rfl, .inr ⟨rfl, ⟨ho.rel.t, ho.rel.out, ho.rel.olen, rfl, by have := ho.rel.len; show m + 1 ≤ f2.room.1.length; omega, ?_, h.hl, h.has, fun j hj => ?_, h.uq, hsm, h.dk⟩, ho.bad, by show r.Has.length ≤ _; omega, fun j hj => ho.of j (by omega), fun j hj => hkeep j (by omega), fun j h1 h2 => if hjk : j = k then hjk ▸ Nm.no hn32 hn33 else ho.nam j h1 (by omega)⟩⟩
        · show w64 (r2.Now - 1) = _
          rw [ho.rel.now, w64_id (by omega) (by omega)]; omega
        · obtain ⟨mp, q1, q2⟩ := h.lk j hj
          exact ⟨mp, (hkeep j (by omega)).trans q1, q2⟩
    | false =>
      simp only [Bool.false_eq_true, if_false]
      have okself : Ok N f r f r m k k := ⟨h, hc, by omega, fun _ _ => rfl, fun _ _ => rfl, fun j h1 h2 => by omega⟩
      have leaf : cntB (nd N k).Kind (nd N k).Kids.length = true := by
        obtain ⟨_, _, _, _, hcnt⟩ := nodeC_kids (hg k hk)
        exact hcnt
      have eta : (XScope_finder.mk f.t f.out ((f.room.1, f.room.2).1, (f.room.1, f.room.2).2)) = f := rfl
      simp only [eta]
      by_cases h4 : (nd N k).Kind = 4
      · have h4' : ((nd N k).Kind == 4) = true := by simpa using h4
        simp only [h4', if_true]
        have hlf : Fst N k = k := fst_leaf hg hk (by rw [h4] at leaf; simpa [cntB, kidsS] using leaf)
        rw [hlf]
        obtain ⟨e, f', r', a1, a2, a3, a4⟩ := decl_sim hk (Nat.le_refl _) (.inr (.inr (.inl h4))) okself h6
        simp only [a1, a2, Option.bind_some, Sim.code a3]
        exact ⟨_, _, _, rfl, rfl, a4⟩
      · have h4' : ((nd N k).Kind == 4) = false := by simpa using h4
        simp only [h4', Bool.false_eq_true, if_false]
        by_cases h12 : (nd N k).Kind = 12
        · have h12' : ((nd N k).Kind == 12) = true := by simpa using h12
          simp only [h12', if_true]
          obtain ⟨e, f2, r2, a1, a2, a3⟩ := kids (g1 := gp) (g2 := gr) (by omega) (by omega) h hc (by omega) hh (fun j _ => rfl)
          simp only [a1, a2, Option.bind_some]
          rcases a3 with a3 | ⟨rfl, ho⟩
          · have hb : (r2.Bad.Code == 0) = false := by rw [a3.2.1]; simpa using a3.1
            have he : e.Code ≠ 0 := a3.1
            simp only [hb, Bool.false_eq_true, if_false, ref1_Rooms_look_J1]
            refine ⟨e, f2, r2, by simp [he], rfl, .inl a3⟩
          · simp only [ho.bad, beq_self_eq_true, if_true, Bool.and_self, Bool.not_true, Bool.false_eq_true, if_false]
            obtain ⟨e, f', r', b1, b2, b3, b4⟩ := decl_sim hk hFk (.inr (.inr (.inr h12))) ho h6
            simp only [b1, b2, Option.bind_some, Sim.code b3, ref1_Rooms_look_J1]
            exact ⟨_, _, _, rfl, rfl, b4⟩
        · have h12' : ((nd N k).Kind == 12) = false := by simpa using h12
          simp only [h12', Bool.false_eq_true, if_false]
          by_cases h32 : (nd N k).Kind = 32
          · have h32' : ((nd N k).Kind == 32) = true := by simpa using h32
            simp only [h32', if_true, find_ok h, rfind_ok h _ hHl, Option.bind_some]
            have hkids : (nd N k).Kids = [] := by
              obtain ⟨_, _, _, _, hcnt⟩ := nodeC_kids (hg k hk)
              rw [h32] at hcnt
              simpa [cntB, kidsS] using hcnt
            have hst : Go.Ab.stk (((f.room.1, f.room.2).1, (f.room.1, f.room.2).2).1, ((f.room.1, f.room.2).1, (f.room.1, f.room.2).2).2) = some () := h.stk
            cases hd : dn N (nd N k).Text (r.Has.zip r.Room) (m + 1) with
            | none =>
              simp only [Option.getD_none, hst, Option.bind_some, cfault, rfault]
              exact ⟨_, _, _, rfl, rfl, .inl ⟨by simp, rfl, h.n, h.len⟩⟩
            | some x =>
              obtain ⟨q, rfl, hq, hqd⟩ := dn_mem h hd
              have hx : ¬ ((q : Int) < 0) := by omega
              simp only [Option.getD_some, hx, decide_false, Bool.false_eq_true, if_false, h.t, nd_idx hq, Option.bind_some, hst, cfault, rfault]
              cases hK : (nd N q).Kind == 3 with
              | true =>
                simp only [if_true]
                exact ⟨_, _, _, rfl, rfl, .inl ⟨by simp, rfl, h.n, h.len⟩⟩
              | false =>
                simp only [Bool.false_eq_true, if_false, h.setO hk, h.setR hk, Option.bind_some]
                obtain ⟨g, rfl⟩ : ∃ g, gp = g + 1 := ⟨gp - 1, by omega⟩
                have hr2 := h.setOf k (q : Int)
                have e1 : scope_finder_walk_J1 (scope_finder_all (g + 1)) (nd N k) (XScope_finder.mk ⟨N⟩ (f.out.set ((k : Int)).toNat (q : Int)) f.room) = some (⟨0, 0⟩, (XScope_finder.mk ⟨N⟩ (f.out.set k (q : Int)) f.room)) := by
                  rw [h.t] at hr2
                  rw [Int.toNat_natCast, J1_eq hr2, hkids, all_nil hr2]
                refine ⟨_, _, _, e1, rfl, .inr ⟨rfl, by rw [h.t] at hr2; exact hr2, hc, by show r.Has.length ≤ _; omega, fun j hj => ?_, fun j hj => rfl, fun j h1 h2 => ?_⟩⟩
                · show (r.Of.set k (q : Int))[j]? = _
                  rw [List.getElem?_set_ne (by rw [fst_leaf hg hk hkids] at hj; omega)]
                · obtain rfl : j = k := by rw [fst_leaf hg hk hkids] at h1; omega
                  refine ⟨fun _ => ⟨q, ?_, hq, ?_⟩, fun e => by omega⟩
                  · show (r.Of.set j (q : Int))[j]? = _
                    rw [List.getElem?_set_self (by rw [h.olen]; exact hk)]
                  · have : (nd N q).Kind ≠ 3 := by simpa using hK
                    unfold Dcl at hqd; omega
          · have h32' : ((nd N k).Kind == 32) = false := by simpa using h32
            simp only [h32', Bool.false_eq_true, if_false]
            by_cases h33 : (nd N k).Kind = 33
            · have h33' : ((nd N k).Kind == 33) = true := by simpa using h33
              obtain ⟨mp, hm1, hm2⟩ := h.lk 0 (by omega)
              have hi0 : idx (List.take f.room.2 f.room.1) 0 = some mp := by
                refine idx_get (i := 0) ?_
                rw [List.getElem?_take, if_pos (by rw [h.n]; omega)]; exact hm1
              have hss : List.set f.room.1 0 mp = f.room.1 := set_same hm1
              have hst : Go.Ab.stk (f.room.1, f.room.2) = some () := h.stk
              simp only [h33', if_true, hi0, Option.bind_some, hm2, call_ok h _ hHl, Int.toNat_zero, hss, show (0 : Int).toNat = 0 from rfl]
              -- behind the name itself: the kids
              have fin : ∀ x : Int, ((x = -1 ∧ helpB (nd N k).Text = true) ∨ ∃ q : Nat, x = (q : Int) ∧ q < N.length ∧ (nd N q).Kind = 3) → Sim N f r m (Fst N k) (k + 1) (scope_finder_walk_J1 (scope_finder_all gp) (nd N k) ⟨f.t, f.out.set k x, f.room⟩) (ref1_Rooms_look_J2 (ref1_Rooms_all gr) ⟨N⟩ (k : Int) ⟨r.Has, r.Room, r.Now, r.Bad, r.Of.set k x⟩) := by
                intro x hx
                have hr2 := h.setOf k x
                rw [J1_eq hr2]
                obtain ⟨e, f2, r2, a1, a2, a3⟩ := kids (g1 := gp) (g2 := gr) (by omega) (by omega) hr2 hc (by omega) hh (fun j hj => by show (f.out.set k x)[j]? = _; rw [List.getElem?_set_ne (by omega)])
                refine ⟨e, f2, r2, a1, by unfold ref1_Rooms_look_J2; rw [a2]; rfl, a3.imp (fun h => h) fun ⟨h1, h2⟩ => ⟨h1, h2.rel, h2.bad, by have := h2.len; omega, fun j hj => ?_, h2.rooms, fun j h3 h4 => ?_⟩⟩
                · rw [h2.of j (by omega)]
                  show (r.Of.set k x)[j]? = _
                  rw [List.getElem?_set_ne (by omega)]
                · by_cases hjk : j = k
                  · subst hjk
                    have hget : r2.Of[j]? = some x := by
                      rw [h2.of j (.inr (Nat.le_refl _))]
                      show (r.Of.set j x)[j]? = _
                      rw [List.getElem?_set_self (by rw [h.olen]; exact hk)]
                    refine ⟨fun e => by omega, fun _ => ?_⟩
                    rcases hx with ⟨rfl, hhp⟩ | ⟨q, rfl, q1, q2⟩
                    · exact .inl ⟨hget, hhp⟩
                    · exact .inr ⟨q, hget, q1, q2⟩
                  · exact h2.nam j h3 (by omega)
              have hOf : r.Of[k]? = some (-1) := by rw [← h.out]; exact hp k hFk (by omega) h33
              have hnone : (∀ x : Int, callAt N (nd N k).Text (r.Has.zip r.Room) = -1 → Sim N f r m (Fst N k) (k + 1) ((scope_helps (nd N k).Text).bind fun x16 => if (!x16) = true then (core_Fault 6 (k : Int)).bind fun x17 => some (x17, XScope_finder.mk f.t f.out (f.room.1, f.room.2)) else scope_finder_walk_J1 (scope_finder_all gp) (nd N k) (XScope_finder.mk f.t f.out (f.room.1, f.room.2)))
                  (if (if (if (decide ((-1 : Int) < 0)) = true then (nd N k).Text.toList != (ByteArray.mk #[114, 101, 97, 100]).toList else false) = true then (nd N k).Text.toList != (ByteArray.mk #[112, 114, 105, 110, 116]).toList else false) = true then (ref1_fault 6 (k : Int)).bind fun x17 => some (XTurneryref1_Rooms.mk r.Has r.Room r.Now x17 r.Of) else (idx r.Of (k : Int)).bind fun x18 => ref1_Rooms_look_J2 (ref1_Rooms_all gr) ⟨N⟩ (k : Int) (XTurneryref1_Rooms.mk r.Has r.Room r.Now r.Bad (r.Of.set ((k : Int)).toNat (-1))))) := by
                intro _ _
                unfold scope_helps
                simp only [bne, Option.bind_some, cfault, rfault, show decide ((-1 : Int) < 0) = true from rfl, if_true, h.setR hk, Int.toNat_natCast]
                cases hrd : (nd N k).Text.toList == (ByteArray.mk #[114, 101, 97, 100]).toList with
                | true =>
                  simp only [if_true, Bool.not_true, Bool.false_eq_true, if_false]
                  have := fin (-1) (.inl ⟨rfl, by unfold helpB; rw [hrd]; rfl⟩)
                  rw [set_same (l := r.Of) hOf, set_same (l := f.out) (by rw [h.out]; exact hOf)] at this
                  rw [set_same (l := r.Of) hOf]
                  exact this
                | false =>
                  cases hpr : (nd N k).Text.toList == (ByteArray.mk #[112, 114, 105, 110, 116]).toList with
                  | true =>
                    simp only [Bool.not_true, Bool.not_false, Bool.false_eq_true, if_false, if_true]
                    have := fin (-1) (.inl ⟨rfl, by unfold helpB; rw [hpr, Bool.or_true]⟩)
                    rw [set_same (l := r.Of) hOf, set_same (l := f.out) (by rw [h.out]; exact hOf)] at this
                    rw [set_same (l := r.Of) hOf]
                    exact this
                  | false =>
                    simp only [Bool.not_false, Bool.false_eq_true, if_false, if_true]
                    exact ⟨_, _, _, rfl, rfl, .inl ⟨by simp, rfl, h.n, h.len⟩⟩
              cases hlk : lk N ((0 : Nat) : Int) (nd N k).Text (r.Has.zip r.Room) with
              | none =>
                have hca : callAt N (nd N k).Text (r.Has.zip r.Room) = -1 := by
                  unfold callAt
                  rw [show lk N 0 (nd N k).Text (r.Has.zip r.Room) = none from hlk]
                simp only [Option.isSome_none, Bool.false_eq_true, if_false, Option.bind_some, hst, hca]
                exact hnone 0 hca
              | some x =>
                obtain ⟨q, j0, e1, e2, e3⟩ := h.has _ (lk_mem hlk).1
                simp only [Prod.mk.injEq] at e1
                obtain ⟨rfl, _⟩ := e1
                simp only [Option.isSome_some, if_true, Option.getD_some, h.t, nd_idx e2, Option.bind_some, hst]
                by_cases hK : (nd N q).Kind = 3
                · have hca : callAt N (nd N k).Text (r.Has.zip r.Room) = (q : Int) := by
                    unfold callAt
                    rw [show lk N 0 (nd N k).Text (r.Has.zip r.Room) = some (q : Int) from hlk]
                    simp [hK]
                  have hK' : ((nd N q).Kind == 3) = true := by simpa using hK
                  have hq0 : decide ((q : Int) < 0) = false := by simp
                  simp only [hK', if_true, hca, hq0, Bool.false_eq_true, if_false, h.setO hk, h.setR hk, Option.bind_some, Int.toNat_natCast]
                  have := fin (q : Int) (.inr ⟨q, rfl, e2, hK⟩)
                  rw [h.t] at this
                  exact this
                · have hca : callAt N (nd N k).Text (r.Has.zip r.Room) = -1 := by
                    unfold callAt
                    rw [show lk N 0 (nd N k).Text (r.Has.zip r.Room) = some (q : Int) from hlk]
                    simp [hK]
                  have hK' : ((nd N q).Kind == 3) = false := by simpa using hK
                  simp only [hK', Bool.false_eq_true, if_false, hca]
                  have := hnone 0 hca
                  rw [h.t] at this
                  exact this
            · have h33' : ((nd N k).Kind == 33) = false := by simpa using h33
              simp only [h33', Bool.false_eq_true, if_false]
              rw [J1_eq h]
              obtain ⟨e, f2, r2, a1, a2, a3⟩ := kids (g1 := gp) (g2 := gr) (by omega) (by omega) h hc (by omega) hh (fun j _ => rfl)
              exact ⟨e, f2, r2, a1, by unfold ref1_Rooms_look_J2; rw [a2]; rfl, a3.imp (fun h => h) fun ⟨h1, h2⟩ => ⟨h1, h2.rel, h2.bad, by have := h2.len; omega, fun j hj => h2.of j (by omega), h2.rooms, fun j h3 h4 => if hjk : j = k then hjk ▸ Nm.no h32 h33 else h2.nam j h3 (by omega)⟩⟩
end
end Go.Ab
namespace Go.Ab
open Go Go.Proofs
theorem kidsGo_ok {α : Type} {nodes : List α} : ∀ {l : List Int} {j : Nat}, (∀ x ∈ l, ∃ n, idx nodes x = some n) → ∃ ys, kidsGo nodes j l = some ys
  | [], j, _ => ⟨[], rfl⟩
  | x :: l, j, h => by
    obtain ⟨n, hn⟩ := h x (List.mem_cons_self ..)
    obtain ⟨ys, hy⟩ := kidsGo_ok (l := l) (j := j + 1) fun y hy => h y (List.mem_cons_of_mem _ hy)
    exact ⟨_, by simp only [kidsGo, hn, Option.bind_some, hy]; rfl⟩
theorem repl_next (n i : Nat) : List.replicate i (-1 : Int) ++ [-1] = List.replicate (i + 1) (-1) := by
  rw [List.replicate_succ']
section
variable {N : Ns}
theorem out_loop (f : XScope_finder) (x4 : List Int) (hl : x4.length = f.out.length) (hb : x4.length ≤ 600) : Loop (fun s : XScope_finder × Int => scope_Names_L1 x4 s.1 s.2) (f, 0) = some ⟨f.t, List.replicate x4.length (-1), f.room⟩ := by
  have hset : ∀ i, i < x4.length → (List.replicate i (-1 : Int) ++ f.out.drop i).set i (-1) = List.replicate (i + 1) (-1) ++ f.out.drop (i + 1) := fun i hi => by
    rw [List.set_append_right _ _ (by simp)]
    simp only [List.length_replicate, Nat.sub_self]
    rw [List.drop_eq_getElem_cons (by omega), List.set_cons_zero, ← repl_next 0 i, List.append_assoc]
    rfl
  refine Loop_traj (step := fun s : XScope_finder × Int => scope_Names_L1 x4 s.1 s.2) (fun i => ((⟨f.t, List.replicate i (-1) ++ f.out.drop i, f.room⟩ : XScope_finder), (i : Int))) x4.length _ (by simp) (fun i hi => ?_) ?_
  · have hx : idx (List.replicate i (-1 : Int) ++ f.out.drop i) (i : Int) = some ((List.replicate i (-1 : Int) ++ f.out.drop i)[i]'(by simp; omega)) := idx_lt (by simp; omega)
    simp only [scope_Names_L1, lt_dec hi, if_true, hx, Option.bind_some, Int.toNat_natCast, hset i hi, w64_succ (show i < 9223372036854775807 by omega)]
  · simp only [scope_Names_L1, lt_dec', Bool.false_eq_true, if_false]
    rw [List.drop_of_length_le (by omega), List.append_nil]
theorem of_loop (hb : N.length ≤ 600) : Loop (fun s : XTurneryref1_Rooms × Int => ref1_Names_L1 ⟨N⟩ s.1 s.2) (⟨[], [], 0, ⟨0, 0⟩, []⟩, 0) = some ⟨[], [], 0, ⟨0, 0⟩, List.replicate N.length (-1)⟩ := by
  refine Loop_traj (step := fun s : XTurneryref1_Rooms × Int => ref1_Names_L1 ⟨N⟩ s.1 s.2) (fun i => ((⟨[], [], 0, ⟨0, 0⟩, List.replicate i (-1)⟩ : XTurneryref1_Rooms), (i : Int))) N.length _ rfl (fun i hi => ?_) ?_
  · simp only [ref1_Names_L1, lt_dec hi, if_true]
    rw [app_ok (by simp; omega), Option.bind_some, w64_succ (show i < 9223372036854775807 by omega), repl_next 0 i]
  · simp only [ref1_Names_L1, lt_dec', Bool.false_eq_true, if_false]
theorem helps_eq (s : ByteArray) : scope_helps s = some (if (s.toList == (ByteArray.mk #[114, 101, 97, 100]).toList) then true else (s.toList == (ByteArray.mk #[112, 114, 105, 110, 116]).toList)) := rfl
theorem top_ok {root : Nat} (hroot : root + 1 = N.length) (hg : GoodTo N N.length) (h6 : N.length ≤ 600) (hk1 : (nd N root).Kind = 1) {ys : List (Int × XApi_Node)} (hys : kidsGo N 0 (nd N root).Kids = some ys) :
    ∀ d t (f : XScope_finder) (r : XTurneryref1_Rooms), t + d = (nd N root).Kids.length → Rel N f r 0 → r.Bad.Code = 0 → r.Has.length = t → Pre N f 0 N.length →
      ∃ x y, RangeL (fun (y15 : Int × XApi_Node) (s : XScope_finder) => scope_Names_R2 ⟨N⟩ y15 s) (ys.drop t) f = some x ∧ Loop (fun s : XTurneryref1_Rooms × Int => ref1_Names_L2 ⟨N⟩ (nd N root) s.1 s.2) (r, (t : Int)) = some y ∧
        ((∃ e a i f', x = .ret (a, e, i, f') ∧ y = .ret ([], e) ∧ e.Code ≠ 0) ∨ ∃ f' r', x = .go f' ∧ y = .brk r' ∧ Rel N f' r' 0 ∧ r'.Bad.Code = 0 ∧ r'.Has.length = (nd N root).Kids.length ∧ Pre N f' 0 N.length) := by
  obtain ⟨P, hP1, hP0, hPt⟩ := good_pos hg (show root < N.length by omega)
  obtain ⟨gl, gg⟩ := kidsGo_get hys
  have hkl := kids_len hg (show root < N.length by omega)
  have hrt : idx N (w64 ((N.length : Int) - 1)) = some (nd N root) := by
    rw [w64_id (by omega) (by omega), show (N.length : Int) - 1 = (root : Int) by omega, nd_idx (by omega)]
  intro d
  induction d with
  | zero =>
    intro t f r ht h hb hl hp
    simp only [Nat.add_zero] at ht; subst ht
    refine ⟨.go f, .brk r, ?_, ?_, .inr ⟨f, r, rfl, rfl, h, hb, hl, hp⟩⟩
    · rw [List.drop_of_length_le (by omega)]; rfl
    · have : ref1_Names_L2 ⟨N⟩ (nd N root) r ((nd N root).Kids.length : Int) = some (.out (.brk r)) := by
        simp only [ref1_Names_L2, lt_dec', Bool.false_eq_true, if_false]
      rw [Loop_eq, this]; rfl
  | succ d ih =>
    intro t f r ht h hb hl hp
    have htl : t < (nd N root).Kids.length := by omega
    obtain ⟨q1, q2, q3, q4, q5⟩ := hPt t htl
    have hc : P (t + 1) - 1 < N.length := by omega
    generalize hcc : P (t + 1) - 1 = c at *
    have hki : (nd N root).Kids[t]? = some (c : Int) := by
      rw [← q1]; simp [htl]
    obtain ⟨n, g1, g2⟩ := gg t _ hki
    rw [nd_idx hc] at g1
    simp only [Option.some.injEq] at g1; subst g1
    rw [Nat.zero_add] at g2
    have hdrop : ys.drop t = ((t : Int), nd N c) :: ys.drop (t + 1) := by
      rw [List.drop_eq_getElem_cons (by omega)]
      congr 1
      rw [List.getElem?_eq_getElem (by omega)] at g2
      exact Option.some.inj g2
    have hkind : (nd N c).Kind = 2 ∨ (nd N c).Kind = 3 := by
      rw [hk1] at q5
      simpa [goesS] using q5
    rw [hdrop, RangeL]
    cases hh : (if ((nd N c).Text.toList == (ByteArray.mk #[114, 101, 97, 100]).toList) then true else ((nd N c).Text.toList == (ByteArray.mk #[112, 114, 105, 110, 116]).toList)) with
    | true =>
      refine ⟨.ret (⟨N⟩, ⟨12, c⟩, (w64 ((N.length : Int) - 1)), f), .ret ([], ⟨12, c⟩), ?_, ?_, .inl ⟨_, _, _, _, rfl, rfl, by simp⟩⟩
      · simp only [scope_Names_R2, hrt, Option.bind_some, idx_get hki, helps_eq, hh, if_true, cfault]
      · have : ref1_Names_L2 ⟨N⟩ (nd N root) r (t : Int) = some (.out (.ret ([], ⟨12, c⟩))) := by
          simp only [ref1_Names_L2, lt_dec htl, if_true, idx_get hki, Option.bind_some, nd_idx hc, hh, rfault]
        rw [Loop_eq, this]; rfl
    | false =>
      obtain ⟨e, f', r', a1, a2, a3⟩ := declare_ok h hb hc (by unfold Dcl; omega) (by omega)
      rcases a3 with ⟨rfl, a3, _, _⟩ | ⟨rfl, a3, a4, a5, a6, a7⟩
      · refine ⟨.ret (⟨N⟩, ⟨7, c⟩, (w64 ((N.length : Int) - 1)), f'), .ret ([], ⟨7, c⟩), ?_, ?_, .inl ⟨_, _, _, _, rfl, rfl, by simp⟩⟩
        · simp only [scope_Names_R2, hrt, Option.bind_some, idx_get hki, helps_eq, hh, Bool.false_eq_true, if_false, a1, cfault]; rfl
        · have : ref1_Names_L2 ⟨N⟩ (nd N root) r (t : Int) = some (.out (.ret ([], ⟨7, c⟩))) := by
            simp only [ref1_Names_L2, lt_dec htl, if_true, idx_get hki, Option.bind_some, nd_idx hc, hh, Bool.false_eq_true, if_false, a2, a3]; rfl
          rw [Loop_eq, this]; rfl
      · have hb' : r'.Bad.Code = 0 := by rw [a3]; exact hb
        obtain ⟨x, y, b1, b2, b3⟩ := ih (t + 1) f' r' (by omega) a4 hb' (by omega) (fun j h1 h2 h3 => by
          rw [a4.out, a6]
          by_cases e : j = c
          · subst e; rw [h3] at hkind; omega
          · rw [List.getElem?_set_ne (by omega), ← h.out]; exact hp j h1 h2 h3)
        refine ⟨x, y, ?_, ?_, b3⟩
        · have : scope_Names_R2 ⟨N⟩ ((t : Int), nd N c) f = some (.go f') := by
            simp only [scope_Names_R2, hrt, Option.bind_some, idx_get hki, helps_eq, hh, Bool.false_eq_true, if_false, a1]; rfl
          simp only [this, Option.bind_some]; exact b1
        · have : ref1_Names_L2 ⟨N⟩ (nd N root) r (t : Int) = some (.next (r', ((t + 1 : Nat) : Int))) := by
            simp only [ref1_Names_L2, lt_dec htl, if_true, idx_get hki, Option.bind_some, nd_idx hc, hh, Bool.false_eq_true, if_false, a2, hb', bne_self_eq_false, w64_succ (show t < 9223372036854775807 by omega)]
          rw [Loop_eq, this]; exact b2
theorem names_ok (hN : TrOk N) (hK : TrKids N) {fu : Nat} (hf : 3 * N.length ≤ fu) : ∃ l e, scope_Names fu ⟨N⟩ = some (l, e) ∧ ref1_Names fu ⟨N⟩ = some (l, e) ∧ l.length ≤ N.length ∧ (e.Code = 0 → e = ⟨0, 0⟩ ∧ Whole N ∧ (nd N (N.length - 1)).Kind = 1 ∧ l.length = N.length ∧ ∀ j, j < N.length → Nm N l j) := by
  obtain ⟨r, h1, h2, h3, h4⟩ := tree_check hN
  have h5 := h4 hK fu (by omega)
  unfold scope_Names ref1_Names
  rw [h1, h5, Option.bind_some, Option.bind_some]
  by_cases hc : r.Code = 0
  · obtain ⟨w1, w6, hg, w3, w4⟩ := h2.1 hc
    obtain rfl := h3 hc
    obtain ⟨root, hroot⟩ : ∃ root, root + 1 = N.length := ⟨N.length - 1, by omega⟩
    have hrN : root < N.length := by omega
    have hrt : idx N (w64 ((N.length : Int) - 1)) = some (nd N root) := by
      rw [w64_id (by omega) (by omega), show (N.length : Int) - 1 = (root : Int) by omega, nd_idx (by omega)]
    have hw : w64 ((N.length : Int) - 1) = (root : Int) := by rw [w64_id (by omega) (by omega)]; omega
    simp only [beq_self_eq_true, Bool.and_self, Bool.not_true, Bool.false_eq_true, if_false, bne_self_eq_false, hrt, Option.bind_some]
    by_cases hk1 : (nd N root).Kind = 1
    · have hk1' : ((nd N root).Kind != 1) = false := by simpa using hk1
      simp only [hk1', Bool.false_eq_true, if_false]
      have hkl := kids_len hg hrN
      obtain ⟨ys, hys⟩ := kidsGo_ok (nodes := N) (l := (nd N root).Kids) (j := 0) fun x hx => by
        obtain ⟨t, ht, rfl⟩ := List.mem_iff_getElem.1 hx
        obtain ⟨_, _, _, _, _, _, hkk⟩ := good_facts hg root hrN
        obtain ⟨c, c1, c2, c3⟩ := hkk t ht
        refine ⟨nd N c, ?_⟩
        rw [show (nd N root).Kids[t] = (c : Int) by rw [← c1]; simp [ht], nd_idx (by omega)]
      have hmk : mks (N.length : Int) (0 : Int) = some (List.replicate N.length 0) := by
        unfold mks; rw [if_pos ⟨by omega, by omega⟩]; simp
      have hko : kidsOf XApi_Node.Kids N (root : Int) = some ys := by
        unfold kidsOf; rw [nd_idx hrN, Option.bind_some, if_pos (by omega)]; exact hys
      have hast : ast_Kids ⟨N⟩ (w64 ((N.length : Int) - 1)) = some (⟨N⟩, (root : Int)) := by rw [hw]; rfl
      rw [hmk, Option.bind_some, out_loop _ _ (by simp) (by simp; omega), Option.bind_some, hast, Option.bind_some, of_loop (by omega), Option.bind_some]
      simp only [hko, Option.bind_some, List.length_replicate]
      let f0 : XScope_finder := ⟨⟨N⟩, List.replicate N.length (-1), ([([] : List (ByteArray × Int))], [([] : List (ByteArray × Int))].length)⟩
      let r0 : XTurneryref1_Rooms := ⟨[], [], 0, ⟨0, 0⟩, List.replicate N.length (-1)⟩
      have hrel : Rel N f0 r0 0 := ⟨rfl, rfl, by simp [r0], rfl, by simp [f0], rfl, rfl, fun p hp => by simp [r0] at hp, fun j hj => ⟨[], by
        obtain rfl : j = 0 := by omega
        rfl, fun s => rfl⟩, List.Pairwise.nil, by omega, fun p hp => by simp [r0] at hp⟩
      obtain ⟨x, y, a1, a2, a3⟩ := top_ok hroot hg w6 hk1 hys (nd N root).Kids.length 0 f0 r0 (by omega) hrel rfl rfl (fun j _ hj _ => by
        show (List.replicate N.length (-1 : Int))[j]? = some (-1)
        rw [List.getElem?_replicate, if_pos hj])
      have a1' : RangeL (fun (y15 : Int × XApi_Node) (s : XScope_finder) => scope_Names_R2 ⟨N⟩ y15 s) ys f0 = some x := a1
      have a2' : Loop (fun s : XTurneryref1_Rooms × Int => ref1_Names_L2 ⟨N⟩ (nd N root) s.1 s.2) (r0, 0) = some y := a2
      rw [a1', a2', Option.bind_some, Option.bind_some]
      rcases a3 with ⟨e, _, _, f', rfl, rfl, hec⟩ | ⟨f', r', rfl, rfl, b1, b2, b3, b4⟩
      · exact ⟨_, _, rfl, rfl, by simp, fun h => absurd h hec⟩
      · simp only [Rg.on, Br.go, hrt, Option.bind_some, hw]
        obtain ⟨e, f2, r2, c1, c2, c3⟩ := all_ok (m := 0) (fp := fu) (fr := fu) hg hrN w6 (fun c hc => walk_ok hg w6 c (by omega)) (by omega) (by omega) b1 b2 (by omega) (by omega) (b4.mono (Nat.zero_le _) (by omega) fun _ _ _ => rfl)
        rw [c1, c2, Option.bind_some, Option.bind_some]
        rcases c3 with c3 | ⟨rfl, c3⟩
        · have he : e.Code ≠ 0 := c3.1
          have he2 : (r2.Bad.Code != 0) = true := by rw [c3.2.1]; simpa using he
          rw [he2, c3.2.1]
          refine ⟨[], e, by simp [he], rfl, by simp, fun h => absurd h he⟩
        · have he2 : (r2.Bad.Code != 0) = false := by simpa using c3.bad
          rw [he2]
          have hroot0 : Fst N root = 0 := by
            unfold Fst
            rw [show root = N.length - 1 by omega, w3]; omega
          refine ⟨r2.Of, ⟨0, 0⟩, ?_, rfl, by rw [c3.rel.olen]; exact Nat.le_refl _, fun _ => ⟨rfl, h2.1 rfl, by rw [show N.length - 1 = root by omega]; exact hk1, c3.rel.olen, fun j hj => ?_⟩⟩
          · simp only [beq_self_eq_true, Bool.and_self, Bool.not_true, Bool.false_eq_true, if_false]
            rw [c3.rel.out]
          · by_cases hjr : j = root
            · subst hjr; exact Nm.no (by omega) (by omega)
            · exact c3.nam j (by omega) (by omega)
    · have hk1' : ((nd N root).Kind != 1) = true := by simpa using hk1
      simp only [hk1', if_true, cfault, rfault, Option.bind_some]
      exact ⟨_, _, rfl, rfl, by simp, fun h => absurd h (by simp)⟩
  · have hc' : (r.Code != 0) = true := by simpa using hc
    rw [hc']
    exact ⟨[], r, by simp [hc], rfl, by simp, fun h => absurd h hc⟩
theorem sints_refl {a : List Int} (ha : a.length ≤ 1000000) : same_Ints a a = some true := by
  unfold same_Ints
  rw [if_neg (by simp)]
  have : Loop (fun s : Int => same_Ints_L1 a a s) 0 = some (.brk ()) := by
    refine Loop_traj (fun i => (i : Int)) a.length _ rfl (fun i hi => ?_) ?_
    · simp only [same_Ints_L1, lt_dec hi, if_true, idx_lt hi, Option.bind_some, bne_self_eq_false, Bool.false_eq_true, if_false, w64_succ (show i < 9223372036854775807 by omega)]
    · simp only [same_Ints_L1, lt_dec', Bool.false_eq_true, if_false]
  rw [this]; rfl
end
end Go.Ab
namespace Go.Ab
open Go Go.Proofs
theorem tr_ok {B : Nat} (hB : B ≤ maxLen) {t : XApi_Tree} (h : ok_cXApi_Tree B t) : TrOk t.Nodes := by
  obtain ⟨h3, h4⟩ := h
  exact ⟨Nat.le_trans h3 hB, fun n hn => ⟨Nat.le_trans (h4 n hn).2.2.2.2.1.1 hB, Nat.le_trans (h4 n hn).2.1 hB⟩⟩
theorem tr_kids {B : Nat} (hB : B ≤ 1048576) {t : XApi_Tree} (h : ok_cXApi_Tree B t) : TrKids t.Nodes := fun n hn => by
  have := (h.2 n hn).2.2.2.2.1.1
  omega
end Go.Ab
