/-
  WHAT AN OPERATION LOOKS AT.
-/
import Derived.Test.YtbhpblokoecoaaaAbReg2
namespace Go.Ab
open Go
variable {L L' : Id → Option (Option Rows)}
theorem fresh_congr : ∀ {l : List (Id × Option Rows)}, (∀ x ∈ l, L' x.1 = L x.1) → fresh L' l = fresh L l
  | [], _ => rfl
  | x :: l, h => by
    have ih := fresh_congr fun y hy => h y (List.mem_cons_of_mem _ hy)
    unfold fresh at ih ⊢
    simp only [List.all_cons, ih, h x (List.mem_cons_self ..)]
theorem rowsOf_frame {x : AV} {r : Rows × List Id} (h : rowsOf L x = some r) (hh : ∀ id ∈ r.2, L' id = L id) : rowsOf L' x = some r := by
  cases x <;> simp only [rowsOf] at h ⊢ <;> try exact h
  rename_i id off len
  split at h
  · rename_i rs hid
    split at h
    · rename_i hc
      simp only [Option.some.injEq] at h; subst h
      rw [hh id (by simp), hid]
      simp only [hc, if_true]
    · cases h
  · cases h
def FrS (p p' : (AV → Option (AV × List Id))) (L L' : Id → Option (Option Rows)) : Prop := ∀ a x, p a = some x → (∀ id ∈ x.2, L' id = L id) → p' a = some x
theorem foldC_frame {p p' : AV → Option (AV × List Id)} (hp : FrS p p' L L') : ∀ {cs : List AV} {x}, foldC p cs = some x → (∀ id ∈ x.2, L' id = L id) → foldC p' cs = some x
  | [], x, h, _ => h
  | c :: cs, x, h, hh => by
    simp only [foldC, Option.bind_eq_some_iff, Option.map_eq_some_iff] at h ⊢
    obtain ⟨y, hy, z, hz, rfl⟩ := h
    exact ⟨y, hp _ _ hy fun id hid => hh id (List.mem_append.2 (.inl hid)), z, foldC_frame hp hz fun id hid => hh id (List.mem_append.2 (.inr hid)), rfl⟩
theorem bwC_frame {p p' : AV → Option (AV × List Id)} (hp : FrS p p' L L') {cs : List AV} {x} (h : bwC p cs = some x) (hh : ∀ id ∈ x.2, L' id = L id) : bwC p' cs = some x := by
  unfold bwC at h ⊢
  split at h
  · rename_i hc; simpa [hc] using h
  · rename_i hc; simp only [hc]; exact foldC_frame hp h hh
theorem foldR_frame {p p' : AV → Option (AV × List Id)} (hp : FrS p p' L L') : ∀ {rs : Rows} {x}, foldR (bwC p) rs = some x → (∀ id ∈ x.2, L' id = L id) → foldR (bwC p') rs = some x
  | [], x, h, _ => h
  | c :: cs, x, h, hh => by
    simp only [foldR, Option.bind_eq_some_iff, Option.map_eq_some_iff] at h ⊢
    obtain ⟨y, hy, z, hz, rfl⟩ := h
    exact ⟨y, bwC_frame hp hy fun id hid => hh id (List.mem_append.2 (.inl hid)), z, foldR_frame hp hz fun id hid => hh id (List.mem_append.2 (.inr hid)), rfl⟩
theorem bwR_frame {p p' : AV → Option (AV × List Id)} (hp : FrS p p' L L') {rs : Rows} {x} (h : bwR p rs = some x) (hh : ∀ id ∈ x.2, L' id = L id) : bwR p' rs = some x := by
  unfold bwR at h ⊢
  split at h
  · rename_i hc; simpa [hc] using h
  · rename_i hc; simp only [hc]; exact foldR_frame hp h hh
theorem bw_frame : ∀ n, FrS (bw L n) (bw L' n) L L'
  | 0 => fun a x h => by simp [bw] at h
  | n + 1 => fun a x h hh => by
    have ih := bw_frame n
    cases a with
    | rs id off len =>
      simp only [bw] at h ⊢
      split at h
      · rename_i rs hid
        split at h
        · rename_i hc
          simp only [Option.map_eq_some_iff] at h
          obtain ⟨y, hy, rfl⟩ := h
          rw [hh id (List.mem_cons_self ..), hid]
          simp only [hc, if_true, bwR_frame ih hy fun id hid => hh id (List.mem_cons_of_mem _ hid), Option.map_some]
        · cases h
      · cases h
    | mp id row off =>
      simp only [bw] at h ⊢
      split at h
      · rename_i rs hid
        split at h
        · rename_i r hrow
          split at h
          · rename_i hoff
            simp only [Option.map_eq_some_iff] at h
            obtain ⟨y, hy, rfl⟩ := h
            rw [hh id (List.mem_cons_self ..), hid]
            simp only [hrow, hoff, if_true, bwC_frame ih hy fun id hid => hh id (List.mem_cons_of_mem _ hid), Option.map_some]
          · cases h
        · cases h
      · cases h
    | agg cs =>
      simp only [bw, Option.map_eq_some_iff] at h ⊢
      obtain ⟨y, hy, rfl⟩ := h
      exact ⟨y, bwC_frame ih hy hh, rfl⟩
    | tup cs =>
      simp only [bw, Option.map_eq_some_iff] at h ⊢
      obtain ⟨y, hy, rfl⟩ := h
      exact ⟨y, bwC_frame ih hy hh, rfl⟩
    | fn k a b =>
      simp only [bw, Option.map_eq_some_iff, Option.bind_eq_some_iff] at h ⊢
      obtain ⟨y, hy, z, hz, rfl⟩ := h
      exact ⟨y, bwC_frame ih hy fun id hid => hh id (List.mem_append.2 (.inl hid)), z, bwC_frame ih hz fun id hid => hh id (List.mem_append.2 (.inr hid)), rfl⟩
    | own rs =>
      simp only [bw, Option.map_eq_some_iff] at h ⊢
      obtain ⟨y, hy, rfl⟩ := h
      exact ⟨y, bwR_frame ih hy hh, rfl⟩
    | ownp cs =>
      simp only [bw, Option.map_eq_some_iff] at h ⊢
      obtain ⟨y, hy, rfl⟩ := h
      exact ⟨y, bwC_frame ih hy hh, rfl⟩
    | snil => simpa only [bw] using h
    | gv g y => simpa only [bw] using h
    | val u => simpa only [bw] using h
    | nn => simpa only [bw] using h
    | mr id =>
      simp only [bw] at h ⊢
      split at h
      · rename_i rs hid
        simp only [Option.some.injEq] at h; subst h
        rw [hh id (List.mem_cons_self ..), hid]
      · cases h
    | om rs => simpa only [bw] using h
    | im rs => simpa only [bw] using h
    | sl rows => simpa only [bw] using h
    | vp cells => simpa only [bw] using h
    | junk => simpa only [bw] using h
theorem pkC_frame {p p' : AV → Option (AV × List Id)} (hp : FrS p p' L L') {cs : List AV} {x} (h : pkC p cs = some x) (hh : ∀ id ∈ x.2, L' id = L id) : pkC p' cs = some x := by
  unfold pkC at h ⊢
  split at h
  · rename_i hc; simpa [hc] using h
  · rename_i hc; simp only [hc]; exact foldC_frame hp h hh
theorem pfoldR_frame {p p' : AV → Option (AV × List Id)} (hp : FrS p p' L L') : ∀ {rs : Rows} {x}, foldR (pkC p) rs = some x → (∀ id ∈ x.2, L' id = L id) → foldR (pkC p') rs = some x
  | [], x, h, _ => h
  | c :: cs, x, h, hh => by
    simp only [foldR, Option.bind_eq_some_iff, Option.map_eq_some_iff] at h ⊢
    obtain ⟨y, hy, z, hz, rfl⟩ := h
    exact ⟨y, pkC_frame hp hy fun id hid => hh id (List.mem_append.2 (.inl hid)), z, pfoldR_frame hp hz fun id hid => hh id (List.mem_append.2 (.inr hid)), rfl⟩
theorem pkR_frame {p p' : AV → Option (AV × List Id)} (hp : FrS p p' L L') {rs : Rows} {x} (h : pkR p rs = some x) (hh : ∀ id ∈ x.2, L' id = L id) : pkR p' rs = some x := by
  unfold pkR at h ⊢
  split at h
  · rename_i hc; simpa [hc] using h
  · rename_i hc; simp only [hc]; exact pfoldR_frame hp h hh
theorem pk_frame : ∀ n, FrS (pk L n) (pk L' n) L L'
  | 0 => fun a x h => by simp [pk] at h
  | n + 1 => fun a x h hh => by
    have ih := pk_frame n
    cases a with
    | rs id off len =>
      simp only [pk] at h ⊢
      split at h
      · rename_i rs hid
        split at h
        · rename_i hc
          simp only [Option.map_eq_some_iff] at h
          obtain ⟨y, hy, rfl⟩ := h
          rw [hh id (List.mem_cons_self ..), hid]
          simp only [hc]
          rw [pkR_frame ih (by simpa using hy) fun id hid => hh id (List.mem_cons_of_mem _ hid)]
          rfl
        · cases h
      · cases h
    | mp id row off =>
      simp only [pk] at h ⊢
      split at h
      · rename_i cs hid
        split at h
        · rename_i hc
          simp only [Option.map_eq_some_iff] at h
          obtain ⟨y, hy, rfl⟩ := h
          rw [hh id (List.mem_cons_self ..), hid]
          simp only [hc]
          rw [pkC_frame ih hy fun id hid => hh id (List.mem_cons_of_mem _ hid)]
          rfl
        · cases h
      · cases h
    | agg cs =>
      simp only [pk, Option.map_eq_some_iff] at h ⊢
      obtain ⟨y, hy, rfl⟩ := h
      exact ⟨y, pkC_frame ih hy hh, rfl⟩
    | tup cs =>
      simp only [pk, Option.map_eq_some_iff] at h ⊢
      obtain ⟨y, hy, rfl⟩ := h
      exact ⟨y, pkC_frame ih hy hh, rfl⟩
    | fn k a b => simpa only [pk] using h
    | own rs => simpa only [pk] using h
    | ownp cs => simpa only [pk] using h
    | snil => simpa only [pk] using h
    | gv g y => simpa only [pk] using h
    | val u => simpa only [pk] using h
    | nn => simpa only [pk] using h
    | mr id =>
      simp only [pk] at h ⊢
      split at h
      · rename_i rs hid
        simp only [Option.some.injEq] at h; subst h
        rw [hh id (List.mem_cons_self ..), hid]
      · cases h
    | om rs => simpa only [pk] using h
    | im rs => simpa only [pk] using h
    | sl rows => simpa only [pk] using h
    | vp cells => simpa only [pk] using h
    | junk => simpa only [pk] using h
theorem put_rd (o : Oper) (v : AV) (rd : List Id) (wr : List (Id × Option Rows)) : (put o v rd wr).rd = rd := rfl
theorem put_wr (o : Oper) (v : AV) (rd : List Id) (wr : List (Id × Option Rows)) : (put o v rd wr).wr = wr := rfl
section
variable {C : Cx} {f : FuncId} {call : FuncId → List AV → Option (AV × List AV)} {S S' : St} {o : Oper} {e : Eff}
def Agree (S S' : St) (e : Eff) : Prop := ∀ id, (id ∈ e.rd ∨ ∃ x ∈ e.wr, x.1 = id) → S'.h id = S.h id
theorem fr_alloc {t : TypeId} (he : evAlloc C f S o t = some e) (hh : Agree S S' e) : evAlloc C f S' o t = some e := by
  unfold evAlloc at he ⊢
  split at he
  · rename_i cs d h1 h2
    split at he
    · simp only [Option.some.injEq] at he; subst he
      rename_i hf
      try rw [h1, h2]
      simp only [hh [d] (.inr ⟨_, List.mem_cons_self .., rfl⟩), hf, if_true]
    · cases he
  · cases he
theorem fr_box {t : TypeId} {x : AV} (he : evBox C f S o t x = some e) (hh : Agree S S' e) : evBox C f S' o t x = some e := by
  unfold evBox at he ⊢
  split at he
  · rename_i b d h1 h2
    split at he
    · rename_i cs hcs
      split at he
      · rename_i hz
        rw [if_pos hz]; exact he
      · rename_i hz
        rw [if_neg hz]
        split at he
        · rename_i hf
          simp only [Option.some.injEq] at he; subst he
          rw [hh [d] (.inr ⟨_, List.mem_cons_self .., rfl⟩), if_pos hf]
        · cases he
    · cases he
  · cases he
theorem fr_buildSlice0 {t : TypeId} {n : Nat} {ps : List (Nat × AV)} (he : evBuildSlice0 C f S o t n ps = some e) (hh : Agree S S' e) : evBuildSlice0 C f S' o t n ps = some e := by
  unfold evBuildSlice0 at he ⊢
  split at he
  · rename_i el d h1 h2
    split at he
    · rename_i z b k hz hb hk
      split at he
      · rename_i hc
        try rw [if_pos hc]
        split at he
        · rename_i rows hr
          try rw [hr]
          split at he
          · rename_i hfz
            rw [if_pos hfz]; exact he
          · rename_i hfz
            rw [if_neg hfz]
            split at he
            · rename_i hf
              simp only [Option.some.injEq] at he; subst he
              rw [hh [d] (.inr ⟨_, List.mem_cons_self .., rfl⟩), if_pos hf]
            · cases he
        · cases he
      · cases he
    · cases he
  · cases he
theorem fr_buildSlice {t : TypeId} {n : Nat} {ps : List (Nat × AV)} (he : evBuildSlice C f S o t n ps = some e) (hh : Agree S S' e) : evBuildSlice C f S' o t n ps = some e := by
  unfold evBuildSlice at he ⊢
  split at he
  · rename_i hc
    rw [if_pos hc]
    unfold evBuildF at he ⊢
    split at he
    · rename_i rows d h1 h2
      split at he
      · rename_i rows' ids hp
        split at he
        · rename_i hn
          simp only [Option.some.injEq] at he; subst he
          have : pkR (pk S'.h 8) rows = some (rows', ids) := pkR_frame (pk_frame 8) hp fun id hid => hh id (.inl hid)
          simp only [h1, h2, this, hn, if_true]
        · cases he
      · cases he
    · cases he
  · rename_i hc
    rw [if_neg hc]
    exact fr_buildSlice0 he hh
theorem fr_make {t : TypeId} {x y : AV} (he : evMake C S o t x y = some e) (hh : Agree S S' e) : evMake C S' o t x y = some e := by
  unfold evMake at he ⊢
  split at he
  · rename_i el d l c h1 h2 h3 h4
    split at he
    · rename_i z i hz hi
      split at he
      · rename_i hc
        simp only [Option.some.injEq] at he; subst he
        try rw [h1, h2, h3, h4]
        try simp only [hz, hi]
        rw [hh [d] (.inr ⟨_, List.mem_cons_self .., rfl⟩), if_pos hc]
      · cases he
    · cases he
  · cases he
theorem fr_makeMap {t : TypeId} {r : Option Operand} (he : evMakeMap C S o t r = some e) (hh : Agree S S' e) : evMakeMap C S' o t r = some e := by
  unfold evMakeMap at he ⊢
  split at he
  · rename_i d h1 h2
    split at he
    · rename_i hc
      simp only [Option.some.injEq] at he; subst he
      try rw [h1, h2]
      try simp only
      rw [hh [d] (.inr ⟨_, List.mem_cons_self .., rfl⟩), if_pos hc]
    · cases he
  · cases he
theorem fr_lookup {t : TypeId} {x k : AV} {ok : Bool} (he : evLookup C S o t x k ok = some e) (hh : Agree S S' e) : evLookup C S' o t x k ok = some e := by
  unfold evLookup at he ⊢
  split at he
  · rename_i kind z rows ids kv h1 h2
    obtain ⟨r, hf, rfl⟩ := Option.map_eq_some_iff.1 he
    have e2 : mapRows S'.h x = some (rows, ids) := by
      unfold mapRows at h2 ⊢
      split at h2
      · rename_i id
        split at h2
        · rename_i rows' hid
          simp only [Option.some.injEq, Prod.mk.injEq] at h2
          obtain ⟨rfl, rfl⟩ := h2
          rw [hh id (.inl (by rw [put_rd]; exact List.mem_cons_self ..)), hid]
        · cases h2
      · exact h2
      · exact h2
      · cases h2
    rw [h1, e2]
    simp only [hf, Option.map_some]
  · cases he
theorem fr_mapUpdate {t : TypeId} {x k v : AV} (he : evMapUpdate C S o t x k v = some e) (hh : Agree S S' e) : evMapUpdate C S' o t x k v = some e := by
  unfold evMapUpdate at he ⊢
  split at he
  · rename_i kind z id kv vv h1
    split at he
    · rename_i rows hid
      split at he
      · rename_i hc
        obtain ⟨rows', hp, rfl⟩ := Option.map_eq_some_iff.1 he
        try rw [h1]
        try simp only
        rw [hh id (.inl (by rw [put_rd]; exact List.mem_cons_self ..)), hid]
        simp only [if_pos hc, hp, Option.map_some]
      · cases he
    · cases he
  · cases he
theorem fr_slice {t : TypeId} {x : AV} {lo hi : Option (Option Int)} (he : evSlice C S o t x lo hi = some e) (hh : Agree S S' e) : evSlice C S' o t x lo hi = some e := by
  unfold evSlice at he ⊢
  split at he
  · rename_i el hu
    try rw [hu]
    try simp only
    split at he
    · exact he
    · rename_i id off len sz hs
      try rw [hs]
      try simp only
      split at he
      · rename_i rows hid
        have hrd : id ∈ e.rd := by
          simp only [Option.bind_eq_some_iff] at he
          obtain ⟨b, _, he⟩ := he
          split at he
          · simp only [Option.some.injEq] at he; subst he; simp [put]
          · cases he
        rw [hh id (.inl hrd), hid]
        exact he
      · cases he
    · cases he
  · rename_i hu; try rw [hu]
    exact he
  · cases he
theorem fr_indexAddr {t : TypeId} {x : AV} {i : Option Int} (he : evIndexAddr C S o t x i = some e) (hh : Agree S S' e) : evIndexAddr C S' o t x i = some e := by
  unfold evIndexAddr at he ⊢
  split at he
  · rename_i el i' hu
    try rw [hu]
    try simp only
    split at he
    · rename_i hs; try rw [hs]
      exact he
    · rename_i n id off len hs
      try rw [hs]
      try simp only
      split at he
      · rename_i hc
        rw [if_pos hc]
        split at he
        · rename_i rows hid
          have hrd : id ∈ e.rd := by
            simp only [Option.bind_eq_some_iff] at he
            obtain ⟨b, _, he⟩ := he
            split at he
            · simp only [Option.some.injEq] at he; subst he; simp [put]
            · cases he
          rw [hh id (.inl hrd), hid]
          exact he
        · cases he
      · cases he
    · cases he
  · rename_i hu; try rw [hu]
    exact he
  · cases he
theorem fr_load {t : TypeId} {x : AV} (he : evLoad C S o t x = some e) (hh : Agree S S' e) : evLoad C S' o t x = some e := by
  unfold evLoad at he ⊢
  split at he
  · rename_i b n h1 h2
    try rw [h1, h2]
    try simp only
    split at he
    · exact he
    · rename_i id row off
      split at he
      · rename_i rows hid
        obtain ⟨r, hr, he⟩ := Option.bind_eq_some_iff.1 he
        split at he
        · rename_i hc
          split at he
          · rename_i hem
            have hrd : id ∈ e.rd := by
              obtain ⟨v, _, he⟩ := Option.map_eq_some_iff.1 he
              subst he; simp [put]
            rw [hh id (.inl hrd), hid]
            simp only [hr, Option.bind_some, hc, if_true, hem]
            exact he
          · rename_i hem
            split at he
            · rename_i hf
              have hef := he
              obtain ⟨v, _, he⟩ := Option.map_eq_some_iff.1 he
              have hrd : id ∈ e.rd := by subst he; simp [put]
              have hwr : ∀ x ∈ (unpackC (dstP o) 0 ((r.drop off).take n)).2, S'.h x.1 = S.h x.1 := fun x hx => hh x.1 (.inr ⟨x, by subst he; simp [put, hx], rfl⟩)
              rw [hh id (.inl hrd), hid]
              simp only [hr, Option.bind_some, hc, if_true, hem, fresh_congr hwr, hf]
              exact hef
            · cases he
        · cases he
      · cases he
    · cases he
  · cases he
theorem fr_store {t : TypeId} {ao : Operand} {x y : AV} (he : evStore C f S true o t ao x y = some e) (hh : Agree S S' e) : evStore C f S' true o t ao x y = some e := by
  unfold evStore at he ⊢
  split at he
  · rename_i b n h1 h2
    try rw [h1, h2]
    try simp only
    split at he
    · rename_i id row off cs hcs
      try rw [hcs]
      try simp only
      split at he
      · cases he
      · rename_i hl
        rw [if_neg hl]
        split at he
        · rename_i rows hid
          have hrd : id ∈ e.rd := by
            obtain ⟨r, hr, he⟩ := Option.bind_eq_some_iff.1 he
            split at he
            · split at he
              · split at he
                · simp only [Option.some.injEq] at he; subst he; simp
                · cases he
              · split at he
                · simp only [Option.some.injEq] at he; subst he; simp [put]
                · cases he
            · cases he
          rw [hh id (.inl hrd), hid]
          exact he
        · cases he
    · cases he
  · cases he
theorem frzE_agree {e1 : Eff} (h : frzE C f o e1 = some e) (hh : Agree S S' e) : Agree S S' e1 := by
  unfold frzE at h
  split at h
  · split at h
    · rename_i hw
      split at h
      · rename_i hc
        obtain ⟨rfl, _⟩ := hc
        simp only [Option.some.injEq] at h; subst h
        intro id hid
        refine hh id (hid.imp (fun h => h) fun ⟨x, hx, e⟩ => ?_)
        rw [hw] at hx
        simp only [List.mem_cons, List.not_mem_nil, or_false] at hx
        rcases hx with rfl | rfl
        · exact ⟨_, List.mem_cons_self .., e⟩
        · exact ⟨_, List.mem_cons_of_mem _ (List.mem_cons_self ..), e⟩
      · cases h
    · rename_i hw
      split at h
      · rename_i hc
        obtain ⟨rfl, _⟩ := hc
        simp only [Option.some.injEq] at h; subst h
        intro id hid
        refine hh id (hid.imp (fun h => h) fun ⟨x, hx, e⟩ => ?_)
        rw [hw] at hx
        simp only [List.mem_cons, List.not_mem_nil, or_false] at hx
        obtain rfl := hx
        exact ⟨_, List.mem_cons_self .., e⟩
      · cases h
    · cases h
  · simp only [Option.some.injEq] at h; subst h; exact hh
theorem fr_append {ts : Array TypeId} {xs : List AV} (he : evAppend C S o ts xs = some e) (hh : Agree S S' e) : evAppend C S' o ts xs = some e := by
  unfold evAppend at he ⊢
  split at he
  · rename_i x y t el h1 h2
    try rw [h1, h2]
    try simp only
    unfold appendC at he ⊢
    split at he
    · rename_i el' d hu hd
      try rw [hu, hd]
      try simp only
      split at he
      · rename_i i ys1 i1 ys2 i2 hi hx hy
        split at he
        · rename_i hc
          unfold appTail at he
          have facts : (∀ id ∈ i1 ++ i2, id ∈ e.rd) ∧ (∃ r, ([d], r) ∈ e.wr) := by
            split at he
            · split at he
              · split at he
                · simp only [Option.some.injEq] at he; subst he
                  exact ⟨fun id h => h, _, List.mem_cons_of_mem _ (List.mem_cons_self ..)⟩
                · cases he
              · cases he
            · simp only [Option.some.injEq] at he; subst he
              exact ⟨fun id h => h, _, List.mem_cons_self ..⟩
            · cases he
          obtain ⟨hrd, r, hwr⟩ := facts
          have ex := rowsOf_frame (L' := S'.h) hx fun id hid => hh id (.inl (hrd id (List.mem_append.2 (.inl hid))))
          have ey := rowsOf_frame (L' := S'.h) hy fun id hid => hh id (.inl (hrd id (List.mem_append.2 (.inr hid))))
          try rw [hi, ex, ey]
          try simp only
          rw [hh [d] (.inr ⟨_, hwr, rfl⟩), if_pos hc]
          unfold appTail
          split at he
          · rename_i id off len
            have hid : id ∈ i1 := by
              simp only [rowsOf] at hx
              split at hx
              · split at hx
                · simp only [Option.some.injEq, Prod.mk.injEq] at hx
                  rw [← hx.2]; simp
                · cases hx
              · cases hx
            try simp only
            rw [hh id (.inl (hrd id (List.mem_append.2 (.inl hid))))]
            exact he
          · exact he
          · cases he
        · cases he
      · cases he
    · cases he
  · rename_i x y t k h1 h2
    try rw [h1, h2]
    try simp only
    unfold appendZ at he ⊢
    split at he
    · rename_i el' d nn hu hd hnn
      try rw [hu, hd, hnn]
      try simp only
      split at he
      · rename_i i z ys1 i1 hi hz hx
        split at he
        · rename_i hc
          unfold appTail at he
          have facts : (∀ id ∈ i1, id ∈ e.rd) ∧ (∃ r, ([d], r) ∈ e.wr) := by
            split at he
            · split at he
              · split at he
                · simp only [Option.some.injEq] at he; subst he
                  exact ⟨fun id h => by simp only [put, List.append_nil]; exact h, _, List.mem_cons_of_mem _ (List.mem_cons_self ..)⟩
                · cases he
              · cases he
            · simp only [Option.some.injEq] at he; subst he
              exact ⟨fun id h => by simp only [put, List.append_nil]; exact h, _, List.mem_cons_self ..⟩
            · cases he
          obtain ⟨hrd, r, hwr⟩ := facts
          have ex := rowsOf_frame (L' := S'.h) hx fun id hid => hh id (.inl (hrd id hid))
          try rw [hi, hz, ex]
          try simp only
          rw [hh [d] (.inr ⟨_, hwr, rfl⟩), if_pos hc]
          unfold appTail
          split at he
          · rename_i id off len
            have hid : id ∈ i1 := by
              simp only [rowsOf] at hx
              split at hx
              · split at hx
                · simp only [Option.some.injEq, Prod.mk.injEq] at hx
                  rw [← hx.2]; simp
                · cases hx
              · cases hx
            try simp only
            rw [hh id (.inl (hrd id hid))]
            exact he
          · exact he
          · cases he
        · cases he
      · cases he
    · cases he
  · cases he
theorem fr_last {p : Nat × Nat} {xs : List AV} (he : evLast S o p xs = some e) (hh : Agree S S' e) : evLast S' o p xs = some e := by
  unfold evLast at he ⊢
  split at he
  · rename_i id row off
    split at he
    · rename_i rows hid
      split at he
      · rename_i id2 off2 len hcell
        split at he
        · rename_i rows2 hid2
          split at he
          · rename_i hc
            simp only [Option.some.injEq] at he; subst he
            have e1 : S'.h id = S.h id := hh id (.inl (by simp [put]))
            have e2 : S'.h id2 = S.h id2 := hh id2 (.inl (by simp [put]))
            simp only [e1, hid, hcell, e2, hid2, hc, if_true]
          · cases he
        · cases he
      · cases he
    · cases he
  · exact he
  · cases he
theorem fr_copy {ts : Array TypeId} {xs : List AV} (he : evCopy C S o ts xs = some e) (hh : Agree S S' e) : evCopy C S' o ts xs = some e := by
  unfold evCopy at he ⊢
  split at he
  · rename_i x y el h1
    split at he
    · rename_i id off len ys i2 hsz hyr
      split at he
      · rename_i rows hid
        split at he
        · rename_i hc
          simp only [Option.some.injEq] at he; subst he
          have e1 : S'.h id = S.h id := hh id (.inl (by simp [put]))
          have e2 : rowsOf S'.h y = some (ys, i2) := rowsOf_frame hyr (fun i hi => hh i (.inl (by simp [put]; exact .inr hi)))
          simp only [hsz, e2, e1, hid, hc, if_true]
        · cases he
      · cases he
    · cases he
  · cases he
theorem fr_call {fv : AV} {args : List AV} (he : callC C f call S o fv args = some e) (hh : Agree S S' e) : callC C f call S' o fv args = some e := by
  unfold callC at he ⊢
  split at he
  · rename_i k first caps
    try simp only
    split at he
    · rename_i as seen d hbw hdst
      split at he
      · rename_i r hcl
        generalize hr' : (if inFrz C f o.dst = true then fz r else r) = r' at he
        split at he
        · cases he
        · rename_i hm
          split at he
          · rename_i hf
            simp only [Option.some.injEq] at he; subst he
            have hb : bwL S'.h (first ++ args ++ caps) = some (as, seen) := foldC_frame (bw_frame 9) hbw fun id hid => hh id (.inl hid)
            have hfr : fresh S'.h (imp [d] r').2 = fresh S.h (imp [d] r').2 := fresh_congr fun x hx => hh x.1 (.inr ⟨x, hx, rfl⟩)
            rw [hb, hdst]
            simp only [hcl]
            rw [← hdst, hr', if_neg hm, hfr, if_pos hf]
          · cases he
      · cases he
    · cases he
  · cases he
theorem takeL_frame : ∀ {as0 : List AV} {ms : List Nat} {as : List AV} {seen tk fzn : List Id}, takeL S.h ms as0 = some (as, seen, tk, fzn) → (∀ id ∈ seen, S'.h id = S.h id) → (∀ id ∈ tk ++ fzn, S'.h id = S.h id) → takeL S'.h ms as0 = some (as, seen, tk, fzn)
  | [], ms, as, seen, tk, fzn, hx, _, _ => hx
  | c :: cs, ms, as, seen, tk, fzn, hx, h1, h2 => by
    simp only [takeL, Option.bind_eq_some_iff] at hx ⊢
    obtain ⟨⟨ys, s1, t1, z1⟩, hy, hx⟩ := hx
    refine ⟨(ys, s1, t1, z1), ?_, ?_⟩
    · split at hx <;>
      · obtain ⟨x, hpk, hx⟩ := Option.map_eq_some_iff.1 hx
        simp only [Prod.mk.injEq] at hx
        obtain ⟨rfl, rfl, rfl, rfl⟩ := hx
        exact takeL_frame hy (fun id hid => h1 id (by simp [hid])) (fun id hid => h2 id (by rcases List.mem_append.1 hid with h | h <;> simp [h]))
    · split at hx
      · rename_i hm
        obtain ⟨x, hpk, hx⟩ := Option.map_eq_some_iff.1 hx
        simp only [Prod.mk.injEq] at hx
        obtain ⟨rfl, rfl, rfl, rfl⟩ := hx
        simp only [hm]
        rw [pk_frame 9 _ _ hpk fun id hid => h2 id (by simp [hid])]
        rfl
      · rename_i hm
        obtain ⟨x, hpk, hx⟩ := Option.map_eq_some_iff.1 hx
        simp only [Prod.mk.injEq] at hx
        obtain ⟨rfl, rfl, rfl, rfl⟩ := hx
        simp only [hm]
        rw [pk_frame 9 _ _ hpk fun id hid => h2 id (by simp [hid])]
        rfl
      · rename_i hm1 hm2
        obtain ⟨x, hpk, hx⟩ := Option.map_eq_some_iff.1 hx
        simp only [Prod.mk.injEq] at hx
        obtain ⟨rfl, rfl, rfl, rfl⟩ := hx
        rw [bw_frame 9 _ _ hpk fun id hid => h1 id (by simp [hid])]
        rfl
theorem relay1_frame {a b : AV} {l : List (Id × Option Rows)} (h : relay1 S.h a b = some l) (hh : ∀ x ∈ l, S'.h x.1 = S.h x.1) : relay1 S'.h a b = some l := by
  unfold relay1 at h
  split at h
  · rename_i id cs
    split at h
    · rename_i old hid
      split at h
      · rename_i hc
        simp only [Option.some.injEq] at h; subst h
        have := hh _ (List.mem_cons_self ..)
        simp only [relay1, this, hid, hc, if_true]
      · cases h
    · cases h
  · rename_i id n rows
    split at h
    · rename_i o1 os hid
      split at h
      · rename_i hc
        simp only [Option.some.injEq] at h; subst h
        have := hh _ (List.mem_cons_self ..)
        simp only [relay1, this, hid]
        rw [if_pos hc]
      · cases h
    · rename_i hid
      split at h
      · rename_i hc
        simp only [Option.some.injEq] at h; subst h
        have := hh _ (List.mem_cons_self ..)
        simp only [relay1, this, hid]
        rw [if_pos hc]
      · cases h
    · cases h
  · rename_i id rows
    split at h
    · rename_i rows0 hid
      simp only [Option.some.injEq] at h; subst h
      have := hh _ (List.mem_cons_self ..)
      simp only [relay1, this, hid]
    · cases h
  · cases h
  · cases h
  · cases h
  · cases h
  · rename_i g1 g2 g3 g4 _ _ _
    simp only [Option.some.injEq] at h; subst h
    unfold relay1
    split <;> first | rfl | exact (g1 _ _ _ rfl).elim | exact (g2 _ _ _ rfl).elim | exact (g3 _ rfl).elim | exact (g4 _ rfl).elim
theorem relayC_frame : ∀ {as bs : List AV} {l : List (Id × Option Rows)}, relayC S.h as bs = some l → (∀ x ∈ l, S'.h x.1 = S.h x.1) → relayC S'.h as bs = some l
  | [], [], l, h, _ => h
  | [], _ :: _, l, h, _ => by simp [relayC] at h
  | _ :: _, [], l, h, _ => by simp [relayC] at h
  | a :: as, b :: bs, l, h, hh => by
    simp only [relayC] at h ⊢
    split at h
    · rename_i x y h1 h2
      simp only [Option.some.injEq] at h; subst h
      rw [relay1_frame h1 fun x hx => hh x (List.mem_append.2 (.inl hx)), relayC_frame h2 fun x hx => hh x (List.mem_append.2 (.inr hx))]
    · cases h
theorem relay_frame {a b : AV} {l : List (Id × Option Rows)} (h : relay S.h a b = some l) (hh : ∀ x ∈ l, S'.h x.1 = S.h x.1) : relay S'.h a b = some l := by
  unfold relay at h ⊢
  split at h
  · exact relayC_frame h hh
  · exact relay1_frame h hh
theorem relayL_frame {args : List AV} : ∀ {lend : List Nat} {outs : List AV} {l : List (Id × Option Rows)}, relayL S.h args lend outs = some l → (∀ x ∈ l, S'.h x.1 = S.h x.1) → relayL S'.h args lend outs = some l
  | [], [], l, h, _ => h
  | [], _ :: _, l, h, _ => by simp [relayL] at h
  | _ :: _, [], l, h, _ => by simp [relayL] at h
  | j :: lend, b :: outs, l, h, hh => by
    simp only [relayL] at h ⊢
    split at h
    · rename_i a y h1 h2
      split at h
      · rename_i x h3
        simp only [Option.some.injEq] at h; subst h
        rw [h1, relayL_frame h2 fun x hx => hh x (List.mem_append.2 (.inr hx))]
        simp only [relay_frame h3 fun x hx => hh x (List.mem_append.2 (.inl hx))]
      · cases h
    · cases h
theorem fr_callT {k : FuncId} {args : List AV} (he : callT C f call S o k args = some e) (hh : Agree S S' e) : callT C f call S' o k args = some e := by
  unfold callT at he ⊢
  split at he
  · rename_i as seen tk fzn d htk hdst
    split at he
    · rename_i r outs hcl
      generalize hr' : (if inFrz C f o.dst = true then fz r else r) = r' at he
      split at he
      · rename_i back hback
        split at he
        · rename_i hcnd
          simp only [Option.some.injEq] at he; subst he
          have hw : ∀ x, (x ∈ (imp [d] r').2 ∨ x ∈ back ∨ x ∈ (tk ++ fzn).map fun i => ((i, none) : Id × Option Rows)) → S'.h x.1 = S.h x.1 := fun x hx => hh x.1 (.inr ⟨x, by
            rw [put_wr]
            rcases hx with hx | hx | hx
            · exact List.mem_append.2 (.inl hx)
            · exact List.mem_append.2 (.inr (List.mem_append.2 (.inl hx)))
            · exact List.mem_append.2 (.inr (List.mem_append.2 (.inr hx))), rfl⟩)
          have e1 : takeL S'.h (C.modes k) args = some (as, seen, tk, fzn) := takeL_frame htk (fun id hid => hh id (.inl hid)) fun id hid => hw (id, none) (.inr (.inr (List.mem_map.2 ⟨id, hid, rfl⟩)))
          have e2 : relayL S'.h args (C.lend k) outs = some back := relayL_frame hback fun x hx => hw x (.inr (.inl hx))
          have hfr : fresh S'.h (imp [d] r').2 = fresh S.h (imp [d] r').2 := fresh_congr fun x hx => hw x (.inl hx)
          rw [e1]
          simp only [hdst]
          simp only [hdst] at hr'
          simp only [hcl, hr', e2, hfr, if_pos hcnd]
        · cases he
      · cases he
    · cases he
  · cases he
def tmpsOf (o : Oper) : List Nat := o.op.operands.toList.filterMap fun | .tmp t => some t | _ => none
theorem get_frame (hs : ∀ t ∈ tmpsOf o, S'.t t = S.t t) {x : Operand} (hx : x ∈ o.op.operands.toList) : S'.get C x = S.get C x := by
  cases x with
  | tmp t => exact hs t (List.mem_filterMap.2 ⟨.tmp t, hx, rfl⟩)
  | _ => rfl
theorem evOp_frame (he : evOp C f call S true o = some e) (hs : ∀ t ∈ tmpsOf o, S'.t t = S.t t) (hh : Agree S S' e) : evOp C f call S' true o = some e := by
  have get : ∀ x ∈ o.op.operands.toList, S'.get C x = S.get C x := fun x hx => get_frame hs hx
  have gets : ∀ xs : List Operand, (∀ x ∈ xs, x ∈ o.op.operands.toList) → (xs.map fun x => un true (S'.get C x)) = xs.map fun x => un true (S.get C x) := fun xs h => List.map_congr_left fun x hx => by rw [get x (h x hx)]
  have getp : ∀ xs : List (Nat × Operand), (∀ x ∈ xs, x.2 ∈ o.op.operands.toList) → (xs.map fun p => (p.1, un true (S'.get C p.2))) = xs.map fun p => (p.1, un true (S.get C p.2)) := fun xs h => List.map_congr_left fun x hx => by rw [get x.2 (h x hx)]
  unfold evOp at he ⊢
  cases ho : o.op with
  | move x => rw [ho] at he get; simp only [Op.operands] at he get ⊢; rw [get x (by simp)]; exact he
  | assign x => rw [ho] at he get; simp only [Op.operands] at he get ⊢; rw [get x (by simp)]; exact he
  | pick c x y => rw [ho] at he get; simp only [Op.operands] at he get ⊢; rw [get c (by simp), get x (by simp), get y (by simp)]; exact he
  | alloc t => rw [ho] at he; exact fr_alloc he hh
  | box t x => rw [ho] at he get; simp only [Op.operands] at he get ⊢; rw [get x (by simp)]; exact fr_box he hh
  | build t ps => rw [ho] at he getp; simp only [Op.operands] at he getp ⊢; rw [getp ps.toList (fun x hx => by simp; exact ⟨x.1, by simpa using hx⟩)]; exact he
  | buildSlice t n ps => rw [ho] at he getp; simp only [Op.operands] at he getp ⊢; rw [getp ps.toList (fun x hx => by simp; exact ⟨x.1, by simpa using hx⟩)]; exact fr_buildSlice he hh
  | load t x => rw [ho] at he get; simp only [Op.operands] at he get ⊢; rw [get x (by simp)]; exact fr_load he hh
  | store t x y => rw [ho] at he get; simp only [Op.operands] at he get ⊢; rw [get x (by simp), get y (by simp)]; exact fr_store he hh
  | nilCheck x => rw [ho] at he get; simp only [Op.operands] at he get ⊢; rw [get x (by simp)]; exact he
  | binOp op t x y u => rw [ho] at he get; simp only [Op.operands] at he get ⊢; rw [get x (by simp), get y (by simp)]; exact he
  | unOp op t x => rw [ho] at he get; simp only [Op.operands] at he get ⊢; rw [get x (by simp)]; exact he
  | convert s t x => rw [ho] at he get; simp only [Op.operands] at he get ⊢; rw [get x (by simp)]; exact he
  | makeInterface t x => rw [ho] at he get; simp only [Op.operands] at he get ⊢; rw [get x (by simp)]; exact he
  | makeFunc k xs ys => rw [ho] at he gets; simp only [Op.operands] at he gets ⊢; rw [gets xs.toList (fun x hx => by simp; exact .inl (by simpa using hx)), gets ys.toList (fun x hx => by simp; exact .inr (by simpa using hx))]; exact he
  | makeSlice t x y => rw [ho] at he get; simp only [Op.operands] at he get ⊢; rw [get x (by simp), get y (by simp)]; exact fr_make he hh
  | slice t x lo hi mx =>
    rw [ho] at he get; simp only [Op.operands] at he get ⊢
    split at he
    · cases he
    · rename_i hm
      rw [if_neg hm, get x (by simp)]
      have e1 : (lo.map fun y => intOfV (un true (S'.get C y))) = lo.map fun y => intOfV (un true (S.get C y)) := by
        cases lo with
        | none => rfl
        | some y => simp only [Option.map_some]; rw [get y (by simp)]
      have e2 : (hi.map fun y => intOfV (un true (S'.get C y))) = hi.map fun y => intOfV (un true (S.get C y)) := by
        cases hi with
        | none => rfl
        | some y => simp only [Option.map_some]; rw [get y (by simp)]
      rw [e1, e2]
      exact fr_slice he hh
  | fieldAddr s x i => rw [ho] at he get; simp only [Op.operands] at he get ⊢; rw [get x (by simp)]; exact he
  | field s x i => rw [ho] at he get; simp only [Op.operands] at he get ⊢; rw [get x (by simp)]; exact he
  | indexAddr t x y => rw [ho] at he get; simp only [Op.operands] at he get ⊢; rw [get x (by simp), get y (by simp)]; exact fr_indexAddr he hh
  | index t x y => rw [ho] at he get; simp only [Op.operands] at he get ⊢; rw [get x (by simp), get y (by simp)]; exact he
  | extract x i => rw [ho] at he get; simp only [Op.operands] at he get ⊢; rw [get x (by simp)]; exact he
  | makeMap t r => rw [ho] at he; exact fr_makeMap he hh
  | lookup t x y ok => rw [ho] at he get; simp only [Op.operands] at he get ⊢; rw [get x (by simp), get y (by simp)]; exact fr_lookup he hh
  | mapUpdate t x y z => rw [ho] at he get; simp only [Op.operands] at he get ⊢; rw [get x (by simp), get y (by simp), get z (by simp)]; exact fr_mapUpdate he hh
  | insert t x y z => rw [ho] at he get; simp only [Op.operands] at he get ⊢; rw [get x (by simp), get y (by simp), get z (by simp)]; exact fr_mapUpdate he hh
  | call c =>
    rw [ho] at he get gets; simp only [Op.operands] at he get gets ⊢
    have hargs := gets c.args.toList (fun x hx => by simp only [Call.operands]; simp; exact .inr (by simpa using hx))
    cases hc : c.callee with
    | builtin b =>
      rw [hc] at he
      cases b with
      | len => simp only at he ⊢; rw [hargs]; exact he
      | append =>
        simp only [Option.bind_eq_some_iff] at he ⊢
        rw [hargs]
        obtain ⟨e1, h1, h2⟩ := he
        exact ⟨e1, fr_append h1 (frzE_agree h2 hh), h2⟩
      | copy => simp only at he ⊢; rw [hargs]; exact fr_copy he hh
      | max => simp only at he ⊢; rw [hargs]; exact he
      | min => simp only at he ⊢; rw [hargs]; exact he
      | _ => cases he
    | value fo =>
      rw [hc] at he
      simp only at he ⊢
      split at he
      · rename_i p hp
        rw [hargs]; exact fr_last he hh
      · rename_i hp
        split at he
        · rename_i htk
          rw [if_pos htk]
          cases fo with
          | func k => simp only at he ⊢; rw [hargs]; exact fr_callT he hh
          | _ => cases he
        · rename_i htk
          rw [if_neg htk, hargs, get fo (by simp [Call.operands, hc])]
          exact fr_call he hh
    | invoke r n => rw [hc] at he; cases he
  | _ => rw [ho] at he; cases he
end
end Go.Ab
