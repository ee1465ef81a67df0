/-
  ONE OPERATION, WHATEVER IT IS; A REGION IN ITS OWN ORDER.
-/
import Derived.Test.YtbhpblokoecoaaaAbMap
namespace Go.Ab
open Go
section
variable {C : Cx} {E : Env} {w : World} {S : St} {a : Act} {β : Id → Option Loc} {F : Id → List Nat}
variable {next : Act → World → Prop} {Q : Exit → Act → World → Prop}
theorem ok_op (hN : NC C) {f : FuncId} {call : FuncId → List AV → Option (AV × List AV)} (hcall : ∀ k as r, call k as = some r → Sound C k as r) (h : SR C E w S a β F) {o : Oper} {e : Eff}
    (he : evOp C f call S true o = some e) (hd : inB S e) (hn : ∀ a' w', Nx C E (S.app e) a' w' → next a' w') : o.wp C.P a w next Q := by
  unfold evOp at he
  split at he
  · rename_i x ho; exact ok_move h (.inl ho) he hd hn
  · rename_i x ho; exact ok_move h (.inr ho) he hd hn
  · rename_i c x y ho; exact ok_pick h ho he hd hn
  · rename_i t ho; exact ok_alloc h ho he hd hn
  · rename_i t x ho; exact ok_box h ho he hd hn
  · rename_i t p ho; exact ok_build h ho he hd hn
  · rename_i t n p ho; exact ok_buildSlice h ho he hd hn
  · rename_i t x ho; exact ok_load h ho he hd hn
  · rename_i t x y ho; exact ok_store h ho he hd hn
  · rename_i x ho; exact ok_nil h ho he hd hn
  · rename_i ho; exact ok_bin h ho he hd hn
  · rename_i ho; exact ok_un h ho he hd hn
  · rename_i ho; exact ok_conv h ho he hd hn
  · rename_i ho; exact ok_iface h ho he hd hn
  · rename_i ho; exact ok_makeFunc h ho he hd hn
  · rename_i ho; exact ok_make h ho he hd hn
  · rename_i t x lo hi mx ho
    cases mx with
    | none => exact ok_slice h ho (by simpa using he) hd hn
    | some m => simp at he
  · rename_i ho; exact ok_fieldAddr h ho he hd hn
  · rename_i ho; exact ok_field h ho he hd hn
  · rename_i ho; exact ok_indexAddr h ho he hd hn
  · rename_i ho; exact ok_index h ho he hd hn
  · rename_i ho; exact ok_extract h ho he hd hn
  · rename_i ho; exact ok_makeMap h ho he hd hn
  · rename_i ho; exact ok_lookup h ho he hd hn
  · rename_i ho; exact ok_mapUpdate h (.inl ho) he hd hn
  · rename_i ho; exact ok_mapUpdate h (.inr ho) he hd hn
  · rename_i c ho
    split at he
    · rename_i hc; exact ok_len h ho hc he hd hn
    · rename_i hc; exact ok_appendF h ho hc he hd hn
    · rename_i hc; exact ok_copy h ho hc he hd hn
    · rename_i hc
      split at he
      · rename_i vs hv; exact ok_pureB h ho hc _ (fun _ _ => rfl) hv he hd hn
      · cases he
    · rename_i hc
      split at he
      · rename_i vs hv; exact ok_pureB h ho hc _ (fun _ _ => rfl) hv he hd hn
      · cases he
    · rename_i fo hc
      split at he
      · rename_i p hp
        unfold pathOf at hp
        split at hp
        · exact ok_last hN.no h ho hc (hN.path _ _ hp) he hd hn
        · cases hp
      · split at he
        · split at he
          · exact ok_callT hN.no h ho hc hcall he hd hn
          · cases he
        · exact ok_call hN.no h ho hc hcall he hd hn
    · cases he
  · cases he
def Shaped (C : Cx) (f : FuncId) (o : Oper) (e : Eff) : Prop :=
  (∃ v, e.sw = (put o v [] []).sw) ∨ (e.wr ≠ [] ∧ ∀ x ∈ e.sw, x.1 ∈ slotsW C f o)
theorem sh_put {C : Cx} {f : FuncId} {o : Oper} {v : AV} {rd : List Id} {wr : List (Id × Option Rows)} : Shaped C f o (put o v rd wr) := .inl ⟨v, rfl⟩
theorem sh_ret {C : Cx} {f : FuncId} {o : Oper} {v : AV} {e : Eff} (h : ret o v = some e) : Shaped C f o e := by
  have := ret_inv h; subst this; exact sh_put
theorem sh_retV {C : Cx} {f : FuncId} {o : Oper} {v : Option Value} {e : Eff} (h : retV o v = some e) : Shaped C f o e := by
  unfold retV at h
  split at h
  · split at h
    · exact sh_ret h
    · cases h
  · cases h
theorem sh_frz {C : Cx} {f : FuncId} {o : Oper} {e1 e : Eff} (h : frzE C f o e1 = some e) (h1 : Shaped C f o e1) : Shaped C f o e := by
  unfold frzE at h
  split at h
  · split at h
    · split at h
      · simp only [Option.some.injEq] at h; subst h; exact sh_put
      · cases h
    · split at h
      · simp only [Option.some.injEq] at h; subst h; exact sh_put
      · cases h
    · cases h
  · simp only [Option.some.injEq] at h; subst h; exact h1
theorem shaped_T {C : Cx} {f : FuncId} {call : FuncId → List AV → Option (AV × List AV)} {S : St} {o : Oper} {e : Eff} {k : FuncId} {args : List AV} (he : callT C f call S o k args = some e) : Shaped C f o e := by
  unfold callT at he
  split at he
  · split at he
    · generalize (if inFrz C f o.dst = true then _ else _) = r' at he
      split at he
      · split at he
        · simp only [Option.some.injEq] at he; subst he; exact sh_put
        · cases he
      · cases he
    · cases he
  · cases he
theorem shaped_op {C : Cx} {f : FuncId} {call : FuncId → List AV → Option (AV × List AV)} {S : St} {g : Bool} {o : Oper} {e : Eff} (he : evOp C f call S g o = some e) : Shaped C f o e := by
  unfold evOp at he
  split at he
  · exact sh_ret he
  · exact sh_ret he
  · unfold evPick at he
    repeat' (first
      | with_reducible exact sh_ret he
      | with_reducible exact sh_retV he
      | (simp only [reduceCtorEq] at he; done)
      | (simp only [Option.some.injEq] at he; subst he; exact sh_put)
      | (simp only [Option.bind_eq_some_iff] at he; obtain ⟨_, _, he⟩ := he)
      | (simp only [Option.map_eq_some_iff] at he; obtain ⟨_, _, he⟩ := he; subst he; exact sh_put)
      | split at he)
  · unfold evAlloc at he
    repeat' (first
      | with_reducible exact sh_ret he
      | with_reducible exact sh_retV he
      | (simp only [reduceCtorEq] at he; done)
      | (simp only [Option.some.injEq] at he; subst he; exact sh_put)
      | (simp only [Option.bind_eq_some_iff] at he; obtain ⟨_, _, he⟩ := he)
      | (simp only [Option.map_eq_some_iff] at he; obtain ⟨_, _, he⟩ := he; subst he; exact sh_put)
      | split at he)
  · unfold evBox at he
    repeat' (first
      | with_reducible exact sh_ret he
      | with_reducible exact sh_retV he
      | (simp only [reduceCtorEq] at he; done)
      | (simp only [Option.some.injEq] at he; subst he; exact sh_put)
      | (simp only [Option.bind_eq_some_iff] at he; obtain ⟨_, _, he⟩ := he)
      | (simp only [Option.map_eq_some_iff] at he; obtain ⟨_, _, he⟩ := he; subst he; exact sh_put)
      | split at he)
  · unfold evBuild at he
    repeat' (first
      | with_reducible exact sh_ret he
      | with_reducible exact sh_retV he
      | (simp only [reduceCtorEq] at he; done)
      | (simp only [Option.some.injEq] at he; subst he; exact sh_put)
      | (simp only [Option.bind_eq_some_iff] at he; obtain ⟨_, _, he⟩ := he)
      | (simp only [Option.map_eq_some_iff] at he; obtain ⟨_, _, he⟩ := he; subst he; exact sh_put)
      | split at he)
  · unfold evBuildSlice evBuildF evBuildSlice0 at he
    repeat' (first
      | with_reducible exact sh_ret he
      | with_reducible exact sh_retV he
      | (simp only [reduceCtorEq] at he; done)
      | (simp only [Option.some.injEq] at he; subst he; exact sh_put)
      | (simp only [Option.bind_eq_some_iff] at he; obtain ⟨_, _, he⟩ := he)
      | (simp only [Option.map_eq_some_iff] at he; obtain ⟨_, _, he⟩ := he; subst he; exact sh_put)
      | split at he)
  · unfold evLoad at he
    repeat' (first
      | with_reducible exact sh_ret he
      | with_reducible exact sh_retV he
      | (simp only [reduceCtorEq] at he; done)
      | (simp only [Option.some.injEq] at he; subst he; exact sh_put)
      | (simp only [Option.bind_eq_some_iff] at he; obtain ⟨_, _, he⟩ := he)
      | (simp only [Option.map_eq_some_iff] at he; obtain ⟨_, _, he⟩ := he; subst he; exact sh_put)
      | split at he)
  · rename_i t ao x ho
    unfold evStore at he
    split at he
    · split at he
      · split at he
        · cases he
        · split at he
          · obtain ⟨r, _, he⟩ := Option.bind_eq_some_iff.1 he
            split at he
            · split at he
              · rename_i ta hta
                split at he
                · rename_i hc
                  simp only [Bool.and_eq_true, Option.isNone_iff_eq_none] at hc
                  simp only [Option.some.injEq] at he; subst he
                  refine .inr ⟨by simp, fun y hy => ?_⟩
                  obtain rfl := List.mem_singleton.1 hy
                  unfold slotsW
                  simp [ho, hta]
                · cases he
              · split at he
                · simp only [Option.some.injEq] at he; subst he; exact sh_put
                · cases he
            · cases he
          · cases he
      · cases he
    · cases he
  · unfold evNil at he
    repeat' (first
      | with_reducible exact sh_ret he
      | with_reducible exact sh_retV he
      | (simp only [reduceCtorEq] at he; done)
      | (simp only [Option.some.injEq] at he; subst he; exact sh_put)
      | (simp only [Option.bind_eq_some_iff] at he; obtain ⟨_, _, he⟩ := he)
      | (simp only [Option.map_eq_some_iff] at he; obtain ⟨_, _, he⟩ := he; subst he; exact sh_put)
      | split at he)
  · unfold evBin at he
    repeat' (first
      | with_reducible exact sh_ret he
      | with_reducible exact sh_retV he
      | (simp only [reduceCtorEq] at he; done)
      | (simp only [Option.some.injEq] at he; subst he; exact sh_put)
      | (simp only [Option.bind_eq_some_iff] at he; obtain ⟨_, _, he⟩ := he)
      | (simp only [Option.map_eq_some_iff] at he; obtain ⟨_, _, he⟩ := he; subst he; exact sh_put)
      | split at he)
  · unfold evUn at he
    repeat' (first
      | with_reducible exact sh_ret he
      | with_reducible exact sh_retV he
      | (simp only [reduceCtorEq] at he; done)
      | (simp only [Option.some.injEq] at he; subst he; exact sh_put)
      | (simp only [Option.bind_eq_some_iff] at he; obtain ⟨_, _, he⟩ := he)
      | (simp only [Option.map_eq_some_iff] at he; obtain ⟨_, _, he⟩ := he; subst he; exact sh_put)
      | split at he)
  · unfold evConv evBytes evConv0 at he
    repeat' (first
      | with_reducible exact sh_ret he
      | with_reducible exact sh_retV he
      | (simp only [reduceCtorEq] at he; done)
      | (simp only [Option.some.injEq] at he; subst he; exact sh_put)
      | (simp only [Option.bind_eq_some_iff] at he; obtain ⟨_, _, he⟩ := he)
      | (simp only [Option.map_eq_some_iff] at he; obtain ⟨_, _, he⟩ := he; subst he; exact sh_put)
      | split at he)
  · unfold evIface at he
    repeat' (first
      | with_reducible exact sh_ret he
      | with_reducible exact sh_retV he
      | (simp only [reduceCtorEq] at he; done)
      | (simp only [Option.some.injEq] at he; subst he; exact sh_put)
      | (simp only [Option.bind_eq_some_iff] at he; obtain ⟨_, _, he⟩ := he)
      | (simp only [Option.map_eq_some_iff] at he; obtain ⟨_, _, he⟩ := he; subst he; exact sh_put)
      | split at he)
  · exact sh_ret he
  · unfold evMake at he
    repeat' (first
      | with_reducible exact sh_ret he
      | with_reducible exact sh_retV he
      | (simp only [reduceCtorEq] at he; done)
      | (simp only [Option.some.injEq] at he; subst he; exact sh_put)
      | (simp only [Option.bind_eq_some_iff] at he; obtain ⟨_, _, he⟩ := he)
      | (simp only [Option.map_eq_some_iff] at he; obtain ⟨_, _, he⟩ := he; subst he; exact sh_put)
      | split at he)
  · split at he
    · cases he
    · unfold evSlice at he
      repeat' (first
        | with_reducible exact sh_ret he
        | with_reducible exact sh_retV he
        | (simp only [reduceCtorEq] at he; done)
        | (simp only [Option.some.injEq] at he; subst he; exact sh_put)
        | (simp only [Option.bind_eq_some_iff] at he; obtain ⟨_, _, he⟩ := he)
        | (simp only [Option.map_eq_some_iff] at he; obtain ⟨_, _, he⟩ := he; subst he; exact sh_put)
        | split at he)
  · unfold evFieldAddr at he
    repeat' (first
      | with_reducible exact sh_ret he
      | with_reducible exact sh_retV he
      | (simp only [reduceCtorEq] at he; done)
      | (simp only [Option.some.injEq] at he; subst he; exact sh_put)
      | (simp only [Option.bind_eq_some_iff] at he; obtain ⟨_, _, he⟩ := he)
      | (simp only [Option.map_eq_some_iff] at he; obtain ⟨_, _, he⟩ := he; subst he; exact sh_put)
      | split at he)
  · unfold evField at he
    repeat' (first
      | with_reducible exact sh_ret he
      | with_reducible exact sh_retV he
      | (simp only [reduceCtorEq] at he; done)
      | (simp only [Option.some.injEq] at he; subst he; exact sh_put)
      | (simp only [Option.bind_eq_some_iff] at he; obtain ⟨_, _, he⟩ := he)
      | (simp only [Option.map_eq_some_iff] at he; obtain ⟨_, _, he⟩ := he; subst he; exact sh_put)
      | split at he)
  · unfold evIndexAddr at he
    repeat' (first
      | with_reducible exact sh_ret he
      | with_reducible exact sh_retV he
      | (simp only [reduceCtorEq] at he; done)
      | (simp only [Option.some.injEq] at he; subst he; exact sh_put)
      | (simp only [Option.bind_eq_some_iff] at he; obtain ⟨_, _, he⟩ := he)
      | (simp only [Option.map_eq_some_iff] at he; obtain ⟨_, _, he⟩ := he; subst he; exact sh_put)
      | split at he)
  · unfold evIndex at he
    repeat' (first
      | with_reducible exact sh_ret he
      | with_reducible exact sh_retV he
      | (simp only [reduceCtorEq] at he; done)
      | (simp only [Option.some.injEq] at he; subst he; exact sh_put)
      | (simp only [Option.bind_eq_some_iff] at he; obtain ⟨_, _, he⟩ := he)
      | (simp only [Option.map_eq_some_iff] at he; obtain ⟨_, _, he⟩ := he; subst he; exact sh_put)
      | split at he)
  · unfold evExtract at he
    repeat' (first
      | with_reducible exact sh_ret he
      | with_reducible exact sh_retV he
      | (simp only [reduceCtorEq] at he; done)
      | (simp only [Option.some.injEq] at he; subst he; exact sh_put)
      | (simp only [Option.bind_eq_some_iff] at he; obtain ⟨_, _, he⟩ := he)
      | (simp only [Option.map_eq_some_iff] at he; obtain ⟨_, _, he⟩ := he; subst he; exact sh_put)
      | split at he)
  · unfold evMakeMap at he
    repeat' (first
      | with_reducible exact sh_ret he
      | with_reducible exact sh_retV he
      | (simp only [reduceCtorEq] at he; done)
      | (simp only [Option.some.injEq] at he; subst he; exact sh_put)
      | (simp only [Option.bind_eq_some_iff] at he; obtain ⟨_, _, he⟩ := he)
      | (simp only [Option.map_eq_some_iff] at he; obtain ⟨_, _, he⟩ := he; subst he; exact sh_put)
      | split at he)
  · unfold evLookup at he
    repeat' (first
      | with_reducible exact sh_ret he
      | with_reducible exact sh_retV he
      | (simp only [reduceCtorEq] at he; done)
      | (simp only [Option.some.injEq] at he; subst he; exact sh_put)
      | (simp only [Option.bind_eq_some_iff] at he; obtain ⟨_, _, he⟩ := he)
      | (simp only [Option.map_eq_some_iff] at he; obtain ⟨_, _, he⟩ := he; subst he; exact sh_put)
      | split at he)
  · unfold evMapUpdate at he
    repeat' (first
      | with_reducible exact sh_ret he
      | with_reducible exact sh_retV he
      | (simp only [reduceCtorEq] at he; done)
      | (simp only [Option.some.injEq] at he; subst he; exact sh_put)
      | (simp only [Option.bind_eq_some_iff] at he; obtain ⟨_, _, he⟩ := he)
      | (simp only [Option.map_eq_some_iff] at he; obtain ⟨_, _, he⟩ := he; subst he; exact sh_put)
      | split at he)
  · unfold evMapUpdate at he
    repeat' (first
      | with_reducible exact sh_ret he
      | with_reducible exact sh_retV he
      | (simp only [reduceCtorEq] at he; done)
      | (simp only [Option.some.injEq] at he; subst he; exact sh_put)
      | (simp only [Option.bind_eq_some_iff] at he; obtain ⟨_, _, he⟩ := he)
      | (simp only [Option.map_eq_some_iff] at he; obtain ⟨_, _, he⟩ := he; subst he; exact sh_put)
      | split at he)
  · rename_i c ho
    split at he
    · unfold evLen at he
      repeat' (first
        | with_reducible exact sh_ret he
        | with_reducible exact sh_retV he
        | (simp only [reduceCtorEq] at he; done)
        | (simp only [Option.some.injEq] at he; subst he; exact sh_put)
        | (simp only [Option.bind_eq_some_iff] at he; obtain ⟨_, _, he⟩ := he)
        | (simp only [Option.map_eq_some_iff] at he; obtain ⟨_, _, he⟩ := he; subst he; exact sh_put)
        | split at he)
    · simp only [Option.bind_eq_some_iff] at he
      obtain ⟨e1, he1, he2⟩ := he
      refine sh_frz he2 ?_
      clear he2
      have he := he1
      clear he1
      unfold evAppend appendC appendZ appTail at he
      repeat' (first
        | with_reducible exact sh_ret he
        | with_reducible exact sh_retV he
        | (simp only [reduceCtorEq] at he; done)
        | (simp only [Option.some.injEq] at he; subst he; exact sh_put)
        | (simp only [Option.bind_eq_some_iff] at he; obtain ⟨_, _, he⟩ := he)
        | (simp only [Option.map_eq_some_iff] at he; obtain ⟨_, _, he⟩ := he; subst he; exact sh_put)
        | split at he)
    · unfold evCopy at he
      repeat' (first
        | with_reducible exact sh_ret he
        | with_reducible exact sh_retV he
        | (simp only [reduceCtorEq] at he; done)
        | (simp only [Option.some.injEq] at he; subst he; exact sh_put)
        | (simp only [Option.bind_eq_some_iff] at he; obtain ⟨_, _, he⟩ := he)
        | (simp only [Option.map_eq_some_iff] at he; obtain ⟨_, _, he⟩ := he; subst he; exact sh_put)
        | split at he)
    · repeat' (first
        | with_reducible exact sh_ret he
        | with_reducible exact sh_retV he
        | (simp only [reduceCtorEq] at he; done)
        | (simp only [Option.some.injEq] at he; subst he; exact sh_put)
        | (simp only [Option.bind_eq_some_iff] at he; obtain ⟨_, _, he⟩ := he)
        | (simp only [Option.map_eq_some_iff] at he; obtain ⟨_, _, he⟩ := he; subst he; exact sh_put)
        | split at he)
    · repeat' (first
        | with_reducible exact sh_ret he
        | with_reducible exact sh_retV he
        | (simp only [reduceCtorEq] at he; done)
        | (simp only [Option.some.injEq] at he; subst he; exact sh_put)
        | (simp only [Option.bind_eq_some_iff] at he; obtain ⟨_, _, he⟩ := he)
        | (simp only [Option.map_eq_some_iff] at he; obtain ⟨_, _, he⟩ := he; subst he; exact sh_put)
        | split at he)
    · rename_i fo hc
      split at he
      · unfold evLast at he
        repeat' (first
          | with_reducible exact sh_ret he
          | with_reducible exact sh_retV he
          | (simp only [reduceCtorEq] at he; done)
          | (simp only [Option.some.injEq] at he; subst he; exact sh_put)
          | (simp only [Option.bind_eq_some_iff] at he; obtain ⟨_, _, he⟩ := he)
          | (simp only [Option.map_eq_some_iff] at he; obtain ⟨_, _, he⟩ := he; subst he; exact sh_put)
          | split at he)
      · split at he
        · split at he
          · exact shaped_T he
          · cases he
        · unfold callC at he
          split at he
          · split at he
            · split at he
              · generalize (if inFrz C f o.dst = true then _ else _) = r' at he
                split at he
                · cases he
                · split at he
                  · simp only [Option.some.injEq] at he; subst he; exact sh_put
                  · cases he
              · cases he
            · cases he
          · cases he
    · cases he
  · cases he
end
end Go.Ab
