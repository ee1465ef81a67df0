import Derived.Test.YtbhpblokoecoaaaAbMap
namespace Go.Ab
open Go
section
variable{C:aV}{E:Env}{w:World}{S:an}{a:Act}{β:Id→Option Loc}{F:Id→List Nat}
variable{next:Act→World→Prop}{Q:Exit→Act→World→Prop}
theorem KE(bH:kR C){f:FuncId}{call:FuncId→List aa→Option (aa×List aa)}(fl:∀k as r,call k as=some r→Sound C k as r)(h:aY C E w S a β F){o:Oper}{e:bx}(he:bD C f call S true o=some e)(hd:cI S e)(hn:∀a' w',bP C E (S.app e) a' w'→next a' w'):o.wp C.P a w next Q:=by unfold bD at he;split at he;·{rename_i x ho;exact Qu h (.inl ho) he hd hn};·{rename_i x ho;exact Qu h (.inr ho) he hd hn};·{rename_i c x y ho;exact adk h ho he hd hn};·{rename_i t ho;exact acM h ho he hd hn};·{rename_i t x ho;exact acR h ho he hd hn};·{rename_i t p ho;exact acS h ho he hd hn};·{rename_i t n p ho;exact acU h ho he hd hn};·{rename_i t x ho;exact adb h ho he hd hn};·{rename_i t x y ho;exact adn h ho he hd hn};·{rename_i x ho;exact adj h ho he hd hn};·{rename_i ho;exact acP h ho he hd hn};·{rename_i ho;exact ado h ho he hd hn};·{rename_i ho;exact acZ h ho he hd hn};·{rename_i ho;exact ac6 h ho he hd hn};·{rename_i ho;exact adh h ho he hd hn};·{rename_i ho;exact adg h ho he hd hn};·{rename_i t x lo hi mx ho;cases mx with|none=>(exact ok_slice h ho (by simpa using he) hd hn)|some m=>simp at he};·{rename_i ho;exact ac5 h ho he hd hn};·{rename_i ho;exact ac4 h ho he hd hn};·{rename_i ho;exact ac8 h ho he hd hn};·{rename_i ho;exact ac7 h ho he hd hn};·{rename_i ho;exact ac3 h ho he hd hn};·{rename_i ho;exact adi h ho he hd hn};·{rename_i ho;exact adf h ho he hd hn};·{rename_i ho;exact Qt h (.inl ho) he hd hn};·{rename_i ho;exact Qt h (.inr ho) he hd hn};·{rename_i c ho;split at he;·{rename_i hc;exact ada h ho hc he hd hn};·{rename_i hc;exact acN h ho hc he hd hn};·{rename_i hc;exact ac1 h ho hc he hd hn};·{rename_i hc;split at he;·{rename_i vs hv;exact Qw h ho hc _ (fun _ _=>rfl) hv he hd hn};·cases he};·{rename_i hc;split at he;·{rename_i vs hv;exact Qw h ho hc _ (fun _ _=>rfl) hv he hd hn};·cases he};·{rename_i dX hc;split at he;·{rename_i p hp;unfold pathOf at hp;split at hp;·{exact ac9 bH.no h ho hc (bH.path _ _ hp) he hd hn};·cases hp};·split at he;·{split at he;·{exact acX bH.no h ho hc fl he hd hn};·cases he};·exact acW bH.no bH.look h ho hc fl he hd hn};·cases he};·cases he
/-! ### What an operation writes among the slots -/
def Shaped(C:aV)(f:FuncId)(o:Oper)(e:bx):Prop:=(∃v,e.ec=(put o v [] []).ec)∨(e.wr≠[]∧∀x∈e.ec,x.1∈qm C f o)
theorem cV{C:aV}{f:FuncId}{o:Oper}{v:aa}{rd:List Id}{wr:List (Id×Option Rows)}:Shaped C f o (put o v rd wr):= .inl ⟨v,rfl⟩
theorem fB{C:aV}{f:FuncId}{o:Oper}{v:aa}{e:bx}(h:ret o v=some e):Shaped C f o e:=by have:=gx h;subst this;exact cV
theorem gj{C:aV}{f:FuncId}{o:Oper}{v:Option Value}{e:bx}(h:j5 o v=some e):Shaped C f o e:=by unfold j5 at h;split at h;·{split at h;·{exact fB h};·cases h};·cases h
theorem afl{C:aV}{f:FuncId}{o:Oper}{e1 e:bx}(h:pT C f o e1=some e)(h1:Shaped C f o e1):Shaped C f o e:=by unfold pT at h;split at h;·{split at h;·{split at h;·{simp only[Option.some.injEq]at h;subst h;exact cV};·cases h};·{split at h;·{simp only[Option.some.injEq]at h;subst h;exact cV};·cases h};·cases h};·simp only[Option.some.injEq]at h;subst h;exact h1
theorem afm{C:aV}{f:FuncId}{call:FuncId→List aa→Option (aa×List aa)}{S:an}{o:Oper}{e:bx}{k:FuncId}{args:List aa}(he:qJ C f call S o k args=some e):Shaped C f o e:=by unfold qJ at he;split at he;·{split at he;·{generalize(if fe C f o.dst=true then _ else _)=r' at he;split at he;·{split at he;·{simp only[Option.some.injEq]at he;subst he;exact cV};·cases he};·cases he};·cases he};·cases he
theorem KZ {C : aV} {f : FuncId} {call : FuncId → List aa → Option (aa × List aa)} {S : an} {g : Bool} {o : Oper} {e : bx} (he : bD C f call S g o = some e) : Shaped C f o e := by
  unfold bD at he
  split at he
  · exact fB he
  · exact fB he
  · unfold uf at he
    repeat' (first
      | with_reducible exact fB he
      | with_reducible exact gj he
      | (simp only [reduceCtorEq] at he; done)
      | (simp only [Option.some.injEq] at he; subst he; exact cV)
      | (simp only [Option.bind_eq_some_iff] at he; obtain ⟨_, _, he⟩ := he)
      | (simp only [Option.map_eq_some_iff] at he; obtain ⟨_, _, he⟩ := he; subst he; exact cV)
      | split at he)
  · unfold pN at he
    repeat' (first
      | with_reducible exact fB he
      | with_reducible exact gj he
      | (simp only [reduceCtorEq] at he; done)
      | (simp only [Option.some.injEq] at he; subst he; exact cV)
      | (simp only [Option.bind_eq_some_iff] at he; obtain ⟨_, _, he⟩ := he)
      | (simp only [Option.map_eq_some_iff] at he; obtain ⟨_, _, he⟩ := he; subst he; exact cV)
      | split at he)
  · unfold pO at he
    repeat' (first
      | with_reducible exact fB he
      | with_reducible exact gj he
      | (simp only [reduceCtorEq] at he; done)
      | (simp only [Option.some.injEq] at he; subst he; exact cV)
      | (simp only [Option.bind_eq_some_iff] at he; obtain ⟨_, _, he⟩ := he)
      | (simp only [Option.map_eq_some_iff] at he; obtain ⟨_, _, he⟩ := he; subst he; exact cV)
      | split at he)
  · unfold ud at he
    repeat' (first
      | with_reducible exact fB he
      | with_reducible exact gj he
      | (simp only [reduceCtorEq] at he; done)
      | (simp only [Option.some.injEq] at he; subst he; exact cV)
      | (simp only [Option.bind_eq_some_iff] at he; obtain ⟨_, _, he⟩ := he)
      | (simp only [Option.map_eq_some_iff] at he; obtain ⟨_, _, he⟩ := he; subst he; exact cV)
      | split at he)
  · unfold nF yZ sv at he
    repeat' (first
      | with_reducible exact fB he
      | with_reducible exact gj he
      | (simp only [reduceCtorEq] at he; done)
      | (simp only [Option.some.injEq] at he; subst he; exact cV)
      | (simp only [Option.bind_eq_some_iff] at he; obtain ⟨_, _, he⟩ := he)
      | (simp only [Option.map_eq_some_iff] at he; obtain ⟨_, _, he⟩ := he; subst he; exact cV)
      | split at he)
  · unfold lT at he
    repeat' (first
      | with_reducible exact fB he
      | with_reducible exact gj he
      | (simp only [reduceCtorEq] at he; done)
      | (simp only [Option.some.injEq] at he; subst he; exact cV)
      | (simp only [Option.bind_eq_some_iff] at he; obtain ⟨_, _, he⟩ := he)
      | (simp only [Option.map_eq_some_iff] at he; obtain ⟨_, _, he⟩ := he; subst he; exact cV)
      | split at he)
  · rename_i t ao x ho
    unfold nJ at he
    split at he
    · split at he
      · split at he
        · cases he
        · split at he
          · obtain ⟨r, _, he⟩ := Option.bind_eq_some_iff.1 he
            split at he
            · split at he
              · rename_i iZ sJ
                split at he
                · rename_i hc
                  simp only [Bool.and_eq_true, Option.isNone_iff_eq_none] at hc
                  simp only [Option.some.injEq] at he; subst he
                  refine .inr ⟨by simp, fun y hy => ?_⟩
                  obtain rfl := List.mem_singleton.1 hy
                  unfold qm
                  simp [ho, sJ]
                · cases he
              · split at he
                · simp only [Option.some.injEq] at he; subst he; exact cV
                · cases he
            · cases he
          · cases he
      · cases he
    · cases he
  · unfold y4 at he
    repeat' (first
      | with_reducible exact fB he
      | with_reducible exact gj he
      | (simp only [reduceCtorEq] at he; done)
      | (simp only [Option.some.injEq] at he; subst he; exact cV)
      | (simp only [Option.bind_eq_some_iff] at he; obtain ⟨_, _, he⟩ := he)
      | (simp only [Option.map_eq_some_iff] at he; obtain ⟨_, _, he⟩ := he; subst he; exact cV)
      | split at he)
  · unfold nE at he
    repeat' (first
      | with_reducible exact fB he
      | with_reducible exact gj he
      | (simp only [reduceCtorEq] at he; done)
      | (simp only [Option.some.injEq] at he; subst he; exact cV)
      | (simp only [Option.bind_eq_some_iff] at he; obtain ⟨_, _, he⟩ := he)
      | (simp only [Option.map_eq_some_iff] at he; obtain ⟨_, _, he⟩ := he; subst he; exact cV)
      | split at he)
  · unfold vX at he
    repeat' (first
      | with_reducible exact fB he
      | with_reducible exact gj he
      | (simp only [reduceCtorEq] at he; done)
      | (simp only [Option.some.injEq] at he; subst he; exact cV)
      | (simp only [Option.bind_eq_some_iff] at he; obtain ⟨_, _, he⟩ := he)
      | (simp only [Option.map_eq_some_iff] at he; obtain ⟨_, _, he⟩ := he; subst he; exact cV)
      | split at he)
  · unfold vV Ii B9 at he
    repeat' (first
      | with_reducible exact fB he
      | with_reducible exact gj he
      | (simp only [reduceCtorEq] at he; done)
      | (simp only [Option.some.injEq] at he; subst he; exact cV)
      | (simp only [Option.bind_eq_some_iff] at he; obtain ⟨_, _, he⟩ := he)
      | (simp only [Option.map_eq_some_iff] at he; obtain ⟨_, _, he⟩ := he; subst he; exact cV)
      | split at he)
  · unfold Fj at he
    repeat' (first
      | with_reducible exact fB he
      | with_reducible exact gj he
      | (simp only [reduceCtorEq] at he; done)
      | (simp only [Option.some.injEq] at he; subst he; exact cV)
      | (simp only [Option.bind_eq_some_iff] at he; obtain ⟨_, _, he⟩ := he)
      | (simp only [Option.map_eq_some_iff] at he; obtain ⟨_, _, he⟩ := he; subst he; exact cV)
      | split at he)
  · exact fB he
  · unfold sw at he
    repeat' (first
      | with_reducible exact fB he
      | with_reducible exact gj he
      | (simp only [reduceCtorEq] at he; done)
      | (simp only [Option.some.injEq] at he; subst he; exact cV)
      | (simp only [Option.bind_eq_some_iff] at he; obtain ⟨_, _, he⟩ := he)
      | (simp only [Option.map_eq_some_iff] at he; obtain ⟨_, _, he⟩ := he; subst he; exact cV)
      | split at he)
  · split at he
    · cases he
    · unfold pS at he
      repeat' (first
        | with_reducible exact fB he
        | with_reducible exact gj he
        | (simp only [reduceCtorEq] at he; done)
        | (simp only [Option.some.injEq] at he; subst he; exact cV)
        | (simp only [Option.bind_eq_some_iff] at he; obtain ⟨_, _, he⟩ := he)
        | (simp only [Option.map_eq_some_iff] at he; obtain ⟨_, _, he⟩ := he; subst he; exact cV)
        | split at he)
  · unfold qN at he
    repeat' (first
      | with_reducible exact fB he
      | with_reducible exact gj he
      | (simp only [reduceCtorEq] at he; done)
      | (simp only [Option.some.injEq] at he; subst he; exact cV)
      | (simp only [Option.bind_eq_some_iff] at he; obtain ⟨_, _, he⟩ := he)
      | (simp only [Option.map_eq_some_iff] at he; obtain ⟨_, _, he⟩ := he; subst he; exact cV)
      | split at he)
  · unfold Fh at he
    repeat' (first
      | with_reducible exact fB he
      | with_reducible exact gj he
      | (simp only [reduceCtorEq] at he; done)
      | (simp only [Option.some.injEq] at he; subst he; exact cV)
      | (simp only [Option.bind_eq_some_iff] at he; obtain ⟨_, _, he⟩ := he)
      | (simp only [Option.map_eq_some_iff] at he; obtain ⟨_, _, he⟩ := he; subst he; exact cV)
      | split at he)
  · unfold nG at he
    repeat' (first
      | with_reducible exact fB he
      | with_reducible exact gj he
      | (simp only [reduceCtorEq] at he; done)
      | (simp only [Option.some.injEq] at he; subst he; exact cV)
      | (simp only [Option.bind_eq_some_iff] at he; obtain ⟨_, _, he⟩ := he)
      | (simp only [Option.map_eq_some_iff] at he; obtain ⟨_, _, he⟩ := he; subst he; exact cV)
      | split at he)
  · unfold y3 at he
    repeat' (first
      | with_reducible exact fB he
      | with_reducible exact gj he
      | (simp only [reduceCtorEq] at he; done)
      | (simp only [Option.some.injEq] at he; subst he; exact cV)
      | (simp only [Option.bind_eq_some_iff] at he; obtain ⟨_, _, he⟩ := he)
      | (simp only [Option.map_eq_some_iff] at he; obtain ⟨_, _, he⟩ := he; subst he; exact cV)
      | split at he)
  · unfold y2 at he
    repeat' (first
      | with_reducible exact fB he
      | with_reducible exact gj he
      | (simp only [reduceCtorEq] at he; done)
      | (simp only [Option.some.injEq] at he; subst he; exact cV)
      | (simp only [Option.bind_eq_some_iff] at he; obtain ⟨_, _, he⟩ := he)
      | (simp only [Option.map_eq_some_iff] at he; obtain ⟨_, _, he⟩ := he; subst he; exact cV)
      | split at he)
  · unfold sx at he
    repeat' (first
      | with_reducible exact fB he
      | with_reducible exact gj he
      | (simp only [reduceCtorEq] at he; done)
      | (simp only [Option.some.injEq] at he; subst he; exact cV)
      | (simp only [Option.bind_eq_some_iff] at he; obtain ⟨_, _, he⟩ := he)
      | (simp only [Option.map_eq_some_iff] at he; obtain ⟨_, _, he⟩ := he; subst he; exact cV)
      | split at he)
  · unfold nH at he
    repeat' (first
      | with_reducible exact fB he
      | with_reducible exact gj he
      | (simp only [reduceCtorEq] at he; done)
      | (simp only [Option.some.injEq] at he; subst he; exact cV)
      | (simp only [Option.bind_eq_some_iff] at he; obtain ⟨_, _, he⟩ := he)
      | (simp only [Option.map_eq_some_iff] at he; obtain ⟨_, _, he⟩ := he; subst he; exact cV)
      | split at he)
  · unfold pQ at he
    repeat' (first
      | with_reducible exact fB he
      | with_reducible exact gj he
      | (simp only [reduceCtorEq] at he; done)
      | (simp only [Option.some.injEq] at he; subst he; exact cV)
      | (simp only [Option.bind_eq_some_iff] at he; obtain ⟨_, _, he⟩ := he)
      | (simp only [Option.map_eq_some_iff] at he; obtain ⟨_, _, he⟩ := he; subst he; exact cV)
      | split at he)
  · unfold pQ at he
    repeat' (first
      | with_reducible exact fB he
      | with_reducible exact gj he
      | (simp only [reduceCtorEq] at he; done)
      | (simp only [Option.some.injEq] at he; subst he; exact cV)
      | (simp only [Option.bind_eq_some_iff] at he; obtain ⟨_, _, he⟩ := he)
      | (simp only [Option.map_eq_some_iff] at he; obtain ⟨_, _, he⟩ := he; subst he; exact cV)
      | split at he)
  · rename_i c ho
    split at he
    · unfold qO at he
      repeat' (first
        | with_reducible exact fB he
        | with_reducible exact gj he
        | (simp only [reduceCtorEq] at he; done)
        | (simp only [Option.some.injEq] at he; subst he; exact cV)
        | (simp only [Option.bind_eq_some_iff] at he; obtain ⟨_, _, he⟩ := he)
        | (simp only [Option.map_eq_some_iff] at he; obtain ⟨_, _, he⟩ := he; subst he; exact cV)
        | split at he)
    · simp only [Option.bind_eq_some_iff] at he
      obtain ⟨e1, On, zk⟩ := he
      refine afl zk ?_
      clear zk
      have he := On
      clear On
      unfold kZ yI yJ kU at he
      repeat' (first
        | with_reducible exact fB he
        | with_reducible exact gj he
        | (simp only [reduceCtorEq] at he; done)
        | (simp only [Option.some.injEq] at he; subst he; exact cV)
        | (simp only [Option.bind_eq_some_iff] at he; obtain ⟨_, _, he⟩ := he)
        | (simp only [Option.map_eq_some_iff] at he; obtain ⟨_, _, he⟩ := he; subst he; exact cV)
        | split at he)
    · unfold vW at he
      repeat' (first
        | with_reducible exact fB he
        | with_reducible exact gj he
        | (simp only [reduceCtorEq] at he; done)
        | (simp only [Option.some.injEq] at he; subst he; exact cV)
        | (simp only [Option.bind_eq_some_iff] at he; obtain ⟨_, _, he⟩ := he)
        | (simp only [Option.map_eq_some_iff] at he; obtain ⟨_, _, he⟩ := he; subst he; exact cV)
        | split at he)
    · repeat' (first
        | with_reducible exact fB he
        | with_reducible exact gj he
        | (simp only [reduceCtorEq] at he; done)
        | (simp only [Option.some.injEq] at he; subst he; exact cV)
        | (simp only [Option.bind_eq_some_iff] at he; obtain ⟨_, _, he⟩ := he)
        | (simp only [Option.map_eq_some_iff] at he; obtain ⟨_, _, he⟩ := he; subst he; exact cV)
        | split at he)
    · repeat' (first
        | with_reducible exact fB he
        | with_reducible exact gj he
        | (simp only [reduceCtorEq] at he; done)
        | (simp only [Option.some.injEq] at he; subst he; exact cV)
        | (simp only [Option.bind_eq_some_iff] at he; obtain ⟨_, _, he⟩ := he)
        | (simp only [Option.map_eq_some_iff] at he; obtain ⟨_, _, he⟩ := he; subst he; exact cV)
        | split at he)
    · rename_i dX hc
      split at he
      · unfold pP at he
        repeat' (first
          | with_reducible exact fB he
          | with_reducible exact gj he
          | (simp only [reduceCtorEq] at he; done)
          | (simp only [Option.some.injEq] at he; subst he; exact cV)
          | (simp only [Option.bind_eq_some_iff] at he; obtain ⟨_, _, he⟩ := he)
          | (simp only [Option.map_eq_some_iff] at he; obtain ⟨_, _, he⟩ := he; subst he; exact cV)
          | split at he)
      · split at he
        · split at he
          · exact afm he
          · cases he
        · unfold nw at he
          split at he
          · split at he
            · unfold uP at he
              repeat' (first
                | (simp only [reduceCtorEq] at he; done)
                | (simp only [Option.some.injEq] at he; subst he; exact cV)
                | split at he)
            split at he
            · split at he
              · generalize (if fe C f o.dst = true then _ else _) = r' at he
                split at he
                · cases he
                · split at he
                  · simp only [Option.some.injEq] at he; subst he; exact cV
                  · cases he
              · cases he
            · cases he
          · cases he
    · cases he
  · cases he
end
end Go.Ab
