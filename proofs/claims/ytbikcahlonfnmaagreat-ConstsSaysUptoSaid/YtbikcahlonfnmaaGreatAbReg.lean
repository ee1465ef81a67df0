import Derived.Test.YtbikcahlonfnmaaGreatAbGr
namespace Go.Ab
open Go
section
variable{C:aO}{E:Env}{w:World}{S:ak}{a:Act}{β:Id→Option Loc}{F:Id→List Nat}
variable{next:Act→World→Prop}{Q:Exit→Act→World→Prop}
theorem Jm(bI:kD C){f:FuncId}{call:FuncId→List aa→Option (aa×List aa)}(eI:∀k as r,call k as=some r→Sound C k as r)(h:aR C E w S a β F){o:Oper}{e:bx}(he:bF C f call S true o=some e)(hd:cE S e)(hn:∀a' w',bG C E (S.app e) a' w'→next a' w'):o.wp C.P a w next Q:=by unfold bF at he;split at he;·{rename_i x ho;exact T9 h (.inl ho) he hd hn};·{rename_i x ho;exact T9 h (.inr ho) he hd hn};·{rename_i c x y ho;exact aib h ho he hd hn};·{rename_i t ho;exact ahD h ho he hd hn};·{rename_i t x ho;exact ahI h ho he hd hn};·{rename_i t p ho;exact ahJ h ho he hd hn};·{rename_i t n p ho;exact ahL h ho he hd hn};·{rename_i t x ho;exact ah4 h ho he hd hn};·{rename_i t x y ho;exact aie h ho he hd hn};·{rename_i x ho;exact aia h ho he hd hn};·{rename_i ho;exact ahG h ho he hd hn};·{rename_i ho;exact aif h ho he hd hn};·{rename_i ho;exact ahQ h ho he hd hn};·{rename_i ho;exact ahZ h ho he hd hn};·{rename_i ho;exact ah8 h ho he hd hn};·{rename_i ho;exact ah7 h ho he hd hn};·{rename_i t x lo hi mx ho;cases mx with|none=>(exact ok_slice h ho (by simpa using he) hd hn)|some m=>simp at he};·{rename_i ho;exact ahW h ho he hd hn};·{rename_i ho;exact ahV h ho he hd hn};·{rename_i ho;exact ah1 h ho he hd hn};·{rename_i ho;exact ah0 h ho he hd hn};·{rename_i ho;exact ahU h ho he hd hn};·{rename_i ho;exact ah9 h ho he hd hn};·{rename_i ho;exact ah6 h ho he hd hn};·{rename_i ho;exact T8 h (.inl ho) he hd hn};·{rename_i ho;exact T8 h (.inr ho) he hd hn};·{rename_i c ho;split at he;·{rename_i hc;exact ah3 h ho hc he hd hn};·{rename_i hc;exact ahE h ho hc he hd hn};·{rename_i hc;exact ahS h ho hc he hd hn};·{rename_i hc;split at he;·{rename_i vs hv;exact Ub h ho hc _ (fun _ _=>rfl) hv he hd hn};·cases he};·{rename_i hc;split at he;·{rename_i vs hv;exact Ub h ho hc _ (fun _ _=>rfl) hv he hd hn};·cases he};·{rename_i cF hc;split at he;·{rename_i x dX;exact ahO bI.no h ho hc eI dX he hd hn};·rename_i dX;split at he;·{rename_i p hp;unfold pathOf at hp;split at hp;·{exact ah2 bI.no h ho hc (bI.path _ _ hp) he hd hn};·cases hp};·split at he;·{split at he;·{rename_i k;refine ahP bI.no h ho hc eI ?_ he hd hn;simp only[ak.get,un,nC]at dX;split at dX;·{cases dX};·rename_i hg;simpa using hg};·cases he};·exact ahN bI.no bI.look h ho hc eI dX he hd hn};·cases he};·cases he
/-! ### What an operation writes among the slots -/
def Shaped(C:aO)(f:FuncId)(o:Oper)(e:bx):Prop:=(∃v,e.ep=(put o v [] []).ep)∨(e.wr≠[]∧∀x∈e.ep,x.1∈rJ C f o)
theorem c4{C:aO}{f:FuncId}{o:Oper}{v:aa}{rd:List Id}{wr:List (Id×Option Rows)}:Shaped C f o (put o v rd wr):= .inl ⟨v,rfl⟩
theorem fP{C:aO}{f:FuncId}{o:Oper}{v:aa}{e:bx}(h:ret o v=some e):Shaped C f o e:=by have:=gJ h;subst this;exact c4
theorem gx{C:aO}{f:FuncId}{o:Oper}{v:Option Value}{e:bx}(h:kS o v=some e):Shaped C f o e:=by unfold kS at h;split at h;·{split at h;·{exact fP h};·cases h};·cases h
theorem akq{C:aO}{f:FuncId}{o:Oper}{e1 e:bx}(h:qY C f o e1=some e)(h1:Shaped C f o e1):Shaped C f o e:=by unfold qY at h;split at h;·{split at h;·{split at h;·{simp only[Option.some.injEq]at h;subst h;exact c4};·cases h};·{split at h;·{simp only[Option.some.injEq]at h;subst h;exact c4};·cases h};·cases h};·simp only[Option.some.injEq]at h;subst h;exact h1
theorem akr{C:aO}{f:FuncId}{call:FuncId→List aa→Option (aa×List aa)}{S:ak}{o:Oper}{e:bx}{k:FuncId}{args:List aa}(he:r8 C f call S o k args=some e):Shaped C f o e:=by unfold r8 at he;split at he;·{split at he;·{generalize(if eX C f o.dst=true then _ else _)=r' at he;split at he;·{split at he;·{simp only[Option.some.injEq]at he;subst he;exact c4};·cases he};·cases he};·cases he};·cases he
theorem Od {C : aO} {f : FuncId} {call : FuncId → List aa → Option (aa × List aa)} {S : ak} {g : Bool} {o : Oper} {e : bx} (he : bF C f call S g o = some e) : Shaped C f o e := by
  unfold bF at he
  split at he
  · exact fP he
  · exact fP he
  · unfold vh at he
    repeat' (first
      | with_reducible exact fP he
      | with_reducible exact gx he
      | (simp only [reduceCtorEq] at he; done)
      | (simp only [Option.some.injEq] at he; subst he; exact c4)
      | (simp only [Option.bind_eq_some_iff] at he; obtain ⟨_, _, he⟩ := he)
      | (simp only [Option.map_eq_some_iff] at he; obtain ⟨_, _, he⟩ := he; subst he; exact c4)
      | split at he)
  · unfold qQ at he
    repeat' (first
      | with_reducible exact fP he
      | with_reducible exact gx he
      | (simp only [reduceCtorEq] at he; done)
      | (simp only [Option.some.injEq] at he; subst he; exact c4)
      | (simp only [Option.bind_eq_some_iff] at he; obtain ⟨_, _, he⟩ := he)
      | (simp only [Option.map_eq_some_iff] at he; obtain ⟨_, _, he⟩ := he; subst he; exact c4)
      | split at he)
  · unfold qR at he
    repeat' (first
      | with_reducible exact fP he
      | with_reducible exact gx he
      | (simp only [reduceCtorEq] at he; done)
      | (simp only [Option.some.injEq] at he; subst he; exact c4)
      | (simp only [Option.bind_eq_some_iff] at he; obtain ⟨_, _, he⟩ := he)
      | (simp only [Option.map_eq_some_iff] at he; obtain ⟨_, _, he⟩ := he; subst he; exact c4)
      | split at he)
  · unfold ve at he
    repeat' (first
      | with_reducible exact fP he
      | with_reducible exact gx he
      | (simp only [reduceCtorEq] at he; done)
      | (simp only [Option.some.injEq] at he; subst he; exact c4)
      | (simp only [Option.bind_eq_some_iff] at he; obtain ⟨_, _, he⟩ := he)
      | (simp only [Option.map_eq_some_iff] at he; obtain ⟨_, _, he⟩ := he; subst he; exact c4)
      | split at he)
  · unfold qS D4 tD at he
    repeat' (first
      | with_reducible exact fP he
      | with_reducible exact gx he
      | (simp only [reduceCtorEq] at he; done)
      | (simp only [Option.some.injEq] at he; subst he; exact c4)
      | (simp only [Option.bind_eq_some_iff] at he; obtain ⟨_, _, he⟩ := he)
      | (simp only [Option.map_eq_some_iff] at he; obtain ⟨_, _, he⟩ := he; subst he; exact c4)
      | split at he)
  · unfold mK at he
    repeat' (first
      | with_reducible exact fP he
      | with_reducible exact gx he
      | (simp only [reduceCtorEq] at he; done)
      | (simp only [Option.some.injEq] at he; subst he; exact c4)
      | (simp only [Option.bind_eq_some_iff] at he; obtain ⟨_, _, he⟩ := he)
      | (simp only [Option.map_eq_some_iff] at he; obtain ⟨_, _, he⟩ := he; subst he; exact c4)
      | split at he)
  · rename_i t ao x ho
    unfold oB at he
    split at he
    · split at he
      · split at he
        · cases he
        · split at he
          · obtain ⟨r, _, he⟩ := Option.bind_eq_some_iff.1 he
            split at he
            · split at he
              · rename_i jw tV
                split at he
                · rename_i hc
                  simp only [Bool.and_eq_true, Option.isNone_iff_eq_none] at hc
                  simp only [Option.some.injEq] at he; subst he
                  refine .inr ⟨by simp, fun y hy => ?_⟩
                  obtain rfl := List.mem_singleton.1 hy
                  unfold rJ
                  simp [ho, tV]
                · cases he
              · split at he
                · simp only [Option.some.injEq] at he; subst he; exact c4
                · cases he
            · cases he
          · cases he
      · cases he
    · cases he
  · unfold AX at he
    repeat' (first
      | with_reducible exact fP he
      | with_reducible exact gx he
      | (simp only [reduceCtorEq] at he; done)
      | (simp only [Option.some.injEq] at he; subst he; exact c4)
      | (simp only [Option.bind_eq_some_iff] at he; obtain ⟨_, _, he⟩ := he)
      | (simp only [Option.map_eq_some_iff] at he; obtain ⟨_, _, he⟩ := he; subst he; exact c4)
      | split at he)
  · unfold ox at he
    repeat' (first
      | with_reducible exact fP he
      | with_reducible exact gx he
      | (simp only [reduceCtorEq] at he; done)
      | (simp only [Option.some.injEq] at he; subst he; exact c4)
      | (simp only [Option.bind_eq_some_iff] at he; obtain ⟨_, _, he⟩ := he)
      | (simp only [Option.map_eq_some_iff] at he; obtain ⟨_, _, he⟩ := he; subst he; exact c4)
      | split at he)
  · unfold xV at he
    repeat' (first
      | with_reducible exact fP he
      | with_reducible exact gx he
      | (simp only [reduceCtorEq] at he; done)
      | (simp only [Option.some.injEq] at he; subst he; exact c4)
      | (simp only [Option.bind_eq_some_iff] at he; obtain ⟨_, _, he⟩ := he)
      | (simp only [Option.map_eq_some_iff] at he; obtain ⟨_, _, he⟩ := he; subst he; exact c4)
      | split at he)
  · unfold xT K9 D5 at he
    repeat' (first
      | with_reducible exact fP he
      | with_reducible exact gx he
      | (simp only [reduceCtorEq] at he; done)
      | (simp only [Option.some.injEq] at he; subst he; exact c4)
      | (simp only [Option.bind_eq_some_iff] at he; obtain ⟨_, _, he⟩ := he)
      | (simp only [Option.map_eq_some_iff] at he; obtain ⟨_, _, he⟩ := he; subst he; exact c4)
      | split at he)
  · unfold HT at he
    repeat' (first
      | with_reducible exact fP he
      | with_reducible exact gx he
      | (simp only [reduceCtorEq] at he; done)
      | (simp only [Option.some.injEq] at he; subst he; exact c4)
      | (simp only [Option.bind_eq_some_iff] at he; obtain ⟨_, _, he⟩ := he)
      | (simp only [Option.map_eq_some_iff] at he; obtain ⟨_, _, he⟩ := he; subst he; exact c4)
      | split at he)
  · exact fP he
  · unfold tE at he
    repeat' (first
      | with_reducible exact fP he
      | with_reducible exact gx he
      | (simp only [reduceCtorEq] at he; done)
      | (simp only [Option.some.injEq] at he; subst he; exact c4)
      | (simp only [Option.bind_eq_some_iff] at he; obtain ⟨_, _, he⟩ := he)
      | (simp only [Option.map_eq_some_iff] at he; obtain ⟨_, _, he⟩ := he; subst he; exact c4)
      | split at he)
  · split at he
    · cases he
    · unfold qV at he
      repeat' (first
        | with_reducible exact fP he
        | with_reducible exact gx he
        | (simp only [reduceCtorEq] at he; done)
        | (simp only [Option.some.injEq] at he; subst he; exact c4)
        | (simp only [Option.bind_eq_some_iff] at he; obtain ⟨_, _, he⟩ := he)
        | (simp only [Option.map_eq_some_iff] at he; obtain ⟨_, _, he⟩ := he; subst he; exact c4)
        | split at he)
  · unfold se at he
    repeat' (first
      | with_reducible exact fP he
      | with_reducible exact gx he
      | (simp only [reduceCtorEq] at he; done)
      | (simp only [Option.some.injEq] at he; subst he; exact c4)
      | (simp only [Option.bind_eq_some_iff] at he; obtain ⟨_, _, he⟩ := he)
      | (simp only [Option.map_eq_some_iff] at he; obtain ⟨_, _, he⟩ := he; subst he; exact c4)
      | split at he)
  · unfold HQ at he
    repeat' (first
      | with_reducible exact fP he
      | with_reducible exact gx he
      | (simp only [reduceCtorEq] at he; done)
      | (simp only [Option.some.injEq] at he; subst he; exact c4)
      | (simp only [Option.bind_eq_some_iff] at he; obtain ⟨_, _, he⟩ := he)
      | (simp only [Option.map_eq_some_iff] at he; obtain ⟨_, _, he⟩ := he; subst he; exact c4)
      | split at he)
  · unfold oy at he
    repeat' (first
      | with_reducible exact fP he
      | with_reducible exact gx he
      | (simp only [reduceCtorEq] at he; done)
      | (simp only [Option.some.injEq] at he; subst he; exact c4)
      | (simp only [Option.bind_eq_some_iff] at he; obtain ⟨_, _, he⟩ := he)
      | (simp only [Option.map_eq_some_iff] at he; obtain ⟨_, _, he⟩ := he; subst he; exact c4)
      | split at he)
  · unfold AW at he
    repeat' (first
      | with_reducible exact fP he
      | with_reducible exact gx he
      | (simp only [reduceCtorEq] at he; done)
      | (simp only [Option.some.injEq] at he; subst he; exact c4)
      | (simp only [Option.bind_eq_some_iff] at he; obtain ⟨_, _, he⟩ := he)
      | (simp only [Option.map_eq_some_iff] at he; obtain ⟨_, _, he⟩ := he; subst he; exact c4)
      | split at he)
  · unfold AV at he
    repeat' (first
      | with_reducible exact fP he
      | with_reducible exact gx he
      | (simp only [reduceCtorEq] at he; done)
      | (simp only [Option.some.injEq] at he; subst he; exact c4)
      | (simp only [Option.bind_eq_some_iff] at he; obtain ⟨_, _, he⟩ := he)
      | (simp only [Option.map_eq_some_iff] at he; obtain ⟨_, _, he⟩ := he; subst he; exact c4)
      | split at he)
  · unfold tF at he
    repeat' (first
      | with_reducible exact fP he
      | with_reducible exact gx he
      | (simp only [reduceCtorEq] at he; done)
      | (simp only [Option.some.injEq] at he; subst he; exact c4)
      | (simp only [Option.bind_eq_some_iff] at he; obtain ⟨_, _, he⟩ := he)
      | (simp only [Option.map_eq_some_iff] at he; obtain ⟨_, _, he⟩ := he; subst he; exact c4)
      | split at he)
  · unfold oz at he
    repeat' (first
      | with_reducible exact fP he
      | with_reducible exact gx he
      | (simp only [reduceCtorEq] at he; done)
      | (simp only [Option.some.injEq] at he; subst he; exact c4)
      | (simp only [Option.bind_eq_some_iff] at he; obtain ⟨_, _, he⟩ := he)
      | (simp only [Option.map_eq_some_iff] at he; obtain ⟨_, _, he⟩ := he; subst he; exact c4)
      | split at he)
  · unfold qT at he
    repeat' (first
      | with_reducible exact fP he
      | with_reducible exact gx he
      | (simp only [reduceCtorEq] at he; done)
      | (simp only [Option.some.injEq] at he; subst he; exact c4)
      | (simp only [Option.bind_eq_some_iff] at he; obtain ⟨_, _, he⟩ := he)
      | (simp only [Option.map_eq_some_iff] at he; obtain ⟨_, _, he⟩ := he; subst he; exact c4)
      | split at he)
  · unfold qT at he
    repeat' (first
      | with_reducible exact fP he
      | with_reducible exact gx he
      | (simp only [reduceCtorEq] at he; done)
      | (simp only [Option.some.injEq] at he; subst he; exact c4)
      | (simp only [Option.bind_eq_some_iff] at he; obtain ⟨_, _, he⟩ := he)
      | (simp only [Option.map_eq_some_iff] at he; obtain ⟨_, _, he⟩ := he; subst he; exact c4)
      | split at he)
  · rename_i c ho
    split at he
    · unfold sg at he
      repeat' (first
        | with_reducible exact fP he
        | with_reducible exact gx he
        | (simp only [reduceCtorEq] at he; done)
        | (simp only [Option.some.injEq] at he; subst he; exact c4)
        | (simp only [Option.bind_eq_some_iff] at he; obtain ⟨_, _, he⟩ := he)
        | (simp only [Option.map_eq_some_iff] at he; obtain ⟨_, _, he⟩ := he; subst he; exact c4)
        | split at he)
    · simp only [Option.bind_eq_some_iff] at he
      obtain ⟨e1, Bf, vo⟩ := he
      refine akq vo ?_
      clear vo
      have he := Bf
      clear Bf
      unfold lV AF AG lQ at he
      repeat' (first
        | with_reducible exact fP he
        | with_reducible exact gx he
        | (simp only [reduceCtorEq] at he; done)
        | (simp only [Option.some.injEq] at he; subst he; exact c4)
        | (simp only [Option.bind_eq_some_iff] at he; obtain ⟨_, _, he⟩ := he)
        | (simp only [Option.map_eq_some_iff] at he; obtain ⟨_, _, he⟩ := he; subst he; exact c4)
        | split at he)
    · unfold xU at he
      repeat' (first
        | with_reducible exact fP he
        | with_reducible exact gx he
        | (simp only [reduceCtorEq] at he; done)
        | (simp only [Option.some.injEq] at he; subst he; exact c4)
        | (simp only [Option.bind_eq_some_iff] at he; obtain ⟨_, _, he⟩ := he)
        | (simp only [Option.map_eq_some_iff] at he; obtain ⟨_, _, he⟩ := he; subst he; exact c4)
        | split at he)
    · repeat' (first
        | with_reducible exact fP he
        | with_reducible exact gx he
        | (simp only [reduceCtorEq] at he; done)
        | (simp only [Option.some.injEq] at he; subst he; exact c4)
        | (simp only [Option.bind_eq_some_iff] at he; obtain ⟨_, _, he⟩ := he)
        | (simp only [Option.map_eq_some_iff] at he; obtain ⟨_, _, he⟩ := he; subst he; exact c4)
        | split at he)
    · repeat' (first
        | with_reducible exact fP he
        | with_reducible exact gx he
        | (simp only [reduceCtorEq] at he; done)
        | (simp only [Option.some.injEq] at he; subst he; exact c4)
        | (simp only [Option.bind_eq_some_iff] at he; obtain ⟨_, _, he⟩ := he)
        | (simp only [Option.map_eq_some_iff] at he; obtain ⟨_, _, he⟩ := he; subst he; exact c4)
        | split at he)
    · rename_i cF hc
      split at he
      · unfold qK at he
        simp only [Option.bind_eq_some_iff] at he
        obtain ⟨x, _, he⟩ := he
        split at he
        · cases he
        · generalize (if eX C f o.dst = true then (if flat x.r = true then dW x.r else .bz) else x.r) = rr at he
          split at he
          · simp only [Option.some.injEq] at he; subst he; exact c4
          · cases he
      split at he
      · unfold vg at he
        repeat' (first
          | with_reducible exact fP he
          | with_reducible exact gx he
          | (simp only [reduceCtorEq] at he; done)
          | (simp only [Option.some.injEq] at he; subst he; exact c4)
          | (simp only [Option.bind_eq_some_iff] at he; obtain ⟨_, _, he⟩ := he)
          | (simp only [Option.map_eq_some_iff] at he; obtain ⟨_, _, he⟩ := he; subst he; exact c4)
          | split at he)
      · split at he
        · split at he
          · exact akr he
          · cases he
        · unfold qJ at he
          split at he
          · split at he
            · unfold vS at he
              repeat' (first
                | (simp only [reduceCtorEq] at he; done)
                | (simp only [Option.some.injEq] at he; subst he; exact c4)
                | split at he)
            split at he
            · split at he
              · generalize (if eX C f o.dst = true then _ else _) = r' at he
                split at he
                · cases he
                · split at he
                  · simp only [Option.some.injEq] at he; subst he; exact c4
                  · cases he
              · cases he
            · cases he
          · cases he
    · cases he
  · cases he
end
end Go.Ab
