import Derived.Test.YtmboghefgckkpaaGreatAbCut
import Derived.Deep.LoopGhost
import Derived.RangeFuncCalls
import Derived.RangeFuncRecord
import Derived.RangeFuncLeaves
import Derived.OrdersIn
import Derived.Below
namespace Go.Ab
open Go
def nG:Option Nat→Fence|none=>Fence.wide|some l=>Fence.wide.inRound l
theorem Iu(ro:Option Nat)(f:FuncId):(nG ro).fn f:=by cases ro<;>trivial
theorem A3(ro:Option Nat):(nG ro).depth.isSome=true→1≤0:=by cases ro<;>(intro h;cases h)
theorem Rv{ro:Option Nat}{n:Nat}{P:Program}{f:FuncId}{args:Array Value}{w:World}{R:Ending→World→Prop}(h:Calls P f args w R):CallsIn (nG ro) n P f args w R:=by have:=callsIn_wide (n:=n)|>.2 h;cases ro with|none=>(exact this)|some l=>exact this.inRound l
theorem Wq{ro:Option Nat}{n:Nat}{P:Program}{row:String}{args:Array Value}{w:World}{R:Value→World→Prop}(h:_root_.Go.Rows P row args w R):RowsIn (nG ro) n P row args w R:=by intro c cs _;obtain⟨v,w',h1,h2⟩:=h c cs;refine⟨v,w',h1, ?_⟩;cases ro with|none=>(exact stepsIn_wide.2 h2)|some l=>exact stepsIn_wide.2 h2
def z2(ops:Array Oper):Bool:=ops.all fun o=>match o.op with| .defer _=>false|_=>true
section
variable{P:Program}{ops:Array Oper}{Q:Exit→Act→World→Prop}{ro:Option Nat}
theorem akP{o:Oper}{a:Act}{w:World}{K K':Act→World→Prop}(hd:∀c,o.op≠ .defer c)(hK:∀a w,K a w→K' a w)(h:o.wp P a w K Q):o.wpIn (nG ro) 0 P a w K' Q:=by refine⟨fun f _=>Iu ro f, ?_⟩;rw[Oper.semAt_eq _ _ _ hd];unfold Oper.wp at h;generalize(execOp a.eval o).run P w=r at*;cases r with|ok x w'=>(cases x with|value v=>(exact hK _ _ h)|skip=>(exact hK _ _ h)|defer d=>(exact hK _ _ h)|enter f args=>(exact⟨A3 ro,Rv (h.mono fun e w'' he=>by cases e<;>first|exact hK _ _ he|exact he)⟩)|row row args=>(exact⟨A3 ro,Wq (h.mono fun v w'' he=>hK _ _ he)⟩)|round l f tmps assign body=>(exact h.elim)|_=>exact h)|halt x w'=>cases x<;>exact h
theorem ajB(h:z2 ops=true){i:Nat}{o:Oper}(ho:ops[i]? =some o)(c:Call):o.op≠ .defer c:=by intro e;unfold z2 at h;rw[Array.all_eq_true_iff_forall_mem]at h;have:=h o (Array.mem_of_getElem? ho);rw[e]at this;cases this
theorem Xy(hd:z2 ops=true)(m9:¬LetsOut Q){i:Nat}{a:Act}{w:World}{K K':Act→World→Prop}(hK:∀a w,K a w→K' a w)(h:wpOp P ops Q i K a w):wpOpIn (nG ro) 0 P ops Q i K' a w:=by unfold wpOp at h;unfold wpOpIn;cases ho:ops[i]? with|none=>(rw[ho]at h;exact hK _ _ h)|some o=>rw[ho]at h;simp only at h⊢;split at h;·{rename_i hw;rw[if_pos hw];rcases h with h|h;·{exact akP (ajB hd ho) hK h};·exact absurd h.2 m9};·rename_i hw;rw[if_neg hw];exact⟨fun f _=>Iu ro f,hK _ _ h⟩
theorem Xz(hd:z2 ops=true)(m9:¬LetsOut Q):∀(l:List Nat)(a:Act)(w:World),wpOps P ops Q l a w→wpOpsIn (nG ro) 0 P ops Q l a w|[],_,_,h=>h|i::l,a,w,h=>by rw[wpOpsIn_cons];rw[wpOps_cons]at h;exact Xy hd m9 (fun a w=>Xz hd m9 l a w) h
theorem Xw{md:Region.Mode}(hd:z2 ops=true)(m9:¬LetsOut Q):∀(n:Nat)(listed:Array Bool)(a:Act)(w:World),wpAny P md ops Q n listed a w→wpAnyIn (nG ro) 0 P md ops Q n listed a w|0,_,_,_,h=>h|n+1,listed,a,w,h=>⟨h.1,fun i hi=>Xy hd m9 (fun a w=>Xw hd m9 n _ a w) (h.2 i hi)⟩
end
/-! ### The record, the block of deferred calls -/
def xI:Obj→Bool| .cells .. =>false| .map .. =>false|_=>true
section
variable{C:aU}{E:Env}{w:World}{S:an}{a:Act}{β:Id→Option Loc}{F:Id→List Nat}
theorem fQ.xH{b k:Nat}{vs:List Value}{o:Obj}(h:fQ w b k vs)(ho:w.heap[b]? =some o)(hd:xI o=true):vs=[]:=by cases vs with|nil=>(rfl)|cons v vs=>have:=h 0 v rfl;unfold World.cell? at this;simp only[ho]at this;cases o<;>simp_all[xI]
theorem oA.xH{b:Nat}{o:Obj}{r:Ab.Rows}(h:oA w b r)(ho:w.heap[b]? =some o):xI o=false:=by obtain⟨es,c,h1,_⟩:=h;rw[h1]at ho;cases ho;rfl
theorem R.xH{I:Nat→Prop}{f:List Nat}{v:Value}{x:aa}{w':World}(h:R w I β f v x)(hw:∀(b:Nat)(o:Obj),w.heap[b]? =some o→xI o=false→w'.heap[b]? =some o):R w' I β f v x:=by have hC:∀{b k:Nat}{vs:List Value},fQ w b k vs→fQ w' b k vs:=fun{b k vs}hc=>by{cases ho:w.heap[b]? with|none=>(have:vs=[]:=by{cases vs with|nil=>(rfl)|cons v vs=>have:=hc 0 v rfl;unfold World.cell? at this;simp[ho]at this};subst this;intro k v hk;simp at hk)|some o=>cases hd:xI o with|true=>(rw[hc.xH ho hd];intro k v hk;simp at hk)|false=>exact hc.mono (by rw[hw b o ho hd,ho])};have hB:∀{b n:Nat},gB w b n→gB w' b n:=fun{b n}hb=>by{obtain⟨c,e,h1,h2⟩:=hb;exact⟨c,e,hw b _ h1 rfl,h2⟩};have j7:∀{b:Nat}{rows:Ab.Rows},oA w b rows→oA w' b rows:=fun{b rows}hb=>by{obtain⟨es,c,h1,h2⟩:=hb;exact⟨es,c,hw b _ h1 rfl,h2⟩};induction h with|val h=>(exact .val h)|cE=>(exact .cE)|gW=>(exact .gW)|sl h1 h2 h3 h4 _ ih=>(exact .sl h1 h2 (hC h3) h4 ih)|ax h1 h2 _ ih=>(exact .ax h1 (hC h2) ih)|jh h hl=>(exact .jh h hl)|rs h1 h2 h3=>(exact .rs h1 h2 h3)|mp h=>(exact .mp h)|fn _ _ ih1 ih2=>(exact .fn ih1 ih2)|nil=>(exact .nil)|cons _ _ ih1 ih2=>(exact .cons ih1 ih2)|bG _ ih=>(exact .bG ih)|kq=>(exact .kq)|own h0 h1 h2 h3 h4 h5 _ ih=>(exact .own h0 h1 (hB h2) h3 h4 (hC h5) ih)|lD h0 h1 h2 h3 h5 _ ih=>(exact .lD h0 h1 (hB h2) h3 (hC h5) ih)|aL h1 h2 h3 _ ih=>(exact .aL (hB h1) h2 (hC h3) ih)|su _ ih=>(exact .su ih)|sr=>(exact .sr)|nn=>(exact .nn)|mr h=>(exact .mr h)|eO h=>(exact .eO (j7 h))|im h1 h2=>(exact .im h1 (j7 h2))|bH=>exact .bH
theorem eu.xH{I:Nat→Prop}{id:Id}{rows:Ab.Rows}{fp:List Nat}{w':World}(h:eu w I β id rows fp)(hw:∀(b:Nat)(o:Obj),w.heap[b]? =some o→xI o=false→w'.heap[b]? =some o):eu w' I β id rows fp:=by rcases h with h|⟨b,h1,h2,es,c,h3,h4⟩|⟨b,o,sz,n,vs,cT,h1,h2,⟨c,e,h3,oL⟩,h4,h5,h6,h7⟩;·{exact .inl h};·{exact .inr (.inl ⟨b,h1,h2,es,c,hw b _ h3 rfl,h4⟩)};·exact .inr (.inr ⟨b,o,sz,n,vs,cT,h1,h2,⟨c,e,hw b _ h3 rfl,oL⟩,h4,h5,h6.mono (by rw[hw b _ h3 rfl,h3]),h7.xH hw⟩)
theorem aV.GS(h:aV C E w S a β F){l:Nat}{o o':Obj}(hl:w.heap[l]? =some o)(ho:xI o=true)(hE:E.w0.heap.size≤l){a':Act}(ht:a'.tmps=a.tmps)(hdf:jX (w.putObj l o') (fun b=>aQ E w F b∧E.m≤b) E.ds a'.defers):aV C E (w.putObj l o') S a' β F:=by have hlt:=mL hl;have hw:∀(b:Nat)(x:Obj),w.heap[b]? =some x→xI x=false→(w.putObj l o').heap[b]? =some x:=fun b x hb hx=>by{have:b≠l:=fun e=>by{subst e;rw[hl]at hb;cases hb;rw[ho]at hx;cases hx};rw[World.putObj_heap_other this,hb]};have p6:∀b,aQ E (w.putObj l o') F b↔aQ E w F b:=fun b=>by{unfold aQ;rw[World.putObj_size]};have hI:aQ E (w.putObj l o') F=aQ E w F:=funext fun b=>propext (p6 b);refine{n:=by rw[ht];exact h.n,df:=by rw[hI];exact hdf,slot:=fun t=>by rw[hI,ht];exact(h.slot t).xH hw,obj:=fun id rows hr=>by rw[hI];exact(h.obj id rows hr).xH hw,dead:=h.dead,nd:=h.nd,dK:=h.dK,dom:=h.dom,lt:=fun id b hb=>by rw[World.putObj_size];exact h.lt id b hb,kept:= ?_,cP:=fun g cs hg=>by rw[hI];exact(h.cP g cs hg).xH hw,ns:=h.ns,kb:=h.kb};refine⟨by rw[World.putObj_size];exact h.kept.size,fun b hb hf=> ?_,h.kept.os,h.kept.out,fun x hx=> ?_,fun b n hB=> ?_⟩;·{rw[World.putObj_heap_other (by omega)];exact h.kept.dh b hb hf};·{rw[←h.kept.e7 x hx];exact World.frozen?_of_block (World.putObj_heap_other (by omega))};·obtain⟨c,e,h1,h2⟩:=h.kept.qx b n hB;exact⟨c,e,hw b _ h1 rfl,h2⟩
theorem aV.abj(h:aV C E w S a β F)(o:Obj){a':Act}(ht:a'.tmps=a.tmps)(hdf:jX (w.alloc o) (fun b=>aQ E (w.alloc o) F b∧E.m≤b) E.ds a'.defers):aV C E (w.alloc o) S a' β F:=by have hold:∀b,b<w.heap.size→(w.alloc o).heap[b]? =w.heap[b]? :=fun b hb=>RowKit.Below.heap_alloc w o b hb;have h1:=h.DN (w':=w.alloc o) (S':=S) (a':=a) (β':=β) (F':=F) (fun _=>False) h.n (by simp) rfl rfl (fun x hx=>World.frozen?_of_block (hold _ hx)) (fun b hb _=>hold b hb) (fun _ _ h=>h) (fun id b hb=> .inl ⟨id,hb⟩) (fun _ _=>⟨rfl,rfl⟩) (fun _ _ hf=>hf.elim) (fun _ hf=>hf.elim) (fun _ hf=>hf.elim) (fun _ _ _ hf=>hf.elim) h.dom (fun _ t=> .inl ⟨rfl,rfl⟩) (fY:=yC hold);exact{n:=by rw[ht];exact h1.n,df:=hdf,slot:=fun t=>by rw[ht];exact h1.slot t,obj:=h1.obj,dead:=h1.dead,nd:=h1.nd,dK:=h1.dK,dom:=h1.dom,lt:=h1.lt,kept:=h1.kept,cP:=h1.cP,ns:=h1.ns,kb:=h1.kb}
def Env.at(E:Env)(w:World)(F:Id→List Nat):Env:=⟨w,fun b=>∃id,b∈F id,aQ E w F,min E.m w.heap.size,Nat.min_le_right _ _,E.K,E.Ce,E.Cf,E.ds⟩
theorem P1{b:Nat}:aQ (E.at w F) w F b↔aQ E w F b:=by constructor;·{rintro⟨h|⟨id,h⟩|h,h2,h3⟩;·{exact h};·{exact absurd h (h3 id)};·exact absurd h2 (Nat.not_lt.2 h)};·intro h;exact⟨.inl h,h.2⟩
theorem aV.KO(h:aV C E w S a β F):aV C (E.at w F) w S a β F:=by have hI:aQ (E.at w F) w F=aQ E w F:=funext fun b=>propext P1;exact{n:=h.n,df:=by rw[hI];exact h.df.mono (fun b hb=>⟨hb.1,Nat.le_trans (Nat.min_le_left _ _) hb.2⟩) (fun _ _=>rfl),slot:=fun t=>by rw[hI];exact h.slot t,obj:=fun id rows hr=>by rw[hI];exact h.obj id rows hr,dead:=h.dead,nd:=h.nd,dK:=h.dK,dom:=h.dom,lt:=fun id b hb=>⟨(h.lt id b hb).1, .inl ⟨id,hb⟩⟩,kept:=Kept.refl _ _,cP:=fun g cs hg=>by rw[hI];exact h.cP g cs hg,ns:=h.ns,kb:=h.kb}
theorem aV.back (h : aV C E w S a β F) {w' : World} {S' : an} {a' : Act} {β' : Id → Option Loc} {F' : Id → List Nat} (h' : aV C (E.at w F) w' S' a' β' F') :
    aV C E w' S' a' β' F' ∧ (∀ b, b < w.heap.size → (∀ id, b ∉ F id) → w'.heap[b]? = w.heap[b]? ∧ ∀ id, b ∉ F' id) ∧ ∀ b, aQ E w F b → aQ E w' F' b := by
  have hsz := h'.kept.size
  have hI : ∀ b, aQ (E.at w F) w' F' b → aQ E w' F' b := fun b ⟨h1, h2, h3⟩ => by
    refine ⟨?_, h2, h3⟩
    rcases h1 with h1 | ⟨id, h1⟩ | h1
    · exact h1.1
    · exact (h.lt id b h1).2.imp (fun h => h) (fun h => h) |>.elim (fun h => .inr (.inl h)) (fun h => .inr (.inr h))
    · exact .inr (.inr (Nat.le_trans h.kept.size h1))
  have hfree : ∀ b, b < w.heap.size → (∀ id, b ∉ F id) → w'.heap[b]? = w.heap[b]? ∧ ∀ id, b ∉ F' id := fun b hb hn => by
    refine ⟨h'.kept.dh b hb (fun ⟨id, hm⟩ => hn id hm), fun id hm => ?_⟩
    rcases (h'.lt id b hm).2 with ⟨j, hj⟩ | h2
    · exact hn j hj
    · exact absurd hb (Nat.not_lt.2 h2)
  have hme : min E.m w.heap.size = E.m := Nat.min_eq_left (Nat.le_trans E.le h.kept.size)
  refine ⟨{ n := h'.n, df := h'.df.mono (fun b hb => ⟨hI b hb.1, hme ▸ hb.2⟩) (fun _ _ => rfl), slot := fun t => (h'.slot t).mono hI (fun _ _ => rfl) (fun _ _ h => h), obj := fun id rows hr => (h'.obj id rows hr).mono hI (fun _ _ => rfl) (fun _ _ h => h), dead := h'.dead, nd := h'.nd, dK := h'.dK, dom := h'.dom, lt := fun id b hb => ⟨(h'.lt id b hb).1, ?_⟩, kept := ?_, cP := fun g cs hg => (h'.cP g cs hg).mono hI (fun _ _ => rfl) (fun _ _ h => h), ns := h'.ns, kb := h'.kb }, hfree, fun b hb => ⟨hb.1, Nat.lt_of_lt_of_le hb.2.1 hsz, (hfree b hb.2.1 hb.2.2).2⟩⟩
  · rcases (h'.lt id b hb).2 with ⟨j, hj⟩ | h2
    · exact (h.lt j b hj).2
    · exact .inr (Nat.le_trans h.kept.size h2)
  · refine ⟨Nat.le_trans h.kept.size hsz, fun b hb hf => ?_, h'.kept.os.trans h.kept.os, h'.kept.out.trans h.kept.out, fun x hx => (h'.kept.e7 x (Nat.lt_of_lt_of_le hx h.kept.size)).trans (h.kept.e7 x hx), fun b n hB => h'.kept.qx b n (h.kept.qx b n hB)⟩
    rw [(hfree b (Nat.lt_of_lt_of_le hb h.kept.size) fun id hm => ?_).1]
    · exact h.kept.dh b hb hf
    · rcases (h.lt id b hm).2 with h2 | h2
      · exact hf h2
      · exact absurd hb (Nat.not_lt.2 h2)
theorem aV.OV(h:aV C E w S a β F){S':an}{a':Act}(ds:List Deferred)(hn:a'.tmps.size=S'.n)(hh:S'.h=S.h)(hdf:jX w (fun b=>aQ E w F b∧E.m≤b) ds a'.defers)(hs:∀t,R w (aQ E w F) β [] (a'.tmps.getD t undef) (S'.t t))(vr:S'.n=S.n:=by rfl):aV C {E with ds:=ds} w S' a' β F:={n:=hn,df:=hdf,slot:=hs,obj:=fun id rows hr=>h.obj id rows (by rw[←hh];exact hr),dead:=fun id hd=>h.dead id (fun rows=>by rw[←hh];exact hd rows),nd:=h.nd,dK:=h.dK,dom:=fun id hi=>h.dom id (by rw[←hh];exact hi),lt:=h.lt,kept:=h.kept,cP:=h.cP,ns:=fun t ht=>h.ns t (vr▸ht),kb:=fun k rows hk hr=>h.kb k rows hk (by rw[←hh];exact hr)}
theorem aV.re(h:aV C E w S a β F){S':an}{a':Act}(hn:a'.tmps.size=S'.n)(hh:S'.h=S.h)(hdf:jX w (fun b=>aQ E w F b∧E.m≤b) E.ds a'.defers)(hs:∀t,R w (aQ E w F) β [] (a'.tmps.getD t undef) (S'.t t))(vr:S'.n=S.n:=by rfl):aV C E w S' a' β F:=h.OV E.ds hn hh hdf hs vr
end
end Go.Ab
