import Derived.Test.YtbbhbdlljfffdaaGreatDoorAbCut
import Derived.Deep.LoopGhost
import Derived.RangeFuncCalls
import Derived.RangeFuncRecord
import Derived.RangeFuncLeaves
import Derived.OrdersIn
import Derived.Below
open Nat renaming le_trans→GE,lt_of_lt_of_le→GT
set_option linter.all false
namespace Go.Ab
open Go
def gD:Option Nat→Fence|none=>Fence.wide|some l=>Fence.wide.inRound l
theorem yd(ro:Option Nat)(f:FuncId):(gD ro).fn f:=by cases ro<;>trivial
theorem sI(ro:Option Nat):(gD ro).depth.isSome=true→1≤0:=by cases ro<;>(intro h;cases h)
theorem GA{ro:Option Nat}{n:Nat}{P:Program}{f:FuncId}{args:Array Value}{w:World}{R:Ending→World→Prop}(h:Calls P f args w R):CallsIn (gD ro) n P f args w R:=by have:=callsIn_wide (n:=n)|>.2 h;cases ro with|none=>(exact this)|some l=>exact this.inRound l
theorem KJ{ro:Option Nat}{n:Nat}{P:Program}{row:String}{args:Array Value}{w:World}{R:Value→World→Prop}(h:_root_.Go.Rows P row args w R):RowsIn (gD ro) n P row args w R:=by intro c cs _;obtain⟨v,w',h1,h2⟩:=h c cs;refine⟨v,w',h1, ?_⟩;cases ro with|none=>(exact stepsIn_wide.2 h2)|some l=>exact stepsIn_wide.2 h2
def sg(ops:Array Oper):Bool:=ops.all fun o=>match o.op with| .defer _=>false|_=>true
section
variable{P:Program}{ops:Array Oper}{Q:Exit→Act→World→Prop}{ro:Option Nat}
theorem WQ{o:Oper}{a:Act}{w:World}{K K':Act→World→Prop}(hd:∀c,o.op≠ .defer c)(hK:∀a w,K a w→K' a w)(h:o.wp P a w K Q):o.wpIn (gD ro) 0 P a w K' Q:=by refine⟨fun f _=>yd ro f, ?_⟩;rw[Oper.semAt_eq _ _ _ hd];unfold Oper.wp at h;generalize(execOp a.eval o).run P w=r at*;cases r with|ok x w'=>(cases x with|value v=>(exact hK _ _ h)|skip=>(exact hK _ _ h)|defer d=>(exact hK _ _ h)|enter f args=>(exact⟨sI ro,GA (h.mono fun e w'' he=>by cases e<;>first|exact hK _ _ he|exact he)⟩)|row row args=>(exact⟨sI ro,KJ (h.mono fun v w'' he=>hK _ _ he)⟩)|round l f tmps assign body=>(exact h.elim)|_=>exact h)|halt x w'=>cases x<;>exact h
theorem VE(h:sg ops=true){i:Nat}{o:Oper}(ho:ops[i]? =some o)(c:Call):o.op≠ .defer c:=by intro e;unfold sg at h;rw[Array.all_eq_true_iff_forall_mem]at h;have:=h o (Array.mem_of_getElem? ho);rw[e]at this;cases this
theorem Lr(hd:sg ops=true)(kE:¬LetsOut Q){i:Nat}{a:Act}{w:World}{K K':Act→World→Prop}(hK:∀a w,K a w→K' a w)(h:wpOp P ops Q i K a w):wpOpIn (gD ro) 0 P ops Q i K' a w:=by unfold wpOp at h;unfold wpOpIn;cases ho:ops[i]? with|none=>(rw[ho]at h;exact hK _ _ h)|some o=>rw[ho]at h;simp only at h⊢;split at h;·{rename_i hw;rw[AC hw];rcases h with h|h;·{exact WQ (VE hd ho) hK h};·exact absurd h.2 kE};·rename_i hw;rw[Do hw];exact⟨fun f _=>yd ro f,hK _ _ h⟩
theorem Ls(hd:sg ops=true)(kE:¬LetsOut Q):∀(l:List Nat)(a:Act)(w:World),wpOps P ops Q l a w→wpOpsIn (gD ro) 0 P ops Q l a w|[],_,_,h=>h|i::l,a,w,h=>by rw[wpOpsIn_cons];rw[wpOps_cons]at h;exact Lr hd kE (fun a w=>Ls hd kE l a w) h
theorem Lp{md:Region.Mode}(hd:sg ops=true)(kE:¬LetsOut Q):∀(n:Nat)(listed:Array Bool)(a:Act)(w:World),wpAny P md ops Q n listed a w→wpAnyIn (gD ro) 0 P md ops Q n listed a w|0,_,_,_,h=>h|n+1,listed,a,w,h=>⟨h.1,fun i hi=>Lr hd kE (fun a w=>Lp hd kE n _ a w) (h.2 i hi)⟩
end
/-! ### The record, the block of deferred calls -/
def qu:Obj→Bool| .cells .. =>false| .map .. =>false|_=>true
section
variable{C:aB}{E:Env}{w:World}{S:ah}{a:Act}{β:Id→Option Loc}{F:Id→List Nat}
theorem eu.qt{b k:Nat}{vs:List Value}{o:Obj}(h:eu w b k vs)(ho:w.heap[b]? =some o)(hd:qu o=true):vs=[]:=by cases vs with|nil=>(rfl)|cons v vs=>have:=h 0 v rfl;unfold World.cell? at this;simp only[ho]at this;cases o<;>simp_all[qu]
theorem kj.qt{b:Nat}{o:Obj}{r:Ab.Rows}(h:kj w b r)(ho:w.heap[b]? =some o):qu o=false:=by obtain⟨es,c,h1,_⟩:=h;rw[h1]at ho;cases ho;rfl
theorem R.qt{I:Nat→Prop}{f:List Nat}{v:Value}{x:U}{w':World}(h:R w I β f v x)(hw:∀(b:Nat)(o:Obj),w.heap[b]? =some o→qu o=false→w'.heap[b]? =some o):R w' I β f v x:=by have hC:∀{b k:Nat}{vs:List Value},eu w b k vs→eu w' b k vs:=fun{b k vs}hc=>by{cases ho:w.heap[b]? with|none=>(have:vs=[]:=by{cases vs with|nil=>(rfl)|cons v vs=>have:=hc 0 v rfl;unfold World.cell? at this;simp[ho]at this};subst this;intro k v hk;simp at hk)|some o=>cases hd:qu o with|true=>(rw[hc.qt ho hd];intro k v hk;simp at hk)|false=>exact hc.mono (by rw[hw b o ho hd,ho])};have hB:∀{b n:Nat},eU w b n→eU w' b n:=fun{b n}hb=>by{obtain⟨c,e,h1,h2⟩:=hb;exact⟨c,e,hw b _ h1 rfl,h2⟩};have HY:∀{b:Nat}{rows:Ab.Rows},kj w b rows→kj w' b rows:=fun{b rows}hb=>by{obtain⟨es,c,h1,h2⟩:=hb;exact⟨es,c,hw b _ h1 rfl,h2⟩};induction h with|val h=>(exact .val h)|bQ=>(exact .bQ)|fc=>(exact .fc)|sl h1 h2 h3 h4 _ ih=>(exact .sl h1 h2 (hC h3) h4 ih)|aL h1 h2 _ ih=>(exact .aL h1 (hC h2) ih)|ga h hl=>(exact .ga h hl)|rs h1 h2 h3=>(exact .rs h1 h2 h3)|mp h=>(exact .mp h)|fn _ _ ih1 ih2=>(exact .fn ih1 ih2)|nil=>(exact .nil)|cons _ _ ih1 ih2=>(exact .cons ih1 ih2)|aE _ ih=>(exact .aE ih)|gP=>(exact .gP)|own h0 h1 h2 h3 h4 h5 _ ih=>(exact .own h0 h1 (hB h2) h3 h4 (hC h5) ih)|iB h0 h1 h2 h3 h5 _ ih=>(exact .iB h0 h1 (hB h2) h3 (hC h5) ih)|ck h1 h2 h3 _ ih=>(exact .ck (hB h1) h2 (hC h3) ih)|mP _ ih=>(exact .mP ih)|mO=>(exact .mO)|nn=>(exact .nn)|mr h=>(exact .mr h)|dJ h=>(exact .dJ (HY h))|im h1 h2=>(exact .im h1 (HY h2))|aU=>exact .aU
theorem cW.qt{I:Nat→Prop}{id:Id}{rows:Ab.Rows}{fp:List Nat}{w':World}(h:cW w I β id rows fp)(hw:∀(b:Nat)(o:Obj),w.heap[b]? =some o→qu o=false→w'.heap[b]? =some o):cW w' I β id rows fp:=by rcases h with h|⟨b,h1,h2,es,c,h3,h4⟩|⟨b,o,sz,n,vs,bW,h1,h2,⟨c,e,h3,pY⟩,h4,h5,h6,h7⟩;·{exact .inl h};·{exact .inr (.inl ⟨b,h1,h2,es,c,hw b _ h3 rfl,h4⟩)};·exact .inr (.inr ⟨b,o,sz,n,vs,bW,h1,h2,⟨c,e,hw b _ h3 rfl,pY⟩,h4,h5,h6.mono (by rw[hw b _ h3 rfl,h3]),h7.qt hw⟩)
theorem aC.uy(h:aC C E w S a β F){l:Nat}{o o':Obj}(hl:w.heap[l]? =some o)(ho:qu o=true)(hE:E.w0.heap.size≤l){a':Act}(ht:a'.tmps=a.tmps)(hdf:gm (w.putObj l o') (fun b=>av E w F b∧E.m≤b) E.ds a'.defers):aC C E (w.putObj l o') S a' β F:=by have hlt:=lt_of_heap hl;have hw:∀(b:Nat)(x:Obj),w.heap[b]? =some x→qu x=false→(w.putObj l o').heap[b]? =some x:=fun b x hb hx=>by{have:b≠l:=fun e=>by{subst e;rw[hl]at hb;cases hb;rw[ho]at hx;cases hx};rw[World.putObj_heap_other this,hb]};have k7:∀b,av E (w.putObj l o') F b↔av E w F b:=fun b=>by{unfold av;rw[World.putObj_size]};have hI:av E (w.putObj l o') F=av E w F:=funext fun b=>propext (k7 b);refine{n:=by rw[ht];exact h.n,df:=by rw[hI];exact hdf,slot:=fun t=>by rw[hI,ht];exact(h.slot t).qt hw,obj:=fun id rows hr=>by rw[hI];exact(h.obj id rows hr).qt hw,dead:=h.dead,nd:=h.nd,ct:=h.ct,dom:=h.dom,lt:=fun id b hb=>by rw[World.putObj_size];exact h.lt id b hb,kept:= ?_,bJ:=fun g cs hg=>by rw[hI];exact(h.bJ g cs hg).qt hw,ns:=h.ns,kb:=h.kb};refine⟨by rw[World.putObj_size];exact h.kept.size,fun b hb hf=> ?_,h.kept.os,h.kept.out,fun x hx=> ?_,fun b n hB=> ?_⟩;·{rw[World.putObj_heap_other (by omega)];exact h.kept.blk b hb hf};·{rw[←h.kept.dN x hx];exact World.frozen?_of_block (World.putObj_heap_other (by omega))};·obtain⟨c,e,h1,h2⟩:=h.kept.ke b n hB;exact⟨c,e,hw b _ h1 rfl,h2⟩
theorem aC.Oi(h:aC C E w S a β F)(o:Obj){a':Act}(ht:a'.tmps=a.tmps)(hdf:gm (w.alloc o) (fun b=>av E (w.alloc o) F b∧E.m≤b) E.ds a'.defers):aC C E (w.alloc o) S a' β F:=by have hold:∀b,b<w.heap.size→(w.alloc o).heap[b]? =w.heap[b]? :=fun b hb=>RowKit.Below.heap_alloc w o b hb;have h1:=h.uK (w':=w.alloc o) (S':=S) (a':=a) (β':=β) (F':=F) (fun _=>False) h.n (by simp) rfl rfl (fun x hx=>World.frozen?_of_block (hold _ hx)) (fun b hb _=>hold b hb) (fun _ _ h=>h) (fun id b hb=> .inl ⟨id,hb⟩) (fun _ _=>⟨rfl,rfl⟩) (fun _ _ hf=>hf.elim) (fun _ hf=>hf.elim) (fun _ hf=>hf.elim) (fun _ _ _ hf=>hf.elim) h.dom (fun _ t=> .inl ⟨rfl,rfl⟩) (eB:=pK hold);exact{n:=by rw[ht];exact h1.n,df:=hdf,slot:=fun t=>by rw[ht];exact h1.slot t,obj:=h1.obj,dead:=h1.dead,nd:=h1.nd,ct:=h1.ct,dom:=h1.dom,lt:=h1.lt,kept:=h1.kept,bJ:=h1.bJ,ns:=h1.ns,kb:=h1.kb}
def Env.at(E:Env)(w:World)(F:Id→List Nat):Env:=⟨w,fun b=>∃id,b∈F id,av E w F,min E.m w.heap.size,Nat.min_le_right _ _,E.K,E.qi,E.qj,E.ds⟩
theorem FC{b:Nat}:av (E.at w F) w F b↔av E w F b:=by constructor;·{rintro⟨h|⟨id,h⟩|h,h2,h3⟩;·{exact h};·{exact absurd h (h3 id)};·exact absurd h2 (Nat.not_lt.2 h)};·intro h;exact⟨.inl h,h.2⟩
theorem aC.Am(h:aC C E w S a β F):aC C (E.at w F) w S a β F:=by have hI:av (E.at w F) w F=av E w F:=funext fun b=>propext FC;exact{n:=h.n,df:=by rw[hI];exact h.df.mono (fun b hb=>⟨hb.1,Nat.le_trans (Nat.min_le_left _ _) hb.2⟩) (fun _ _=>rfl),slot:=fun t=>by rw[hI];exact h.slot t,obj:=fun id rows hr=>by rw[hI];exact h.obj id rows hr,dead:=h.dead,nd:=h.nd,ct:=h.ct,dom:=h.dom,lt:=fun id b hb=>⟨(h.lt id b hb).1, .inl ⟨id,hb⟩⟩,kept:=Kept.refl _ _,bJ:=fun g cs hg=>by rw[hI];exact h.bJ g cs hg,ns:=h.ns,kb:=h.kb}
theorem aC.back (h : aC C E w S a β F) {w' : World} {S' : ah} {a' : Act} {β' : Id → Option Loc} {F' : Id → List Nat} (h' : aC C (E.at w F) w' S' a' β' F') :
    aC C E w' S' a' β' F' ∧ (∀ b, b < w.heap.size → (∀ id, b ∉ F id) → w'.heap[b]? = w.heap[b]? ∧ ∀ id, b ∉ F' id) ∧ ∀ b, av E w F b → av E w' F' b := by
  have hsz := h'.kept.size
  have hI : ∀ b, av (E.at w F) w' F' b → av E w' F' b := fun b ⟨h1, h2, h3⟩ => by
    refine ⟨?_, h2, h3⟩
    rcases h1 with h1 | ⟨id, h1⟩ | h1
    · exact h1.1
    · exact (h.lt id b h1).2.imp (fun h => h) (fun h => h) |>.elim (fun h => .inr (.inl h)) (fun h => .inr (.inr h))
    · exact .inr (.inr (GE h.kept.size h1))
  have hfree : ∀ b, b < w.heap.size → (∀ id, b ∉ F id) → w'.heap[b]? = w.heap[b]? ∧ ∀ id, b ∉ F' id := fun b hb hn => by
    refine ⟨h'.kept.blk b hb (fun ⟨id, hm⟩ => hn id hm), fun id hm => ?_⟩
    rcases (h'.lt id b hm).2 with ⟨j, hj⟩ | h2
    · exact hn j hj
    · exact absurd hb (Nat.not_lt.2 h2)
  have hme : min E.m w.heap.size = E.m := Nat.min_eq_left (GE E.le h.kept.size)
  refine ⟨{ n := h'.n, df := h'.df.mono (fun b hb => ⟨hI b hb.1, hme ▸ hb.2⟩) (fun _ _ => rfl), slot := fun t => (h'.slot t).mono hI (fun _ _ => rfl) (fun _ _ h => h), obj := fun id rows hr => (h'.obj id rows hr).mono hI (fun _ _ => rfl) (fun _ _ h => h), dead := h'.dead, nd := h'.nd, ct := h'.ct, dom := h'.dom, lt := fun id b hb => ⟨(h'.lt id b hb).1, ?_⟩, kept := ?_, bJ := fun g cs hg => (h'.bJ g cs hg).mono hI (fun _ _ => rfl) (fun _ _ h => h), ns := h'.ns, kb := h'.kb }, hfree, fun b hb => ⟨hb.1, GT hb.2.1 hsz, (hfree b hb.2.1 hb.2.2).2⟩⟩
  · rcases (h'.lt id b hb).2 with ⟨j, hj⟩ | h2
    · exact (h.lt j b hj).2
    · exact .inr (GE h.kept.size h2)
  · refine ⟨GE h.kept.size hsz, fun b hb hf => ?_, h'.kept.os.trans h.kept.os, h'.kept.out.trans h.kept.out, fun x hx => (h'.kept.dN x (GT hx h.kept.size)).trans (h.kept.dN x hx), fun b n hB => h'.kept.ke b n (h.kept.ke b n hB)⟩
    rw [(hfree b (GT hb h.kept.size) fun id hm => ?_).1]
    · exact h.kept.blk b hb hf
    · rcases (h.lt id b hm).2 with h2 | h2
      · exact hf h2
      · exact absurd hb (Nat.not_lt.2 h2)
theorem aC.Eg(h:aC C E w S a β F){S':ah}{a':Act}(ds:List Deferred)(hn:a'.tmps.size=S'.n)(hh:S'.h=S.h)(hdf:gm w (fun b=>av E w F b∧E.m≤b) ds a'.defers)(hs:∀t,R w (av E w F) β [] (a'.tmps.getD t undef) (S'.t t))(oE:S'.n=S.n:=by rfl):aC C {E with ds:=ds} w S' a' β F:={n:=hn,df:=hdf,slot:=hs,obj:=fun id rows hr=>h.obj id rows (by rw[←hh];exact hr),dead:=fun id hd=>h.dead id (fun rows=>by rw[←hh];exact hd rows),nd:=h.nd,ct:=h.ct,dom:=fun id hi=>h.dom id (by rw[←hh];exact hi),lt:=h.lt,kept:=h.kept,bJ:=h.bJ,ns:=fun t ht=>h.ns t (oE▸ht),kb:=fun k rows hk hr=>h.kb k rows hk (by rw[←hh];exact hr)}
theorem aC.re(h:aC C E w S a β F){S':ah}{a':Act}(hn:a'.tmps.size=S'.n)(hh:S'.h=S.h)(hdf:gm w (fun b=>av E w F b∧E.m≤b) E.ds a'.defers)(hs:∀t,R w (av E w F) β [] (a'.tmps.getD t undef) (S'.t t))(oE:S'.n=S.n:=by rfl):aC C E w S' a' β F:=h.Eg E.ds hn hh hdf hs oE
end
end Go.Ab
