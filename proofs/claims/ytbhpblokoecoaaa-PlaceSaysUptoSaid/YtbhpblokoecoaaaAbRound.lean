import Derived.Test.YtbhpblokoecoaaaAbCut
import Derived.Deep.LoopGhost
import Derived.RangeFuncCalls
import Derived.RangeFuncRecord
import Derived.RangeFuncLeaves
import Derived.OrdersIn
import Derived.Below
namespace Go.Ab
open Go
def lJ:Option Nat→Fence|none=>Fence.wide|some l=>Fence.wide.inRound l
theorem EH(ro:Option Nat)(f:FuncId):(lJ ro).fn f:=by cases ro<;>trivial
theorem yp(ro:Option Nat):(lJ ro).depth.isSome=true→1≤0:=by cases ro<;>(intro h;cases h)
theorem MI{ro:Option Nat}{n:Nat}{P:Program}{f:FuncId}{args:Array Value}{w:World}{R:Ending→World→Prop}(h:Calls P f args w R):CallsIn (lJ ro) n P f args w R:=by have:=callsIn_wide (n:=n)|>.2 h;cases ro with|none=>(exact this)|some l=>exact this.inRound l
theorem Ru{ro:Option Nat}{n:Nat}{P:Program}{row:String}{args:Array Value}{w:World}{R:Value→World→Prop}(h:_root_.Go.Rows P row args w R):RowsIn (lJ ro) n P row args w R:=by intro c cs _;obtain⟨v,w',h1,h2⟩:=h c cs;refine⟨v,w',h1, ?_⟩;cases ro with|none=>(exact stepsIn_wide.2 h2)|some l=>exact stepsIn_wide.2 h2
def xk(ops:Array Oper):Bool:=ops.all fun o=>match o.op with| .defer _=>false|_=>true
section
variable{P:Program}{ops:Array Oper}{Q:Exit→Act→World→Prop}{ro:Option Nat}
theorem adu{o:Oper}{a:Act}{w:World}{K K':Act→World→Prop}(hd:∀c,o.op≠ .defer c)(hK:∀a w,K a w→K' a w)(h:o.wp P a w K Q):o.wpIn (lJ ro) 0 P a w K' Q:=by refine⟨fun f _=>EH ro f, ?_⟩;rw[Oper.semAt_eq _ _ _ hd];unfold Oper.wp at h;generalize(execOp a.eval o).run P w=r at*;cases r with|ok x w'=>(cases x with|value v=>(exact hK _ _ h)|skip=>(exact hK _ _ h)|defer d=>(exact hK _ _ h)|enter f args=>(exact⟨yp ro,MI (h.mono fun e w'' he=>by cases e<;>first|exact hK _ _ he|exact he)⟩)|row row args=>(exact⟨yp ro,Ru (h.mono fun v w'' he=>hK _ _ he)⟩)|round l f tmps assign body=>(exact h.elim)|_=>exact h)|halt x w'=>cases x<;>exact h
theorem aci(h:xk ops=true){i:Nat}{o:Oper}(ho:ops[i]? =some o)(c:Call):o.op≠ .defer c:=by intro e;unfold xk at h;rw[Array.all_eq_true_iff_forall_mem]at h;have:=h o (Array.mem_of_getElem? ho);rw[e]at this;cases this
theorem Sw(hd:xk ops=true)(mG:¬LetsOut Q){i:Nat}{a:Act}{w:World}{K K':Act→World→Prop}(hK:∀a w,K a w→K' a w)(h:wpOp P ops Q i K a w):wpOpIn (lJ ro) 0 P ops Q i K' a w:=by unfold wpOp at h;unfold wpOpIn;cases ho:ops[i]? with|none=>(rw[ho]at h;exact hK _ _ h)|some o=>rw[ho]at h;simp only at h⊢;split at h;·{rename_i hw;rw[if_pos hw];rcases h with h|h;·{exact adu (aci hd ho) hK h};·exact absurd h.2 mG};·rename_i hw;rw[if_neg hw];exact⟨fun f _=>EH ro f,hK _ _ h⟩
theorem Sx(hd:xk ops=true)(mG:¬LetsOut Q):∀(l:List Nat)(a:Act)(w:World),wpOps P ops Q l a w→wpOpsIn (lJ ro) 0 P ops Q l a w|[],_,_,h=>h|i::l,a,w,h=>by rw[wpOpsIn_cons];rw[wpOps_cons]at h;exact Sw hd mG (fun a w=>Sx hd mG l a w) h
theorem Su{md:Region.Mode}(hd:xk ops=true)(mG:¬LetsOut Q):∀(n:Nat)(listed:Array Bool)(a:Act)(w:World),wpAny P md ops Q n listed a w→wpAnyIn (lJ ro) 0 P md ops Q n listed a w|0,_,_,_,h=>h|n+1,listed,a,w,h=>⟨h.1,fun i hi=>Sw hd mG (fun a w=>Su hd mG n _ a w) (h.2 i hi)⟩
end
/-! ### The record, the block of deferred calls -/
def uU:Obj→Bool| .cells .. =>false| .map .. =>false|_=>true
section
variable{C:aV}{E:Env}{w:World}{S:an}{a:Act}{β:Id→Option Loc}{F:Id→List Nat}
theorem e4.uT{b k:Nat}{vs:List Value}{o:Obj}(h:e4 w b k vs)(ho:w.heap[b]? =some o)(hd:uU o=true):vs=[]:=by cases vs with|nil=>(rfl)|cons v vs=>have:=h 0 v rfl;unfold World.cell? at this;simp only[ho]at this;cases o<;>simp_all[uU]
theorem mz.uT{b:Nat}{o:Obj}{r:Ab.Rows}(h:mz w b r)(ho:w.heap[b]? =some o):uU o=false:=by obtain⟨es,c,h1,_⟩:=h;rw[h1]at ho;cases ho;rfl
theorem R.uT{I:Nat→Prop}{f:List Nat}{v:Value}{x:aa}{w':World}(h:R w I β f v x)(hw:∀(b:Nat)(o:Obj),w.heap[b]? =some o→uU o=false→w'.heap[b]? =some o):R w' I β f v x:=by have hC:∀{b k:Nat}{vs:List Value},e4 w b k vs→e4 w' b k vs:=fun{b k vs}hc=>by{cases ho:w.heap[b]? with|none=>(have:vs=[]:=by{cases vs with|nil=>(rfl)|cons v vs=>have:=hc 0 v rfl;unfold World.cell? at this;simp[ho]at this};subst this;intro k v hk;simp at hk)|some o=>cases hd:uU o with|true=>(rw[hc.uT ho hd];intro k v hk;simp at hk)|false=>exact hc.mono (by rw[hw b o ho hd,ho])};have hB:∀{b n:Nat},fK w b n→fK w' b n:=fun{b n}hb=>by{obtain⟨c,e,h1,h2⟩:=hb;exact⟨c,e,hw b _ h1 rfl,h2⟩};have jW:∀{b:Nat}{rows:Ab.Rows},mz w b rows→mz w' b rows:=fun{b rows}hb=>by{obtain⟨es,c,h1,h2⟩:=hb;exact⟨es,c,hw b _ h1 rfl,h2⟩};induction h with|val h=>(exact .val h)|cN=>(exact .cN)|gk=>(exact .gk)|sl h1 h2 h3 h4 _ ih=>(exact .sl h1 h2 (hC h3) h4 ih)|au h1 h2 _ ih=>(exact .au h1 (hC h2) ih)|jx h hl=>(exact .jx h hl)|rs h1 h2 h3=>(exact .rs h1 h2 h3)|mp h=>(exact .mp h)|fn _ _ ih1 ih2=>(exact .fn ih1 ih2)|nil=>(exact .nil)|cons _ _ ih1 ih2=>(exact .cons ih1 ih2)|b9 _ ih=>(exact .b9 ih)|iV=>(exact .iV)|own h0 h1 h2 h3 h4 h5 _ ih=>(exact .own h0 h1 (hB h2) h3 h4 (hC h5) ih)|jL h0 h1 h2 h3 h5 _ ih=>(exact .jL h0 h1 (hB h2) h3 (hC h5) ih)|aH h1 h2 h3 _ ih=>(exact .aH (hB h1) h2 (hC h3) ih)|pW _ ih=>(exact .pW ih)|pV=>(exact .pV)|nn=>(exact .nn)|mr h=>(exact .mr h)|dW h=>(exact .dW (jW h))|im h1 h2=>(exact .im h1 (jW h2))|bX=>exact .bX
theorem fy.uT{I:Nat→Prop}{id:Id}{rows:Ab.Rows}{fp:List Nat}{w':World}(h:fy w I β id rows fp)(hw:∀(b:Nat)(o:Obj),w.heap[b]? =some o→uU o=false→w'.heap[b]? =some o):fy w' I β id rows fp:=by rcases h with h|⟨b,h1,h2,es,c,h3,h4⟩|⟨b,o,sz,n,vs,cH,h1,h2,⟨c,e,h3,sA⟩,h4,h5,h6,h7⟩;·{exact .inl h};·{exact .inr (.inl ⟨b,h1,h2,es,c,hw b _ h3 rfl,h4⟩)};·exact .inr (.inr ⟨b,o,sz,n,vs,cH,h1,h2,⟨c,e,hw b _ h3 rfl,sA⟩,h4,h5,h6.mono (by rw[hw b _ h3 rfl,h3]),h7.uT hw⟩)
theorem aY.Dy(h:aY C E w S a β F){l:Nat}{o o':Obj}(hl:w.heap[l]? =some o)(ho:uU o=true)(hE:E.w0.heap.size≤l){a':Act}(ht:a'.tmps=a.tmps)(hdf:jP (w.putObj l o') (fun b=>aT E w F b∧E.m≤b) a'.defers):aY C E (w.putObj l o') S a' β F:=by have hlt:=kF hl;have hw:∀(b:Nat)(x:Obj),w.heap[b]? =some x→uU x=false→(w.putObj l o').heap[b]? =some x:=fun b x hb hx=>by{have:b≠l:=fun e=>by{subst e;rw[hl]at hb;cases hb;rw[ho]at hx;cases hx};rw[World.putObj_heap_other this,hb]};have nP:∀b,aT E (w.putObj l o') F b↔aT E w F b:=fun b=>by{unfold aT;rw[World.putObj_size]};have hI:aT E (w.putObj l o') F=aT E w F:=funext fun b=>propext (nP b);refine{n:=by rw[ht];exact h.n,df:=by rw[hI];exact hdf,slot:=fun t=>by rw[hI,ht];exact(h.slot t).uT hw,obj:=fun id rows hr=>by rw[hI];exact(h.obj id rows hr).uT hw,dead:=h.dead,nd:=h.nd,ej:=h.ej,dom:=h.dom,lt:=fun id b hb=>by rw[World.putObj_size];exact h.lt id b hb,kept:= ?_,cU:=fun g cs hg=>by rw[hI];exact(h.cU g cs hg).uT hw};refine⟨by rw[World.putObj_size];exact h.kept.size,fun b hb hf=> ?_,h.kept.os,h.kept.out,fun x hx=> ?_,fun b n hB=> ?_⟩;·{rw[World.putObj_heap_other (by omega)];exact h.kept.cT b hb hf};·{rw[←h.kept.eJ x hx];exact World.frozen?_of_block (World.putObj_heap_other (by omega))};·obtain⟨c,e,h1,h2⟩:=h.kept.o8 b n hB;exact⟨c,e,hw b _ h1 rfl,h2⟩
theorem aY.Vs(h:aY C E w S a β F)(o:Obj){a':Act}(ht:a'.tmps=a.tmps)(hdf:jP (w.alloc o) (fun b=>aT E (w.alloc o) F b∧E.m≤b) a'.defers):aY C E (w.alloc o) S a' β F:=by have hold:∀b,b<w.heap.size→(w.alloc o).heap[b]? =w.heap[b]? :=fun b hb=>RowKit.Below.heap_alloc w o b hb;have h1:=h.Ek (w':=w.alloc o) (S':=S) (a':=a) (β':=β) (F':=F) (fun _=>False) h.n (by simp) rfl rfl (fun x hx=>World.frozen?_of_block (hold _ hx)) (fun b hb _=>hold b hb) (fun _ _ h=>h) (fun id b hb=> .inl ⟨id,hb⟩) (fun _ _=>⟨rfl,rfl⟩) (fun _ _ hf=>hf.elim) (fun _ hf=>hf.elim) (fun _ hf=>hf.elim) (fun _ _ _ hf=>hf.elim) h.dom (fun _ t=> .inl ⟨rfl,rfl⟩) (fk:=vJ hold);exact{n:=by rw[ht];exact h1.n,df:=hdf,slot:=fun t=>by rw[ht];exact h1.slot t,obj:=h1.obj,dead:=h1.dead,nd:=h1.nd,ej:=h1.ej,dom:=h1.dom,lt:=h1.lt,kept:=h1.kept,cU:=h1.cU}
def Env.at(E:Env)(w:World)(F:Id→List Nat):Env:=⟨w,fun b=>∃id,b∈F id,aT E w F,min E.m w.heap.size,Nat.min_le_right _ _⟩
theorem Lw{b:Nat}:aT (E.at w F) w F b↔aT E w F b:=by constructor;·{rintro⟨h|⟨id,h⟩|h,h2,h3⟩;·{exact h};·{exact absurd h (h3 id)};·exact absurd h2 (Nat.not_lt.2 h)};·intro h;exact⟨.inl h,h.2⟩
theorem aY.GO(h:aY C E w S a β F):aY C (E.at w F) w S a β F:=by have hI:aT (E.at w F) w F=aT E w F:=funext fun b=>propext Lw;exact{n:=h.n,df:=by rw[hI];exact h.df.mono (fun b hb=>⟨hb.1,Nat.le_trans (Nat.min_le_left _ _) hb.2⟩) (fun _ _=>rfl),slot:=fun t=>by rw[hI];exact h.slot t,obj:=fun id rows hr=>by rw[hI];exact h.obj id rows hr,dead:=h.dead,nd:=h.nd,ej:=h.ej,dom:=h.dom,lt:=fun id b hb=>⟨(h.lt id b hb).1, .inl ⟨id,hb⟩⟩,kept:=Kept.refl _ _,cU:=fun g cs hg=>by rw[hI];exact h.cU g cs hg}
theorem aY.back (h : aY C E w S a β F) {w' : World} {S' : an} {a' : Act} {β' : Id → Option Loc} {F' : Id → List Nat} (h' : aY C (E.at w F) w' S' a' β' F') :
    aY C E w' S' a' β' F' ∧ (∀ b, b < w.heap.size → (∀ id, b ∉ F id) → w'.heap[b]? = w.heap[b]? ∧ ∀ id, b ∉ F' id) ∧ ∀ b, aT E w F b → aT E w' F' b := by
  have hsz := h'.kept.size
  have hI : ∀ b, aT (E.at w F) w' F' b → aT E w' F' b := fun b ⟨h1, h2, h3⟩ => by
    refine ⟨?_, h2, h3⟩
    rcases h1 with h1 | ⟨id, h1⟩ | h1
    · exact h1.1
    · exact (h.lt id b h1).2.imp (fun h => h) (fun h => h) |>.elim (fun h => .inr (.inl h)) (fun h => .inr (.inr h))
    · exact .inr (.inr (Nat.le_trans h.kept.size h1))
  have hfree : ∀ b, b < w.heap.size → (∀ id, b ∉ F id) → w'.heap[b]? = w.heap[b]? ∧ ∀ id, b ∉ F' id := fun b hb hn => by
    refine ⟨h'.kept.cT b hb (fun ⟨id, hm⟩ => hn id hm), fun id hm => ?_⟩
    rcases (h'.lt id b hm).2 with ⟨j, hj⟩ | h2
    · exact hn j hj
    · exact absurd hb (Nat.not_lt.2 h2)
  have hme : min E.m w.heap.size = E.m := Nat.min_eq_left (Nat.le_trans E.le h.kept.size)
  refine ⟨{ n := h'.n, df := h'.df.mono (fun b hb => ⟨hI b hb.1, hme ▸ hb.2⟩) (fun _ _ => rfl), slot := fun t => (h'.slot t).mono hI (fun _ _ => rfl) (fun _ _ h => h), obj := fun id rows hr => (h'.obj id rows hr).mono hI (fun _ _ => rfl) (fun _ _ h => h), dead := h'.dead, nd := h'.nd, ej := h'.ej, dom := h'.dom, lt := fun id b hb => ⟨(h'.lt id b hb).1, ?_⟩, kept := ?_, cU := fun g cs hg => (h'.cU g cs hg).mono hI (fun _ _ => rfl) (fun _ _ h => h) }, hfree, fun b hb => ⟨hb.1, Nat.lt_of_lt_of_le hb.2.1 hsz, (hfree b hb.2.1 hb.2.2).2⟩⟩
  · rcases (h'.lt id b hb).2 with ⟨j, hj⟩ | h2
    · exact (h.lt j b hj).2
    · exact .inr (Nat.le_trans h.kept.size h2)
  · refine ⟨Nat.le_trans h.kept.size hsz, fun b hb hf => ?_, h'.kept.os.trans h.kept.os, h'.kept.out.trans h.kept.out, fun x hx => (h'.kept.eJ x (Nat.lt_of_lt_of_le hx h.kept.size)).trans (h.kept.eJ x hx), fun b n hB => h'.kept.o8 b n (h.kept.o8 b n hB)⟩
    rw [(hfree b (Nat.lt_of_lt_of_le hb h.kept.size) fun id hm => ?_).1]
    · exact h.kept.cT b hb hf
    · rcases (h.lt id b hm).2 with h2 | h2
      · exact hf h2
      · exact absurd hb (Nat.not_lt.2 h2)
theorem aY.re(h:aY C E w S a β F){S':an}{a':Act}(hn:a'.tmps.size=S'.n)(hh:S'.h=S.h)(hdf:jP w (fun b=>aT E w F b∧E.m≤b) a'.defers)(hs:∀t,R w (aT E w F) β [] (a'.tmps.getD t undef) (S'.t t)):aY C E w S' a' β F:={n:=hn,df:=hdf,slot:=hs,obj:=fun id rows hr=>h.obj id rows (by rw[←hh];exact hr),dead:=fun id hd=>h.dead id (fun rows=>by rw[←hh];exact hd rows),nd:=h.nd,ej:=h.ej,dom:=fun id hi=>h.dom id (by rw[←hh];exact hi),lt:=h.lt,kept:=h.kept,cU:=h.cU}
end
end Go.Ab
