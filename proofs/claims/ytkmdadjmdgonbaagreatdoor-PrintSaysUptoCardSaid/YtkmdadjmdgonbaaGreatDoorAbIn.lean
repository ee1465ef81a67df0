import Derived.Test.YtkmdadjmdgonbaaGreatDoorAbV7
import Derived.WalkKit
import Derived.ProofKit
import Derived.OpenShut
import Derived.Deep.DeepHandedRow
open Bool renaming and_eq_true->AC
open List renaming all_cons->A1,mem_map_of_mem->GT
open Nat renaming beq->A0,lt_or_ge->GE
open Option.some renaming injEq->Do
set_option linter.all false
namespace Go.Ab
open Go
inductive gZ(α:Type)where|l(v:α)|o(k:Nat)(v w:α)|n(k:Nat)(a b:gZ α)
def gZ.get{α:Type}:gZ α->Nat->α| .l v,_=>v| .o k v w,i=>bif A0 i k then v else w| .n k a b,i=>bif Nat.blt i k then a.get i else b.get i
def gZ.all{α:Type}(p:α->Bool):gZ α->Bool| .l v=>p v| .o _ v w=>p v&&p w| .n _ a b=>a.all p&&b.all p
theorem gZ.y5{α:Type}{p:α->Bool}:∀(t:gZ α),t.all p=true->∀i,p (t.get i)=true| .l v,h,i=>h| .o k v w,h,i=>by{simp only[gZ.all,AC]at h;simp only[gZ.get];cases A0 i k;·{exact h.2};·exact h.1}| .n k a b,h,i=>by simp only[gZ.all,AC]at h;simp only[gZ.get];cases Nat.blt i k;·{exact y5 b h.2 i};·exact y5 a h.1 i
def look{α:Type}:List (Nat×α)->Nat->α->α|[],_,d=>d|(k,v)::l,j,d=>bif A0 j k then v else look l j d
def z1{α:Type}:List (Nat×α)->Nat->Option α|[],_=>none|(k,v)::l,j=>bif A0 j k then some v else z1 l j
def Ig(l:List (Nat×List Nat)):Bool:=l.all fun x=>decide x.2.Nodup&& !x.2.contains jU
def BI(l:List (Nat×Bool×List Nat)):Bool:=l.all fun x=>decide x.2.2.Nodup&& !x.2.2.contains jU
theorem SG{v:List Nat}(h:v.Nodup∧(!v.contains jU)=true):hG v:=⟨h.1,by simpa using h.2⟩
theorem acQ{l:List (Nat×List Nat)}(h:Ig l=true)(i:Nat):hG (look l i []):=by induction l with|nil=>(exact hG.nil)|cons x l ih=>simp only[Ig,A1,AC,decide_eq_true_eq]at h;obtain⟨k,v⟩:=x;simp only[look];cases A0 i k;·{exact ih h.2};·exact SG h.1
theorem KX{l:List (Nat×Bool×List Nat)}(h:BI l=true){i:Nat}{b:Bool}{s:List Nat}(e:z1 l i=some (b,s)):hG s:=by induction l with|nil=>(cases e)|cons x l ih=>simp only[BI,A1,AC,decide_eq_true_eq]at h;obtain⟨k,v⟩:=x;simp only[z1]at e;cases hb:A0 i k;·{rw[hb]at e;exact ih h.2 e};·rw[hb]at e;simp only[cond_true,Do]at e;subst e;exact SG h.1
def Mu(m:Nat):Type:={r:List U//(decide (r.length=m)&&r.all U.cell&&fK r&&dz r)=true}
def Mu.v{m:Nat}(r:Mu m):List U:=r.1
section
variable{C:aC}{f:FuncId}{fn:Func}{T e t1 t2:TypeId}{m:Nat}{bb:Bool}{ku:List U}{dQ p1 p2 p3 jA nO x7 Du:String}{f0 f1 f2 f3 f4 f5 f6 f7:Array Edge}{E:Env}
end
open Go Go.ChangeShapes Go.WideShapes Go.ChangeAt Go.RowKit
def Dq(P:Program):Nat->List Field->Nat->Bool|o,[],tot=>o==tot|o,f::fs,tot=>f.offset==o&&Dq P (o+P.cellsOf f.type) fs tot
def tD(P:Program):Nat->TypeId->Bool|0,_=>false|n+1,t=>match P.underlying t with|some .bool=>P.cellsOf t==1|some (.int _)=>P.cellsOf t==1|some .string=>P.cellsOf t==1|some (.slice e)=>P.cellsOf t==1&&(decide (0<P.cellsOf e)&&tD P n e)|some (.struct fs)=>Dq P 0 fs.toList (P.cellsOf t)&&fs.toList.all fun f=>tD P n f.type|_=>false
mutual inductive iR(P:Program)(B:Nat):TypeId->List U->Prop|bool{t:TypeId}{b:Bool}:P.underlying t=some .bool->iR P B t [.val (.bool b)]|int{t:TypeId}{k:IntKind}{n:Int}:P.underlying t=some (.int k)->(Lit.int k n).wf=true->iR P B t [.val (.int k n)]|str{t:TypeId}{s:ByteArray}:P.underlying t=some .string->s.size<=B->iR P B t [.val (.string s)]|sl{t e:TypeId}{rows:Rows}:P.underlying t=some (.slice e)->rows.length<=B->q5 P B e rows->iR P B t [.sl rows]|st{t:TypeId}{fs:Array Field}{cells:List U}:P.underlying t=some (.struct fs)->sv P B fs.toList cells->iR P B t cells inductive sv(P:Program)(B:Nat):List Field->List U->Prop|nil:sv P B [] []|cons{f:Field}{fs:List Field}{a b:List U}:iR P B f.type a->sv P B fs b->sv P B (f::fs) (a++b)inductive q5(P:Program)(B:Nat):TypeId->Rows->Prop|nil{e:TypeId}:q5 P B e []|cons{e:TypeId}{r:List U}{rs:Rows}:iR P B e r->q5 P B e rs->q5 P B e (r::rs)end
mutual def bk{H:Type}:DataW H->Nat| .lit (.string bytes)=>bytes.length+1| .lit _=>1| .nil=>1| .ptr d=>bk d+1| .slice elems spare=>oX elems+oX spare+1| .agg parts=>oX parts+1| .iface _ d=>bk d+1| .map entries=>Fk entries+1| .held _=>1 def oX{H:Type}:List (DataW H)->Nat|[]=>0|d::r=>bk d+oX r def Fk{H:Type}:List (Lit×DataW H)->Nat|[]=>0|x::r=>It x+Fk r def It{H:Type}:Lit×DataW H->Nat|(.string bytes,d)=>bytes.length+bk d+1|(_,d)=>bk d+1 end
theorem W0{H:Type}(d:DataW H):1<=bk d:=by cases d with|lit l=>(cases l<;>simp[bk])|_=>simp[bk]
theorem NF{H:Type}{d:DataW H}{l:List (DataW H)}(h:d∈l):bk d<=oX l:=by induction l with|nil=>(cases h)|cons x r ih=>simp only[oX];cases List.mem_cons.1 h with|inl e=>(subst e;omega)|inr e=>have:=ih e;omega
theorem WZ{H:Type}(l:List (DataW H)):l.length<=oX l:=by induction l with|nil=>(simp[oX])|cons x r ih=>have:=W0 x;simp only[oX,List.length_cons];omega
def Small{H:Type}(B:Nat)(d:DataW H):Prop:=B=maxLen∨bk d<=B
theorem q5.snoc{P:Program}{B:Nat}{e:TypeId}:∀{rs:Rows}{r:List U},q5 P B e rs->iR P B e r->q5 P B e (rs++[r])|[],_,_,h=> .cons h .nil|_::_,_, .cons h1 h2,h=> .cons h1 (q5.snoc h2 h)
section
variable{H:Type}{enc:TypeId×Value->H}{P:Program}{w:World}{base:Nat}{spare:Nat->Bool}{held:Bool}{B:Nat}
theorem Xx{a:Addr}{n:Nat}{cs:List Value}(h:w.cells? base a n=some cs):cs.length=n∧∀(i:Nat)v,cs[i]? =some v->w.cell? (a.add i)=some v:=by obtain⟨h1,h2,h3⟩:=World.cells?_some h;refine⟨h2,fun i v hv=> ?_⟩;have hi:i<n:=by{rcases GE i n with hi|hi;·{exact hi};·rw[List.getElem?_eq_none (by omega)]at hv;cases hv};rw[h3 i hi,hv]
theorem ahA{n:Nat}(ih:∀(t:TypeId)(cs:List Value)(x:DataW H×List MemPlace),tD P n t=true->∀fuel,DataW.trod enc P w base spare held fuel t cs=some x->Small B x.1->cs.length=P.cellsOf t∧∃cells,ay w (·<w.heap.size) b8 [] cs cells∧iR P B t cells){fuel:Nat}{cs:List Value}:∀(fs:List Field)(o:Nat)(xs:List (DataW H×List MemPlace)),Dq P o fs cs.length=true->(fs.all fun f=>tD P n f.type)=true->fs.mapM (fun f=>DataW.trod enc P w base spare held fuel f.type ((cs.drop f.offset).take (P.cellsOf f.type)))=some xs->(∀y∈xs,Small B y.1)->∃cells,ay w (·<w.heap.size) b8 [] (cs.drop o) cells∧sv P B fs cells:=by intro fs;induction fs with|nil=>(intro o xs ho _ _ _;simp only[Dq,beq_iff_eq]at ho;exact⟨[],by rw[List.drop_of_length_le (by omega)];exact .nil, .nil⟩)|cons f fs abT=>intro o xs ho hp hm hB;simp only[Dq,AC,beq_iff_eq]at ho;simp only[A1,AC]at hp;simp only[List.mapM_cons,Option.bind_eq_bind,Option.bind_eq_some_iff]at hm;obtain⟨x,hx,xs',hxs,CX⟩:=hm;obtain rfl:x::xs'=xs:=by{simpa using CX};obtain⟨hl,c1,h1,h2⟩:=ih _ _ _ hp.1 fuel hx (hB _ (List.mem_cons_self ..));obtain⟨c2,h3,h4⟩:=abT _ _ ho.2 hp.2 hxs fun y hy=>hB y (List.mem_cons_of_mem _ hy);rw[ho.1]at h1;refine⟨c1++c2, ?_, .cons h2 h4⟩;have:=ay.append h1 h3;rw[<-List.drop_drop,List.take_append_drop]at this;exact this
theorem agd{e:TypeId}(ih:∀(cs:List Value)(x:DataW H×List MemPlace),∀fuel,DataW.trod enc P w base spare held fuel e cs=some x->Small B x.1->cs.length=P.cellsOf e∧∃cells,ay w (·<w.heap.size) b8 [] cs cells∧iR P B e cells)(h0:0<P.cellsOf e){fuel:Nat}{a:Addr}:∀(len:Nat),(∀i,i<len->∃x,(w.cells? base (a.add (i*P.cellsOf e)) (P.cellsOf e)).bind (DataW.trod enc P w base spare held fuel e)=some x∧Small B x.1)->∃(vs:List Value)(rows:Rows),vs.length=len*P.cellsOf e∧rows.length=len∧(∀r∈rows,r.length=P.cellsOf e)∧(∀k v,vs[k]? =some v->w.cell? (a.add k)=some v)∧ay w (·<w.heap.size) b8 [] vs rows.flatten∧q5 P B e rows:=by intro len;induction len with|zero=>(intro _;exact⟨[],[],by simp,rfl,by simp,by simp, .nil, .nil⟩)|succ len ihl=>intro hel;obtain⟨vs,rows,h1,h2,h3,h4,h5,h6⟩:=ihl fun i hi=>hel i (by omega);obtain⟨x,hx,abK⟩:=hel len (by omega);obtain⟨us,hu,ht⟩:=Option.bind_eq_some_iff.1 hx;obtain⟨g1,g2⟩:=Xx hu;obtain⟨k1,cells,k2,dJ⟩:=ih _ _ fuel ht abK;refine⟨vs++us,rows++[cells],by simp[h1,g1,Nat.succ_mul],by simp[h2],fun r hr=> ?_,fun k v hk=> ?_, ?_,h6.snoc dJ⟩;·{rcases List.mem_append.1 hr with hr|hr;·{exact h3 r hr};·simp at hr;subst hr;rw[<-k2.length,g1]};·{rcases GE k vs.length with hlt|hge;·{rw[List.getElem?_append_left hlt]at hk;exact h4 k v hk};·rw[List.getElem?_append_right hge]at hk;have:=g2 _ v hk;have e:(a.add (len*P.cellsOf e)).add (k-vs.length)=a.add k:=by{unfold Addr.add;by_cases hk0:k=0;·{subst hk0;have:vs.length=0:=by{omega};have:len*P.cellsOf e=0:=by{omega};simp[this]};·by_cases hd:k-vs.length=0;·{have:len*P.cellsOf e=k:=by{omega};simp[hd,this]};·by_cases hl:len*P.cellsOf e=0;·{simp[hl,hd,hk0];omega};·simp[hl,hd,hk0];omega};rw[e]at this;exact this};·rw[List.flatten_append];simpa using ay.append h5 k2
theorem aht:∀(n:Nat)(t:TypeId)(cs:List Value)(x:DataW H×List MemPlace),tD P n t=true->∀fuel,DataW.trod enc P w base spare held fuel t cs=some x->Small B x.1->
  cs.length=P.cellsOf t∧∃cells,ay w (·<w.heap.size) b8 [] cs cells∧iR P B t cells:=by
 intro n
 induction n with
 |zero=>intro t cs x h;simp[tD]at h
 |succ n ih=>
  intro t cs x hp fuel h hB
  cases fuel with
  |zero=>simp[DataW.trod]at h
  |succ fuel=>
   unfold tD at hp
   split at hp
   ·rename_i hu
    simp only[DataW.trod,hu]at h
    simp only[beq_iff_eq]at hp
    split at h<;>first|(simp_all;done)|skip
    rename_i b _ _
    exact⟨by simp[hp],_, .cons (.val rfl) .nil, .bool hu⟩
   ·rename_i k hu
    simp only[DataW.trod,hu]at h
    simp only[beq_iff_eq]at hp
    split at h<;>first|(simp_all;done)|skip
    rename_i k1 k2 m hk
    simp only[Do,TypeDesc.int.injEq]at hk;subst hk
    split at h
    ·rename_i hc
     obtain⟨rfl,hw⟩:=hc
     exact⟨by simp[hp],_, .cons (.val rfl) .nil, .int hu hw⟩
    ·cases h
   ·rename_i hu
    simp only[DataW.trod,hu]at h
    simp only[beq_iff_eq]at hp
    split at h<;>first|(simp_all;done)|skip
    rename_i b _
    split at h
    ·rename_i hc
     obtain rfl:=Option.some.inj h
     refine⟨by simp[hp],_, .cons (.val rfl) .nil, .str hu ?_⟩
     rcases hB with hB|hB
     ·omega
     ·simp only[bk,Array.length_toList]at hB
      have :b.size=b.data.size:=rfl
      omega
    ·cases h
   ·rename_i e hu
    simp only[DataW.trod,hu]at h
    simp only[AC,beq_iff_eq,decide_eq_true_eq]at hp
    obtain⟨PI,PJ,abm⟩:=hp
    split at h<;>first|(simp_all;done)|skip
    ·rename_i e1 he
     exact⟨by simp[PI],_, .cons .gE .nil, .sl (rows:=[]) hu (by simp) .nil⟩
    ·rename_i e1 a len cap he
     simp only[Do,TypeDesc.slice.injEq]at he;subst he
     split at h
     ·rename_i hc
      obtain⟨xg,iz,akd⟩:=hc
      obtain⟨elems,hel,rI⟩:=Option.bind_eq_some_iff.1 h
      obtain⟨rest,_,rfl⟩:=Option.map_eq_some_iff.1 rI
      have s5:∀y∈elems,Small B y.1:=fun y hy=>hB.imp id fun hB=>by
       have :=NF (GT (f:=fun z:DataW H×List MemPlace=>z.1) hy)
       simp only[bk]at hB;omega
      have hlen:elems.length=len:=by simpa using mapM_some_length hel
      have uL:∀i,i<len->∃x,(w.cells? base (a.add (i*P.cellsOf e)) (P.cellsOf e)).bind (DataW.trod enc P w base spare held fuel e)=some x∧Small B x.1:=fun i hi=>by
       have :=mapM_some_get hel i i (by simp[hi])
       exact⟨elems[i],by rw[this,List.getElem?_eq_getElem (by omega)],s5 _ (List.getElem_mem _)⟩
      have akh:len<=B:=by
       rcases hB with hB|hB
       ·omega
       ·have :=WZ (elems.map (·.1))
        rw[List.length_map]at this
        simp only[bk]at hB;omega
      obtain⟨vs,rows,h1,h2,h3,h4,h5,h6⟩:=agd (fun cs x fuel hx hs=>ih e cs x abm fuel hx hs) PJ len uL
      refine⟨by simp[PI],[.sl rows], ?_, .sl hu (by omega) h6⟩
      refine .cons (f1:=[]) (f2:=[]) ?_ .nil
      rcases Nat.eq_zero_or_pos len with h0|h0
      ·subst h0
       have :rows=[]:=List.length_eq_zero_iff.1 h2
       subst this
       exact .gE
      ·have Kr:0<vs.length:=by rw[h1];exact Nat.mul_pos h0 PJ
       have hc0:=h4 0 vs[0] (by simp[Kr])
       have ha:a.add 0=a:=rfl
       rw[ha]at hc0
       obtain⟨b,off,spot⟩:=a
       have hb:spot=none∧b<w.heap.size:=by
        unfold World.cell? at hc0
        split at hc0
        ·rename_i hh
         refine⟨?_, ?_⟩
         ·cases spot with
          |none=>rfl
          |some z=>simp at hc0
         ·rcases GE b w.heap.size with hb|hb
          ·exact hb
          ·rw[Array.getElem?_eq_none hb]at hh;cases hh
        ·cases hc0
       obtain⟨rfl,hb⟩:=hb
       have :=R.sl (w:=w) (I:=(·<w.heap.size)) (β:=b8) (b:=b) (o:=off) (cap:=cap) h3 hb (fun k v hk=>by
        have :=h4 k v hk
        unfold Addr.add at this
        by_cases hk0:k=0
        ·subst hk0;simpa using this
        ·simpa[hk0]using this) (by omega) h5
       rw[h2]at this
       exact this
     ·cases h
   ·rename_i fs hu
    simp only[DataW.trod,hu]at h
    simp only[AC]at hp
    split at h<;>first|(simp_all;done)|skip
    rename_i hc
    obtain⟨xs,hxs,rfl⟩:=Option.map_eq_some_iff.1 h
    have s5:∀y∈xs,Small B y.1:=fun y hy=>hB.imp id fun hB=>by
     have :=NF (GT (f:=fun z:DataW H×List MemPlace=>z.1) hy)
     simp only[bk]at hB;omega
    obtain⟨cells,g1,g2⟩:=ahA (fun t cs x hp fuel hx hs=>ih t cs x hp fuel hx hs) fs.toList 0 xs (by rw[hc];exact hp.1) hp.2 hxs s5
    exact⟨hc,cells,by simpa using g1, .st hu g2⟩
   ·cases hp
end
theorem Qd{w w':World}(h:Kept w w' (·∈([]:List Nat))):w.keptBut w' (fun _=>False):=by refine⟨h.os,h.out,fun i hi=> ?_⟩;have e:=h.blk i hi (by simp);rw[e];cases hx:w.heap[i]? with|none=>(trivial)|some o=>cases o<;>simp
theorem agy{w w':World}(h:w.keptBut w' (fun _=>False)){p:MemPlace}(hp:p.block<w.heap.size)(hc:Kept w w' (·∈([]:List Nat))):w.sameAt w' p:=by have e:=hc.blk p.block hp (by simp);cases p with|cell b off=>(exact cell_of_heap e)|map b=>exact e
theorem Wk{C:aC}(cx:Good C){f:FuncId}{nn:Nat}{args:List U}(JN:den C nn f args=some (B true,[]))(ef:C.iT f=false:=by rfl){W:World}{vs:List Value}(hargs:ay W (·<W.heap.size) b8 [] vs args)(CG:∀g cs,C.dW g=some cs->R W (·<W.heap.size) b8 [] (.pointer (some ⟨g,0,none⟩)) (mV cs)){fn:Func}{c:Code}(hf:C.P.funcs[f]? =some fn)(hb:fn.body=some c):Calls C.P f ⟨vs⟩ W fun e W'=>e= .returned (.bool true)∧Kept W W' (·∈([]:List Nat)):=by have hs:=(Rb cx _ _ _ _ JN).1 ef W (·<W.heap.size) [] vs hargs List.nodup_nil (fun b hb=>⟨hb,by simp⟩) (fun b hb=>by cases hb) CG;have hv:∀ls v w',yU W [] (·<W.heap.size) ls (B true,[]) v w'->v= .bool true∧Kept W w' (·∈([]:List Nat)):=fun ls v w' h=>by{obtain⟨I',fr,h1,_⟩:=h.ex;obtain⟨f1,f2,v',vs',_,e,k1,_⟩:=ay.cons_inv h1;simp only[List.cons.injEq]at e;rw[e.1];exact⟨k1.iD.2,h.kept⟩};rcases hs with⟨fn',c',_,_,h3⟩|⟨v,w',h1,_⟩;·{exact h3.mono fun e W'⟨v,he,hr⟩=>by obtain⟨rfl,hk⟩:=hv _ v W' hr;exact⟨he,hk⟩};·rw[yy cx.count.no hf hb]at h1;cases h1
section
variable{H:Type}{enc:TypeId×Value->H}{P:Program}
theorem Wr(hl:laidOutB P=true)(hm:mapsRowed P=true)(hz:((List.range P.types.size).all fun t=>match P.underlying t with|some (.slice e)=>decide (0<P.cellsOf e)|_=>true)=true){W W':World}{ts:List TypeId}(hT:∀t∈ts,t<P.types.size){vs:List Value}{ds:List (DataW H)}{ps:List MemPlace}(hA:DataW.TrodAll enc P W 0 (fun _=>true) true ts vs ds ps)(hlt:∀p∈ps,p.block<W.heap.size)(hk:Kept W W' (·∈([]:List Nat)))(sp:Nat->Bool)(hsp:∀p∈ps,sp p.block=true):DataW.TrodAll enc P W' 0 sp true ts vs ds ps:=by have h1:=DataW.TrodAll.respare (kids_rows hl hm) (slices_full_of P hz) hT hA hsp;clear hA hsp hT;induction ts generalizing vs ds ps with|nil=>(cases vs<;>cases ds<;>first|exact h1|(simp[DataW.TrodAll]at h1))|cons t ts ih=>cases vs with|nil=>(simp[DataW.TrodAll]at h1)|cons v vs=>cases ds with|nil=>(simp[DataW.TrodAll]at h1)|cons d ds=>obtain⟨p,q,⟨fuel,h2⟩,h3,rfl⟩:=h1;refine⟨p,q,⟨fuel,DataW.trod_carry _ _ _ _ h2 fun x hx=>agy (Qd hk) (hlt x (List.mem_append_left _ hx)) hk⟩,ih (fun x hx=>hlt x (List.mem_append_right _ hx)) h3,rfl⟩
theorem ahs{W:World}{base:Nat}{sp:Nat->Bool}{hd:Bool}{t:TypeId}{v:Value}{d:DataW H}{ps:List MemPlace}{n:Nat}(hp:tD P n t=true)(h:DataW.Trod enc P W base sp hd t v d ps){B:Nat}(hB:Small B d):∃cells,ay W (·<W.heap.size) b8 [] v.cells.toList cells∧iR P B t cells:=by obtain⟨fuel,h⟩:=h;exact(aht n t _ _ hp fuel h hB).2
end
section
variable{P:Program}{t:TypeId}{cells:List U}{B:Nat}
theorem BW{k:IntKind}(hu:P.underlying t=some (.int k))(h:iR P B t cells):∃n,cells=[.val (.int k n)]∧(Lit.int k n).wf=true:=by cases h with|int h1 h2=>(rw[hu]at h1;cases h1;exact⟨_,rfl,h2⟩)|bool h1=>(rw[hu]at h1;cases h1)|str h1=>(rw[hu]at h1;cases h1)|sl h1=>(rw[hu]at h1;cases h1)|st h1=>rw[hu]at h1;cases h1
theorem Yy(hu:P.underlying t=some .string)(h:iR P B t cells):∃n,cells=[.val (.string n)]∧n.size<=B:=by cases h with|str h1 h2=>(exact⟨_,rfl,h2⟩)|int h1=>(rw[hu]at h1;cases h1)|bool h1=>(rw[hu]at h1;cases h1)|sl h1=>(rw[hu]at h1;cases h1)|st h1=>rw[hu]at h1;cases h1
theorem Oh{α:Type}{e:TypeId}{c:α->List U}{ok:α->Prop}(hd:∀cells,iR P B e cells->∃x,cells=c x∧ok x):∀{rows:Rows},q5 P B e rows->∃l:List α,rows=l.map c∧∀x∈l,ok x|[],_=>⟨[],rfl,by simp⟩|_::_, .cons h1 h2=>by obtain⟨x,rfl,hx⟩:=hd _ h1;obtain⟨l,rfl,hl⟩:=Oh hd h2;exact⟨x::l,rfl,by simpa using⟨hx,hl⟩⟩
theorem Oi{α:Type}{e:TypeId}{c:α->List U}{ok:α->Prop}(hu:P.underlying t=some (.slice e))(hd:∀cells,iR P B e cells->∃x,cells=c x∧ok x)(h:iR P B t cells):∃l:List α,cells=[.sl (l.map c)]∧(l.length<=B∧∀x∈l,ok x):=by cases h with|sl h1 h2 h3=>(rw[hu]at h1;cases h1;obtain⟨l,rfl,hl⟩:=Oh hd h3;exact⟨l,rfl,by simpa using h2,hl⟩)|int h1=>(rw[hu]at h1;cases h1)|bool h1=>(rw[hu]at h1;cases h1)|str h1=>(rw[hu]at h1;cases h1)|st h1=>rw[hu]at h1;cases h1
theorem Of{fs:Array Field}(hu:P.underlying t=some (.struct fs))(h:iR P B t cells):sv P B fs.toList cells:=by cases h with|st h1 h2=>(rw[hu]at h1;cases h1;exact h2)|int h1=>(rw[hu]at h1;cases h1)|bool h1=>(rw[hu]at h1;cases h1)|str h1=>(rw[hu]at h1;cases h1)|sl h1=>rw[hu]at h1;cases h1
theorem wm{f:Field}{fs:List Field}(h:sv P B (f::fs) cells):∃a b,cells=a++b∧iR P B f.type a∧sv P B fs b:=by cases h with|cons h1 h2=>exact⟨_,_,rfl,h1,h2⟩
theorem Og(h:sv P B [] cells):cells=[]:=by cases h;rfl
end
open Go Go.ChangeShapes Go.WideShapes Go.ChangeAt Go.RowKit
theorem Wq{P:Program}{W:World}{r:Reach}{base:Nat}{t:TypeId}{v:Value}{fs:Array Field}{cells:List U}(ht:P.underlying t=some (.struct fs))(hval:Value.okWide P W r base t v)(h:ay W (·<W.heap.size) b8 [] v.cells.toList cells):R W (·<W.heap.size) b8 [] v (.agg cells):=by unfold Value.okWide at hval;rw[ht]at hval;obtain⟨cs,rfl,_⟩:=hval;exact h
end Go.Ab
