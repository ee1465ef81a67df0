import Derived.Test.YtbbhbdlljfffdaaGreatDoorAbSimp
import Derived.Test.YtbbhbdlljfffdaaGreatDoorAbFn
import Derived.WalkKit
import Derived.ProofKit
import Derived.OpenShut
import Derived.ReadAgain
import Derived.ChangeSame
import Derived.Deep.DeepHandedRow
open Bool renaming and_eq_true→GE
open List renaming mem_map_of_mem→Hb
open Nat renaming lt_or_ge→GT
open Option.some renaming injEq→Ha
set_option linter.all false
namespace Go.Ab
open Go Go.ChangeShapes Go.WideShapes Go.ChangeAt Go.RowKit
def xl(P:Program):Nat→List Field→Nat→Bool|o,[],tot=>o==tot|o,f::fs,tot=>f.offset==o&&xl P (o+P.cellsOf f.type) fs tot
def oT(P:Program):Nat→TypeId→Bool|0,_=>false|n+1,t=>match P.underlying t with|some .bool=>P.cellsOf t==1|some (.int _)=>P.cellsOf t==1|some .string=>P.cellsOf t==1|some (.slice e)=>P.cellsOf t==1&&(decide (0<P.cellsOf e)&&oT P n e)|some (.struct fs)=>xl P 0 fs.toList (P.cellsOf t)&&fs.toList.all fun f=>oT P n f.type|_=>false
mutual inductive kX(P:Program)(B:Nat):TypeId→List U→Prop|bool{t:TypeId}{b:Bool}:P.underlying t=some .bool→kX P B t [.val (.bool b)]|int{t:TypeId}{k:IntKind}{n:Int}:P.underlying t=some (.int k)→(Lit.int k n).wf=true→kX P B t [.val (.int k n)]|str{t:TypeId}{s:ByteArray}:P.underlying t=some .string→s.size≤B→kX P B t [.val (.string s)]|sl{t e:TypeId}{rows:Rows}:P.underlying t=some (.slice e)→rows.length≤B→od P B e rows→kX P B t [.sl rows]|st{t:TypeId}{fs:Array Field}{cells:List U}:P.underlying t=some (.struct fs)→u0 P B fs.toList cells→kX P B t cells inductive u0(P:Program)(B:Nat):List Field→List U→Prop|nil:u0 P B [] []|cons{f:Field}{fs:List Field}{a b:List U}:kX P B f.type a→u0 P B fs b→u0 P B (f::fs) (a++b)inductive od(P:Program)(B:Nat):TypeId→Rows→Prop|nil{e:TypeId}:od P B e []|cons{e:TypeId}{r:List U}{rs:Rows}:kX P B e r→od P B e rs→od P B e (r::rs)end
mutual def fy{H:Type}:DataW H→Nat| .lit (.string bytes)=>bytes.length+1| .lit _=>1| .nil=>1| .ptr d=>fy d+1| .slice elems spare=>oq elems+oq spare+1| .agg parts=>oq parts+1| .iface _ d=>fy d+1| .map entries=>Gt entries+1| .held _=>1 def oq{H:Type}:List (DataW H)→Nat|[]=>0|d::r=>fy d+oq r def Gt{H:Type}:List (Lit×DataW H)→Nat|[]=>0|x::r=>OP x+Gt r def OP{H:Type}:Lit×DataW H→Nat|(.string bytes,d)=>bytes.length+fy d+1|(_,d)=>fy d+1 end
theorem OR{H:Type}(d:DataW H):1≤fy d:=by cases d with|lit l=>(cases l<;>simp[fy])|_=>simp[fy]
theorem Gu{H:Type}{d:DataW H}{l:List (DataW H)}(h:d∈l):fy d≤oq l:=by induction l with|nil=>(cases h)|cons x r ih=>simp only[oq];cases List.mem_cons.1 h with|inl e=>(subst e;omega)|inr e=>have:=ih e;omega
theorem OQ{H:Type}(l:List (DataW H)):l.length≤oq l:=by induction l with|nil=>(simp[oq])|cons x r ih=>have:=OR x;simp only[oq,List.length_cons];omega
def Small{H:Type}(B:Nat)(d:DataW H):Prop:=B=maxLen∨fy d≤B
theorem od.snoc{P:Program}{B:Nat}{e:TypeId}:∀{rs:Rows}{r:List U},od P B e rs→kX P B e r→od P B e (rs++[r])|[],_,_,h=> .cons h .nil|_::_,_, .cons h1 h2,h=> .cons h1 (od.snoc h2 h)
section
variable{H:Type}{enc:TypeId×Value→H}{P:Program}{w:World}{base:Nat}{spare:Nat→Bool}{held:Bool}{B:Nat}
theorem GG{a:Addr}{n:Nat}{cs:List Value}(h:w.cells? base a n=some cs):cs.length=n∧∀(i:Nat)v,cs[i]? =some v→w.cell? (a.add i)=some v:=by obtain⟨h1,h2,h3⟩:=World.cells?_some h;refine⟨h2,fun i v hv=> ?_⟩;have hi:i<n:=by{rcases GT i n with hi|hi;·{exact hi};·rw[List.getElem?_eq_none (by omega)]at hv;cases hv};rw[h3 i hi,hv]
theorem YI{n:Nat}(ih:∀(t:TypeId)(cs:List Value)(x:DataW H×List MemPlace),oT P n t=true→∀fuel,DataW.trod enc P w base spare held fuel t cs=some x→Small B x.1→cs.length=P.cellsOf t∧∃cells,aj w (·<w.heap.size) br [] cs cells∧kX P B t cells){fuel:Nat}{cs:List Value}:∀(fs:List Field)(o:Nat)(xs:List (DataW H×List MemPlace)),xl P o fs cs.length=true→(fs.all fun f=>oT P n f.type)=true→fs.mapM (fun f=>DataW.trod enc P w base spare held fuel f.type ((cs.drop f.offset).take (P.cellsOf f.type)))=some xs→(∀y∈xs,Small B y.1)→∃cells,aj w (·<w.heap.size) br [] (cs.drop o) cells∧u0 P B fs cells:=by intro fs;induction fs with|nil=>(intro o xs ho _ _ _;simp only[xl,beq_iff_eq]at ho;exact⟨[],by rw[List.drop_of_length_le (by omega)];exact .nil, .nil⟩)|cons f fs Uh=>intro o xs ho hp hm hB;simp only[xl,GE,beq_iff_eq]at ho;simp only[List.all_cons,GE]at hp;simp only[List.mapM_cons,Option.bind_eq_bind,Option.bind_eq_some_iff]at hm;obtain⟨x,hx,xs',hxs,T6⟩:=hm;obtain rfl:x::xs'=xs:=by{simpa using T6};obtain⟨hl,c1,h1,h2⟩:=ih _ _ _ hp.1 fuel hx (hB _ (List.mem_cons_self ..));obtain⟨c2,h3,h4⟩:=Uh _ _ ho.2 hp.2 hxs fun y hy=>hB y (List.mem_cons_of_mem _ hy);rw[ho.1]at h1;refine⟨c1++c2, ?_, .cons h2 h4⟩;have:=aj.append h1 h3;rw[←List.drop_drop,List.take_append_drop]at this;exact this
theorem X6{e:TypeId}(ih:∀(cs:List Value)(x:DataW H×List MemPlace),∀fuel,DataW.trod enc P w base spare held fuel e cs=some x→Small B x.1→cs.length=P.cellsOf e∧∃cells,aj w (·<w.heap.size) br [] cs cells∧kX P B e cells)(h0:0<P.cellsOf e){fuel:Nat}{a:Addr}:∀(len:Nat),(∀i,i<len→∃x,(w.cells? base (a.add (i*P.cellsOf e)) (P.cellsOf e)).bind (DataW.trod enc P w base spare held fuel e)=some x∧Small B x.1)→∃(vs:List Value)(rows:Rows),vs.length=len*P.cellsOf e∧rows.length=len∧(∀r∈rows,r.length=P.cellsOf e)∧(∀k v,vs[k]? =some v→w.cell? (a.add k)=some v)∧aj w (·<w.heap.size) br [] vs rows.flatten∧od P B e rows:=by intro len;induction len with|zero=>(intro _;exact⟨[],[],by simp,rfl,by simp,by simp, .nil, .nil⟩)|succ len ihl=>intro hel;obtain⟨vs,rows,h1,h2,h3,h4,h5,h6⟩:=ihl fun i hi=>hel i (by omega);obtain⟨x,hx,T3⟩:=hel len (by omega);obtain⟨us,hu,ht⟩:=Option.bind_eq_some_iff.1 hx;obtain⟨g1,g2⟩:=GG hu;obtain⟨k1,cells,k2,dH⟩:=ih _ _ fuel ht T3;refine⟨vs++us,rows++[cells],by simp[h1,g1,Nat.succ_mul],by simp[h2],fun r hr=> ?_,fun k v hk=> ?_, ?_,h6.snoc dH⟩;·{rcases List.mem_append.1 hr with hr|hr;·{exact h3 r hr};·simp at hr;subst hr;rw[←k2.length,g1]};·{rcases GT k vs.length with hlt|hge;·{rw[List.getElem?_append_left hlt]at hk;exact h4 k v hk};·rw[List.getElem?_append_right hge]at hk;have:=g2 _ v hk;have e:(a.add (len*P.cellsOf e)).add (k-vs.length)=a.add k:=by{unfold Addr.add;by_cases oH:k=0;·{subst oH;have:vs.length=0:=by{omega};have:len*P.cellsOf e=0:=by{omega};simp[this]};·by_cases hd:k-vs.length=0;·{have:len*P.cellsOf e=k:=by{omega};simp[hd,this]};·by_cases hl:len*P.cellsOf e=0;·{simp[hl,hd,oH];omega};·simp[hl,hd,oH];omega};rw[e]at this;exact this};·rw[List.flatten_append];simpa using aj.append h5 k2
theorem YE:∀(n:Nat)(t:TypeId)(cs:List Value)(x:DataW H×List MemPlace),oT P n t=true→∀fuel,DataW.trod enc P w base spare held fuel t cs=some x→Small B x.1→
  cs.length=P.cellsOf t∧∃cells,aj w (·<w.heap.size) br [] cs cells∧kX P B t cells:=by
 intro n
 induction n with
 |zero=>intro t cs x h;simp[oT]at h
 |succ n ih=>
  intro t cs x hp fuel h hB
  cases fuel with
  |zero=>simp[DataW.trod]at h
  |succ fuel=>
   unfold oT at hp
   split at hp
   ·rename_i hu
    simp only[DataW.trod,hu]at h
    simp only[beq_iff_eq]at hp
    split at h<;>first|(simp_all;done)|skip
    rename_i b _ _
    exact⟨by simp[hp],_, .cons (.val rfl) .nil, .bool hu⟩
   ·rename_i k hu
    simp only[DataW.trod,hu]at h
    simp only[beq_iff_eq]at hp
    split at h<;>first|(simp_all;done)|skip
    rename_i k1 k2 m hk
    simp only[Ha,TypeDesc.int.injEq]at hk;subst hk
    split at h
    ·rename_i hc
     obtain⟨rfl,hw⟩:=hc
     exact⟨by simp[hp],_, .cons (.val rfl) .nil, .int hu hw⟩
    ·cases h
   ·rename_i hu
    simp only[DataW.trod,hu]at h
    simp only[beq_iff_eq]at hp
    split at h<;>first|(simp_all;done)|skip
    rename_i b _
    split at h
    ·rename_i hc
     obtain rfl:=Option.some.inj h
     refine⟨by simp[hp],_, .cons (.val rfl) .nil, .str hu ?_⟩
     rcases hB with hB|hB
     ·omega
     ·simp only[fy,Array.length_toList]at hB
      have :b.size=b.data.size:=rfl
      omega
    ·cases h
   ·rename_i e hu
    simp only[DataW.trod,hu]at h
    simp only[GE,beq_iff_eq,decide_eq_true_eq]at hp
    obtain⟨Iz,zy,CA⟩:=hp
    split at h<;>first|(simp_all;done)|skip
    ·rename_i e1 he
     exact⟨by simp[Iz],_, .cons .fc .nil, .sl (rows:=[]) hu (by simp) .nil⟩
    ·rename_i e1 a len cap he
     simp only[Ha,TypeDesc.slice.injEq]at he;subst he
     split at h
     ·rename_i hc
      obtain⟨SW,jZ,aaH⟩:=hc
      obtain⟨elems,hel,qd⟩:=Option.bind_eq_some_iff.1 h
      obtain⟨rest,_,rfl⟩:=Option.map_eq_some_iff.1 qd
      have CH:∀y∈elems,Small B y.1:=fun y hy=>hB.imp id fun hB=>by
       have :=Gu (Hb (f:=fun z:DataW H×List MemPlace=>z.1) hy)
       simp only[fy]at hB;omega
      have hlen:elems.length=len:=by simpa using mapM_some_length hel
      have nP:∀i,i<len→∃x,(w.cells? base (a.add (i*P.cellsOf e)) (P.cellsOf e)).bind (DataW.trod enc P w base spare held fuel e)=some x∧Small B x.1:=fun i hi=>by
       have :=mapM_some_get hel i i (by simp[hi])
       exact⟨elems[i],by rw[this,List.getElem?_eq_getElem (by omega)],CH _ (List.getElem_mem _)⟩
      have aaK:len≤B:=by
       rcases hB with hB|hB
       ·omega
       ·have :=OQ (elems.map (·.1))
        rw[List.length_map]at this
        simp only[fy]at hB;omega
      obtain⟨vs,rows,h1,h2,h3,h4,h5,h6⟩:=X6 (fun cs x fuel hx hs=>ih e cs x CA fuel hx hs) zy len nP
      refine⟨by simp[Iz],[.sl rows], ?_, .sl hu (by omega) h6⟩
      refine .cons (f1:=[]) (f2:=[]) ?_ .nil
      rcases Nat.eq_zero_or_pos len with h0|h0
      ·subst h0
       have :rows=[]:=List.length_eq_zero_iff.1 h2
       subst this
       exact .fc
      ·have wB:0<vs.length:=by rw[h1];exact Nat.mul_pos h0 zy
       have hc0:=h4 0 vs[0] (by simp[wB])
       have ha:a.add 0=a:=rfl
       rw[ha]at hc0
       obtain⟨b,off,spot⟩:=a
       have hb:spot=none∧b<w.heap.size:=by
        unfold World.cell? at hc0
        split at hc0
        ·rename_i hh
         refine⟨?_, ?_⟩
         ·cases spot with
          |none=>rfl
          |some z=>simp at hc0
         ·rcases GT b w.heap.size with hb|hb
          ·exact hb
          ·rw[Array.getElem?_eq_none hb]at hh;cases hh
        ·cases hc0
       obtain⟨rfl,hb⟩:=hb
       have :=R.sl (w:=w) (I:=(·<w.heap.size)) (β:=br) (b:=b) (o:=off) (cap:=cap) h3 hb (fun k v hk=>by
        have :=h4 k v hk
        unfold Addr.add at this
        by_cases oH:k=0
        ·subst oH;simpa using this
        ·simpa[oH]using this) (by omega) h5
       rw[h2]at this
       exact this
     ·cases h
   ·rename_i fs hu
    simp only[DataW.trod,hu]at h
    simp only[GE]at hp
    split at h<;>first|(simp_all;done)|skip
    rename_i hc
    obtain⟨xs,hxs,rfl⟩:=Option.map_eq_some_iff.1 h
    have CH:∀y∈xs,Small B y.1:=fun y hy=>hB.imp id fun hB=>by
     have :=Gu (Hb (f:=fun z:DataW H×List MemPlace=>z.1) hy)
     simp only[fy]at hB;omega
    obtain⟨cells,g1,g2⟩:=YI (fun t cs x hp fuel hx hs=>ih t cs x hp fuel hx hs) fs.toList 0 xs (by rw[hc];exact hp.1) hp.2 hxs CH
    exact⟨hc,cells,by simpa using g1, .st hu g2⟩
   ·cases hp
end
theorem IY{w w':World}(h:Kept w w' (·∈([]:List Nat))):w.keptBut w' (fun _=>False):=by refine⟨h.os,h.out,fun i hi=> ?_⟩;have e:=h.blk i hi (by simp);rw[e];cases hx:w.heap[i]? with|none=>(trivial)|some o=>cases o<;>simp
theorem Yh{w w':World}(h:w.keptBut w' (fun _=>False)){p:MemPlace}(hp:p.block<w.heap.size)(hc:Kept w w' (·∈([]:List Nat))):w.sameAt w' p:=by have e:=hc.blk p.block hp (by simp);cases p with|cell b off=>(exact cell_of_heap e)|map b=>exact e
theorem Oj{C:aB}(eH:Good C){f:FuncId}{nn:Nat}{args:List U}(Cg:den C nn f args=some (B true,[]))(dm:C.fP f=false:=by rfl){W:World}{vs:List Value}(hargs:aj W (·<W.heap.size) br [] vs args)(rL:∀g cs,C.bJ g=some cs→R W (·<W.heap.size) br [] (.pointer (some ⟨g,0,none⟩)) (.aL cs)){fn:Func}{c:Code}(hf:C.P.funcs[f]? =some fn)(hb:fn.body=some c):Calls C.P f ⟨vs⟩ W fun e W'=>e= .returned (.bool true)∧Kept W W' (·∈([]:List Nat)):=by have hs:=(JK eH _ _ _ _ Cg).1 dm W (·<W.heap.size) [] vs hargs List.nodup_nil (fun b hb=>⟨hb,by simp⟩) (fun b hb=>by cases hb) rL;have hv:∀ls v w',qT W [] (·<W.heap.size) ls (B true,[]) v w'→v= .bool true∧Kept W w' (·∈([]:List Nat)):=fun ls v w' h=>by{obtain⟨I',fr,h1,_⟩:=h.ex;obtain⟨f1,f2,v',vs',_,e,k1,_⟩:=aj.cons_inv h1;simp only[List.cons.injEq]at e;rw[e.1];exact⟨k1.e6.2,h.kept⟩};rcases hs with⟨fn',c',_,_,h3⟩|⟨v,w',h1,_⟩;·{exact h3.mono fun e W'⟨v,he,hr⟩=>by obtain⟨rfl,hk⟩:=hv _ v W' hr;exact⟨he,hk⟩};·rw[qE eH.count.no hf hb]at h1;cases h1
section
variable{H:Type}{enc:TypeId×Value→H}{P:Program}
theorem Oo(hl:laidOutB P=true)(hm:mapsRowed P=true)(hz:((List.range P.types.size).all fun t=>match P.underlying t with|some (.slice e)=>decide (0<P.cellsOf e)|_=>true)=true){W W':World}{ts:List TypeId}(hT:∀t∈ts,t<P.types.size){vs:List Value}{ds:List (DataW H)}{ps:List MemPlace}(hA:DataW.TrodAll enc P W 0 (fun _=>true) true ts vs ds ps)(hlt:∀p∈ps,p.block<W.heap.size)(hk:Kept W W' (·∈([]:List Nat)))(sp:Nat→Bool)(hsp:∀p∈ps,sp p.block=true):DataW.TrodAll enc P W' 0 sp true ts vs ds ps:=by have h1:=DataW.TrodAll.respare (kids_rows hl hm) (slices_full_of P hz) hT hA hsp;clear hA hsp hT;induction ts generalizing vs ds ps with|nil=>(cases vs<;>cases ds<;>first|exact h1|(simp[DataW.TrodAll]at h1))|cons t ts ih=>cases vs with|nil=>(simp[DataW.TrodAll]at h1)|cons v vs=>cases ds with|nil=>(simp[DataW.TrodAll]at h1)|cons d ds=>obtain⟨p,q,⟨fuel,h2⟩,h3,rfl⟩:=h1;refine⟨p,q,⟨fuel,DataW.trod_carry _ _ _ _ h2 fun x hx=>Yh (IY hk) (hlt x (List.mem_append_left _ hx)) hk⟩,ih (fun x hx=>hlt x (List.mem_append_right _ hx)) h3,rfl⟩
theorem La{W:World}{base:Nat}{sp:Nat→Bool}{hd:Bool}{t:TypeId}{v:Value}{d:DataW H}{ps:List MemPlace}{n:Nat}(hp:oT P n t=true)(h:DataW.Trod enc P W base sp hd t v d ps){B:Nat}(hB:Small B d):∃cells,aj W (·<W.heap.size) br [] v.cells.toList cells∧kX P B t cells:=by obtain⟨fuel,h⟩:=h;exact(YE n t _ _ hp fuel h hB).2
end
section
variable{P:Program}{t:TypeId}{cells:List U}{B:Nat}
theorem G6{k:IntKind}(hu:P.underlying t=some (.int k))(h:kX P B t cells):∃n,cells=[.val (.int k n)]∧(Lit.int k n).wf=true:=by cases h with|int h1 h2=>(rw[hu]at h1;cases h1;exact⟨_,rfl,h2⟩)|bool h1=>(rw[hu]at h1;cases h1)|str h1=>(rw[hu]at h1;cases h1)|sl h1=>(rw[hu]at h1;cases h1)|st h1=>rw[hu]at h1;cases h1
end
end Go.Ab
namespace Go.Ab
open Go Go.ChangeShapes Go.WideShapes Go.ChangeAt Go.RowKit
theorem Gm{P:Program}{W:World}{r:Reach}{base:Nat}{t:TypeId}{v:Value}{d:TypeDesc}{a:U}(ht:P.underlying t=some d)(hd:(match d with| .bool=>true| .int _=>true| .string=>true| .slice _=>true|_=>false)=true)(hval:Value.okWide P W r base t v)(h:aj W (·<W.heap.size) br [] v.cells.toList [a]):R W (·<W.heap.size) br [] v a:=by have hc:v.cells= #[v]:=by{unfold Value.okWide at hval;rw[ht]at hval;cases d<;>simp at hd<;>simp only[Cell.okWide,ht,Cell.ok]at hval<;>cases v<;>first|rfl|(simp at hval)};rw[hc]at h;obtain⟨f1,f2,v',vs',e1,e2,h1,h2⟩:=aj.cons_inv h;obtain⟨rfl,rfl⟩:=h2.eJ;simp at e2 e1;obtain rfl:=e2;subst e1;exact h1
end Go.Ab
