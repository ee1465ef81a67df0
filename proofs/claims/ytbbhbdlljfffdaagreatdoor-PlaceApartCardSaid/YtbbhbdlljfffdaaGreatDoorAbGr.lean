import Derived.Test.YtbbhbdlljfffdaaGreatDoorAbTake
import Derived.MapKept
import Derived.Test.YtbbhbdlljfffdaaGreatDoorAbWeak
open Array renaming toList_modify→H3
open Bool renaming and_eq_true→Hk
open List renaming mem_cons_of_mem→Hc,mem_cons_self→Hd,map_cons→Hm,mem_append_left→Hn,nodup_nil→H0,mem_append_right→H1,mem_singleton→H4,flatMap_cons→H5
open Option renaming bind_eq_some_iff→GT,map_eq_some_iff→Hb,isNone_iff_eq_none→H2
open Option.some renaming injEq→GE
open Prod.mk renaming injEq→Ha
set_option linter.all false
namespace Go.Ab
open Go
def lC(e:MapEntry):List U:=[.val e.key, .val e.val]
section
variable{P:Program}{w:World}{kt et t:TypeId}{kind:TypeDesc}{kv n5 z:Value}
theorem run_checkKey{b:Bool}(hk:P.underlying kt=some kind)(hs:Mz kind=true):(Instr.checkKey b 10000 kt kv).run P w= .ok () w:=by show(Instr.checkKey b (9999+1) kt kv).run P w=_;unfold Instr.checkKey;rw[Sem.run_bind,e8 (C:={P:=P,cD:=fun _=>none,ext:=fun _=>none,cA:=fun _=>[],eF:=fun _=>[],live:=fun _ _=>[],iy:=fun _ _=>[]}) hk,Result.andThen_ok];cases kind<;>first|(cases hs;done)|rfl
theorem PN:∀{es:List MapEntry}{r:Option Value}(i:Nat),pH kind kv (es.map lC)=some r→∃j,Instr.findNow kind kv es i=some (r.map fun v=>(j,v))|[],r,i,h=>by{simp only[List.map_nil,pH,GE]at h;subst h;exact⟨0,rfl⟩}|e::es,r,i,h=>by simp only[Hm,lC,pH]at h;unfold Instr.findNow;split at h;·{rename_i hs;simp only[GE]at h;subst h;exact⟨i,by rw[hs];rfl⟩};·{rename_i hs;obtain⟨j,hj⟩:=PN (i+1) h;exact⟨j,by rw[hs];exact hj⟩};·cases h
theorem Ol:∀{a b:ByteArray},(a==b)=true→a=b|⟨x⟩,⟨y⟩,h=>by have h':(x==y)=true:=h;rw[eq_of_beq h']
theorem Om(a:ByteArray):(a==a)=true:=by cases a with|mk x=>show(x==x)=true;simp
theorem Uh{b:Nat}{es:Array MapEntry}{clock:Nat}(hb:w.heap[b]? =some (.map es clock)):(getObj b).run P w= .ok (.map es clock) w:=by simp[getObj,Sem.run,hb]
theorem Ul{b:Nat}{es:Array MapEntry}{clock:Nat}(o:Obj)(hb:w.heap[b]? =some (.map es clock)):(setObj b o).run P w= .ok () (jG w b o):=by simp[setObj,Sem.run,hb,jG]
theorem aj2{k e:Value}(h:Instr.sameNow kind k e=some true):Instr.sameBits 10000 e k=true:=by unfold Instr.sameNow at h;split at h;·{split at h;·{rename_i a k' b hk;simp only[GE]at h;show(_&&_)=true;have:=eq_of_beq h;subst hk this;simp};·cases h};·{simp only[GE]at h;have:=Ol h;subst this;exact Om _};·{simp only[GE]at h;have:=eq_of_beq h;subst this;show(_==_)=true;simp};·cases h
theorem TI:∀{es:List MapEntry}{br:Rows}(i:Nat),x8 kind kv n5 (es.map lC)=some br→(∃j v,∃hj:j<es.length,Instr.findNow kind kv es i=some (some (i+j,v))∧Instr.sameNow kind kv es[j].key=some true∧br=(es.modify j fun e=>{e with key:=kv,val:=n5}).map lC)∨(Instr.findNow kind kv es i=some none∧br=es.map lC++[[.val kv, .val n5]])|[],br,i,h=>by{simp only[List.map_nil,x8,GE]at h;subst h;exact .inr ⟨rfl,rfl⟩}|e::es,br,i,h=>by simp only[Hm,lC,x8]at h;unfold Instr.findNow;split at h;·{rename_i hs;simp only[GE]at h;subst h;exact .inl ⟨0,e.val,by simp,by rw[hs];rfl,hs,by simp[lC]⟩};·{rename_i hs;obtain⟨y,hy,rfl⟩:=Option.map_eq_some_iff.1 h;rw[hs];rcases TI (i+1) hy with⟨j,v,hj,h1,h2,rfl⟩|⟨h1,rfl⟩;·{refine .inl ⟨j+1,v,by simpa using hj, ?_,by simpa using h2,by simp[lC]⟩;rw[show i+(j+1)=i+1+j by omega];exact h1};·exact .inr ⟨h1,by simp[lC]⟩};·cases h
end
section
variable{C:aL}{E:Env}{w:World}{S:ah}{a:Act}{β:Id→Option Loc}{F:Id→List Nat}
variable{next:Act→World→Prop}{Q:Exit→Act→World→Prop}
theorem aj3{t:TypeId}{z:Value}(h:Mu C t=some z):(∀w:World,(zeroValue t).run C.P w= .ok z w)∧eC z=true:=by unfold Mu at h;split at h;·{rename_i v hv;split at h;·{rename_i hs;simp only[GE]at h;subst h;refine⟨fun w=> ?_,hs⟩;simp only[GT]at hv;obtain⟨i,hi,hz⟩:=hv;simp[zeroValue,typeInfo,hi,hz]};·cases h};·cases h
theorem R6{t:TypeId}{kind:TypeDesc}{z:Value}(h:Aw C t=some (kind,z)):∃kt et,C.P.underlying t=some (.map kt et)∧C.P.underlying kt=some kind∧Mz kind=true∧(∀w:World,(zeroValue et).run C.P w= .ok z w)∧eC z=true:=by unfold Aw at h;split at h;·{rename_i kt et hu;split at h;·{rename_i kind' z' hk hz;split at h;·{rename_i hs;simp only[GE,Ha]at h;obtain⟨rfl,rfl⟩:=h;obtain⟨h1,h2⟩:=aj3 hz;exact⟨kt,et,hu,hk,hs,h1,h2⟩};·cases h};·cases h};·cases h
theorem ab7{w:World}{b:Nat}{es es':Array MapEntry}{c c':Nat}(h:w.heap[b]? =some (.map es c))(x:Addr):(jG w b (.map es' c')).frozen? x=w.frozen? x:=by have hb:=lt_of_heap h;unfold World.frozen? ;rw[A2 hb];by_cases hx:x.block=b;·{rw[AC hx,hx,h]};·rw[Do hx]
theorem ah2(h:aP C E w S a β F){o:Oper}{t:TypeId}{r:Option Operand}(ho:o.op= .makeMap t r){e:bz}(he:sV C S o t r=some e)(hd:cH S e)(hn:∀a' w',bD C E (S.app e) a' w'→next a' w'):o.wp C.P a w next Q:=by unfold sV at he;split at he;·{rename_i d hm bG;split at he;·{rename_i hc;simp only[Hk,H2]at hc;obtain⟨rfl,hf⟩:=hc;simp only[GE]at he;subst he;have hfr:S.h [d]=none:=hf;have hd':d<S.n:=by{simpa[cH,put,bG]using hd};refine kN (v:= .map (some w.heap.size)) (w':=w.alloc (.map #[] 0)) ?_ (hn _ _ ?_);·{simp only[execOp,ho];refine nZ ?_;rfl};·have e1:S.app (put o (.mr [d]) [] [([d],some [])])=⟨S.n,an S.t d (.mr [d]),an S.h [d] (some (some []))⟩:=by{simp[ah.app,put,bG,c8,bu]};rw[e1];have hold:∀b,b<w.heap.size→(w.alloc (.map #[] 0)).heap[b]? =w.heap[b]? :=fun b hb=>heap_alloc_old _ _ _ hb;have hnew:(w.alloc (.map #[] 0)).heap[w.heap.size]? =some (.map #[] 0):=heap_alloc_new _ _;refine h.GL bG (kill:=[d]) (l:= .map w.heap.size) (br:=[]) (G:=[w.heap.size]) hfr (.inl rfl) (by simp[an]) (fun i hi _=>by simp[an,hi]) (fun hk=>absurd rfl hk) (by simp) rfl rfl (fun x=> ?_) (fun b hb _=>hold b hb) (uh hold) (by simp) (fun b hb=> ?_) (fun I' β' _ _ hb=> ?_) (fun I' β' hb=> .mr hb) hd';·{by_cases hx:x.block=w.heap.size;·{have e2:w.heap[x.block]? =none:=by{rw[hx];simp};simp only[World.frozen?,hx,hnew];simp};·rw[World.frozen?_alloc_old _ _ _ hx]};·{obtain rfl:=List.mem_singleton.1 hb;exact .inr ⟨Nat.le_refl _,by simp⟩};·exact .inr (.inl ⟨_,hb,rfl, #[],0,hnew,rfl,fun e he=>by simp at he⟩)};·cases he};·cases he
theorem agq(h:aP C E w S a β F){x:U}{v:Value}{rows:Rows}{ids:List Id}(hx:R w (aD E w F) β [] v x)(hr:uZ S.h x=some (rows,ids)):(v= .map none∧rows=[])∨∃b,v= .map (some b)∧nx w b rows:=by unfold uZ at hr;split at hr;·{rename_i id;split at hr;·{rename_i br hid;simp only[GE,Ha]at hr;obtain⟨rfl,rfl⟩:=hr;obtain⟨_,b,hb,rfl⟩:=hx.Dw;rcases h.obj id _ hid with⟨h1,_⟩|⟨b2,h1,_,hm⟩|⟨_,_,_,_,_,_,h1,_⟩;·{rw[h1]at hb;cases hb};·{rw[h1]at hb;cases hb;exact .inr ⟨_,rfl,hm⟩};·rw[h1]at hb;cases hb};·cases hr};·{simp only[GE,Ha]at hr;obtain⟨rfl,rfl⟩:=hr;obtain⟨_,b,rfl,_,hm⟩:=hx.afq;exact .inr ⟨b,rfl,hm⟩};·{simp only[GE,Ha]at hr;obtain⟨rfl,rfl⟩:=hr;obtain⟨_,rfl⟩:=hx.gE;exact .inl ⟨rfl,rfl⟩};·cases hr
theorem PO{kind:TypeDesc}{kv v:Value}:∀{es:List MapEntry},(∀e∈es,eC e.key=true∧eC e.val=true)→pH kind kv (es.map lC)=some (some v)→eC v=true|[],_,h=>by{simp[pH]at h}|e::es,hs,h=>by simp only[Hm,lC,pH]at h;split at h;·{simp only[GE]at h;subst h;exact(hs e (Hd ..)).2};·{exact PO (fun e he=>hs e (Hc _ he)) h};·cases h
theorem ahZ(h:aP C E w S a β F){o:Oper}{t:TypeId}{x k:Operand}{ok:Bool}(ho:o.op= .lookup t x k ok){e:bz}(he:oq C S o t (un true (S.get C x)) (un true (S.get C k)) ok=some e)(hd:cH S e)(hn:∀a' w',bD C E (S.app e) a' w'→next a' w'):o.wp C.P a w next Q:=by have hx:=h.dY x;have hk:=h.dY k;generalize un true (S.get C x)=xv at*;generalize un true (S.get C k)=kx at*;have hex:execOp a.eval o=(do pure (Next.value (←Instr.lookup t (a.eval x) (a.eval k) ok))):=by{simp[execOp,ho]};unfold oq at he;split at he;·{rename_i kind z rows ids kv hm hr;obtain⟨r,hf,rfl⟩:=Option.map_eq_some_iff.1 he;obtain⟨kt,et,hu,hkt,hs,hz,hzs⟩:=R6 hm;obtain⟨_,hkv⟩:=hk.gE;have hK:∀es:Array MapEntry,pH kind kv (es.toList.map lC)=some r→(do Instr.checkKey es.isEmpty 10000 kt (a.eval k)let y←Instr.findKey kt (a.eval k) es.toList match y with|some (_,v)=>do let x←pure (v,true)pure (if ok=true then Value.tuple #[x.1,Value.bool x.2]else x.1)|none=>do let z←zeroValue et let x←pure (z,false)pure (if ok=true then Value.tuple #[x.1,Value.bool x.2]else x.1):Sem Value).run C.P w= .ok (if ok then .tuple #[r.getD z, .bool r.isSome]else r.getD z) w:=by{intro es hf;obtain⟨j,hj⟩:=PN 0 hf;rw[Sem.run_bind,run_checkKey hkt hs,Result.andThen_ok];have CB:(Instr.findKey kt (a.eval k) es.toList).run C.P w= .ok (r.map fun v=>(j,v)) w:=by{unfold Instr.findKey;rw[Sem.run_bind,e8 hkt,Result.andThen_ok,hkv,hj];rfl};rw[Sem.run_bind,CB,Result.andThen_ok];cases r with|some v=>(rfl)|none=>simp only[Option.map_none,Option.getD_none,Option.isSome_none];rw[Sem.run_bind,hz w,Result.andThen_ok];rfl};have hrun:(Instr.lookup t (a.eval x) (a.eval k) ok).run C.P w= .ok (if ok then .tuple #[r.getD z, .bool r.isSome]else r.getD z) w∧eC (r.getD z)=true:=by{unfold Instr.lookup;rw[Sem.run_bind,e8 hu,Result.andThen_ok];rcases agq h hx hr with⟨hv,rfl⟩|⟨b,hv,es,clock,hb,rfl,hsc⟩;·{refine⟨?_, ?_⟩;·{rw[hv];exact hK #[] hf};·simp only[pH,Option.some.injEq]at hf;subst hf;exact hzs};·refine⟨?_, ?_⟩;·{rw[hv];simp only;rw[Sem.run_bind,Uh hb,Result.andThen_ok];exact hK es hf};·cases r with|none=>(exact hzs)|some v=>exact PO hsc hf};obtain⟨hrun,Rm⟩:=hrun;refine gB h hd hex hrun ?_ hn;cases ok with|false=>(exact .val Rm)|true=>exact .aY (.cons (f1:=[]) (f2:=[]) (.val Rm) (.cons (f1:=[]) (f2:=[]) (.val rfl) .nil))};·cases he
theorem SU(h:aP C E w S a β F){o:Oper}{t:TypeId}{x k v:Operand}(ho:o.op= .mapUpdate t x k v∨o.op= .insert t x k v){e:bz}
  (he:qp C S o t (un true (S.get C x)) (un true (S.get C k)) (un true (S.get C v))=some e)(hd:cH S e)(hn:∀a' w',bD C E (S.app e) a' w'→next a' w'):o.wp C.P a w next Q:=by
 have hx:=h.dY x
 have hk:=h.dY k
 have hv:=h.dY v
 generalize un true (S.get C x)=xv at*
 generalize un true (S.get C k)=kx at*
 generalize un true (S.get C v)=vx at*
 have hex:execOp a.eval o=(do Instr.mapUpdate t (a.eval x) (a.eval k) (a.eval v);pure Next.skip):=by rcases ho with ho|ho<;>simp[execOp,ho]
 unfold qp at he
 split at he
 ·rename_i kind z id kv n5 hm
  split at he
  ·rename_i rows hid
   split at he
   ·rename_i hc
    simp only[Hk,H2]at hc
    obtain⟨⟨gO,Rr⟩,bG⟩:=hc
    obtain⟨br,hp,rfl⟩:=Option.map_eq_some_iff.1 he
    obtain⟨kt,et,hu,hkt,hs,_,_⟩:=R6 hm
    obtain⟨_,hkv⟩:=hk.gE
    obtain⟨_,ae3⟩:=hv.gE
    obtain⟨_,b,bN,xz⟩:=hx.Dw
    have CN:=h.obj id rows hid
    obtain⟨hF,es,clock,hb,rfl,hsc⟩:F id=[b]∧nx w b rows:=by
     rcases CN with⟨h1,_⟩|⟨b2,h1,h2,hm⟩|⟨_,_,_,_,_,_,h1,_⟩
     ·rw[h1]at bN;cases bN
     ·rw[h1]at bN;cases bN;exact⟨h2,hm⟩
     ·rw[h1]at bN;cases bN
    have mU:=lt_of_heap hb
    have key:∃es':Array MapEntry,∃c':Nat,(Instr.mapUpdate t (a.eval x) (a.eval k) (a.eval v)).run C.P w= .ok () (jG w b (.map es' c'))∧br=es'.toList.map lC∧∀e∈es'.toList,eC e.key=true∧eC e.val=true:=by
     have pre:∀{r:Option (Nat×Value)},Instr.findNow kind kv es.toList 0=some r→(Instr.mapUpdate t (a.eval x) (a.eval k) (a.eval v)).run C.P w=(match r with
       |some (i,_)=>(do
        let key←Instr.keyThatStays (((es[i]?).map MapEntry.key).getD kv) kv
        setObj b (.map (es.modify i fun e=>{e with key,val:=n5}) clock):Sem Unit)
       |none=>setObj b (.map (es.push {key:=kv,val:=n5,born:=clock}) (clock+1))).run C.P w:=by
      intro r hr
      unfold Instr.mapUpdate
      rw[Sem.run_bind,e8 hu,Result.andThen_ok]
      simp only[xz,hkv,ae3]
      rw[Sem.run_bind,Uh hb,Result.andThen_ok]
      simp only
      rw[Sem.run_bind,run_checkKey hkt hs,Result.andThen_ok,Sem.run_bind]
      have CB:(Instr.findKey kt kv es.toList).run C.P w= .ok r w:=by
       unfold Instr.findKey
       rw[Sem.run_bind,e8 hkt,Result.andThen_ok,hr]
       rfl
      rw[CB,Result.andThen_ok]
      cases r with
      |none=>rfl
      |some y=>rfl
     rcases TI (kind:=kind) (kv:=kv) (n5:=n5) 0 hp with⟨j,v0,hj,h1,h2,rfl⟩|⟨h1,rfl⟩
     ·have hj':j<es.size:=by simpa using hj
      refine⟨es.modify j fun e=>{e with key:=kv,val:=n5},clock, ?_,by simp[H3],fun e he=> ?_⟩
      ·rw[pre h1]
       simp only[Nat.zero_add]
       have e1:((es[j]?).map MapEntry.key).getD kv=es.toList[j].key:=by simp[hj']
       rw[e1,Sem.run_bind]
       have e2:(Instr.keyThatStays es.toList[j].key kv).run C.P w= .ok kv w:=by
        unfold Instr.keyThatStays
        rw[AC (aj2 h2)];rfl
       rw[e2,Result.andThen_ok,Ul _ hb]
      ·rw[H3]at he
       obtain⟨i,hi,rfl⟩:=List.getElem_of_mem he
       rw[List.getElem_modify]
       split
       ·exact⟨gO,Rr⟩
       ·exact hsc _ (List.getElem_mem _)
     ·refine⟨es.push {key:=kv,val:=n5,born:=clock},clock+1, ?_,by simp[lC],fun e he=> ?_⟩
      ·rw[pre h1]
       simp only
       rw[Ul _ hb]
      ·simp only[Array.toList_push,List.mem_append,H4]at he
       rcases he with he|rfl
       ·exact hsc e he
       ·exact⟨gO,Rr⟩
    obtain⟨es',c',hrun,rfl,aeT⟩:=key
    have mj:∀k,(jG w b (.map es' c')).heap[k]? =if k=b then some (.map es' c')else w.heap[k]? :=A2 mU
    refine Nb (w':=jG w b (.map es' c')) (by rw[hex];exact Un hrun) (hn _ _ ⟨β,F, ?_⟩)
    have e1:S.app (put o .bB [id] [(id,some (es'.toList.map lC))])=⟨S.n,S.t,an S.h id (some (some (es'.toList.map lC)))⟩:=by simp[ah.app,put,bG,c8,bu]
    have e2:a.put o.dst undef=a:=by rw[bG];rfl
    rw[e1,e2]
    refine h.step (hok:=fun k r2 hk hr2=>by
     by_cases e:k=id
     ·subst e;exact⟨_,by assumption⟩
     ·exact⟨r2,by simpa[an,e]using hr2⟩) (·=id) h.n (by simp[jG]) rfl rfl (fun x=>ab7 hb x) (fun bb _ fm=> ?_) (fun _ _ h=>h) (fun i bb fm=> .inl ⟨i,fm⟩) (fun i hi=>⟨rfl,by simp[an,hi]⟩) (fun hI i hi ff hr2=> ?_) (fun i hi hno=> ?_) (fun i _=>h.nd i) (fun i j bb _ h1 h2=>h.dc i j bb h1 h2) (fun i hi=> ?_) (fun _ t=> .inl ⟨rfl,rfl⟩) (hdf:=rfl) (fL:= ?_)
    ·rw[mj,Do]
     intro e;subst e
     exact fm id rfl (by rw[hF];exact List.mem_singleton.2 rfl)
    ·subst hi
     simp only[an,if_true,GE]at hr2
     subst hr2
     exact .inr (.inl ⟨b,bN,hF,es',c',by rw[mj,AC rfl],rfl,aeT⟩)
    ·subst hi
     exact absurd (by simp[an]) (hno (es'.toList.map lC))
    ·refine h.dom i ?_
     by_cases Q0:i=id
     ·subst Q0;simp[an]at hi
     ·simpa[an,Q0]using hi
    ·intro bb n hB
     obtain⟨c2,e2,kC,hn2⟩:=hB
     refine⟨c2,e2, ?_,hn2⟩
     rw[mj,Do]
     ·exact kC
     ·intro e;subst e;rw[hb]at kC;cases kC
   ·cases he
  ·cases he
 ·cases he
end
end Go.Ab
namespace Go.Ab
open Go
theorem Je{g:Id→List Nat}:∀{l:List Id},(l.flatMap g).Nodup→∀{i j:Id}{b:Nat},i∈l→j∈l→b∈g i→b∈g j→i=j|[],_,i,_,_,h,_,_,_=>by{cases h}|x::l,hn,i,j,b,hi,hj,hb,hb'=>by simp only[H5]at hn;obtain⟨_,h2,h3⟩:=List.nodup_append.1 hn;rcases List.mem_cons.1 hi with Px|hi2<;>rcases List.mem_cons.1 hj with ej|hj2;·{rw[Px,ej]};·{exact absurd rfl (h3 b (Px▸hb) b (List.mem_flatMap.2 ⟨j,hj2,hb'⟩))};·{exact absurd rfl (h3 b (ej▸hb') b (List.mem_flatMap.2 ⟨i,hi2,hb⟩))};·exact Je h2 hi2 hj2 hb hb'
theorem PZ{g:Id→List Nat}{l:List Id}(hn:(l.flatMap g).Nodup){i:Id}(hi:i∈l):(g i).Nodup:=by induction l with|nil=>(cases hi)|cons x l ih=>simp only[H5]at hn;rcases List.mem_cons.1 hi with rfl|hi;·{exact(List.nodup_append.1 hn).1};·exact ih (List.nodup_append.1 hn).2.1 hi
theorem agJ{l:List (Id×Id)}(hn:(l.map (·.2)).Nodup){k:Id}(h:k∈l.map (·.2)):∃o,fY l k=some o:=by obtain⟨x,hx,rfl⟩:=List.mem_map.1 h;exact⟨x.1,oM hn hx⟩
theorem T5{l:List (Id×Id)}(hn:(l.map (·.2)).Nodup){rows br:Rows}(h:mG l rows=some br):kr (fY l) br rows:=by unfold mG at h;split at h;·{rename_i hf;simp only[GE]at h;subst h;exact .of_flat hf};·exact Mc hn h
section
variable{C:aL}{E:Env}{w:World}{S:ah}{a:Act}{β:Id→Option Loc}{F:Id→List Nat}
variable{next:Act→World→Prop}{Q:Exit→Act→World→Prop}
theorem SM(h:aP C E w S a β F){l:List (Id×Id)}(hn:(l.map (·.2)).Nodup)(gO:(l.map (·.1)).Nodup):∀{r:List (Id×Id)}{obs gone},iO S.h l r=some (obs,gone)→(∀x∈r,x∈l)→(r.map (·.1)).Nodup→∃hl,va obs=some hl∧hl.map (·.1)=r.map (·.2)∧∃(g:Id→List Nat)(rest:List Nat),(∀o k,(o,k)∈r→∀rows,(k,rows)∈hl→dU w (aD E w F) (fun i=>(fY l i).bind β) k rows (g o))∧((r.map (·.1)).flatMap g++rest).Perm ((r.map (·.1)).flatMap F++gone.flatMap F)|[],obs,gone,ho,_,_=>by{simp only[iO,GE,Ha]at ho;obtain⟨rfl,rfl⟩:=ho;exact⟨[],rfl,rfl,fun _=>[],[],(fun _ _ h=>by cases h),by simp⟩}|(o,k)::r,obs,gone,ho,hl,hr=>by simp only[iO]at ho;split at ho;·{rename_i rows hrows;simp only[GT,Hb,Ha]at ho;obtain⟨x,hx,br,aeO,⟨DC,gone'⟩,hy,rfl,rfl⟩:=ho;obtain⟨hl',e1,e2,g,rest,g1,g2⟩:=SM h hn gO hy (fun x hx=>hl x (Hc _ hx)) (List.nodup_cons.1 hr).2;have hkeep:∀i lo,tr l i=true→β i=some lo→β i=some lo:=fun _ _ _ h=>h;obtain⟨go,ro,k1,k2⟩:=(h.obj o rows hrows).closed h.obj hkeep hx (fun _ h=>h);have hm:fY l k=some o:=oM hn (hl (o,k) (Hd ..));have dG:=k1.mF hm (T5 hn aeO);have hno:o∉r.map (·.1):=(List.nodup_cons.1 hr).1;refine⟨(k,br)::hl',by simp[va,e1],by simp[e2],fun i=>if i=o then go else g i,ro++rest, ?_, ?_⟩;·{intro o2 k' hm2 ff Q7;rcases List.mem_cons.1 hm2 with p2|cv;·{simp only[Ha]at p2;obtain⟨rfl,rfl⟩:=p2;rcases List.mem_cons.1 Q7 with p3|cW;·{simp only[Ha,true_and]at p3;subst p3;simpa using dG};·exfalso;have:k'∈r.map (·.2):=by{rw[←e2];exact List.mem_map.2 ⟨_,cW,rfl⟩};obtain⟨⟨Su,KV⟩,h3,cm⟩:=List.mem_map.1 this;have h4:=oM hn (hl _ (List.mem_cons_of_mem _ h3));have wM:KV=k':=cm;rw[wM,hm]at h4;simp only[Option.some.injEq]at h4;exact hno (h4▸List.mem_map.2 ⟨_,h3,rfl⟩)};·have hne:o2≠o:=fun e=>hno (e▸List.mem_map.2 ⟨_,cv,rfl⟩);simp only[Do hne];rcases List.mem_cons.1 Q7 with p3|cW;·{exfalso;simp only[Ha]at p3;have h4:=oM hn (hl _ (Hc _ cv));rw[p3.1,hm]at h4;simp only[GE]at h4;exact hne h4.symm};·exact g1 o2 k' cv ff cW};·have e:(r.map (·.1)).flatMap (fun i=>if i=o then go else g i)=(r.map (·.1)).flatMap g:=by{rw[List.flatMap_def,List.flatMap_def];congr 1;refine List.map_congr_left fun i hi=> ?_;have:i≠o:=fun e=>hno (e▸hi);simp[this]};simp only[List.map_cons,List.flatMap_cons,if_true,e,List.flatMap_append];have:=r8 k2 g2;rw[List.perm_iff_count]at this⊢;intro z;have:=this z;simp only[List.count_append]at this⊢;omega};·cases ho
theorem acD(h:aP C E w S a β F){l:List (Id×Id)}{obs:List U}{gone:List Id}{args:List U}{vs:List Value}(ha:av w (aD E w F) β [] vs args)(ho:iO S.h l l=some (obs,gone))(mZ:(l.map (·.1)).Nodup)(nc:(l.map (·.2)).Nodup)(GO:gone.Nodup)(dg:∀i∈gone,i∉l.map (·.1)):∃hl G,va obs=some hl∧hl.map (·.1)=l.map (·.2)∧EK C w (aD E w F) (fun i=>(fY l i).bind β) G hl vs (args.map (fo l))∧(∀k b,b∈G k→∃i,(i∈l.map (·.1)∨i∈gone)∧b∈F i):=by obtain⟨hl,e1,e2,g,rest,g1,g2⟩:=SM h nc mZ ho (fun _ h=>h) mZ;have hall:((l.map (·.1))++gone).Nodup:=List.nodup_append.2 ⟨mZ,GO,fun x hx y hy e=>dg y hy (e▸hx)⟩;have hnd:((l.map (·.1)).flatMap g).Nodup:=by{have h1:=h.Jf hall;rw[List.flatMap_append]at h1;exact(List.nodup_append.1 (g2.nodup_iff.2 h1)).1};have hmem:∀i b,i∈l.map (·.1)→b∈g i→∃j,(j∈l.map (·.1)∨j∈gone)∧b∈F j:=fun i b hi hb=>by{have h1:b∈(l.map (·.1)).flatMap F++gone.flatMap F:=g2.mem_iff.1 (Hn _ (List.mem_flatMap.2 ⟨i,hi,hb⟩));rcases List.mem_append.1 h1 with h1|h1;·{obtain⟨j,hj,hb⟩:=List.mem_flatMap.1 h1;exact⟨j, .inl hj,hb⟩};·obtain⟨j,hj,hb⟩:=List.mem_flatMap.1 h1;exact⟨j, .inr hj,hb⟩};let G:Id→List Nat:=fun k=>match fY l k with|some o=>g o|none=>[];have dN:∀k b,b∈G k→∃o,fY l k=some o∧o∈l.map (·.1)∧b∈g o:=fun k b hb=>by{simp only[G]at hb;cases ho:fY l k with|none=>(rw[ho]at hb;cases hb)|some o=>rw[ho]at hb;exact⟨o,rfl,List.mem_map.2 ⟨_,pX ho,rfl⟩,hb⟩};have ac9:∀b,aD E w F b→∀k,b∉G k:=fun b hb k hk=>by{obtain⟨o,_,h2,h3⟩:=dN k b hk;obtain⟨j,_,h4⟩:=hmem o b h2 h3;exact hb.2.2 j h4};refine⟨hl,G,e1,e2,{args:= ?_,obj:= ?_,out:= ?_,nd:= ?_,dc:= ?_,lt:= ?_,i0:=fun b hb=>⟨hb.2.1,ac9 b hb⟩,cD:=fun g cs hg=>(h.cD g cs hg).pS rfl fun _ h=>h}, ?_⟩;·{have go:∀{as:List U}{vs:List Value},av w (aD E w F) β [] vs as→av w (aD E w F) (fun i=>(fY l i).bind β) [] vs (as.map (fo l)):=fun{as}=>by{induction as with|nil=>(intro vs h;obtain⟨_,rfl⟩:=h.gj;exact .nil)|cons x as ih=>intro vs h;obtain⟨f1,f2,v,vs',e,rfl,h1,h2⟩:=h.cons_inv;have e':=List.append_eq_nil_iff.1 e.symm;obtain⟨rfl,rfl⟩:=e';exact R.cons (f1:=[]) (f2:=[]) (h1.mF (Ma nc x) rfl) (ih h2)};exact go ha};·{intro k rows hk;obtain⟨o,ho⟩:=agJ nc (show k∈l.map (·.2)by rw[←e2];exact List.mem_map.2 ⟨_,hk,rfl⟩);have:=g1 o k (pX ho) rows hk;simpa only[G,ho]using this};·{intro k hk;rw[e2]at hk;have:fY l k=none:=by{cases hx:fY l k with|none=>(rfl)|some o=>exact absurd (List.mem_map.2 ⟨_,pX hx,rfl⟩) hk};simp[G,this]};·{intro k;simp only[G];cases ho:fY l k with|none=>(exact H0)|some o=>exact PZ hnd (List.mem_map.2 ⟨_,pX ho,rfl⟩)};·{intro i j b hi hj;obtain⟨o,cm,h3,h4⟩:=dN i b hi;obtain⟨o',gy,h5,h6⟩:=dN j b hj;have:=Je hnd h3 h5 h4 h6;subst this;exact Jj mZ (pX cm) (pX gy)};·{intro k b hb;obtain⟨o,_,h2,h3⟩:=dN k b hb;obtain⟨j,_,h4⟩:=hmem o b h2 h3;exact(h.lt j b h4).1};·intro k b hb;obtain⟨o,_,h2,h3⟩:=dN k b hb;obtain⟨j,h4,h5⟩:=hmem o b h2 h3;exact⟨j,h4,h5⟩
theorem R.ajy{I:Nat→Prop}{m:Id→Option Id}{f:List Nat}{v:Value}{a b:U}(h:R w I β f v b)(hr:sA m a b):∃f2,(f2=f∨f2=[])∧R w I (fun i=>(m i).bind β) f2 v a:=by cases hr with|cell hc=>(exact⟨f, .inl rfl,h.Mb hc⟩)|agg hl=>(obtain⟨vs,rfl,h⟩:=h.o8;exact⟨f, .inl rfl,av.mF hl h⟩)|aY hl=>(obtain⟨vs,rfl,hu⟩:=h.Bh;exact⟨f, .inl rfl, .aY (av.mF hl hu)⟩)|fn h1 h2=>(obtain⟨rfl,vs,cs,rfl,k1,k2⟩:=h.pI;exact⟨[], .inl rfl, .fn (av.mF h1 k1) (av.mF h2 k2)⟩)|bB=>exact⟨[], .inr rfl, .bB⟩
theorem wo{l':List (Id×Id)}:∀{r:List (Id×Id)}{outs:List U}{back:List (Id×Option Rows)},iX l' r outs=some back→back.map (·.1)=r.map (·.1)∧∀x∈back,∀br,x.2=some br→∃k rows,(x.1,k)∈r∧U.bt k rows∈outs∧mG l' rows=some br|[],[],back,h=>by{simp only[iX,GE]at h;subst h;exact⟨rfl,fun x hx=>by cases hx⟩}|[],a::outs,back,h=>by{simp[iX]at h}|(o,k)::r,[],back,h=>by{simp[iX]at h}|(o,k)::r,a::outs,back,h=>by cases a with|bt k' rows=>(simp only[iX]at h;split at h;·{rename_i e;subst e;simp only[GT,Hb]at h;obtain⟨br,h1,y,h2,rfl⟩:=h;obtain⟨i1,i2⟩:=wo h2;refine⟨by simp[i1],fun x hx ff e=> ?_⟩;rcases List.mem_cons.1 hx with rfl|hx;·{simp only[GE]at e;subst e;exact⟨_,rows,Hd ..,Hd ..,h1⟩};·obtain⟨k2,r2,m1,m2,m3⟩:=i2 x hx ff e;exact⟨k2,r2,Hc _ m1,Hc _ m2,m3⟩};·cases h)|bB=>(simp only[iX,Hb]at h;obtain⟨y,h2,rfl⟩:=h;obtain⟨i1,i2⟩:=wo h2;refine⟨by simp[i1],fun x hx ff e=> ?_⟩;rcases List.mem_cons.1 hx with rfl|hx;·{cases e};·obtain⟨k2,r2,m1,m2,m3⟩:=i2 x hx ff e;exact⟨k2,r2,Hc _ m1,Hc _ m2,m3⟩)|_=>simp[iX]at h
theorem SJ{L:Id→Option (Option Rows)}{l:List (Id×Id)}:∀{r:List (Id×Id)}{x},iO L l r=some x→∀i∈r.map (·.1),∃rows,L i=some (some rows)|[],_,_,i,hi=>by{cases hi}|(o,k)::r,x,h,i,hi=>by simp only[iO]at h;split at h;·{rename_i rows hrows;simp only[GT,Hb]at h;obtain⟨_,_,_,_,y,hy,_⟩:=h;rcases List.mem_cons.1 hi with rfl|hi;·{exact⟨rows,hrows⟩};·exact SJ hy i hi};·cases h
theorem ajx{l:List (Id×Id)}{i:Id}(h:i∈l.map (·.1)):∃k,ga l i=some k:=by induction l with|nil=>(cases h)|cons x l ih=>obtain⟨o,k⟩:=x;simp only[ga];split;·{exact⟨k,rfl⟩};·rename_i hne;rcases List.mem_cons.1 h with e|h;·{exact absurd e.symm hne};·exact ih h
open Classical in theorem aP.acI(h:aP C E w S a β F){l:List (Id×Id)}{gone:List Id}{back news:List (Id×Option Rows)}{G G' q9:Id→List Nat}{fr:List Nat}{I':Nat→Prop}{w':World}{β':Id→Option Loc}{a':Act}{t':Nat→U}(mZ:(l.map (·.1)).Nodup)(nc:(l.map (·.2)).Nodup)(dg:∀i∈gone,i∉l.map (·.1))(live:∀i∈l.map (·.1),∃rows,S.h i=some (some rows))(acz:∀i∈gone,∃rows,S.h i=some (some rows))(qx:∀k b,b∈G k→∃i,(i∈l.map (·.1)∨i∈gone)∧b∈F i)(hk:Kept w w' fun b=>∃k,b∈G k)(ni:∀k,(G' k).Nodup)(ya:∀i j b,b∈G' i→b∈G' j→i=j)(TO:∀k b,b∈G' k→b∉fr)(Hp:∀b,(b∈fr∨∃k,b∈G' k)→b<w'.heap.size∧((∃k,b∈G k)∨w.heap.size≤b))(ajk:∀b,I' b→(aD E w F b∨(∃k,b∈G k)∨w.heap.size≤b)∧b<w'.heap.size∧b∉fr∧∀k,b∉G' k)(QN:back.map (·.1)=l.map (·.1))(kA:∀x∈back,∀br,x.2=some br→∃k,(x.1,k)∈l∧dU w' I' β x.1 br (G' k))(i1:∀i lo,β i=some lo→β' i=some lo)(i2:∀i,(∀x∈news,x.1≠i)→β' i=β i∧q9 i=[])(i3:∀x∈news,∃rows,x.2=some rows∧dU w' I' β' x.1 rows (q9 x.1))(i4:∀i,(q9 i).Nodup∧∀b∈q9 i,b∈fr)(i5:∀i j b,b∈q9 i→b∈q9 j→i=j)(mV:∀x∈news,S.h x.1=none)(xl:∀x∈news,¬E.K x.1)(hn:a'.tmps.size=S.n)(hdf:a'.defers=a.defers)(CU:∀F',(∀b,aD E w F b→aD E w' F' b)→(∀b,I' b→aD E w' F' b)→∀t,(a'.tmps.getD t undef=a.tmps.getD t undef∧t' t=S.t t)∨R w' (aD E w' F') β' [] (a'.tmps.getD t undef) (t' t)):bD C E ⟨S.n,t',bu S.h (news++(back++gone.map fun i=>(i,none)))⟩ a' w':=by let hp:=bu S.h (news++(back++gone.map fun i=>(i,none)));let dL:Id→List Nat:=fun i=>if(∃rows,hp i=some (some rows))then(if i∈l.map (·.1)then(match ga l i with|some k=>G' k|none=>[])else F i++q9 i)else[];have Gm:∀x∈news,x.1∉l.map (·.1):=fun x hx hm=>by{obtain⟨rows,e⟩:=live _ hm;rw[mV x hx]at e;cases e};have Q9:∀x∈news,x.1∉gone:=fun x hx hm=>by{obtain⟨rows,e⟩:=acz _ hm;rw[mV x hx]at e;cases e};have mU:∀x∈back,x.1∈l.map (·.1):=fun x hx=>by{rw[←QN];exact List.mem_map.2 ⟨x,hx,rfl⟩};have rU:∀i,(∃x∈news,x.1=i∧hp i=some x.2)∨((∀x∈news,x.1≠i)∧∃x∈back,x.1=i∧hp i=some x.2)∨((∀x∈news,x.1≠i)∧i∉l.map (·.1)∧i∈gone∧hp i=some none)∨((∀x∈news,x.1≠i)∧i∉l.map (·.1)∧i∉gone∧hp i=S.h i):=fun i=>by{rcases gm S.h (news++(back++gone.map fun i=>(i,none))) i with⟨x,hx,e1,e2⟩|⟨h1,h2⟩;·{by_cases s7:∃y∈news,y.1=i;·{obtain⟨y,hy,FF⟩:=s7;rcases List.mem_append.1 hx with hx|hx;·{exact .inl ⟨x,hx,e1,e2⟩};·exfalso;rcases List.mem_append.1 hx with hx|hx;·{exact Gm y hy (by rw[FF,←e1];exact mU x hx)};·obtain⟨j,hj,rfl⟩:=List.mem_map.1 hx;exact Q9 y hy (by rw[FF,←e1];exact hj)};·have Kj:∀x∈news,x.1≠i:=fun y hy e=>s7 ⟨y,hy,e⟩;rcases List.mem_append.1 hx with hx|hx;·{exact absurd e1 (Kj x hx)};·rcases List.mem_append.1 hx with hx|hx;·{exact .inr (.inl ⟨Kj,x,hx,e1,e2⟩)};·obtain⟨j,hj,rfl⟩:=List.mem_map.1 hx;have aa2:j=i:=e1;subst aa2;exact .inr (.inr (.inl ⟨Kj,dg j hj,hj,e2⟩))};·refine .inr (.inr (.inr ⟨fun x hx=>h1 x (Hn _ hx),fun hm=> ?_,fun hm=> ?_,h2⟩));·{rw[←QN]at hm;obtain⟨x,hx,e⟩:=List.mem_map.1 hm;exact h1 x (H1 _ (Hn _ hx)) e};·exact h1 (i,none) (H1 _ (H1 _ (List.mem_map.2 ⟨i,hm,rfl⟩))) rfl};have EH:∀i b,b∈dL i→(∃k,b∈G' k∧ga l i=some k∧i∈l.map (·.1))∨(i∉l.map (·.1)∧i∉gone∧b∈F i)∨(i∉l.map (·.1)∧(∃x∈news,x.1=i)∧b∈q9 i):=fun i b hb=>by{simp only[dL]at hb;split at hb;·{rename_i hal;split at hb;·{rename_i pP;cases hr:ga l i with|none=>(rw[hr]at hb;cases hb)|some k=>rw[hr]at hb;exact .inl ⟨k,hb,rfl,pP⟩};·rename_i pP;rcases List.mem_append.1 hb with hb|hb;·{refine .inr (.inl ⟨pP,fun hg=> ?_,hb⟩);obtain⟨rows,hal⟩:=hal;rcases rU i with⟨x,hx,e,_⟩|⟨_,x,hx,e,_⟩|⟨_,_,_,e⟩|⟨_,_,e,_⟩;·{exact Q9 x hx (e▸hg)};·{exact pP (e▸mU x hx)};·{rw[e]at hal;cases hal};·exact e hg};·refine .inr (.inr ⟨pP, ?_,hb⟩);by_cases s7:∃x∈news,x.1=i;·{exact s7};·rw[(i2 i fun x hx e=>s7 ⟨x,hx,e⟩).2]at hb;cases hb};·cases hb};have Cs:∀b,I' b→aD E w' dL b:=fun b hb=>by{obtain⟨k1,k2,dG,iK⟩:=ajk b hb;refine⟨?_,k2,fun i hm=> ?_⟩;·{rcases k1 with k1|⟨k,k1⟩|k1;·{exact k1.1};·{obtain⟨i,_,hi⟩:=qx k b k1;exact(h.lt i b hi).2.elim (fun h=> .inr (.inl h)) (fun h=> .inr (.inr h))};·exact .inr (.inr (Nat.le_trans h.kept.size k1))};·rcases EH i b hm with⟨k,hg,_⟩|⟨n1,n2,hf⟩|⟨_,_,hg⟩;·{exact iK k hg};·{rcases k1 with k1|⟨k,k1⟩|k1;·{exact k1.2.2 i hf};·{obtain⟨j,hj,hf'⟩:=qx k b k1;have:=h.dc i j b hf hf';subst this;exact hj.elim n1 n2};·have:=(h.lt i b hf).1;omega};·exact dG ((i4 i).2 b hg)};refine⟨β',dL, ?_⟩;have aeC:∀i,¬(i∈l.map (·.1)∨i∈gone∨∃x∈news,x.1=i)→dL i=F i∧hp i=S.h i:=fun i hi=>by{have n1:i∉l.map (·.1):=fun e=>hi (.inl e);have n2:i∉gone:=fun e=>hi (.inr (.inl e));have oL:∀x∈news,x.1≠i:=fun x hx e=>hi (.inr (.inr ⟨x,hx,e⟩));have e:hp i=S.h i:=by{rcases rU i with⟨x,hx,e,_⟩|⟨_,x,hx,e,_⟩|⟨_,_,e,_⟩|⟨_,_,_,e⟩;·{exact absurd e (oL x hx)};·{exact absurd (e▸mU x hx) n1};·{exact absurd e n2};·exact e};refine⟨?_,e⟩;simp only[dL];split;·{rw[(i2 i oL).2,List.append_nil]};·rename_i hal;exact(h.dead i fun rows e'=>hal ⟨rows,by rw[e];exact e'⟩).symm};refine h.A7 (fun i=>i∈l.map (·.1)∨i∈gone∨∃x∈news,x.1=i) hn hk.size hk.os hk.out hk.eF ?_ i1 ?_ aeC ?_ ?_ ?_ ?_ ?_ ?_ (hdf:=hdf) (fL:=hk.nk) (hok:=j8.of rfl fun x hx hne=> ?_);·{intro b hb hno;refine hk.blk b hb fun⟨k,hm⟩=> ?_;obtain⟨i,hi,hf⟩:=qx k b hm;exact hno i (hi.elim .inl fun h=> .inr (.inl h)) hf};·{intro i b hb;have UX:∀{b:Nat},b<w'.heap.size∧((∃k,b∈G k)∨w.heap.size≤b)→(∃i,b∈F i)∨(w.heap.size≤b∧b<w'.heap.size):=fun⟨h1,h2⟩=>by{rcases h2 with⟨k,h2⟩|h2;·{obtain⟨i,_,hi⟩:=qx k _ h2;exact .inl ⟨i,hi⟩};·exact .inr ⟨h2,h1⟩};rcases EH i b hb with⟨k,hg,_⟩|⟨_,_,hf⟩|⟨_,_,hg⟩;·{exact UX (Hp b (.inr ⟨k,hg⟩))};·{exact .inl ⟨i,hf⟩};·exact UX (Hp b (.inl ((i4 i).2 b hg)))};·{intro hI i _ rows hr;have hr':hp i=some (some rows):=hr;have hal:∃rows,hp i=some (some rows):=⟨rows,hr'⟩;rcases rU i with⟨x,hx,e,e2⟩|⟨s7,x,hx,e,e2⟩|⟨_,_,_,e⟩|⟨oL,n1,n2,e⟩;·{subst e;obtain⟨ff,cm,h3⟩:=i3 x hx;rw[e2,cm]at hr';simp only[GE]at hr';subst hr';have:dL x.1=q9 x.1:=by{simp only[dL];rw[AC hal,Do (Gm x hx),h.dead x.1 (by rw[mV x hx];simp),List.nil_append]};rw[this];exact h3.mono Cs (fun _ _=>rfl) (fun _ _ h=>h)};·{subst e;rw[e2]at hr';simp only[GE]at hr';obtain⟨k,ja,CN⟩:=kA x hx rows hr';have:dL x.1=G' k:=by{simp only[dL];rw[AC hal,AC (mU x hx)];obtain⟨k',hk'⟩:=ajx (mU x hx);rw[hk',Jj mZ ja (AV hk')]};rw[this];exact CN.mono Cs (fun _ _=>rfl) i1};·{rw[e]at hr';cases hr'};·exfalso;rename_i jz;rcases jz with jz|jz|⟨x,hx,jz⟩;·{exact n1 jz};·{exact n2 jz};·exact oL x hx jz};·{intro i _ hno;simp only[dL];rw[Do];rintro⟨rows,e⟩;exact hno rows e};·{intro i _;simp only[dL];split;·{split;·{cases ga l i with|none=>(exact H0)|some k=>exact ni k};·by_cases s7:∃x∈news,x.1=i;·{obtain⟨x,hx,rfl⟩:=s7;rw[h.dead x.1 (by rw[mV x hx];simp),List.nil_append];exact(i4 _).1};·rw[(i2 i fun x hx e=>s7 ⟨x,hx,e⟩).2,List.append_nil];exact h.nd i};·exact H0};·{intro i j b _ hi hj;have QK:∀{i j k:Id}{b:Nat},b∈G' k→j∉l.map (·.1)→j∉gone→b∈F j→False:=fun{i j k b}hg n1 n2 hf=>by{rcases(Hp b (.inr ⟨k,hg⟩)).2 with⟨k2,hk2⟩|hge;·{obtain⟨q,hq,J1⟩:=qx k2 b hk2;have:=h.dc j q b hf J1;subst this;exact hq.elim n1 n2};·have:=(h.lt j b hf).1;omega};have QX:∀{j:Id}{b:Nat},b∈fr→j∉l.map (·.1)→j∉gone→b∈F j→False:=fun{j b}hg n1 n2 hf=>by{rcases(Hp b (.inl hg)).2 with⟨k2,hk2⟩|hge;·{obtain⟨q,hq,J1⟩:=qx k2 b hk2;have:=h.dc j q b hf J1;subst this;exact hq.elim n1 n2};·have:=(h.lt j b hf).1;omega};rcases EH i b hi with⟨k,hg,Kp,_⟩|⟨n1,n2,hf⟩|⟨_,_,hg⟩<;>rcases EH j b hj with⟨k',hg',aeP,_⟩|⟨Sg,Sh,hf'⟩|⟨_,_,hg'⟩;·{have:=ya k k' b hg hg';subst this;have e1:=oM nc (AV Kp);have e2:=oM nc (AV aeP);rw[e1]at e2;exact Option.some.inj e2};·{exact(QK (i:=i) hg Sg Sh hf').elim};·{exact absurd ((i4 j).2 b hg') (TO k b hg)};·{exact(QK (i:=j) hg' n1 n2 hf).elim};·{exact h.dc i j b hf hf'};·{exact(QX ((i4 j).2 b hg') n1 n2 hf).elim};·{exact absurd ((i4 i).2 b hg) (TO k' b hg')};·{exact(QX ((i4 i).2 b hg) Sg Sh hf').elim};·exact i5 i j b hg hg'};·{intro i hi;have hi':hp i=none:=hi;rcases rU i with⟨x,hx,_,e⟩|⟨_,x,hx,_,e⟩|⟨_,_,_,e⟩|⟨oL,_,_,e⟩;·{rw[e]at hi';cases hi'};·{rw[e]at hi';cases hi'};·{rw[e]at hi';cases hi'};·rw[(i2 i oL).1];exact h.dom i (by rw[←e];exact hi')};·{intro hI;exact CU dL hI Cs};·rcases List.mem_append.1 hx with hx|hx;·{exact .inl (xl x hx)};·rcases List.mem_append.1 hx with hx|hx;·{exact .inr (live _ (mU x hx))};·obtain⟨i,_,rfl⟩:=List.mem_map.1 hx;exact absurd rfl hne
theorem By.val{w':World}{I':Nat→Prop}{fr:List Nat}{e:Ending}{r:U}(h:By w' I' β fr e r)(hr:Am r=false):∃v,e= .returned v∧R w' I' β fr v r:=by cases r<;>first|exact h|cases hr
theorem ZW{L:Id→Option (Option Rows)}:∀(n:Nat){a:U}{x},pk L n a=some x→∀i∈x.2,∃rows,L i=some (some rows):=by
 intro n
 induction n with
 |zero=>intro a x h;simp[pk]at h
 |succ n ih=>
  have Jh:∀{cs:List U}{x},dQ (pk L n) cs=some x→∀i∈x.2,∃rows,L i=some (some rows):=fun{cs}=>by
   induction cs with
   |nil=>intro x h i hi;simp[dQ]at h;subst h;cases hi
   |cons c cs xC=>
    intro x h i hi
    simp only[dQ,GT,Hb]at h
    obtain⟨y,hy,z,hz,rfl⟩:=h
    rcases List.mem_append.1 hi with hi|hi
    ·exact ih hy i hi
    ·exact xC hz i hi
  have L1:∀{cs:List U}{x},fI (pk L n) cs=some x→∀i∈x.2,∃rows,L i=some (some rows):=fun h i hi=>by
   unfold fI at h
   split at h
   ·simp only[GE]at h;subst h;cases hi
   ·exact Jh h i hi
  have foldr:∀{cs:Rows}{x},dr (fI (pk L n)) cs=some x→∀i∈x.2,∃rows,L i=some (some rows):=fun{cs}=>by
   induction cs with
   |nil=>intro x h i hi;simp[dr]at h;subst h;cases hi
   |cons c cs xC=>
    intro x h i hi
    simp only[dr,GT,Hb]at h
    obtain⟨y,hy,z,hz,rfl⟩:=h
    rcases List.mem_append.1 hi with hi|hi
    ·exact L1 hy i hi
    ·exact xC hz i hi
  have aiS:∀{cs:Rows}{x},jj (pk L n) cs=some x→∀i∈x.2,∃rows,L i=some (some rows):=fun h i hi=>by
   unfold jj at h
   split at h
   ·simp only[GE]at h;subst h;cases hi
   ·exact foldr h i hi
  intro a x h i hi
  unfold pk at h
  repeat'(first
   |(simp only[reduceCtorEq]at h;done)
   |(simp only[GE]at h;subst h;first|(simp only[H4]at hi;subst hi;exact⟨_,by assumption⟩)|(cases hi;done))
   |(simp only[Hb]at h;obtain⟨y,hy,rfl⟩:=h;first|exact L1 hy i hi|(rcases List.mem_cons.1 hi with rfl|hi;exact⟨_,by assumption⟩;first|exact aiS hy i hi|exact L1 hy i hi))
   |split at h)
theorem SL{L:Id→Option (Option Rows)}{l:List (Id×Id)}:∀{r:List (Id×Id)}{x},iO L l r=some x→∀i∈x.2,∃rows,L i=some (some rows)
 |[],x,h,i,hi=>by simp only[iO,GE]at h;subst h;cases hi
 |(o,k)::r,x,h,i,hi=>by
  simp only[iO]at h
  split at h
  ·simp only[GT,Hb]at h
   obtain⟨y,hy,br,_,z,hz,rfl⟩:=h
   have Z5:∀{a:U}{x},gU L (tr l) a=some x→∀i∈x.2,∃rows,L i=some (some rows):=fun h i hi=>by
    unfold gU at h
    repeat'(first
     |(simp only[reduceCtorEq]at h;done)
     |(simp only[GE]at h;subst h;cases hi)
     |exact ZW _ h i hi
     |split at h)
   have Jh:∀{cs:List U}{x},dQ (gU L (tr l)) cs=some x→∀i∈x.2,∃rows,L i=some (some rows):=fun{cs}=>by
    induction cs with
    |nil=>intro x h i hi;simp[dQ]at h;subst h;cases hi
    |cons c cs xC=>
     intro x h i hi
     simp only[dQ,GT,Hb]at h
     obtain⟨y,hy,z,hz,rfl⟩:=h
     rcases List.mem_append.1 hi with hi|hi
     ·exact Z5 hy i hi
     ·exact xC hz i hi
   have aaj:∀{cs:List U}{x},lA L (tr l) cs=some x→∀i∈x.2,∃rows,L i=some (some rows):=fun h i hi=>by
    unfold lA at h
    split at h
    ·simp only[GE]at h;subst h;cases hi
    ·exact Jh h i hi
   have foldr:∀{cs:Rows}{x},dr (lA L (tr l)) cs=some x→∀i∈x.2,∃rows,L i=some (some rows):=fun{cs}=>by
    induction cs with
    |nil=>intro x h i hi;simp[dr]at h;subst h;cases hi
    |cons c cs xC=>
     intro x h i hi
     simp only[dr,GT,Hb]at h
     obtain⟨y,hy,z,hz,rfl⟩:=h
     rcases List.mem_append.1 hi with hi|hi
     ·exact aaj hy i hi
     ·exact xC hz i hi
   rcases List.mem_append.1 hi with hi|hi
   ·unfold nE at hy
    split at hy
    ·simp only[GE]at hy;subst hy;cases hi
    ·exact foldr hy i hi
   ·exact SL hz i hi
  ·cases h
theorem FX{call:FuncId→List U→Option (U×List U)}{L:Id→Option (Option Rows)}{k:FuncId}{args:List U}{x:yS}(h:rM call L k args=some x):∃obs outs,iO L x.l x.l=some (obs,x.gone)∧call k (.aY obs::args.map (fo x.l))=some (x.r,outs)∧iX (x.l.map fun x=>(x.2,x.1)) x.l outs=some x.back∧(x.l.map (·.1)).Nodup∧(x.l.map (·.2)).Nodup∧(∀y∈x.l,jU y.2=true)∧x.gone.Nodup∧(∀i∈x.gone,i∉x.l.map (·.1)):=by unfold rM Cl at h;split at h;·{rename_i obs gone ho;split at h;·{rename_i hc;simp only[Hk,List.all_eq_true]at hc;obtain⟨⟨⟨⟨c1,c2⟩,c3⟩,oe⟩,rA⟩:=hc;split at h;·{rename_i r outs ck;obtain⟨back,hb,rfl⟩:=Option.map_eq_some_iff.1 h;refine⟨obs,outs,ho,ck,hb,Az c1,Az c2,c3,Az oe,fun i hi hm=> ?_⟩;have:=List.all_eq_true.1 rA i hi;simp only[Bool.not_eq_true',List.contains_eq_mem,decide_eq_false_iff_not]at this;exact this hm};·cases h};·cases h};·cases h
theorem UF{l:List (Id×Id)}:(l.map fun x=>(x.2,x.1)).map (·.2)=l.map (·.1):=by simp[Function.comp_def]
def HT(E:Env)(w:World)(β:Id→Option Loc)(F:Id→List Nat)(x:yS)(e:Ending)(w':World):Prop:=∃(G G':Id→List Nat)(fr:List Nat)(I':Nat→Prop),(∀k b,b∈G k→∃i,(i∈x.l.map (·.1)∨i∈x.gone)∧b∈F i)∧(Kept w w' fun b=>∃k,b∈G k)∧By w' I' (fun i=>(fY x.l i).bind β) fr e x.r∧(∀k,(G' k).Nodup)∧(∀i j b,b∈G' i→b∈G' j→i=j)∧fr.Nodup∧(∀k b,b∈G' k→b∉fr)∧(∀b,(b∈fr∨∃k,b∈G' k)→b<w'.heap.size∧((∃k,b∈G k)∨w.heap.size≤b))∧(∀b,I' b→(aD E w F b∨(∃k,b∈G k)∨w.heap.size≤b)∧b<w'.heap.size∧b∉fr∧∀k,b∉G' k)∧(∀y∈x.back,∀br,y.2=some br→∃k,(y.1,k)∈x.l∧dU w' I' β y.1 br (G' k))
theorem ahQ(h:aP C E w S a β F){k:FuncId}{call:FuncId→List U→Option (U×List U)}(ek:∀k as r,call k as=some r→Sound C k as r)(J3:C.gW k=true){args:List U}{vs:List Value}(ha:av w (aD E w F) β [] vs args){x:yS}(hx:rM call S.h k args=some x):Nh C.P k ⟨vs⟩ w (HT E w β F x):=by obtain⟨obs,outs,ho,ck,hb,mZ,nc,hK,GO,dg⟩:=FX hx;obtain⟨hl,G,e1,e2,hpre,qx⟩:=acD h ha ho mZ nc GO dg;have hs:=(ek _ _ _ ck).2 J3 _ _ hl rfl e1 (by rw[e2];exact nc) (fun y hy=>by have:y.1∈x.l.map (·.2):=by{rw[←e2];exact List.mem_map.2 ⟨y,hy,rfl⟩};obtain⟨z,hz,e⟩:=List.mem_map.1 this;rw[←e];exact hK z hz) w _ _ G vs hpre;have Et:∀e w',Ib w (aD E w F) (fun i=>(fY x.l i).bind β) G (x.r,outs) e w'→HT E w β F x e w':=fun e w' hr=>by{obtain⟨I',G',fr,q1,cv,_,hG,iQ,DZ,Hl,Ho,x9⟩:=hr.ex;refine⟨G,G',fr,I',qx,hr.kept,q1,hG,iQ,DZ,Hl,Ho,x9,fun y hy br e=> ?_⟩;obtain⟨k',rows,m1,m2,m3⟩:=(wo hb).2 y hy br e;have GN:((x.l.map fun x=>(x.2,x.1)).map (·.2)).Nodup:=by{rw[UF];exact mZ};have hm:fY (x.l.map fun x=>(x.2,x.1)) y.1=some k':=oM GN (List.mem_map.2 ⟨_,m1,rfl⟩);have:=(cv k' rows m2).mF hm (T5 GN m3);refine⟨k',m1,this.mono (fun _ h=>h) (fun _ _=>rfl) fun i lo hlo=> ?_⟩;simp only[Option.bind_eq_some_iff]at hlo;obtain⟨j,hj,i',hi',hlo⟩:=hlo;obtain⟨z,hz,e⟩:=List.mem_map.1 (pX hj);simp only[Prod.mk.injEq]at e;have:=oM nc hz;rw[e.1,hi']at this;simp only[Option.some.injEq]at this;rw[this,e.2]at hlo;exact hlo};rcases hs with⟨fn,c,k1,k2,dG⟩|⟨v,w',k1,k2⟩;·{exact .inl ⟨fn,c,k1,k2,dG.mono Et⟩};·exact .inr ⟨v,w',k1,Et _ _ k2⟩
theorem ako{l:List (Id×Id)}(mZ:(l.map (·.1)).Nodup)(nc:(l.map (·.2)).Nodup){i:Id}{lo:Loc}(h:((fY (l.map fun x=>(x.2,x.1)) i).bind fun i=>(fY l i).bind β)=some lo):β i=some lo:=by simp only[GT]at h;obtain⟨j,hj,i',hi',hlo⟩:=h;obtain⟨z,hz,e⟩:=List.mem_map.1 (pX hj);simp only[Ha]at e;have:=oM nc hz;rw[e.1,hi']at this;simp only[GE]at this;rw[this,e.2]at hlo;exact hlo
theorem abm{P:Program}{o:Oper}{c:Call}{cN:Operand}(ho:o.op= .call c)(hc:c.callee= .value cN){k:FuncId}{hY iE:List Value}(lN:a.eval cN= .func (.func k) ⟨hY⟩ ⟨iE⟩):(execOp a.eval o).run P w=(callFunc k ⟨hY++c.args.toList.map a.eval++iE⟩).run P w:=by have e2:((⟨hY⟩:Array Value)++c.args.map a.eval++⟨iE⟩:Array Value)=⟨hY++c.args.toList.map a.eval++iE⟩:=by{apply Array.ext';simp};have cm:resolve a.eval c o.type=(pure {target:= .fn (.func k) ⟨iE⟩,args:=⟨hY⟩++c.args.map a.eval}:Sem Deferred):=by{simp[resolve,hc,lN,Deferred.ofValue]};have gy:execOp a.eval o=(do let d←resolve a.eval c o.type;invoke d.target d.args:Sem Next):=by{simp[execOp,ho]};rw[gy,cm,Sem.run_bind,Sem.run_pure,Result.andThen_ok];simp only[invoke,e2]
theorem acH{x:U}{y:FuncId×List U×List U}(h:nK C x=some y):x= .fn (.func y.1) y.2.1 y.2.2∧C.gW y.1=true:=by unfold nK at h;split at h;·{split at h;·{rename_i hg;simp only[GE]at h;subst h;exact⟨rfl,hg⟩};·cases h};·cases h
theorem aj1{L:Id→Option (Option Rows)}{b:Id×Option Rows}(h:sg L b=true):L b.1=some b.2:=by obtain⟨i,v⟩:=b;unfold sg at h;split at h;·{rename_i h1 h2;simp only[Hk,beq_iff_eq]at h;obtain⟨⟨rfl,rfl⟩,rfl⟩:=h;simp only at h1 h2;rw[h1,h2]};·cases h
theorem UP{h0 h:Id→Option (Option Rows)}:∀{back:List (Id×Option Rows)},(∀b∈back,h b.1=h0 b.1)→(back.map (·.1)).Nodup→bu h (kf h0 back)=bu h back|[],_,_=>rfl|(i,v)::back,ha,nd=>by have ih:=UP (h0:=h0) (h:=h) (back:=back) (fun b hb=>ha b (Hc _ hb)) (List.nodup_cons.1 nd).2;unfold kf at ih⊢;simp only[List.filter_cons];split;·{simp only[bu,ih]};·rename_i hs;rw[ih];have hs:sg h0 (i,v)=true:=by{simpa using hs};funext j;simp only[bu,an];split;·{rename_i e;subst e;rcases gm h back j with⟨x,hx,e1,_⟩|⟨_,e2⟩;·{exact absurd (List.mem_map.2 ⟨x,hx,e1⟩) (List.nodup_cons.1 nd).1};·rw[e2,ha (j,v) (Hd ..)];exact aj1 hs};·rfl
theorem ahH(hN:qd C.P)(h:aP C E w S a β F){o:Oper}{c:Call}{cN:Operand}(ho:o.op= .call c)(hc:c.callee= .value cN){f:FuncId}{call:FuncId→List U→Option (U×List U)}(ek:∀k as r,call k as=some r→Sound C k as r){y:FuncId×List U×List U}(dZ:nK C (un true (S.get C cN))=some y){e:bz}(he:qk C f call S o y.1 (y.2.1++(c.args.toList.map fun x=>un true (S.get C x))++y.2.2)=some e)(hd:cH S e)(hn:∀a' w',bD C E (S.app e) a' w'→next a' w'):o.wp C.P a w next Q:=by obtain⟨hfn,J3⟩:=acH dZ;have hfo:=h.dY cN;rw[hfn]at hfo;obtain⟨_,hY,iE,lN,h1,h2⟩:=hfo.pI;have hargs:=av.ofMap h c.args.toList;have hall:av w (aD E w F) β [] (hY++c.args.toList.map a.eval++iE) (y.2.1++(c.args.toList.map fun x=>un true (S.get C x))++y.2.2):=(h1.append hargs).append h2;unfold qk at he;simp only[GT]at he;obtain⟨x,hx,he⟩:=he;split at he;·{cases he};·rename_i hnp;have hnp:Am x.r=false:=by{simpa using hnp};generalize s9:(if eL C f o.dst=true then(if flat x.r=true then dF x.r else .bB)else x.r)=rr at he;split at he;·{rename_i hf;simp only[GE]at he;subst he;have s4:=ahQ h ek J3 hall hx;obtain⟨obs,outs,Gp,_,hb,mZ,nc,_,GO,dg⟩:=FX hx;have hb0:=hb;have GN:((x.l.map fun x=>(x.2,x.1)).map (·.2)).Nodup:=by{rw[UF];exact mZ};have Et:∀e' w',HT E w β F x e' w'→∃v,e'= .returned v∧next (a.put o.dst v) w':=fun e' w'⟨G,G',fr,I',q1,cv,cW,hG,iQ,DZ,Hl,Ho,x9,ajd⟩=>by{obtain⟨v,rfl,hv⟩:=cW.val hnp;refine⟨v,rfl,hn _ _ ?_⟩;obtain⟨o7,zF,p1,p2,p3,nh⟩:∃(o7:Nat→Prop)(zF:List Nat),R w' o7 (fun i=>(fY x.l i).bind β) zF v rr∧(zF.Nodup∧∀b∈zF,b∈fr)∧(∀b,I' b→o7 b)∧(∀b,o7 b→(aD E w F b∨(∃k,b∈G k)∨w.heap.size≤b)∧b<w'.heap.size∧b∉zF∧∀k,b∉G' k):=by{by_cases hz:eL C f o.dst=true;·{rw[AC hz]at s9;by_cases hfl:flat x.r=true;·{rw[AC hfl]at s9;subst s9;refine⟨fun b=>I' b∨b∈fr,[],((hv.kU hfl b8).dF (fun _ h=> .inl h) (fun _ h=> .inr h)).up,⟨List.nodup_nil,fun b hb=>by cases hb⟩,fun _ h=> .inl h,fun b hb=> ?_⟩;rcases hb with hb|hb;·{obtain⟨k1,k2,_,iK⟩:=x9 b hb;exact⟨k1,k2,by simp,iK⟩};·obtain⟨k1,k2⟩:=Ho b (.inl hb);exact⟨k2.elim (fun h=> .inr (.inl h)) (fun h=> .inr (.inr h)),k1,by simp,fun k hk=>Hl k b hk hb⟩};·rw[Do hfl]at s9;subst s9;exact⟨I',[], .bB,⟨List.nodup_nil,fun b hb=>by cases hb⟩,fun _ h=>h,fun b hb=>⟨(x9 b hb).1,(x9 b hb).2.1,by simp,(x9 b hb).2.2.2⟩⟩};·rw[Do hz]at s9;subst s9;exact⟨I',fr,hv,⟨DZ,fun _ h=>h⟩,fun _ h=>h,x9⟩};obtain⟨f2,uH,hr2⟩:=p1.ajy (Ma GN rr);have Gg:f2.Nodup∧∀b∈f2,b∈zF:=by{rcases uH with rfl|rfl;·{exact⟨p2.1,fun _ h=>h⟩};·exact⟨List.nodup_nil,fun b hb=>by cases hb⟩};have aeL:R w' o7 β f2 v (fo (x.l.map fun x=>(x.2,x.1)) rr):=hr2.mono (fun _ h=>h) (fun _ _=>rfl) fun i lo hlo=>ako mZ nc hlo;have mV:=FU hf;obtain⟨β',q9,a1,a2,a3,a4,a5,a6,a7⟩:=C8 (iY o) aeL Gg.1 (fun z hz=>h.dom _ (mV z hz));have xl:=h.Dy hd;have:=h.acI (a':=a.put o.dst v) (t':=c8 S.t (put o (imp (iY o) (fo (x.l.map fun x=>(x.2,x.1)) rr)).1 (x.l.map (·.1)) []).dK) mZ nc dg (SJ Gp) (SL Gp) q1 cv hG iQ (fun k b hb hm=>Hl k b hb (p2.2 b (Gg.2 b hm))) (fun b hb=>Ho b (hb.imp (fun hb=>p2.2 b (Gg.2 b hb)) id)) (fun b hb=>⟨(nh b hb).1,(nh b hb).2.1,fun hm=>(nh b hb).2.2.1 (Gg.2 b hm),(nh b hb).2.2.2⟩) (wo hb).1 (fun z hz br e=>(ajd z hz br e).imp fun k hk=>⟨hk.1,hk.2.mono p3 (fun _ _=>rfl) (fun _ _ h=>h)⟩) a1 a2 a4 a5 a6 mV (fun z hz=>by obtain⟨q,e⟩:=a7 z hz;rw[e];exact xl q) (by rw[tI];exact h.n) (put_defers ..) (fun F' hI w5 t=> ?_);·{have e:bu S.h ((imp (iY o) (fo (x.l.map fun x=>(x.2,x.1)) rr)).2++(kf S.h x.back++x.gone.map fun i=>(i,none)))=bu S.h ((imp (iY o) (fo (x.l.map fun x=>(x.2,x.1)) rr)).2++(x.back++x.gone.map fun i=>(i,none))):=by{have g1:∀b∈x.back,bu S.h (x.gone.map fun i=>(i,none)) b.1=S.h b.1:=fun b hb=>by{have hb':b.1∈x.l.map (·.1):=by{rw[←(wo hb0).1];exact List.mem_map.2 ⟨b,hb,rfl⟩};rcases gm S.h (x.gone.map fun i=>(i,none)) b.1 with⟨y,hy,e1,_⟩|⟨_,e2⟩;·{obtain⟨j,hj,rfl⟩:=List.mem_map.1 hy;have e1:j=b.1:=e1;exact absurd hb' (e1▸dg j hj)};·exact e2};have g2:(x.back.map (·.1)).Nodup:=by{rw[(wo hb0).1];exact mZ};rw[yH,yH,yH,yH,UP g1 g2]};have e2:S.app (put o (imp (iY o) (fo (x.l.map fun x=>(x.2,x.1)) rr)).1 (x.l.map (·.1)) ((imp (iY o) (fo (x.l.map fun x=>(x.2,x.1)) rr)).2++(kf S.h x.back++x.gone.map fun i=>(i,none))))=⟨S.n,c8 S.t (put o (imp (iY o) (fo (x.l.map fun x=>(x.2,x.1)) rr)).1 (x.l.map (·.1)) []).dK,bu S.h ((imp (iY o) (fo (x.l.map fun x=>(x.2,x.1)) rr)).2++(x.back++x.gone.map fun i=>(i,none)))⟩:=by{rw[←e];rfl};rw[e2];exact this};·cases bG:o.dst with|none=>(refine .inl ⟨by simp[Act.put], ?_⟩;simp[put,bG,c8])|some d=>have hd':d<a.tmps.size:=by{rw[h.n];simpa[cH,put,bG]using hd};rw[tH a d t v hd'];by_cases ht:t=d;·{subst ht;rw[AC rfl];refine .inr ?_;have:=a3.mono (w':=w') w5 (fun _ _=>rfl) (fun _ _ h=>h);simpa[put,bG,c8,an]using this};·rw[Do ht];refine .inl ⟨rfl, ?_⟩;simp[put,bG,c8,an,ht]};unfold Oper.wp;rw[abm ho hc lN];rcases s4 with⟨fn,code,k1,k2,dG⟩|⟨v,w',k1,k2⟩;·{rw[vq hN k1 k2];simp only[Oper.upon];refine dG.mono fun e' w' hh=> ?_;obtain⟨v,rfl,hr⟩:=Et e' w' hh;exact hr};·rw[k1];obtain⟨v',e,hr⟩:=Et _ w' k2;simp only[Ending.returned.injEq]at e;subst e;exact hr};·cases he
end
end Go.Ab
