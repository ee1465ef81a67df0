import Derived.Test.YtbbhbdlljfffdaaGreatDoorAbTake
import Derived.Test.YtbbhbdlljfffdaaGreatDoorAbWeak
open Array renaming toList_modify->H1
open Bool renaming and_eq_true->Hc
open List renaming mem_cons_of_mem->Ha,mem_cons_self->Hb,map_cons->Hd,mem_append_left->Hk,nodup_nil->Hm,mem_append_right->Hn,mem_singleton->H2,flatMap_cons->H3
open Option renaming bind_eq_some_iff->Do,map_eq_some_iff->GT,isNone_iff_eq_none->H0
open Option.some renaming injEq->AC
open Prod.mk renaming injEq->GE
set_option linter.all false
namespace Go.Ab
open Go
def lT(e:MapEntry):List U:=[.val e.key, .val e.val]
section
variable{P:Program}{w:World}{kt et t:TypeId}{kind:TypeDesc}{kv oC z:Value}
theorem run_checkKey{b:Bool}(hk:P.underlying kt=some kind)(hs:Nu kind=true):(Instr.checkKey b 10000 kt kv).run P w= .ok () w:=by show(Instr.checkKey b (9999+1) kt kv).run P w=_;unfold Instr.checkKey;rw[Sem.run_bind,e5 (C:={P:=P,cu:=fun _=>none,ext:=fun _=>none,cp:=fun _=>[],eI:=fun _=>[],live:=fun _ _=>[],iu:=fun _ _=>[]}) hk,Result.andThen_ok];cases kind<;>first|(cases hs;done)|rfl
theorem QI:∀{es:List MapEntry}{r:Option Value}(i:Nat),p6 kind kv (es.map lT)=some r->∃j,Instr.findNow kind kv es i=some (r.map fun v=>(j,v))|[],r,i,h=>by{simp only[List.map_nil,p6,AC]at h;subst h;exact⟨0,rfl⟩}|e::es,r,i,h=>by simp only[Hd,lT,p6]at h;unfold Instr.findNow;split at h;·{rename_i hs;simp only[AC]at h;subst h;exact⟨i,by rw[hs];rfl⟩};·{rename_i hs;obtain⟨j,hj⟩:=QI (i+1) h;exact⟨j,by rw[hs];exact hj⟩};·cases h
theorem Pe:∀{a b:ByteArray},(a==b)=true->a=b|⟨x⟩,⟨y⟩,h=>by have h':(x==y)=true:=h;rw[eq_of_beq h']
theorem Pf(a:ByteArray):(a==a)=true:=by cases a with|mk x=>show(x==x)=true;simp
theorem UZ{b:Nat}{es:Array MapEntry}{clock:Nat}(hb:w.heap[b]? =some (.map es clock)):(getObj b).run P w= .ok (.map es clock) w:=by simp[getObj,Sem.run,hb]
theorem U3{b:Nat}{es:Array MapEntry}{clock:Nat}(o:Obj)(hb:w.heap[b]? =some (.map es clock)):(setObj b o).run P w= .ok () (jI w b o):=by simp[setObj,Sem.run,hb,jI]
theorem akR{k e:Value}(h:Instr.sameNow kind k e=some true):Instr.sameBits 10000 e k=true:=by unfold Instr.sameNow at h;split at h;·{split at h;·{rename_i a k' b hk;simp only[AC]at h;show(_&&_)=true;have:=eq_of_beq h;subst hk this;simp};·cases h};·{simp only[AC]at h;have:=Pe h;subst this;exact Pf _};·{simp only[AC]at h;have:=eq_of_beq h;subst this;show(_==_)=true;simp};·cases h
theorem Up:∀{es:List MapEntry}{aY:Rows}(i:Nat),yC kind kv oC (es.map lT)=some aY->(∃j v,∃hj:j<es.length,Instr.findNow kind kv es i=some (some (i+j,v))∧Instr.sameNow kind kv es[j].key=some true∧aY=(es.modify j fun e=>{e with key:=kv,val:=oC}).map lT)∨(Instr.findNow kind kv es i=some none∧aY=es.map lT++[[.val kv, .val oC]])|[],aY,i,h=>by{simp only[List.map_nil,yC,AC]at h;subst h;exact .inr ⟨rfl,rfl⟩}|e::es,aY,i,h=>by simp only[Hd,lT,yC]at h;unfold Instr.findNow;split at h;·{rename_i hs;simp only[AC]at h;subst h;exact .inl ⟨0,e.val,by simp,by rw[hs];rfl,hs,by simp[lT]⟩};·{rename_i hs;obtain⟨y,hy,rfl⟩:=Option.map_eq_some_iff.1 h;rw[hs];rcases Up (i+1) hy with⟨j,v,hj,h1,h2,rfl⟩|⟨h1,rfl⟩;·{refine .inl ⟨j+1,v,by simpa using hj, ?_,by simpa using h2,by simp[lT]⟩;rw[show i+(j+1)=i+1+j by omega];exact h1};·exact .inr ⟨h1,by simp[lT]⟩};·cases h
end
section
variable{C:aF}{E:Env}{w:World}{S:ah}{a:Act}{β:Id->Option Loc}{F:Id->List Nat}
variable{next:Act->World->Prop}{Q:Exit->Act->World->Prop}
theorem akS{t:TypeId}{z:Value}(h:Nq C t=some z):(∀w:World,(zeroValue t).run C.P w= .ok z w)∧eo z=true:=by unfold Nq at h;split at h;·{rename_i v hv;split at h;·{rename_i hs;simp only[AC]at h;subst h;refine⟨fun w=> ?_,hs⟩;simp only[Do]at hv;obtain⟨i,hi,hz⟩:=hv;simp[zeroValue,typeInfo,hi,hz]};·cases h};·cases h
theorem S2{t:TypeId}{kind:TypeDesc}{z:Value}(h:AP C t=some (kind,z)):∃kt et,C.P.underlying t=some (.map kt et)∧C.P.underlying kt=some kind∧Nu kind=true∧(∀w:World,(zeroValue et).run C.P w= .ok z w)∧eo z=true:=by unfold AP at h;split at h;·{rename_i kt et hu;split at h;·{rename_i kind' z' hk hz;split at h;·{rename_i hs;simp only[AC,GE]at h;obtain⟨rfl,rfl⟩:=h;obtain⟨h1,h2⟩:=akS hz;exact⟨kt,et,hu,hk,hs,h1,h2⟩};·cases h};·cases h};·cases h
theorem acO{w:World}{b:Nat}{es es':Array MapEntry}{c c':Nat}(h:w.heap[b]? =some (.map es c))(x:Addr):(jI w b (.map es' c')).frozen? x=w.frozen? x:=by have hb:=lt_of_heap h;unfold World.frozen? ;rw[Bg hb];by_cases hx:x.block=b;·{rw[if_pos hx,hx,h]};·rw[if_neg hx]
theorem aiL(h:aG C E w S a β F){o:Oper}{t:TypeId}{r:Option Operand}(ho:o.op= .makeMap t r){e:bh}(he:tD C S o t r=some e)(hd:cC S e)(hn:∀a' w',br C E (S.app e) a' w'->next a' w'):o.wp C.P a w next Q:=by unfold tD at he;split at he;·{rename_i d hm bw;split at he;·{rename_i hc;simp only[Hc,H0]at hc;obtain⟨rfl,hf⟩:=hc;simp only[AC]at he;subst he;have hfr:S.h [d]=none:=hf;have hd':d<S.n:=by{simpa[cC,put,bw]using hd};refine kZ (v:= .map (some w.heap.size)) (w':=w.alloc (.map #[] 0)) ?_ (hn _ _ ?_);·{simp only[execOp,ho];refine ov ?_;rfl};·have e1:S.app (put o (.mr [d]) [] [([d],some [])])=⟨S.n,aj S.t d (.mr [d]),aj S.h [d] (some (some []))⟩:=by{simp[ah.app,put,bw,cT,aZ]};rw[e1];have hold:∀b,b<w.heap.size->(w.alloc (.map #[] 0)).heap[b]? =w.heap[b]? :=fun b hb=>heap_alloc_old _ _ _ hb;have hnew:(w.alloc (.map #[] 0)).heap[w.heap.size]? =some (.map #[] 0):=heap_alloc_new _ _;refine h.Ht bw (kill:=[d]) (l:= .map w.heap.size) (aY:=[]) (G:=[w.heap.size]) hfr (.inl rfl) (by simp[aj]) (fun i hi _=>by simp[aj,hi]) (fun hk=>absurd rfl hk) (by simp) rfl rfl (fun x=> ?_) (fun b hb _=>hold b hb) (uS hold) (by simp) (fun b hb=> ?_) (fun I' β' _ _ hb=> ?_) (fun I' β' hb=> .mr hb) hd';·{by_cases hx:x.block=w.heap.size;·{have e2:w.heap[x.block]? =none:=by{rw[hx];simp};simp only[World.frozen?,hx,hnew];simp};·rw[World.frozen?_alloc_old _ _ _ hx]};·{obtain rfl:=List.mem_singleton.1 hb;exact .inr ⟨Nat.le_refl _,by simp⟩};·exact .inr (.inl ⟨_,hb,rfl, #[],0,hnew,rfl,fun e he=>by simp at he⟩)};·cases he};·cases he
theorem ag6(h:aG C E w S a β F){x:U}{v:Value}{rows:Rows}{ids:List Id}(hx:R w (aB E w F) β [] v x)(hr:vG S.h x=some (rows,ids)):(v= .map none∧rows=[])∨∃b,v= .map (some b)∧nT w b rows:=by unfold vG at hr;split at hr;·{rename_i id;split at hr;·{rename_i aY hid;simp only[AC,GE]at hr;obtain⟨rfl,rfl⟩:=hr;obtain⟨_,b,hb,rfl⟩:=hx.DU;rcases h.obj id _ hid with⟨h1,_⟩|⟨b2,h1,_,hm⟩|⟨_,_,_,_,_,_,h1,_⟩;·{rw[h1]at hb;cases hb};·{rw[h1]at hb;cases hb;exact .inr ⟨_,rfl,hm⟩};·rw[h1]at hb;cases hb};·cases hr};·{simp only[AC,GE]at hr;obtain⟨rfl,rfl⟩:=hr;obtain⟨_,b,rfl,_,hm⟩:=hx.af4;exact .inr ⟨b,rfl,hm⟩};·{simp only[AC,GE]at hr;obtain⟨rfl,rfl⟩:=hr;obtain⟨_,rfl⟩:=hx.gB;exact .inl ⟨rfl,rfl⟩};·cases hr
theorem QJ{kind:TypeDesc}{kv v:Value}:∀{es:List MapEntry},(∀e∈es,eo e.key=true∧eo e.val=true)->p6 kind kv (es.map lT)=some (some v)->eo v=true|[],_,h=>by{simp[p6]at h}|e::es,hs,h=>by simp only[Hd,lT,p6]at h;split at h;·{simp only[AC]at h;subst h;exact(hs e (Hb ..)).2};·{exact QJ (fun e he=>hs e (Ha _ he)) h};·cases h
theorem aiI(h:aG C E w S a β F){o:Oper}{t:TypeId}{x k:Operand}{ok:Bool}(ho:o.op= .lookup t x k ok){e:bh}(he:oN C S o t (un true (S.get C x)) (un true (S.get C k)) ok=some e)(hd:cC S e)(hn:∀a' w',br C E (S.app e) a' w'->next a' w'):o.wp C.P a w next Q:=by have hx:=h.dQ x;have hk:=h.dQ k;generalize un true (S.get C x)=xv at*;generalize un true (S.get C k)=kx at*;have hex:execOp a.eval o=(do pure (Next.value (<-Instr.lookup t (a.eval x) (a.eval k) ok))):=by{simp[execOp,ho]};unfold oN at he;split at he;·{rename_i kind z rows ids kv hm hr;obtain⟨r,hf,rfl⟩:=Option.map_eq_some_iff.1 he;obtain⟨kt,et,hu,hkt,hs,hz,hzs⟩:=S2 hm;obtain⟨_,hkv⟩:=hk.gB;have hK:∀es:Array MapEntry,p6 kind kv (es.toList.map lT)=some r->(do Instr.checkKey es.isEmpty 10000 kt (a.eval k)let y<-Instr.findKey kt (a.eval k) es.toList match y with|some (_,v)=>do let x<-pure (v,true)pure (if ok=true then Value.tuple #[x.1,Value.bool x.2]else x.1)|none=>do let z<-zeroValue et let x<-pure (z,false)pure (if ok=true then Value.tuple #[x.1,Value.bool x.2]else x.1):Sem Value).run C.P w= .ok (if ok then .tuple #[r.getD z, .bool r.isSome]else r.getD z) w:=by{intro es hf;obtain⟨j,hj⟩:=QI 0 hf;rw[Sem.run_bind,run_checkKey hkt hs,Result.andThen_ok];have C3:(Instr.findKey kt (a.eval k) es.toList).run C.P w= .ok (r.map fun v=>(j,v)) w:=by{unfold Instr.findKey;rw[Sem.run_bind,e5 hkt,Result.andThen_ok,hkv,hj];rfl};rw[Sem.run_bind,C3,Result.andThen_ok];cases r with|some v=>(rfl)|none=>simp only[Option.map_none,Option.getD_none,Option.isSome_none];rw[Sem.run_bind,hz w,Result.andThen_ok];rfl};have hrun:(Instr.lookup t (a.eval x) (a.eval k) ok).run C.P w= .ok (if ok then .tuple #[r.getD z, .bool r.isSome]else r.getD z) w∧eo (r.getD z)=true:=by{unfold Instr.lookup;rw[Sem.run_bind,e5 hu,Result.andThen_ok];rcases ag6 h hx hr with⟨hv,rfl⟩|⟨b,hv,es,clock,hb,rfl,hsc⟩;·{refine⟨?_, ?_⟩;·{rw[hv];exact hK #[] hf};·simp only[p6,Option.some.injEq]at hf;subst hf;exact hzs};·refine⟨?_, ?_⟩;·{rw[hv];simp only;rw[Sem.run_bind,UZ hb,Result.andThen_ok];exact hK es hf};·cases r with|none=>(exact hzs)|some v=>exact QJ hsc hf};obtain⟨hrun,Sb⟩:=hrun;refine gz h hd hex hrun ?_ hn;cases ok with|false=>(exact .val Sb)|true=>exact .aU (.cons (f1:=[]) (f2:=[]) (.val Sb) (.cons (f1:=[]) (f2:=[]) (.val rfl) .nil))};·cases he
theorem TO(h:aG C E w S a β F){o:Oper}{t:TypeId}{x k v:Operand}(ho:o.op= .mapUpdate t x k v∨o.op= .insert t x k v){e:bh}
  (he:qT C S o t (un true (S.get C x)) (un true (S.get C k)) (un true (S.get C v))=some e)(hd:cC S e)(hn:∀a' w',br C E (S.app e) a' w'->next a' w'):o.wp C.P a w next Q:=by
 have hx:=h.dQ x
 have hk:=h.dQ k
 have hv:=h.dQ v
 generalize un true (S.get C x)=xv at*
 generalize un true (S.get C k)=kx at*
 generalize un true (S.get C v)=vx at*
 have hex:execOp a.eval o=(do Instr.mapUpdate t (a.eval x) (a.eval k) (a.eval v);pure Next.skip):=by rcases ho with ho|ho<;>simp[execOp,ho]
 unfold qT at he
 split at he
 ·rename_i kind z id kv oC hm
  split at he
  ·rename_i rows hid
   split at he
   ·rename_i hc
    simp only[Hc,H0]at hc
    obtain⟨⟨fz,Sg⟩,bw⟩:=hc
    obtain⟨aY,hp,rfl⟩:=Option.map_eq_some_iff.1 he
    obtain⟨kt,et,hu,hkt,hs,_,_⟩:=S2 hm
    obtain⟨_,hkv⟩:=hk.gB
    obtain⟨_,afG⟩:=hv.gB
    obtain⟨_,b,bA,xY⟩:=hx.DU
    have Dd:=h.obj id rows hid
    obtain⟨hF,es,clock,hb,rfl,hsc⟩:F id=[b]∧nT w b rows:=by
     rcases Dd with⟨h1,_⟩|⟨b2,h1,h2,hm⟩|⟨_,_,_,_,_,_,h1,_⟩
     ·rw[h1]at bA;cases bA
     ·rw[h1]at bA;cases bA;exact⟨h2,hm⟩
     ·rw[h1]at bA;cases bA
    have nv:=lt_of_heap hb
    have key:∃es':Array MapEntry,∃c':Nat,(Instr.mapUpdate t (a.eval x) (a.eval k) (a.eval v)).run C.P w= .ok () (jI w b (.map es' c'))∧aY=es'.toList.map lT∧∀e∈es'.toList,eo e.key=true∧eo e.val=true:=by
     have pre:∀{r:Option (Nat×Value)},Instr.findNow kind kv es.toList 0=some r->(Instr.mapUpdate t (a.eval x) (a.eval k) (a.eval v)).run C.P w=(match r with
       |some (i,_)=>(do
        let key<-Instr.keyThatStays (((es[i]?).map MapEntry.key).getD kv) kv
        setObj b (.map (es.modify i fun e=>{e with key,val:=oC}) clock):Sem Unit)
       |none=>setObj b (.map (es.push {key:=kv,val:=oC,born:=clock}) (clock+1))).run C.P w:=by
      intro r hr
      unfold Instr.mapUpdate
      rw[Sem.run_bind,e5 hu,Result.andThen_ok]
      simp only[xY,hkv,afG]
      rw[Sem.run_bind,UZ hb,Result.andThen_ok]
      simp only
      rw[Sem.run_bind,run_checkKey hkt hs,Result.andThen_ok,Sem.run_bind]
      have C3:(Instr.findKey kt kv es.toList).run C.P w= .ok r w:=by
       unfold Instr.findKey
       rw[Sem.run_bind,e5 hkt,Result.andThen_ok,hr]
       rfl
      rw[C3,Result.andThen_ok]
      cases r with
      |none=>rfl
      |some y=>rfl
     rcases Up (kind:=kind) (kv:=kv) (oC:=oC) 0 hp with⟨j,v0,hj,h1,h2,rfl⟩|⟨h1,rfl⟩
     ·have hj':j<es.size:=by simpa using hj
      refine⟨es.modify j fun e=>{e with key:=kv,val:=oC},clock, ?_,by simp[H1],fun e he=> ?_⟩
      ·rw[pre h1]
       simp only[Nat.zero_add]
       have e1:((es[j]?).map MapEntry.key).getD kv=es.toList[j].key:=by simp[hj']
       rw[e1,Sem.run_bind]
       have e2:(Instr.keyThatStays es.toList[j].key kv).run C.P w= .ok kv w:=by
        unfold Instr.keyThatStays
        rw[if_pos (akR h2)];rfl
       rw[e2,Result.andThen_ok,U3 _ hb]
      ·rw[H1]at he
       obtain⟨i,hi,rfl⟩:=List.getElem_of_mem he
       rw[List.getElem_modify]
       split
       ·exact⟨fz,Sg⟩
       ·exact hsc _ (List.getElem_mem _)
     ·refine⟨es.push {key:=kv,val:=oC,born:=clock},clock+1, ?_,by simp[lT],fun e he=> ?_⟩
      ·rw[pre h1]
       simp only
       rw[U3 _ hb]
      ·simp only[Array.toList_push,List.mem_append,H2]at he
       rcases he with he|rfl
       ·exact hsc e he
       ·exact⟨fz,Sg⟩
    obtain⟨es',c',hrun,rfl,afu⟩:=key
    have mK:∀k,(jI w b (.map es' c')).heap[k]? =if k=b then some (.map es' c')else w.heap[k]? :=Bg nv
    refine Oa (w':=jI w b (.map es' c')) (by rw[hex];exact U5 hrun) (hn _ _ ⟨β,F, ?_⟩)
    have e1:S.app (put o .bf [id] [(id,some (es'.toList.map lT))])=⟨S.n,S.t,aj S.h id (some (some (es'.toList.map lT)))⟩:=by simp[ah.app,put,bw,cT,aZ]
    have e2:a.put o.dst undef=a:=by rw[bw];rfl
    rw[e1,e2]
    refine h.step (hok:=fun k r2 hk hr2=>by
     by_cases e:k=id
     ·subst e;exact⟨_,by assumption⟩
     ·exact⟨r2,by simpa[aj,e]using hr2⟩) (·=id) h.n (by simp[jI]) rfl rfl (fun x=>acO hb x) (fun bb _ fk=> ?_) (fun _ _ h=>h) (fun i bb fk=> .inl ⟨i,fk⟩) (fun i hi=>⟨rfl,by simp[aj,hi]⟩) (fun hI i hi fc hr2=> ?_) (fun i hi hno=> ?_) (fun i _=>h.nd i) (fun i j bb _ h1 h2=>h.cV i j bb h1 h2) (fun i hi=> ?_) (fun _ t=> .inl ⟨rfl,rfl⟩) (hdf:=rfl) (fH:= ?_)
    ·rw[mK,if_neg]
     intro e;subst e
     exact fk id rfl (by rw[hF];exact List.mem_singleton.2 rfl)
    ·subst hi
     simp only[aj,if_true,AC]at hr2
     subst hr2
     exact .inr (.inl ⟨b,bA,hF,es',c',by rw[mK,if_pos rfl],rfl,afu⟩)
    ·subst hi
     exact absurd (by simp[aj]) (hno (es'.toList.map lT))
    ·refine h.dom i ?_
     by_cases RS:i=id
     ·subst RS;simp[aj]at hi
     ·simpa[aj,RS]using hi
    ·intro bb n hB
     obtain⟨c2,e2,jW,hn2⟩:=hB
     refine⟨c2,e2, ?_,hn2⟩
     rw[mK,if_neg]
     ·exact jW
     ·intro e;subst e;rw[hb]at jW;cases jW
   ·cases he
  ·cases he
 ·cases he
end
open Go
theorem J0{g:Id->List Nat}:∀{l:List Id},(l.flatMap g).Nodup->∀{i j:Id}{b:Nat},i∈l->j∈l->b∈g i->b∈g j->i=j|[],_,i,_,_,h,_,_,_=>by{cases h}|x::l,hn,i,j,b,hi,hj,hb,hb'=>by simp only[H3]at hn;obtain⟨_,h2,h3⟩:=List.nodup_append.1 hn;rcases List.mem_cons.1 hi with Qq|hi2<;>rcases List.mem_cons.1 hj with ej|hj2;·{rw[Qq,ej]};·{exact absurd rfl (h3 b (Qq▸hb) b (List.mem_flatMap.2 ⟨j,hj2,hb'⟩))};·{exact absurd rfl (h3 b (ej▸hb') b (List.mem_flatMap.2 ⟨i,hi2,hb⟩))};·exact J0 h2 hi2 hj2 hb hb'
theorem QX{g:Id->List Nat}{l:List Id}(hn:(l.flatMap g).Nodup){i:Id}(hi:i∈l):(g i).Nodup:=by induction l with|nil=>(cases hi)|cons x l ih=>simp only[H3]at hn;rcases List.mem_cons.1 hi with rfl|hi;·{exact(List.nodup_append.1 hn).1};·exact ih (List.nodup_append.1 hn).2.1 hi
theorem ahq{l:List (Id×Id)}(hn:(l.map (·.2)).Nodup){k:Id}(h:k∈l.map (·.2)):∃o,fW l k=some o:=by obtain⟨x,hx,rfl⟩:=List.mem_map.1 h;exact⟨x.1,o7 hn hx⟩
theorem UM{l:List (Id×Id)}(hn:(l.map (·.2)).Nodup){rows aY:Rows}(h:mY l rows=some aY):kJ (fW l) aY rows:=by unfold mY at h;split at h;·{rename_i hf;simp only[AC]at h;subst h;exact .of_flat hf};·exact M8 hn h
section
variable{C:aF}{E:Env}{w:World}{S:ah}{a:Act}{β:Id->Option Loc}{F:Id->List Nat}
variable{next:Act->World->Prop}{Q:Exit->Act->World->Prop}
theorem TH(h:aG C E w S a β F){l:List (Id×Id)}(hn:(l.map (·.2)).Nodup)(fz:(l.map (·.1)).Nodup):∀{r:List (Id×Id)}{obs gone},iN S.h l r=some (obs,gone)->(∀x∈r,x∈l)->(r.map (·.1)).Nodup->∃hl,vN obs=some hl∧hl.map (·.1)=r.map (·.2)∧∃(g:Id->List Nat)(rest:List Nat),(∀o k,(o,k)∈r->∀rows,(k,rows)∈hl->dJ w (aB E w F) (fun i=>(fW l i).bind β) k rows (g o))∧((r.map (·.1)).flatMap g++rest).Perm ((r.map (·.1)).flatMap F++gone.flatMap F)|[],obs,gone,ho,_,_=>by{simp only[iN,AC,GE]at ho;obtain⟨rfl,rfl⟩:=ho;exact⟨[],rfl,rfl,fun _=>[],[],(fun _ _ h=>by cases h),by simp⟩}|(o,k)::r,obs,gone,ho,hl,hr=>by simp only[iN]at ho;split at ho;·{rename_i rows hrows;simp only[Do,GT,GE]at ho;obtain⟨x,hx,aY,afp,⟨D4,gone'⟩,hy,rfl,rfl⟩:=ho;obtain⟨hl',e1,e2,g,rest,g1,g2⟩:=TH h hn fz hy (fun x hx=>hl x (Ha _ hx)) (List.nodup_cons.1 hr).2;have hkeep:∀i lo,ua l i=true->β i=some lo->β i=some lo:=fun _ _ _ h=>h;obtain⟨go,ro,k1,k2⟩:=(h.obj o rows hrows).closed h.obj hkeep hx (fun _ h=>h);have hm:fW l k=some o:=o7 hn (hl (o,k) (Hb ..));have cO:=k1.mX hm (UM hn afp);have hno:o∉r.map (·.1):=(List.nodup_cons.1 hr).1;refine⟨(k,aY)::hl',by simp[vN,e1],by simp[e2],fun i=>if i=o then go else g i,ro++rest, ?_, ?_⟩;·{intro o2 k' hm2 fc R1;rcases List.mem_cons.1 hm2 with p2|bS;·{simp only[GE]at p2;obtain⟨rfl,rfl⟩:=p2;rcases List.mem_cons.1 R1 with p3|cA;·{simp only[GE,true_and]at p3;subst p3;simpa using cO};·exfalso;have:k'∈r.map (·.2):=by{rw[<-e2];exact List.mem_map.2 ⟨_,cA,rfl⟩};obtain⟨⟨Tp,LR⟩,h3,bF⟩:=List.mem_map.1 this;have h4:=o7 hn (hl _ (List.mem_cons_of_mem _ h3));have xk:LR=k':=bF;rw[xk,hm]at h4;simp only[Option.some.injEq]at h4;exact hno (h4▸List.mem_map.2 ⟨_,h3,rfl⟩)};·have hne:o2≠o:=fun e=>hno (e▸List.mem_map.2 ⟨_,bS,rfl⟩);simp only[if_neg hne];rcases List.mem_cons.1 R1 with p3|cA;·{exfalso;simp only[GE]at p3;have h4:=o7 hn (hl _ (Ha _ bS));rw[p3.1,hm]at h4;simp only[AC]at h4;exact hne h4.symm};·exact g1 o2 k' bS fc cA};·have e:(r.map (·.1)).flatMap (fun i=>if i=o then go else g i)=(r.map (·.1)).flatMap g:=by{rw[List.flatMap_def,List.flatMap_def];congr 1;refine List.map_congr_left fun i hi=> ?_;have:i≠o:=fun e=>hno (e▸hi);simp[this]};simp only[List.map_cons,List.flatMap_cons,if_true,e,List.flatMap_append];have:=sF k2 g2;rw[List.perm_iff_count]at this|-;intro z;have:=this z;simp only[List.count_append]at this|-;omega};·cases ho
theorem adk(h:aG C E w S a β F){l:List (Id×Id)}{obs:List U}{gone:List Id}{args:List U}{vs:List Value}(ha:av w (aB E w F) β [] vs args)(ho:iN S.h l l=some (obs,gone))(nD:(l.map (·.1)).Nodup)(nE:(l.map (·.2)).Nodup)(Hy:gone.Nodup)(dg:∀i∈gone,i∉l.map (·.1)):∃hl G,vN obs=some hl∧hl.map (·.1)=l.map (·.2)∧E0 C w (aB E w F) (fun i=>(fW l i).bind β) G hl vs (args.map (fo l))∧(∀k b,b∈G k->∃i,(i∈l.map (·.1)∨i∈gone)∧b∈F i):=by obtain⟨hl,e1,e2,g,rest,g1,g2⟩:=TH h nE nD ho (fun _ h=>h) nD;have hall:((l.map (·.1))++gone).Nodup:=List.nodup_append.2 ⟨nD,Hy,fun x hx y hy e=>dg y hy (e▸hx)⟩;have hnd:((l.map (·.1)).flatMap g).Nodup:=by{have h1:=h.J1 hall;rw[List.flatMap_append]at h1;exact(List.nodup_append.1 (g2.nodup_iff.2 h1)).1};have hmem:∀i b,i∈l.map (·.1)->b∈g i->∃j,(j∈l.map (·.1)∨j∈gone)∧b∈F j:=fun i b hi hb=>by{have h1:b∈(l.map (·.1)).flatMap F++gone.flatMap F:=g2.mem_iff.1 (Hk _ (List.mem_flatMap.2 ⟨i,hi,hb⟩));rcases List.mem_append.1 h1 with h1|h1;·{obtain⟨j,hj,hb⟩:=List.mem_flatMap.1 h1;exact⟨j, .inl hj,hb⟩};·obtain⟨j,hj,hb⟩:=List.mem_flatMap.1 h1;exact⟨j, .inr hj,hb⟩};let G:Id->List Nat:=fun k=>match fW l k with|some o=>g o|none=>[];have ew:∀k b,b∈G k->∃o,fW l k=some o∧o∈l.map (·.1)∧b∈g o:=fun k b hb=>by{simp only[G]at hb;cases ho:fW l k with|none=>(rw[ho]at hb;cases hb)|some o=>rw[ho]at hb;exact⟨o,rfl,List.mem_map.2 ⟨_,qt ho,rfl⟩,hb⟩};have adM:∀b,aB E w F b->∀k,b∉G k:=fun b hb k hk=>by{obtain⟨o,_,h2,h3⟩:=ew k b hk;obtain⟨j,_,h4⟩:=hmem o b h2 h3;exact hb.2.2 j h4};refine⟨hl,G,e1,e2,{args:= ?_,obj:= ?_,out:= ?_,nd:= ?_,cV:= ?_,lt:= ?_,i0:=fun b hb=>⟨hb.2.1,adM b hb⟩,cu:=fun g cs hg=>(h.cu g cs hg).qm rfl fun _ h=>h}, ?_⟩;·{have go:∀{as:List U}{vs:List Value},av w (aB E w F) β [] vs as->av w (aB E w F) (fun i=>(fW l i).bind β) [] vs (as.map (fo l)):=fun{as}=>by{induction as with|nil=>(intro vs h;obtain⟨_,rfl⟩:=h.gd;exact .nil)|cons x as ih=>intro vs h;obtain⟨f1,f2,v,vs',e,rfl,h1,h2⟩:=h.cons_inv;have e':=List.append_eq_nil_iff.1 e.symm;obtain⟨rfl,rfl⟩:=e';exact R.cons (f1:=[]) (f2:=[]) (h1.mX (M6 nE x) rfl) (ih h2)};exact go ha};·{intro k rows hk;obtain⟨o,ho⟩:=ahq nE (show k∈l.map (·.2)by rw[<-e2];exact List.mem_map.2 ⟨_,hk,rfl⟩);have:=g1 o k (qt ho) rows hk;simpa only[G,ho]using this};·{intro k hk;rw[e2]at hk;have:fW l k=none:=by{cases hx:fW l k with|none=>(rfl)|some o=>exact absurd (List.mem_map.2 ⟨_,qt hx,rfl⟩) hk};simp[G,this]};·{intro k;simp only[G];cases ho:fW l k with|none=>(exact Hm)|some o=>exact QX hnd (List.mem_map.2 ⟨_,qt ho,rfl⟩)};·{intro i j b hi hj;obtain⟨o,bF,h3,h4⟩:=ew i b hi;obtain⟨o',fh,h5,h6⟩:=ew j b hj;have:=J0 hnd h3 h5 h4 h6;subst this;exact J5 nD (qt bF) (qt fh)};·{intro k b hb;obtain⟨o,_,h2,h3⟩:=ew k b hb;obtain⟨j,_,h4⟩:=hmem o b h2 h3;exact(h.lt j b h4).1};·intro k b hb;obtain⟨o,_,h2,h3⟩:=ew k b hb;obtain⟨j,h4,h5⟩:=hmem o b h2 h3;exact⟨j,h4,h5⟩
theorem R.akl{I:Nat->Prop}{m:Id->Option Id}{f:List Nat}{v:Value}{a b:U}(h:R w I β f v b)(hr:s0 m a b):∃f2,(f2=f∨f2=[])∧R w I (fun i=>(m i).bind β) f2 v a:=by cases hr with|cell hc=>(exact⟨f, .inl rfl,h.M7 hc⟩)|agg hl=>(obtain⟨vs,rfl,h⟩:=h.pP;exact⟨f, .inl rfl,av.mX hl h⟩)|aU hl=>(obtain⟨vs,rfl,hu⟩:=h.By;exact⟨f, .inl rfl, .aU (av.mX hl hu)⟩)|fn h1 h2=>(obtain⟨rfl,vs,cs,rfl,k1,k2⟩:=h.p8;exact⟨[], .inl rfl, .fn (av.mX h1 k1) (av.mX h2 k2)⟩)|bf=>exact⟨[], .inr rfl, .bf⟩
theorem wV{l':List (Id×Id)}:∀{r:List (Id×Id)}{outs:List U}{back:List (Id×Option Rows)},iX l' r outs=some back->back.map (·.1)=r.map (·.1)∧∀x∈back,∀aY,x.2=some aY->∃k rows,(x.1,k)∈r∧U.bQ k rows∈outs∧mY l' rows=some aY|[],[],back,h=>by{simp only[iX,AC]at h;subst h;exact⟨rfl,fun x hx=>by cases hx⟩}|[],a::outs,back,h=>by{simp[iX]at h}|(o,k)::r,[],back,h=>by{simp[iX]at h}|(o,k)::r,a::outs,back,h=>by cases a with|bQ k' rows=>(simp only[iX]at h;split at h;·{rename_i e;subst e;simp only[Do,GT]at h;obtain⟨aY,h1,y,h2,rfl⟩:=h;obtain⟨i1,i2⟩:=wV h2;refine⟨by simp[i1],fun x hx fc e=> ?_⟩;rcases List.mem_cons.1 hx with rfl|hx;·{simp only[AC]at e;subst e;exact⟨_,rows,Hb ..,Hb ..,h1⟩};·obtain⟨k2,r2,m1,m2,m3⟩:=i2 x hx fc e;exact⟨k2,r2,Ha _ m1,Ha _ m2,m3⟩};·cases h)|bf=>(simp only[iX,GT]at h;obtain⟨y,h2,rfl⟩:=h;obtain⟨i1,i2⟩:=wV h2;refine⟨by simp[i1],fun x hx fc e=> ?_⟩;rcases List.mem_cons.1 hx with rfl|hx;·{cases e};·obtain⟨k2,r2,m1,m2,m3⟩:=i2 x hx fc e;exact⟨k2,r2,Ha _ m1,Ha _ m2,m3⟩)|_=>simp[iX]at h
theorem TE{L:Id->Option (Option Rows)}{l:List (Id×Id)}:∀{r:List (Id×Id)}{x},iN L l r=some x->∀i∈r.map (·.1),∃rows,L i=some (some rows)|[],_,_,i,hi=>by{cases hi}|(o,k)::r,x,h,i,hi=>by simp only[iN]at h;split at h;·{rename_i rows hrows;simp only[Do,GT]at h;obtain⟨_,_,_,_,y,hy,_⟩:=h;rcases List.mem_cons.1 hi with rfl|hi;·{exact⟨rows,hrows⟩};·exact TE hy i hi};·cases h
theorem akk{l:List (Id×Id)}{i:Id}(h:i∈l.map (·.1)):∃k,gi l i=some k:=by induction l with|nil=>(cases h)|cons x l ih=>obtain⟨o,k⟩:=x;simp only[gi];split;·{exact⟨k,rfl⟩};·rename_i hne;rcases List.mem_cons.1 h with e|h;·{exact absurd e.symm hne};·exact ih h
open Classical in theorem aG.adp(h:aG C E w S a β F){l:List (Id×Id)}{gone:List Id}{back news:List (Id×Option Rows)}{G G' rN:Id->List Nat}{fr:List Nat}{I':Nat->Prop}{w':World}{β':Id->Option Loc}{a':Act}{t':Nat->U}(nD:(l.map (·.1)).Nodup)(nE:(l.map (·.2)).Nodup)(dg:∀i∈gone,i∉l.map (·.1))(live:∀i∈l.map (·.1),∃rows,S.h i=some (some rows))(adg:∀i∈gone,∃rows,S.h i=some (some rows))(qZ:∀k b,b∈G k->∃i,(i∈l.map (·.1)∨i∈gone)∧b∈F i)(hk:Kept w w' fun b=>∃k,b∈G k)(pe:∀k,(G' k).Nodup)(H7:∀i j b,b∈G' i->b∈G' j->i=j)(Ux:∀k b,b∈G' k->b∉fr)(H8:∀b,(b∈fr∨∃k,b∈G' k)->b<w'.heap.size∧((∃k,b∈G k)∨w.heap.size<=b))(aj7:∀b,I' b->(aB E w F b∨(∃k,b∈G k)∨w.heap.size<=b)∧b<w'.heap.size∧b∉fr∧∀k,b∉G' k)(RJ:back.map (·.1)=l.map (·.1))(kN:∀x∈back,∀aY,x.2=some aY->∃k,(x.1,k)∈l∧dJ w' I' β x.1 aY (G' k))(i1:∀i lo,β i=some lo->β' i=some lo)(i2:∀i,(∀x∈news,x.1≠i)->β' i=β i∧rN i=[])(i3:∀x∈news,∃rows,x.2=some rows∧dJ w' I' β' x.1 rows (rN x.1))(i4:∀i,(rN i).Nodup∧∀b∈rN i,b∈fr)(i5:∀i j b,b∈rN i->b∈rN j->i=j)(nw:∀x∈news,S.h x.1=none)(xQ:∀x∈news,¬E.K x.1)(hn:a'.tmps.size=S.n)(hdf:a'.defers=a.defers)(Dk:∀F',(∀b,aB E w F b->aB E w' F' b)->(∀b,I' b->aB E w' F' b)->∀t,(a'.tmps.getD t undef=a.tmps.getD t undef∧t' t=S.t t)∨R w' (aB E w' F') β' [] (a'.tmps.getD t undef) (t' t)):br C E ⟨S.n,t',aZ S.h (news++(back++gone.map fun i=>(i,none)))⟩ a' w':=by let hp:=aZ S.h (news++(back++gone.map fun i=>(i,none)));let dB:Id->List Nat:=fun i=>if(∃rows,hp i=some (some rows))then(if i∈l.map (·.1)then(match gi l i with|some k=>G' k|none=>[])else F i++rN i)else[];have GS:∀x∈news,x.1∉l.map (·.1):=fun x hx hm=>by{obtain⟨rows,e⟩:=live _ hm;rw[nw x hx]at e;cases e};have R3:∀x∈news,x.1∉gone:=fun x hx hm=>by{obtain⟨rows,e⟩:=adg _ hm;rw[nw x hx]at e;cases e};have nv:∀x∈back,x.1∈l.map (·.1):=fun x hx=>by{rw[<-RJ];exact List.mem_map.2 ⟨x,hx,rfl⟩};have sg:∀i,(∃x∈news,x.1=i∧hp i=some x.2)∨((∀x∈news,x.1≠i)∧∃x∈back,x.1=i∧hp i=some x.2)∨((∀x∈news,x.1≠i)∧i∉l.map (·.1)∧i∈gone∧hp i=some none)∨((∀x∈news,x.1≠i)∧i∉l.map (·.1)∧i∉gone∧hp i=S.h i):=fun i=>by{rcases gk S.h (news++(back++gone.map fun i=>(i,none))) i with⟨x,hx,e1,e2⟩|⟨h1,h2⟩;·{by_cases tQ:∃y∈news,y.1=i;·{obtain⟨y,hy,F4⟩:=tQ;rcases List.mem_append.1 hx with hx|hx;·{exact .inl ⟨x,hx,e1,e2⟩};·exfalso;rcases List.mem_append.1 hx with hx|hx;·{exact GS y hy (by rw[F4,<-e1];exact nv x hx)};·obtain⟨j,hj,rfl⟩:=List.mem_map.1 hx;exact R3 y hy (by rw[F4,<-e1];exact hj)};·have K9:∀x∈news,x.1≠i:=fun y hy e=>tQ ⟨y,hy,e⟩;rcases List.mem_append.1 hx with hx|hx;·{exact absurd e1 (K9 x hx)};·rcases List.mem_append.1 hx with hx|hx;·{exact .inr (.inl ⟨K9,x,hx,e1,e2⟩)};·obtain⟨j,hj,rfl⟩:=List.mem_map.1 hx;have Cr:j=i:=e1;subst Cr;exact .inr (.inr (.inl ⟨K9,dg j hj,hj,e2⟩))};·refine .inr (.inr (.inr ⟨fun x hx=>h1 x (Hk _ hx),fun hm=> ?_,fun hm=> ?_,h2⟩));·{rw[<-RJ]at hm;obtain⟨x,hx,e⟩:=List.mem_map.1 hm;exact h1 x (Hn _ (Hk _ hx)) e};·exact h1 (i,none) (Hn _ (Hn _ (List.mem_map.2 ⟨i,hm,rfl⟩))) rfl};have EW:∀i b,b∈dB i->(∃k,b∈G' k∧gi l i=some k∧i∈l.map (·.1))∨(i∉l.map (·.1)∧i∉gone∧b∈F i)∨(i∉l.map (·.1)∧(∃x∈news,x.1=i)∧b∈rN i):=fun i b hb=>by{simp only[dB]at hb;split at hb;·{rename_i hal;split at hb;·{rename_i vm;cases hr:gi l i with|none=>(rw[hr]at hb;cases hb)|some k=>rw[hr]at hb;exact .inl ⟨k,hb,rfl,vm⟩};·rename_i vm;rcases List.mem_append.1 hb with hb|hb;·{refine .inr (.inl ⟨vm,fun hg=> ?_,hb⟩);obtain⟨rows,hal⟩:=hal;rcases sg i with⟨x,hx,e,_⟩|⟨_,x,hx,e,_⟩|⟨_,_,_,e⟩|⟨_,_,e,_⟩;·{exact R3 x hx (e▸hg)};·{exact vm (e▸nv x hx)};·{rw[e]at hal;cases hal};·exact e hg};·refine .inr (.inr ⟨vm, ?_,hb⟩);by_cases tQ:∃x∈news,x.1=i;·{exact tQ};·rw[(i2 i fun x hx e=>tQ ⟨x,hx,e⟩).2]at hb;cases hb};·cases hb};have CU:∀b,I' b->aB E w' dB b:=fun b hb=>by{obtain⟨k1,k2,cO,gb⟩:=aj7 b hb;refine⟨?_,k2,fun i hm=> ?_⟩;·{rcases k1 with k1|⟨k,k1⟩|k1;·{exact k1.1};·{obtain⟨i,_,hi⟩:=qZ k b k1;exact(h.lt i b hi).2.elim (fun h=> .inr (.inl h)) (fun h=> .inr (.inr h))};·exact .inr (.inr (Nat.le_trans h.kept.size k1))};·rcases EW i b hm with⟨k,hg,_⟩|⟨n1,n2,hf⟩|⟨_,_,hg⟩;·{exact gb k hg};·{rcases k1 with k1|⟨k,k1⟩|k1;·{exact k1.2.2 i hf};·{obtain⟨j,hj,hf'⟩:=qZ k b k1;have:=h.cV i j b hf hf';subst this;exact hj.elim n1 n2};·have:=(h.lt i b hf).1;omega};·exact cO ((i4 i).2 b hg)};refine⟨β',dB, ?_⟩;have afd:∀i,¬(i∈l.map (·.1)∨i∈gone∨∃x∈news,x.1=i)->dB i=F i∧hp i=S.h i:=fun i hi=>by{have n1:i∉l.map (·.1):=fun e=>hi (.inl e);have n2:i∉gone:=fun e=>hi (.inr (.inl e));have ji:∀x∈news,x.1≠i:=fun x hx e=>hi (.inr (.inr ⟨x,hx,e⟩));have e:hp i=S.h i:=by{rcases sg i with⟨x,hx,e,_⟩|⟨_,x,hx,e,_⟩|⟨_,_,e,_⟩|⟨_,_,_,e⟩;·{exact absurd e (ji x hx)};·{exact absurd (e▸nv x hx) n1};·{exact absurd e n2};·exact e};refine⟨?_,e⟩;simp only[dB];split;·{rw[(i2 i ji).2,List.append_nil]};·rename_i hal;exact(h.dead i fun rows e'=>hal ⟨rows,by rw[e];exact e'⟩).symm};refine h.Bm (fun i=>i∈l.map (·.1)∨i∈gone∨∃x∈news,x.1=i) hn hk.size hk.os hk.out hk.eI ?_ i1 ?_ afd ?_ ?_ ?_ ?_ ?_ ?_ (hdf:=hdf) (fH:=hk.nN) (hok:=kn.of rfl fun x hx hne=> ?_);·{intro b hb hno;refine hk.blk b hb fun⟨k,hm⟩=> ?_;obtain⟨i,hi,hf⟩:=qZ k b hm;exact hno i (hi.elim .inl fun h=> .inr (.inl h)) hf};·{intro i b hb;have VE:∀{b:Nat},b<w'.heap.size∧((∃k,b∈G k)∨w.heap.size<=b)->(∃i,b∈F i)∨(w.heap.size<=b∧b<w'.heap.size):=fun⟨h1,h2⟩=>by{rcases h2 with⟨k,h2⟩|h2;·{obtain⟨i,_,hi⟩:=qZ k _ h2;exact .inl ⟨i,hi⟩};·exact .inr ⟨h2,h1⟩};rcases EW i b hb with⟨k,hg,_⟩|⟨_,_,hf⟩|⟨_,_,hg⟩;·{exact VE (H8 b (.inr ⟨k,hg⟩))};·{exact .inl ⟨i,hf⟩};·exact VE (H8 b (.inl ((i4 i).2 b hg)))};·{intro hI i _ rows hr;have hr':hp i=some (some rows):=hr;have hal:∃rows,hp i=some (some rows):=⟨rows,hr'⟩;rcases sg i with⟨x,hx,e,e2⟩|⟨tQ,x,hx,e,e2⟩|⟨_,_,_,e⟩|⟨ji,n1,n2,e⟩;·{subst e;obtain⟨fc,bF,h3⟩:=i3 x hx;rw[e2,bF]at hr';simp only[AC]at hr';subst hr';have:dB x.1=rN x.1:=by{simp only[dB];rw[if_pos hal,if_neg (GS x hx),h.dead x.1 (by rw[nw x hx];simp),List.nil_append]};rw[this];exact h3.mono CU (fun _ _=>rfl) (fun _ _ h=>h)};·{subst e;rw[e2]at hr';simp only[AC]at hr';obtain⟨k,gD,Dd⟩:=kN x hx rows hr';have:dB x.1=G' k:=by{simp only[dB];rw[if_pos hal,if_pos (nv x hx)];obtain⟨k',hk'⟩:=akk (nv x hx);rw[hk',J5 nD gD (Ba hk')]};rw[this];exact Dd.mono CU (fun _ _=>rfl) i1};·{rw[e]at hr';cases hr'};·exfalso;rename_i jz;rcases jz with jz|jz|⟨x,hx,jz⟩;·{exact n1 jz};·{exact n2 jz};·exact ji x hx jz};·{intro i _ hno;simp only[dB];rw[if_neg];rintro⟨rows,e⟩;exact hno rows e};·{intro i _;simp only[dB];split;·{split;·{cases gi l i with|none=>(exact Hm)|some k=>exact pe k};·by_cases tQ:∃x∈news,x.1=i;·{obtain⟨x,hx,rfl⟩:=tQ;rw[h.dead x.1 (by rw[nw x hx];simp),List.nil_append];exact(i4 _).1};·rw[(i2 i fun x hx e=>tQ ⟨x,hx,e⟩).2,List.append_nil];exact h.nd i};·exact Hm};·{intro i j b _ hi hj;have RG:∀{i j k:Id}{b:Nat},b∈G' k->j∉l.map (·.1)->j∉gone->b∈F j->False:=fun{i j k b}hg n1 n2 hf=>by{rcases(H8 b (.inr ⟨k,hg⟩)).2 with⟨k2,hk2⟩|hge;·{obtain⟨q,hq,KP⟩:=qZ k2 b hk2;have:=h.cV j q b hf KP;subst this;exact hq.elim n1 n2};·have:=(h.lt j b hf).1;omega};have RP:∀{j:Id}{b:Nat},b∈fr->j∉l.map (·.1)->j∉gone->b∈F j->False:=fun{j b}hg n1 n2 hf=>by{rcases(H8 b (.inl hg)).2 with⟨k2,hk2⟩|hge;·{obtain⟨q,hq,KP⟩:=qZ k2 b hk2;have:=h.cV j q b hf KP;subst this;exact hq.elim n1 n2};·have:=(h.lt j b hf).1;omega};rcases EW i b hi with⟨k,hg,Ll,_⟩|⟨n1,n2,hf⟩|⟨_,_,hg⟩<;>rcases EW j b hj with⟨k',hg',afq,_⟩|⟨Tc,Td,hf'⟩|⟨_,_,hg'⟩;·{have:=H7 k k' b hg hg';subst this;have e1:=o7 nE (Ba Ll);have e2:=o7 nE (Ba afq);rw[e1]at e2;exact Option.some.inj e2};·{exact(RG (i:=i) hg Tc Td hf').elim};·{exact absurd ((i4 j).2 b hg') (Ux k b hg)};·{exact(RG (i:=j) hg' n1 n2 hf).elim};·{exact h.cV i j b hf hf'};·{exact(RP ((i4 j).2 b hg') n1 n2 hf).elim};·{exact absurd ((i4 i).2 b hg) (Ux k' b hg')};·{exact(RP ((i4 i).2 b hg) Tc Td hf').elim};·exact i5 i j b hg hg'};·{intro i hi;have hi':hp i=none:=hi;rcases sg i with⟨x,hx,_,e⟩|⟨_,x,hx,_,e⟩|⟨_,_,_,e⟩|⟨ji,_,_,e⟩;·{rw[e]at hi';cases hi'};·{rw[e]at hi';cases hi'};·{rw[e]at hi';cases hi'};·rw[(i2 i ji).1];exact h.dom i (by rw[<-e];exact hi')};·{intro hI;exact Dk dB hI CU};·rcases List.mem_append.1 hx with hx|hx;·{exact .inl (xQ x hx)};·rcases List.mem_append.1 hx with hx|hx;·{exact .inr (live _ (nv x hx))};·obtain⟨i,_,rfl⟩:=List.mem_map.1 hx;exact absurd rfl hne
theorem BN.val{w':World}{I':Nat->Prop}{fr:List Nat}{e:Ending}{r:U}(h:BN w' I' β fr e r)(hr:AI r=false):∃v,e= .returned v∧R w' I' β fr v r:=by cases r<;>first|exact h|cases hr
theorem aaz{L:Id->Option (Option Rows)}:∀(n:Nat){a:U}{x},pk L n a=some x->∀i∈x.2,∃rows,L i=some (some rows):=by
 intro n
 induction n with
 |zero=>intro a x h;simp[pk]at h
 |succ n ih=>
  have J3:∀{cs:List U}{x},dL (pk L n) cs=some x->∀i∈x.2,∃rows,L i=some (some rows):=fun{cs}=>by
   induction cs with
   |nil=>intro x h i hi;simp[dL]at h;subst h;cases hi
   |cons c cs x5=>
    intro x h i hi
    simp only[dL,Do,GT]at h
    obtain⟨y,hy,z,hz,rfl⟩:=h
    rcases List.mem_append.1 hi with hi|hi
    ·exact ih hy i hi
    ·exact x5 hz i hi
  have MV:∀{cs:List U}{x},ig (pk L n) cs=some x->∀i∈x.2,∃rows,L i=some (some rows):=fun h i hi=>by
   unfold ig at h
   split at h
   ·simp only[AC]at h;subst h;cases hi
   ·exact J3 h i hi
  have foldr:∀{cs:Rows}{x},dP (ig (pk L n)) cs=some x->∀i∈x.2,∃rows,L i=some (some rows):=fun{cs}=>by
   induction cs with
   |nil=>intro x h i hi;simp[dP]at h;subst h;cases hi
   |cons c cs x5=>
    intro x h i hi
    simp only[dP,Do,GT]at h
    obtain⟨y,hy,z,hz,rfl⟩:=h
    rcases List.mem_append.1 hi with hi|hi
    ·exact MV hy i hi
    ·exact x5 hz i hi
  have ajK:∀{cs:Rows}{x},mm (pk L n) cs=some x->∀i∈x.2,∃rows,L i=some (some rows):=fun h i hi=>by
   unfold mm at h
   split at h
   ·simp only[AC]at h;subst h;cases hi
   ·exact foldr h i hi
  intro a x h i hi
  unfold pk at h
  repeat'(first
   |(simp only[reduceCtorEq]at h;done)
   |(simp only[AC]at h;subst h;first|(simp only[H2]at hi;subst hi;exact⟨_,by assumption⟩)|(cases hi;done))
   |(simp only[GT]at h;obtain⟨y,hy,rfl⟩:=h;first|exact MV hy i hi|(rcases List.mem_cons.1 hi with rfl|hi;exact⟨_,by assumption⟩;first|exact ajK hy i hi|exact MV hy i hi))
   |split at h)
theorem TG{L:Id->Option (Option Rows)}{l:List (Id×Id)}:∀{r:List (Id×Id)}{x},iN L l r=some x->∀i∈x.2,∃rows,L i=some (some rows)
 |[],x,h,i,hi=>by simp only[iN,AC]at h;subst h;cases hi
 |(o,k)::r,x,h,i,hi=>by
  simp only[iN]at h
  split at h
  ·simp only[Do,GT]at h
   obtain⟨y,hy,aY,_,z,hz,rfl⟩:=h
   have aaI:∀{a:U}{x},gC L (ua l) a=some x->∀i∈x.2,∃rows,L i=some (some rows):=fun h i hi=>by
    unfold gC at h
    repeat'(first
     |(simp only[reduceCtorEq]at h;done)
     |(simp only[AC]at h;subst h;cases hi)
     |exact aaz _ h i hi
     |split at h)
   have J3:∀{cs:List U}{x},dL (gC L (ua l)) cs=some x->∀i∈x.2,∃rows,L i=some (some rows):=fun{cs}=>by
    induction cs with
    |nil=>intro x h i hi;simp[dL]at h;subst h;cases hi
    |cons c cs x5=>
     intro x h i hi
     simp only[dL,Do,GT]at h
     obtain⟨y,hy,z,hz,rfl⟩:=h
     rcases List.mem_append.1 hi with hi|hi
     ·exact aaI hy i hi
     ·exact x5 hz i hi
   have aaW:∀{cs:List U}{x},lR L (ua l) cs=some x->∀i∈x.2,∃rows,L i=some (some rows):=fun h i hi=>by
    unfold lR at h
    split at h
    ·simp only[AC]at h;subst h;cases hi
    ·exact J3 h i hi
   have foldr:∀{cs:Rows}{x},dP (lR L (ua l)) cs=some x->∀i∈x.2,∃rows,L i=some (some rows):=fun{cs}=>by
    induction cs with
    |nil=>intro x h i hi;simp[dP]at h;subst h;cases hi
    |cons c cs x5=>
     intro x h i hi
     simp only[dP,Do,GT]at h
     obtain⟨y,hy,z,hz,rfl⟩:=h
     rcases List.mem_append.1 hi with hi|hi
     ·exact aaW hy i hi
     ·exact x5 hz i hi
   rcases List.mem_append.1 hi with hi|hi
   ·unfold n5 at hy
    split at hy
    ·simp only[AC]at hy;subst hy;cases hi
    ·exact foldr hy i hi
   ·exact TG hz i hi
  ·cases h
theorem Gn{call:FuncId->List U->Option (U×List U)}{L:Id->Option (Option Rows)}{k:FuncId}{args:List U}{x:zg}(h:r5 call L k args=some x):∃obs outs,iN L x.l x.l=some (obs,x.gone)∧call k (.aU obs::args.map (fo x.l))=some (x.r,outs)∧iX (x.l.map fun x=>(x.2,x.1)) x.l outs=some x.back∧(x.l.map (·.1)).Nodup∧(x.l.map (·.2)).Nodup∧(∀y∈x.l,j3 y.2=true)∧x.gone.Nodup∧(∀i∈x.gone,i∉x.l.map (·.1)):=by unfold r5 CO at h;split at h;·{rename_i obs gone ho;split at h;·{rename_i hc;simp only[Hc,List.all_eq_true]at hc;obtain⟨⟨⟨⟨c1,c2⟩,c3⟩,mD⟩,n4⟩:=hc;split at h;·{rename_i r outs bU;obtain⟨back,hb,rfl⟩:=Option.map_eq_some_iff.1 h;refine⟨obs,outs,ho,bU,hb,AS c1,AS c2,c3,AS mD,fun i hi hm=> ?_⟩;have:=List.all_eq_true.1 n4 i hi;simp only[Bool.not_eq_true',List.contains_eq_mem,decide_eq_false_iff_not]at this;exact this hm};·cases h};·cases h};·cases h
theorem Vl{l:List (Id×Id)}:(l.map fun x=>(x.2,x.1)).map (·.2)=l.map (·.1):=by simp[Function.comp_def]
def IK(E:Env)(w:World)(β:Id->Option Loc)(F:Id->List Nat)(x:zg)(e:Ending)(w':World):Prop:=∃(G G':Id->List Nat)(fr:List Nat)(I':Nat->Prop),(∀k b,b∈G k->∃i,(i∈x.l.map (·.1)∨i∈x.gone)∧b∈F i)∧(Kept w w' fun b=>∃k,b∈G k)∧BN w' I' (fun i=>(fW x.l i).bind β) fr e x.r∧(∀k,(G' k).Nodup)∧(∀i j b,b∈G' i->b∈G' j->i=j)∧fr.Nodup∧(∀k b,b∈G' k->b∉fr)∧(∀b,(b∈fr∨∃k,b∈G' k)->b<w'.heap.size∧((∃k,b∈G k)∨w.heap.size<=b))∧(∀b,I' b->(aB E w F b∨(∃k,b∈G k)∨w.heap.size<=b)∧b<w'.heap.size∧b∉fr∧∀k,b∉G' k)∧(∀y∈x.back,∀aY,y.2=some aY->∃k,(y.1,k)∈x.l∧dJ w' I' β y.1 aY (G' k))
theorem aiz(h:aG C E w S a β F){k:FuncId}{call:FuncId->List U->Option (U×List U)}(dU:∀k as r,call k as=some r->Sound C k as r)(KS:C.gT k=true){args:List U}{vs:List Value}(ha:av w (aB E w F) β [] vs args){x:zg}(hx:r5 call S.h k args=some x):Og C.P k ⟨vs⟩ w (IK E w β F x):=by obtain⟨obs,outs,ho,bU,hb,nD,nE,hK,Hy,dg⟩:=Gn hx;obtain⟨hl,G,e1,e2,hpre,qZ⟩:=adk h ha ho nD nE Hy dg;have hs:=(dU _ _ _ bU).2 KS _ _ hl rfl e1 (by rw[e2];exact nE) (fun y hy=>by have:y.1∈x.l.map (·.2):=by{rw[<-e2];exact List.mem_map.2 ⟨y,hy,rfl⟩};obtain⟨z,hz,e⟩:=List.mem_map.1 this;rw[<-e];exact hK z hz) w _ _ G vs hpre;have EI:∀e w',IX w (aB E w F) (fun i=>(fW x.l i).bind β) G (x.r,outs) e w'->IK E w β F x e w':=fun e w' hr=>by{obtain⟨I',G',fr,q1,bS,_,fK,gM,Eg,HY,HZ,yD⟩:=hr.ex;refine⟨G,G',fr,I',qZ,hr.kept,q1,fK,gM,Eg,HY,HZ,yD,fun y hy aY e=> ?_⟩;obtain⟨k',rows,m1,m2,m3⟩:=(wV hb).2 y hy aY e;have Hx:((x.l.map fun x=>(x.2,x.1)).map (·.2)).Nodup:=by{rw[Vl];exact nD};have hm:fW (x.l.map fun x=>(x.2,x.1)) y.1=some k':=o7 Hx (List.mem_map.2 ⟨_,m1,rfl⟩);have:=(bS k' rows m2).mX hm (UM Hx m3);refine⟨k',m1,this.mono (fun _ h=>h) (fun _ _=>rfl) fun i lo hlo=> ?_⟩;simp only[Option.bind_eq_some_iff]at hlo;obtain⟨j,hj,i',hi',hlo⟩:=hlo;obtain⟨z,hz,e⟩:=List.mem_map.1 (qt hj);simp only[Prod.mk.injEq]at e;have:=o7 nE hz;rw[e.1,hi']at this;simp only[Option.some.injEq]at this;rw[this,e.2]at hlo;exact hlo};rcases hs with⟨fn,c,k1,k2,cO⟩|⟨v,w',k1,k2⟩;·{exact .inl ⟨fn,c,k1,k2,cO.mono EI⟩};·exact .inr ⟨v,w',k1,EI _ _ k2⟩
theorem alf{l:List (Id×Id)}(nD:(l.map (·.1)).Nodup)(nE:(l.map (·.2)).Nodup){i:Id}{lo:Loc}(h:((fW (l.map fun x=>(x.2,x.1)) i).bind fun i=>(fW l i).bind β)=some lo):β i=some lo:=by simp only[Do]at h;obtain⟨j,hj,i',hi',hlo⟩:=h;obtain⟨z,hz,e⟩:=List.mem_map.1 (qt hj);simp only[GE]at e;have:=o7 nE hz;rw[e.1,hi']at this;simp only[AC]at this;rw[this,e.2]at hlo;exact hlo
theorem abW{P:Program}{o:Oper}{c:Call}{aI:Operand}(ho:o.op= .call c)(hc:c.callee= .value aI){k:FuncId}{hJ iG:List Value}(l8:a.eval aI= .func (.func k) ⟨hJ⟩ ⟨iG⟩):(execOp a.eval o).run P w=(callFunc k ⟨hJ++c.args.toList.map a.eval++iG⟩).run P w:=by have e2:((⟨hJ⟩:Array Value)++c.args.map a.eval++⟨iG⟩:Array Value)=⟨hJ++c.args.toList.map a.eval++iG⟩:=by{apply Array.ext';simp};have bF:resolve a.eval c o.type=(pure {target:= .fn (.func k) ⟨iG⟩,args:=⟨hJ⟩++c.args.map a.eval}:Sem Deferred):=by{simp[resolve,hc,l8,Deferred.ofValue]};have fh:execOp a.eval o=(do let d<-resolve a.eval c o.type;invoke d.target d.args:Sem Next):=by{simp[execOp,ho]};rw[fh,bF,Sem.run_bind,Sem.run_pure,Result.andThen_ok];simp only[invoke,e2]
theorem ado{x:U}{y:FuncId×List U×List U}(h:oa C x=some y):x= .fn (.func y.1) y.2.1 y.2.2∧C.gT y.1=true:=by unfold oa at h;split at h;·{split at h;·{rename_i hg;simp only[AC]at h;subst h;exact⟨rfl,hg⟩};·cases h};·cases h
theorem akQ{L:Id->Option (Option Rows)}{b:Id×Option Rows}(h:yL L b=true):L b.1=some b.2:=by obtain⟨i,v⟩:=b;unfold yL at h;split at h;·{rename_i h1 h2;simp only[Hc,beq_iff_eq]at h;obtain⟨⟨rfl,rfl⟩,rfl⟩:=h;simp only at h1 h2;rw[h1,h2]};·cases h
theorem Vw{h0 h:Id->Option (Option Rows)}:∀{back:List (Id×Option Rows)},(∀b∈back,h b.1=h0 b.1)->(back.map (·.1)).Nodup->aZ h (kr h0 back)=aZ h back|[],_,_=>rfl|(i,v)::back,ha,nd=>by have ih:=Vw (h0:=h0) (h:=h) (back:=back) (fun b hb=>ha b (Ha _ hb)) (List.nodup_cons.1 nd).2;unfold kr at ih|-;simp only[List.filter_cons];split;·{simp only[aZ,ih]};·rename_i hs;rw[ih];have hs:yL h0 (i,v)=true:=by{simpa using hs};funext j;simp only[aZ,aj];split;·{rename_i e;subst e;rcases gk h back j with⟨x,hx,e1,_⟩|⟨_,e2⟩;·{exact absurd (List.mem_map.2 ⟨x,hx,e1⟩) (List.nodup_cons.1 nd).1};·rw[e2,ha (j,v) (Hb ..)];exact akQ hs};·rfl
theorem aiq(hN:qJ C.P)(h:aG C E w S a β F){o:Oper}{c:Call}{aI:Operand}(ho:o.op= .call c)(hc:c.callee= .value aI){f:FuncId}{call:FuncId->List U->Option (U×List U)}(dU:∀k as r,call k as=some r->Sound C k as r){y:FuncId×List U×List U}(dR:oa C (un true (S.get C aI))=some y){e:bh}(he:qO C f call S o y.1 (y.2.1++(c.args.toList.map fun x=>un true (S.get C x))++y.2.2)=some e)(hd:cC S e)(hn:∀a' w',br C E (S.app e) a' w'->next a' w'):o.wp C.P a w next Q:=by obtain⟨hfn,KS⟩:=ado dR;have hfo:=h.dQ aI;rw[hfn]at hfo;obtain⟨_,hJ,iG,l8,h1,h2⟩:=hfo.p8;have hargs:=av.ofMap h c.args.toList;have hall:av w (aB E w F) β [] (hJ++c.args.toList.map a.eval++iG) (y.2.1++(c.args.toList.map fun x=>un true (S.get C x))++y.2.2):=(h1.append hargs).append h2;unfold qO at he;simp only[Do]at he;obtain⟨x,hx,he⟩:=he;split at he;·{cases he};·rename_i hnp;have hnp:AI x.r=false:=by{simpa using hnp};generalize tR:(if eX C f o.dst=true then(if flat x.r=true then dF x.r else .bf)else x.r)=rr at he;split at he;·{rename_i hf;simp only[AC]at he;subst he;have tM:=aiz h dU KS hall hx;obtain⟨obs,outs,GU,_,hb,nD,nE,_,Hy,dg⟩:=Gn hx;have hb0:=hb;have Hx:((x.l.map fun x=>(x.2,x.1)).map (·.2)).Nodup:=by{rw[Vl];exact nD};have EI:∀e' w',IK E w β F x e' w'->∃v,e'= .returned v∧next (a.put o.dst v) w':=fun e' w'⟨G,G',fr,I',q1,bS,cA,fK,gM,Eg,HY,HZ,yD,aj0⟩=>by{obtain⟨v,rfl,hv⟩:=cA.val hnp;refine⟨v,rfl,hn _ _ ?_⟩;obtain⟨pO,z1,p1,p2,p3,nJ⟩:∃(pO:Nat->Prop)(z1:List Nat),R w' pO (fun i=>(fW x.l i).bind β) z1 v rr∧(z1.Nodup∧∀b∈z1,b∈fr)∧(∀b,I' b->pO b)∧(∀b,pO b->(aB E w F b∨(∃k,b∈G k)∨w.heap.size<=b)∧b<w'.heap.size∧b∉z1∧∀k,b∉G' k):=by{by_cases hz:eX C f o.dst=true;·{rw[if_pos hz]at tR;by_cases hfl:flat x.r=true;·{rw[if_pos hfl]at tR;subst tR;refine⟨fun b=>I' b∨b∈fr,[],((hv.ld hfl bL).dF (fun _ h=> .inl h) (fun _ h=> .inr h)).up,⟨List.nodup_nil,fun b hb=>by cases hb⟩,fun _ h=> .inl h,fun b hb=> ?_⟩;rcases hb with hb|hb;·{obtain⟨k1,k2,_,gb⟩:=yD b hb;exact⟨k1,k2,by simp,gb⟩};·obtain⟨k1,k2⟩:=HZ b (.inl hb);exact⟨k2.elim (fun h=> .inr (.inl h)) (fun h=> .inr (.inr h)),k1,by simp,fun k hk=>HY k b hk hb⟩};·rw[if_neg hfl]at tR;subst tR;exact⟨I',[], .bf,⟨List.nodup_nil,fun b hb=>by cases hb⟩,fun _ h=>h,fun b hb=>⟨(yD b hb).1,(yD b hb).2.1,by simp,(yD b hb).2.2.2⟩⟩};·rw[if_neg hz]at tR;subst tR;exact⟨I',fr,hv,⟨Eg,fun _ h=>h⟩,fun _ h=>h,yD⟩};obtain⟨f2,vj,hr2⟩:=p1.akl (M6 Hx rr);have GL:f2.Nodup∧∀b∈f2,b∈z1:=by{rcases vj with rfl|rfl;·{exact⟨p2.1,fun _ h=>h⟩};·exact⟨List.nodup_nil,fun b hb=>by cases hb⟩};have afn:R w' pO β f2 v (fo (x.l.map fun x=>(x.2,x.1)) rr):=hr2.mono (fun _ h=>h) (fun _ _=>rfl) fun i lo hlo=>alf nD nE hlo;have nw:=Gk hf;obtain⟨β',rN,a1,a2,a3,a4,a5,a6,a7⟩:=Dz (ja o) afn GL.1 (fun z hz=>h.dom _ (nw z hz));have xQ:=h.DX hd;have:=h.adp (a':=a.put o.dst v) (t':=cT S.t (put o (imp (ja o) (fo (x.l.map fun x=>(x.2,x.1)) rr)).1 (x.l.map (·.1)) []).dA) nD nE dg (TE GU) (TG GU) q1 bS fK gM (fun k b hb hm=>HY k b hb (p2.2 b (GL.2 b hm))) (fun b hb=>HZ b (hb.imp (fun hb=>p2.2 b (GL.2 b hb)) id)) (fun b hb=>⟨(nJ b hb).1,(nJ b hb).2.1,fun hm=>(nJ b hb).2.2.1 (GL.2 b hm),(nJ b hb).2.2.2⟩) (wV hb).1 (fun z hz aY e=>(aj0 z hz aY e).imp fun k hk=>⟨hk.1,hk.2.mono p3 (fun _ _=>rfl) (fun _ _ h=>h)⟩) a1 a2 a4 a5 a6 nw (fun z hz=>by obtain⟨q,e⟩:=a7 z hz;rw[e];exact xQ q) (by rw[uv];exact h.n) (put_defers ..) (fun F' hI xB t=> ?_);·{have e:aZ S.h ((imp (ja o) (fo (x.l.map fun x=>(x.2,x.1)) rr)).2++(kr S.h x.back++x.gone.map fun i=>(i,none)))=aZ S.h ((imp (ja o) (fo (x.l.map fun x=>(x.2,x.1)) rr)).2++(x.back++x.gone.map fun i=>(i,none))):=by{have g1:∀b∈x.back,aZ S.h (x.gone.map fun i=>(i,none)) b.1=S.h b.1:=fun b hb=>by{have hb':b.1∈x.l.map (·.1):=by{rw[<-(wV hb0).1];exact List.mem_map.2 ⟨b,hb,rfl⟩};rcases gk S.h (x.gone.map fun i=>(i,none)) b.1 with⟨y,hy,e1,_⟩|⟨_,e2⟩;·{obtain⟨j,hj,rfl⟩:=List.mem_map.1 hy;have e1:j=b.1:=e1;exact absurd hb' (e1▸dg j hj)};·exact e2};have g2:(x.back.map (·.1)).Nodup:=by{rw[(wV hb0).1];exact nD};rw[y4,y4,y4,y4,Vw g1 g2]};have e2:S.app (put o (imp (ja o) (fo (x.l.map fun x=>(x.2,x.1)) rr)).1 (x.l.map (·.1)) ((imp (ja o) (fo (x.l.map fun x=>(x.2,x.1)) rr)).2++(kr S.h x.back++x.gone.map fun i=>(i,none))))=⟨S.n,cT S.t (put o (imp (ja o) (fo (x.l.map fun x=>(x.2,x.1)) rr)).1 (x.l.map (·.1)) []).dA,aZ S.h ((imp (ja o) (fo (x.l.map fun x=>(x.2,x.1)) rr)).2++(x.back++x.gone.map fun i=>(i,none)))⟩:=by{rw[<-e];rfl};rw[e2];exact this};·cases bw:o.dst with|none=>(refine .inl ⟨by simp[Act.put], ?_⟩;simp[put,bw,cT])|some d=>have hd':d<a.tmps.size:=by{rw[h.n];simpa[cC,put,bw]using hd};rw[uu a d t v hd'];by_cases ht:t=d;·{subst ht;rw[if_pos rfl];refine .inr ?_;have:=a3.mono (w':=w') xB (fun _ _=>rfl) (fun _ _ h=>h);simpa[put,bw,cT,aj]using this};·rw[if_neg ht];refine .inl ⟨rfl, ?_⟩;simp[put,bw,cT,aj,ht]};unfold Oper.wp;rw[abW ho hc l8];rcases tM with⟨fn,code,k1,k2,cO⟩|⟨v,w',k1,k2⟩;·{rw[v7 hN k1 k2];simp only[Oper.upon];refine cO.mono fun e' w' hh=> ?_;obtain⟨v,rfl,hr⟩:=EI e' w' hh;exact hr};·rw[k1];obtain⟨v',e,hr⟩:=EI _ w' k2;simp only[Ending.returned.injEq]at e;subst e;exact hr};·cases he
end
end Go.Ab
