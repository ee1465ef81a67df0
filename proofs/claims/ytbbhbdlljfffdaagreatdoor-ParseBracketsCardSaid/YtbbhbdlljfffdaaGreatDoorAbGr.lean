import Derived.Test.YtbbhbdlljfffdaaGreatDoorAbTake
import Derived.Test.YtbbhbdlljfffdaaGreatDoorAbWeak
open Array renaming toList_modify->H1
open Bool renaming and_eq_true->Hc
open List renaming mem_cons_of_mem->Ha,mem_cons_self->Hb,map_cons->Hd,mem_append_left->Hk,nodup_nil->Hm,mem_append_right->Hn,mem_singleton->H2,flatMap_cons->H3
open Option renaming bind_eq_some_iff->Do,map_eq_some_iff->GT,isNone_iff_eq_none->H0
open Option.some renaming injEq->AC
open Prod.mk renaming injEq->GE
set_option linter.all false
namespace Go.Ab
open Go
def mU(e:MapEntry):List U:=[.val e.key, .val e.val]
section
variable{P:Program}{w:World}{kt et t:TypeId}{kind:TypeDesc}{kv pZ z:Value}
theorem run_checkKey{b:Bool}(hk:P.underlying kt=some kind)(hs:PU kind=true):(Instr.checkKey b 10000 kt kv).run P w= .ok () w:=by show(Instr.checkKey b (9999+1) kt kv).run P w=_;unfold Instr.checkKey;rw[Sem.run_bind,fE (C:={P:=P,eA:=fun _=>none,ext:=fun _=>none,cM:=fun _=>[],fX:=fun _=>[],live:=fun _ _=>[],fQ:=fun _ _=>[]}) hk,Result.andThen_ok];cases kind<;>first|(cases hs;done)|rfl
theorem S4:∀{es:List MapEntry}{r:Option Value}(i:Nat),tW kind kv (es.map mU)=some r->∃j,Instr.findNow kind kv es i=some (r.map fun v=>(j,v))|[],r,i,h=>by{simp only[List.map_nil,tW,AC]at h;subst h;exact⟨0,rfl⟩}|e::es,r,i,h=>by simp only[Hd,mU,tW]at h;unfold Instr.findNow;split at h;·{rename_i hs;simp only[AC]at h;subst h;exact⟨i,by rw[hs];rfl⟩};·{rename_i hs;obtain⟨j,hj⟩:=S4 (i+1) h;exact⟨j,by rw[hs];exact hj⟩};·cases h
theorem abJ:∀{a b:ByteArray},(a==b)=true->a=b|⟨x⟩,⟨y⟩,h=>by have h':(x==y)=true:=h;rw[eq_of_beq h']
theorem abK(a:ByteArray):(a==a)=true:=by cases a with|mk x=>show(x==x)=true;simp
theorem W9{b:Nat}{es:Array MapEntry}{clock:Nat}(hb:w.heap[b]? =some (.map es clock)):(getObj b).run P w= .ok (.map es clock) w:=by simp[getObj,Sem.run,hb]
theorem Xd{b:Nat}{es:Array MapEntry}{clock:Nat}(o:Obj)(hb:w.heap[b]? =some (.map es clock)):(setObj b o).run P w= .ok () (jd w b o):=by simp[setObj,Sem.run,hb,jd]
theorem anF{k e:Value}(h:Instr.sameNow kind k e=some true):Instr.sameBits 10000 e k=true:=by unfold Instr.sameNow at h;split at h;·{split at h;·{rename_i a k' b hk;simp only[AC]at h;show(_&&_)=true;have:=eq_of_beq h;subst hk this;simp};·cases h};·{simp only[AC]at h;have:=abJ h;subst this;exact abK _};·{simp only[AC]at h;have:=eq_of_beq h;subst this;show(_==_)=true;simp};·cases h
theorem Wo:∀{es:List MapEntry}{bA:Rows}(i:Nat),Gt kind kv pZ (es.map mU)=some bA->(∃j v,∃hj:j<es.length,Instr.findNow kind kv es i=some (some (i+j,v))∧Instr.sameNow kind kv es[j].key=some true∧bA=(es.modify j fun e=>{e with key:=kv,val:=pZ}).map mU)∨(Instr.findNow kind kv es i=some none∧bA=es.map mU++[[.val kv, .val pZ]])|[],bA,i,h=>by{simp only[List.map_nil,Gt,AC]at h;subst h;exact .inr ⟨rfl,rfl⟩}|e::es,bA,i,h=>by simp only[Hd,mU,Gt]at h;unfold Instr.findNow;split at h;·{rename_i hs;simp only[AC]at h;subst h;exact .inl ⟨0,e.val,by simp,by rw[hs];rfl,hs,by simp[mU]⟩};·{rename_i hs;obtain⟨y,hy,rfl⟩:=Option.map_eq_some_iff.1 h;rw[hs];rcases Wo (i+1) hy with⟨j,v,hj,h1,h2,rfl⟩|⟨h1,rfl⟩;·{refine .inl ⟨j+1,v,by simpa using hj, ?_,by simpa using h2,by simp[mU]⟩;rw[show i+(j+1)=i+1+j by omega];exact h1};·exact .inr ⟨h1,by simp[mU]⟩};·cases h
end
section
variable{C:aE}{E:Env}{w:World}{S:ai}{a:Act}{β:Id->Option Loc}{F:Id->List Nat}
variable{next:Act->World->Prop}{Q:Exit->Act->World->Prop}
theorem anH{t:TypeId}{z:Value}(h:PN C t=some z):(∀w:World,(zeroValue t).run C.P w= .ok z w)∧eS z=true:=by unfold PN at h;split at h;·{rename_i v hv;split at h;·{rename_i hs;simp only[AC]at h;subst h;refine⟨fun w=> ?_,hs⟩;simp only[Do]at hv;obtain⟨i,hi,hz⟩:=hv;simp[zeroValue,typeInfo,hi,hz]};·cases h};·cases h
theorem Vi{t:TypeId}{kind:TypeDesc}{z:Value}(h:CD C t=some (kind,z)):∃kt et,C.P.underlying t=some (.map kt et)∧C.P.underlying kt=some kind∧PU kind=true∧(∀w:World,(zeroValue et).run C.P w= .ok z w)∧eS z=true:=by unfold CD at h;split at h;·{rename_i kt et hu;split at h;·{rename_i kind' z' hk hz;split at h;·{rename_i hs;simp only[AC,GE]at h;obtain⟨rfl,rfl⟩:=h;obtain⟨h1,h2⟩:=anH hz;exact⟨kt,et,hu,hk,hs,h1,h2⟩};·cases h};·cases h};·cases h
theorem aft{w:World}{b:Nat}{es es':Array MapEntry}{c c':Nat}(h:w.heap[b]? =some (.map es c))(x:Addr):(jd w b (.map es' c')).frozen? x=w.frozen? x:=by have hb:=lt_of_heap h;unfold World.frozen? ;rw[yE hb];by_cases hx:x.block=b;·{rw[if_pos hx,hx,h]};·rw[if_neg hx]
theorem ak2(h:aJ C E w S a β F){o:Oper}{t:TypeId}{r:Option Operand}(ho:o.op= .makeMap t r){e:aZ}(he:zq C S o t r=some e)(hd:cO S e)(hn:∀a' w',br C E (S.app e) a' w'->next a' w'):o.wp C.P a w next Q:=by unfold zq at he;split at he;·{rename_i d hm bB;split at he;·{rename_i hc;simp only[Hc,H0]at hc;obtain⟨rfl,hf⟩:=hc;simp only[AC]at he;subst he;have hfr:S.h [d]=none:=hf;have hd':d<S.n:=by{simpa[cO,put,bB]using hd};refine mg (v:= .map (some w.heap.size)) (w':=w.alloc (.map #[] 0)) ?_ (hn _ _ ?_);·{simp only[execOp,ho];refine pV ?_;rfl};·have e1:S.app (put o (.mr [d]) [] [([d],some [])])=⟨S.n,au S.t d (.mr [d]),au S.h [d] (some (some []))⟩:=by{simp[ai.app,put,bB,dL,bl]};rw[e1];have hold:∀b,b<w.heap.size->(w.alloc (.map #[] 0)).heap[b]? =w.heap[b]? :=fun b hb=>heap_alloc_old _ _ _ hb;have hnew:(w.alloc (.map #[] 0)).heap[w.heap.size]? =some (.map #[] 0):=heap_alloc_new _ _;refine h.JR bB (kill:=[d]) (l:= .map w.heap.size) (bA:=[]) (G:=[w.heap.size]) hfr (.inl rfl) (by simp[au]) (fun i hi _=>by simp[au,hi]) (fun hk=>absurd rfl hk) (by simp) rfl rfl (fun x=> ?_) (fun b hb _=>hold b hb) (zb hold) (by simp) (fun b hb=> ?_) (fun I' β' _ _ hb=> ?_) (fun I' β' hb=> .mr hb) hd';·{by_cases hx:x.block=w.heap.size;·{have e2:w.heap[x.block]? =none:=by{rw[hx];simp};simp only[World.frozen?,hx,hnew];simp};·rw[World.frozen?_alloc_old _ _ _ hx]};·{obtain rfl:=List.mem_singleton.1 hb;exact .inr ⟨Nat.le_refl _,by simp⟩};·exact .inr (.inl ⟨_,hb,rfl, #[],0,hnew,rfl,fun e he=>by simp at he⟩)};·cases he};·cases he
theorem ajt(h:aJ C E w S a β F){x:U}{v:Value}{rows:Rows}{ids:List Id}(hx:R w (aO E w F) β [] v x)(hr:FY S.h x=some (rows,ids)):(v= .map none∧rows=[])∨∃b,v= .map (some b)∧oY w b rows:=by unfold FY at hr;split at hr;·{rename_i id;split at hr;·{rename_i bA hid;simp only[AC,GE]at hr;obtain⟨rfl,rfl⟩:=hr;obtain⟨_,b,hb,rfl⟩:=hx.F2;rcases h.obj id _ hid with⟨h1,_⟩|⟨b2,h1,_,hm⟩|⟨_,_,_,_,_,_,h1,_⟩;·{rw[h1]at hb;cases hb};·{rw[h1]at hb;cases hb;exact .inr ⟨_,rfl,hm⟩};·rw[h1]at hb;cases hb};·cases hr};·{simp only[AC,GE]at hr;obtain⟨rfl,rfl⟩:=hr;obtain⟨_,b,rfl,_,hm⟩:=hx.aim;exact .inr ⟨b,rfl,hm⟩};·{simp only[AC,GE]at hr;obtain⟨rfl,rfl⟩:=hr;obtain⟨_,rfl⟩:=hx.ia;exact .inl ⟨rfl,rfl⟩};·cases hr
theorem S5{kind:TypeDesc}{kv v:Value}:∀{es:List MapEntry},(∀e∈es,eS e.key=true∧eS e.val=true)->tW kind kv (es.map mU)=some (some v)->eS v=true|[],_,h=>by{simp[tW]at h}|e::es,hs,h=>by simp only[Hd,mU,tW]at h;split at h;·{simp only[AC]at h;subst h;exact(hs e (Hb ..)).2};·{exact S5 (fun e he=>hs e (Ha _ he)) h};·cases h
theorem akZ(h:aJ C E w S a β F){o:Oper}{t:TypeId}{x k:Operand}{ok:Bool}(ho:o.op= .lookup t x k ok){e:aZ}(he:zo C S o t (un true (S.get C x)) (un true (S.get C k)) ok=some e)(hd:cO S e)(hn:∀a' w',br C E (S.app e) a' w'->next a' w'):o.wp C.P a w next Q:=by have hx:=h.eH x;have hk:=h.eH k;generalize un true (S.get C x)=xv at*;generalize un true (S.get C k)=kx at*;have hex:execOp a.eval o=(do pure (Next.value (<-Instr.lookup t (a.eval x) (a.eval k) ok))):=by{simp[execOp,ho]};unfold zo at he;split at he;·{rename_i kind z rows ids kv hm hr;obtain⟨r,hf,rfl⟩:=Option.map_eq_some_iff.1 he;obtain⟨kt,et,hu,hkt,hs,hz,hzs⟩:=Vi hm;obtain⟨_,hkv⟩:=hk.ia;have hK:∀es:Array MapEntry,tW kind kv (es.toList.map mU)=some r->(do Instr.checkKey es.isEmpty 10000 kt (a.eval k)let y<-Instr.findKey kt (a.eval k) es.toList match y with|some (_,v)=>do let x<-pure (v,true)pure (if ok=true then Value.tuple #[x.1,Value.bool x.2]else x.1)|none=>do let z<-zeroValue et let x<-pure (z,false)pure (if ok=true then Value.tuple #[x.1,Value.bool x.2]else x.1):Sem Value).run C.P w= .ok (if ok then .tuple #[r.getD z, .bool r.isSome]else r.getD z) w:=by{intro es hf;obtain⟨j,hj⟩:=S4 0 hf;rw[Sem.run_bind,run_checkKey hkt hs,Result.andThen_ok];have Nb:(Instr.findKey kt (a.eval k) es.toList).run C.P w= .ok (r.map fun v=>(j,v)) w:=by{unfold Instr.findKey;rw[Sem.run_bind,fE hkt,Result.andThen_ok,hkv,hj];rfl};rw[Sem.run_bind,Nb,Result.andThen_ok];cases r with|some v=>(rfl)|none=>simp only[Option.map_none,Option.getD_none,Option.isSome_none];rw[Sem.run_bind,hz w,Result.andThen_ok];rfl};have hrun:(Instr.lookup t (a.eval x) (a.eval k) ok).run C.P w= .ok (if ok then .tuple #[r.getD z, .bool r.isSome]else r.getD z) w∧eS (r.getD z)=true:=by{unfold Instr.lookup;rw[Sem.run_bind,fE hu,Result.andThen_ok];rcases ajt h hx hr with⟨hv,rfl⟩|⟨b,hv,es,clock,hb,rfl,hsc⟩;·{refine⟨?_, ?_⟩;·{rw[hv];exact hK #[] hf};·simp only[tW,Option.some.injEq]at hf;subst hf;exact hzs};·refine⟨?_, ?_⟩;·{rw[hv];simp only;rw[Sem.run_bind,W9 hb,Result.andThen_ok];exact hK es hf};·cases r with|none=>(exact hzs)|some v=>exact S5 hsc hf};obtain⟨hrun,Jv⟩:=hrun;refine gM h hd hex hrun ?_ hn;cases ok with|false=>(exact .val Jv)|true=>exact .aI (.cons (f1:=[]) (f2:=[]) (.val Jv) (.cons (f1:=[]) (f2:=[]) (.val rfl) .nil))};·cases he
theorem VS(h:aJ C E w S a β F){o:Oper}{t:TypeId}{x k v:Operand}(ho:o.op= .mapUpdate t x k v∨o.op= .insert t x k v){e:aZ}
  (he:vp C S o t (un true (S.get C x)) (un true (S.get C k)) (un true (S.get C v))=some e)(hd:cO S e)(hn:∀a' w',br C E (S.app e) a' w'->next a' w'):o.wp C.P a w next Q:=by
 have hx:=h.eH x
 have hk:=h.eH k
 have hv:=h.eH v
 generalize un true (S.get C x)=xv at*
 generalize un true (S.get C k)=kx at*
 generalize un true (S.get C v)=vx at*
 have hex:execOp a.eval o=(do Instr.mapUpdate t (a.eval x) (a.eval k) (a.eval v);pure Next.skip):=by rcases ho with ho|ho<;>simp[execOp,ho]
 unfold vp at he
 split at he
 ·rename_i kind z id kv pZ hm
  split at he
  ·rename_i rows hid
   split at he
   ·rename_i hc
    simp only[Hc,H0]at hc
    obtain⟨⟨Jl,Uv⟩,bB⟩:=hc
    obtain⟨bA,hp,rfl⟩:=Option.map_eq_some_iff.1 he
    obtain⟨kt,et,hu,hkt,hs,_,_⟩:=Vi hm
    obtain⟨_,hkv⟩:=hk.ia
    obtain⟨_,ahY⟩:=hv.ia
    obtain⟨_,b,bL,Ad⟩:=hx.F2
    have Fy:=h.obj id rows hid
    obtain⟨hF,es,clock,hb,rfl,hsc⟩:F id=[b]∧oY w b rows:=by
     rcases Fy with⟨h1,_⟩|⟨b2,h1,h2,hm⟩|⟨_,_,_,_,_,_,h1,_⟩
     ·rw[h1]at bL;cases bL
     ·rw[h1]at bL;cases bL;exact⟨h2,hm⟩
     ·rw[h1]at bL;cases bL
    have pq:=lt_of_heap hb
    have key:∃es':Array MapEntry,∃c':Nat,(Instr.mapUpdate t (a.eval x) (a.eval k) (a.eval v)).run C.P w= .ok () (jd w b (.map es' c'))∧bA=es'.toList.map mU∧∀e∈es'.toList,eS e.key=true∧eS e.val=true:=by
     have pre:∀{r:Option (Nat×Value)},Instr.findNow kind kv es.toList 0=some r->(Instr.mapUpdate t (a.eval x) (a.eval k) (a.eval v)).run C.P w=(match r with
       |some (i,_)=>(do
        let key<-Instr.keyThatStays (((es[i]?).map MapEntry.key).getD kv) kv
        setObj b (.map (es.modify i fun e=>{e with key,val:=pZ}) clock):Sem Unit)
       |none=>setObj b (.map (es.push {key:=kv,val:=pZ,born:=clock}) (clock+1))).run C.P w:=by
      intro r hr
      unfold Instr.mapUpdate
      rw[Sem.run_bind,fE hu,Result.andThen_ok]
      simp only[Ad,hkv,ahY]
      rw[Sem.run_bind,W9 hb,Result.andThen_ok]
      simp only
      rw[Sem.run_bind,run_checkKey hkt hs,Result.andThen_ok,Sem.run_bind]
      have Nb:(Instr.findKey kt kv es.toList).run C.P w= .ok r w:=by
       unfold Instr.findKey
       rw[Sem.run_bind,fE hkt,Result.andThen_ok,hr]
       rfl
      rw[Nb,Result.andThen_ok]
      cases r with
      |none=>rfl
      |some y=>rfl
     rcases Wo (kind:=kind) (kv:=kv) (pZ:=pZ) 0 hp with⟨j,v0,hj,h1,h2,rfl⟩|⟨h1,rfl⟩
     ·have hj':j<es.size:=by simpa using hj
      refine⟨es.modify j fun e=>{e with key:=kv,val:=pZ},clock, ?_,by simp[H1],fun e he=> ?_⟩
      ·rw[pre h1]
       simp only[Nat.zero_add]
       have e1:((es[j]?).map MapEntry.key).getD kv=es.toList[j].key:=by simp[hj']
       rw[e1,Sem.run_bind]
       have e2:(Instr.keyThatStays es.toList[j].key kv).run C.P w= .ok kv w:=by
        unfold Instr.keyThatStays
        rw[if_pos (anF h2)];rfl
       rw[e2,Result.andThen_ok,Xd _ hb]
      ·rw[H1]at he
       obtain⟨i,hi,rfl⟩:=List.getElem_of_mem he
       rw[List.getElem_modify]
       split
       ·exact⟨Jl,Uv⟩
       ·exact hsc _ (List.getElem_mem _)
     ·refine⟨es.push {key:=kv,val:=pZ,born:=clock},clock+1, ?_,by simp[mU],fun e he=> ?_⟩
      ·rw[pre h1]
       simp only
       rw[Xd _ hb]
      ·simp only[Array.toList_push,List.mem_append,H2]at he
       rcases he with he|rfl
       ·exact hsc e he
       ·exact⟨Jl,Uv⟩
    obtain⟨es',c',hrun,rfl,ahJ⟩:=key
    have nO:∀k,(jd w b (.map es' c')).heap[k]? =if k=b then some (.map es' c')else w.heap[k]? :=yE pq
    refine Qg (w':=jd w b (.map es' c')) (by rw[hex];exact Kv hrun) (hn _ _ ⟨β,F, ?_⟩)
    have e1:S.app (put o .aU [id] [(id,some (es'.toList.map mU))])=⟨S.n,S.t,au S.h id (some (some (es'.toList.map mU)))⟩:=by simp[ai.app,put,bB,dL,bl]
    have e2:a.put o.dst undef=a:=by rw[bB];rfl
    rw[e1,e2]
    refine h.step (hok:=fun k r2 hk hr2=>by
     by_cases e:k=id
     ·subst e;exact⟨_,by assumption⟩
     ·exact⟨r2,by simpa[au,e]using hr2⟩) (·=id) h.n (by simp[jd]) rfl rfl (fun x=>aft hb x) (fun bb _ gw=> ?_) (fun _ _ h=>h) (fun i bb gw=> .inl ⟨i,gw⟩) (fun i hi=>⟨rfl,by simp[au,hi]⟩) (fun hI i hi fN hr2=> ?_) (fun i hi hno=> ?_) (fun i _=>h.nd i) (fun i j bb _ h1 h2=>h.ew i j bb h1 h2) (fun i hi=> ?_) (fun _ t=> .inl ⟨rfl,rfl⟩) (hdf:=rfl) (gx:= ?_)
    ·rw[nO,if_neg]
     intro e;subst e
     exact gw id rfl (by rw[hF];exact List.mem_singleton.2 rfl)
    ·subst hi
     simp only[au,if_true,AC]at hr2
     subst hr2
     exact .inr (.inl ⟨b,bL,hF,es',c',by rw[nO,if_pos rfl],rfl,ahJ⟩)
    ·subst hi
     exact absurd (by simp[au]) (hno (es'.toList.map mU))
    ·refine h.dom i ?_
     by_cases Ua:i=id
     ·subst Ua;simp[au]at hi
     ·simpa[au,Ua]using hi
    ·intro bb n hB
     obtain⟨c2,e2,jx,hn2⟩:=hB
     refine⟨c2,e2, ?_,hn2⟩
     rw[nO,if_neg]
     ·exact jx
     ·intro e;subst e;rw[hb]at jx;cases jx
   ·cases he
  ·cases he
 ·cases he
end
open Go
theorem IV{g:Id->List Nat}:∀{l:List Id},(l.flatMap g).Nodup->∀{i j:Id}{b:Nat},i∈l->j∈l->b∈g i->b∈g j->i=j|[],_,i,_,_,h,_,_,_=>by{cases h}|x::l,hn,i,j,b,hi,hj,hb,hb'=>by simp only[H3]at hn;obtain⟨_,h2,h3⟩:=List.nodup_append.1 hn;rcases List.mem_cons.1 hi with IJ|hi2<;>rcases List.mem_cons.1 hj with ej|hj2;·{rw[IJ,ej]};·{exact absurd rfl (h3 b (IJ▸hb) b (List.mem_flatMap.2 ⟨j,hj2,hb'⟩))};·{exact absurd rfl (h3 b (ej▸hb') b (List.mem_flatMap.2 ⟨i,hi2,hb⟩))};·exact IV h2 hi2 hj2 hb hb'
theorem Ma{g:Id->List Nat}{l:List Id}(hn:(l.flatMap g).Nodup){i:Id}(hi:i∈l):(g i).Nodup:=by induction l with|nil=>(cases hi)|cons x l ih=>simp only[H3]at hn;rcases List.mem_cons.1 hi with rfl|hi;·{exact(List.nodup_append.1 hn).1};·exact ih (List.nodup_append.1 hn).2.1 hi
theorem ajJ{l:List (Id×Id)}(hn:(l.map (·.2)).Nodup){k:Id}(h:k∈l.map (·.2)):∃o,gK l k=some o:=by obtain⟨x,hx,rfl⟩:=List.mem_map.1 h;exact⟨x.1,qu hn hx⟩
theorem WT{l:List (Id×Id)}(hn:(l.map (·.2)).Nodup){rows bA:Rows}(h:oa l rows=some bA):lK (gK l) bA rows:=by unfold oa at h;split at h;·{rename_i hf;simp only[AC]at h;subst h;exact .of_flat hf};·exact Pv hn h
section
variable{C:aE}{E:Env}{w:World}{S:ai}{a:Act}{β:Id->Option Loc}{F:Id->List Nat}
variable{next:Act->World->Prop}{Q:Exit->Act->World->Prop}
theorem VN(h:aJ C E w S a β F){l:List (Id×Id)}(hn:(l.map (·.2)).Nodup)(Jl:(l.map (·.1)).Nodup):∀{r:List (Id×Id)}{obs gone},jm S.h l r=some (obs,gone)->(∀x∈r,x∈l)->(r.map (·.1)).Nodup->∃hl,x5 obs=some hl∧hl.map (·.1)=r.map (·.2)∧∃(g:Id->List Nat)(rest:List Nat),(∀o k,(o,k)∈r->∀rows,(k,rows)∈hl->eu w (aO E w F) (fun i=>(gK l i).bind β) k rows (g o))∧((r.map (·.1)).flatMap g++rest).Perm ((r.map (·.1)).flatMap F++gone.flatMap F)|[],obs,gone,ho,_,_=>by{simp only[jm,AC,GE]at ho;obtain⟨rfl,rfl⟩:=ho;exact⟨[],rfl,rfl,fun _=>[],[],(fun _ _ h=>by cases h),by simp⟩}|(o,k)::r,obs,gone,ho,hl,hr=>by simp only[jm]at ho;split at ho;·{rename_i rows hrows;simp only[Do,GT,GE]at ho;obtain⟨x,hx,bA,ahG,⟨Az,gone'⟩,hy,rfl,rfl⟩:=ho;obtain⟨hl',e1,e2,g,rest,g1,g2⟩:=VN h hn Jl hy (fun x hx=>hl x (Ha _ hx)) (List.nodup_cons.1 hr).2;have hkeep:∀i lo,vU l i=true->β i=some lo->β i=some lo:=fun _ _ _ h=>h;obtain⟨go,ro,k1,k2⟩:=(h.obj o rows hrows).closed h.obj hkeep hx (fun _ h=>h);have hm:gK l k=some o:=qu hn (hl (o,k) (Hb ..));have dB:=k1.n9 hm (WT hn ahG);have hno:o∉r.map (·.1):=(List.nodup_cons.1 hr).1;refine⟨(k,bA)::hl',by simp[x5,e1],by simp[e2],fun i=>if i=o then go else g i,ro++rest, ?_, ?_⟩;·{intro o2 k' hm2 fN Uf;rcases List.mem_cons.1 hm2 with p2|cq;·{simp only[GE]at p2;obtain⟨rfl,rfl⟩:=p2;rcases List.mem_cons.1 Uf with p3|dO;·{simp only[GE,true_and]at p3;subst p3;simpa using dB};·exfalso;have:k'∈r.map (·.2):=by{rw[<-e2];exact List.mem_map.2 ⟨_,dO,rfl⟩};obtain⟨⟨VC,N4⟩,h3,bY⟩:=List.mem_map.1 this;have h4:=qu hn (hl _ (List.mem_cons_of_mem _ h3));have Ey:N4=k':=bY;rw[Ey,hm]at h4;simp only[Option.some.injEq]at h4;exact hno (h4▸List.mem_map.2 ⟨_,h3,rfl⟩)};·have hne:o2≠o:=fun e=>hno (e▸List.mem_map.2 ⟨_,cq,rfl⟩);simp only[if_neg hne];rcases List.mem_cons.1 Uf with p3|dO;·{exfalso;simp only[GE]at p3;have h4:=qu hn (hl _ (Ha _ cq));rw[p3.1,hm]at h4;simp only[AC]at h4;exact hne h4.symm};·exact g1 o2 k' cq fN dO};·have e:(r.map (·.1)).flatMap (fun i=>if i=o then go else g i)=(r.map (·.1)).flatMap g:=by{rw[List.flatMap_def,List.flatMap_def];congr 1;refine List.map_congr_left fun i hi=> ?_;have:i≠o:=fun e=>hno (e▸hi);simp[this]};simp only[List.map_cons,List.flatMap_cons,if_true,e,List.flatMap_append];have:=uA k2 g2;rw[List.perm_iff_count]at this|-;intro z;have:=this z;simp only[List.count_append]at this|-;omega};·cases ho
theorem afP(h:aJ C E w S a β F){l:List (Id×Id)}{obs:List U}{gone:List Id}{args:List U}{vs:List Value}(ha:ay w (aO E w F) β [] vs args)(ho:jm S.h l l=some (obs,gone))(mF:(l.map (·.1)).Nodup)(nk:(l.map (·.2)).Nodup)(F4:gone.Nodup)(dg:∀i∈gone,i∉l.map (·.1)):∃hl G,x5 obs=some hl∧hl.map (·.1)=l.map (·.2)∧HI C w (aO E w F) (fun i=>(gK l i).bind β) G hl vs (args.map (fD l))∧(∀k b,b∈G k->∃i,(i∈l.map (·.1)∨i∈gone)∧b∈F i):=by obtain⟨hl,e1,e2,g,rest,g1,g2⟩:=VN h nk mF ho (fun _ h=>h) mF;have hall:((l.map (·.1))++gone).Nodup:=List.nodup_append.2 ⟨mF,F4,fun x hx y hy e=>dg y hy (e▸hx)⟩;have hnd:((l.map (·.1)).flatMap g).Nodup:=by{have h1:=h.Mb hall;rw[List.flatMap_append]at h1;exact(List.nodup_append.1 (g2.nodup_iff.2 h1)).1};have hmem:∀i b,i∈l.map (·.1)->b∈g i->∃j,(j∈l.map (·.1)∨j∈gone)∧b∈F j:=fun i b hi hb=>by{have h1:b∈(l.map (·.1)).flatMap F++gone.flatMap F:=g2.mem_iff.1 (Hk _ (List.mem_flatMap.2 ⟨i,hi,hb⟩));rcases List.mem_append.1 h1 with h1|h1;·{obtain⟨j,hj,hb⟩:=List.mem_flatMap.1 h1;exact⟨j, .inl hj,hb⟩};·obtain⟨j,hj,hb⟩:=List.mem_flatMap.1 h1;exact⟨j, .inr hj,hb⟩};let G:Id->List Nat:=fun k=>match gK l k with|some o=>g o|none=>[];have dZ:∀k b,b∈G k->∃o,gK l k=some o∧o∈l.map (·.1)∧b∈g o:=fun k b hb=>by{simp only[G]at hb;cases ho:gK l k with|none=>(rw[ho]at hb;cases hb)|some o=>rw[ho]at hb;exact⟨o,rfl,List.mem_map.2 ⟨_,rC ho,rfl⟩,hb⟩};have agq:∀b,aO E w F b->∀k,b∉G k:=fun b hb k hk=>by{obtain⟨o,_,h2,h3⟩:=dZ k b hk;obtain⟨j,_,h4⟩:=hmem o b h2 h3;exact hb.2.2 j h4};refine⟨hl,G,e1,e2,{args:= ?_,obj:= ?_,out:= ?_,nd:= ?_,ew:= ?_,lt:= ?_,i0:=fun b hb=>⟨hb.2.1,agq b hb⟩,eA:=fun g cs hg=>(h.eA g cs hg).ri rfl fun _ h=>h}, ?_⟩;·{have go:∀{as:List U}{vs:List Value},ay w (aO E w F) β [] vs as->ay w (aO E w F) (fun i=>(gK l i).bind β) [] vs (as.map (fD l)):=fun{as}=>by{induction as with|nil=>(intro vs h;obtain⟨_,rfl⟩:=h.gU;exact .nil)|cons x as ih=>intro vs h;obtain⟨f1,f2,v,vs',e,rfl,h1,h2⟩:=h.cons_inv;have e':=List.append_eq_nil_iff.1 e.symm;obtain⟨rfl,rfl⟩:=e';exact R.cons (f1:=[]) (f2:=[]) (h1.n9 (Pt nk x) rfl) (ih h2)};exact go ha};·{intro k rows hk;obtain⟨o,ho⟩:=ajJ nk (show k∈l.map (·.2)by rw[<-e2];exact List.mem_map.2 ⟨_,hk,rfl⟩);have:=g1 o k (rC ho) rows hk;simpa only[G,ho]using this};·{intro k hk;rw[e2]at hk;have:gK l k=none:=by{cases hx:gK l k with|none=>(rfl)|some o=>exact absurd (List.mem_map.2 ⟨_,rC hx,rfl⟩) hk};simp[G,this]};·{intro k;simp only[G];cases ho:gK l k with|none=>(exact Hm)|some o=>exact Ma hnd (List.mem_map.2 ⟨_,rC ho,rfl⟩)};·{intro i j b hi hj;obtain⟨o,bY,h3,h4⟩:=dZ i b hi;obtain⟨o',gv,h5,h6⟩:=dZ j b hj;have:=IV hnd h3 h5 h4 h6;subst this;exact Mf mF (rC bY) (rC gv)};·{intro k b hb;obtain⟨o,_,h2,h3⟩:=dZ k b hb;obtain⟨j,_,h4⟩:=hmem o b h2 h3;exact(h.lt j b h4).1};·intro k b hb;obtain⟨o,_,h2,h3⟩:=dZ k b hb;obtain⟨j,h4,h5⟩:=hmem o b h2 h3;exact⟨j,h4,h5⟩
theorem R.amE{I:Nat->Prop}{m:Id->Option Id}{f:List Nat}{v:Value}{a b:U}(h:R w I β f v b)(hr:uX m a b):∃f2,(f2=f∨f2=[])∧R w I (fun i=>(m i).bind β) f2 v a:=by cases hr with|cell hc=>(exact⟨f, .inl rfl,h.Pu hc⟩)|agg hl=>(obtain⟨vs,rfl,h⟩:=h.qU;exact⟨f, .inl rfl,ay.n9 hl h⟩)|aI hl=>(obtain⟨vs,rfl,hu⟩:=h.DK;exact⟨f, .inl rfl, .aI (ay.n9 hl hu)⟩)|fn h1 h2=>(obtain⟨rfl,vs,cs,rfl,k1,k2⟩:=h.qj;exact⟨[], .inl rfl, .fn (ay.n9 h1 k1) (ay.n9 h2 k2)⟩)|aU=>exact⟨[], .inr rfl, .aU⟩
theorem r9{l':List (Id×Id)}:∀{r:List (Id×Id)}{outs:List U}{back:List (Id×Option Rows)},jv l' r outs=some back->back.map (·.1)=r.map (·.1)∧∀x∈back,∀bA,x.2=some bA->∃k rows,(x.1,k)∈r∧U.aP k rows∈outs∧oa l' rows=some bA|[],[],back,h=>by{simp only[jv,AC]at h;subst h;exact⟨rfl,fun x hx=>by cases hx⟩}|[],a::outs,back,h=>by{simp[jv]at h}|(o,k)::r,[],back,h=>by{simp[jv]at h}|(o,k)::r,a::outs,back,h=>by cases a with|aP k' rows=>(simp only[jv]at h;split at h;·{rename_i e;subst e;simp only[Do,GT]at h;obtain⟨bA,h1,y,h2,rfl⟩:=h;obtain⟨i1,i2⟩:=r9 h2;refine⟨by simp[i1],fun x hx fN e=> ?_⟩;rcases List.mem_cons.1 hx with rfl|hx;·{simp only[AC]at e;subst e;exact⟨_,rows,Hb ..,Hb ..,h1⟩};·obtain⟨k2,r2,m1,m2,m3⟩:=i2 x hx fN e;exact⟨k2,r2,Ha _ m1,Ha _ m2,m3⟩};·cases h)|aU=>(simp only[jv,GT]at h;obtain⟨y,h2,rfl⟩:=h;obtain⟨i1,i2⟩:=r9 h2;refine⟨by simp[i1],fun x hx fN e=> ?_⟩;rcases List.mem_cons.1 hx with rfl|hx;·{cases e};·obtain⟨k2,r2,m1,m2,m3⟩:=i2 x hx fN e;exact⟨k2,r2,Ha _ m1,Ha _ m2,m3⟩)|_=>simp[jv]at h
theorem OJ{L:Id->Option (Option Rows)}{l:List (Id×Id)}:∀{r:List (Id×Id)}{x},jm L l r=some x->∀i∈r.map (·.1),∃rows,L i=some (some rows)|[],_,_,i,hi=>by{cases hi}|(o,k)::r,x,h,i,hi=>by simp only[jm]at h;split at h;·{rename_i rows hrows;simp only[Do,GT]at h;obtain⟨_,_,_,_,y,hy,_⟩:=h;rcases List.mem_cons.1 hi with rfl|hi;·{exact⟨rows,hrows⟩};·exact OJ hy i hi};·cases h
theorem amD{l:List (Id×Id)}{i:Id}(h:i∈l.map (·.1)):∃k,hG l i=some k:=by induction l with|nil=>(cases h)|cons x l ih=>obtain⟨o,k⟩:=x;simp only[hG];split;·{exact⟨k,rfl⟩};·rename_i hne;rcases List.mem_cons.1 h with e|h;·{exact absurd e.symm hne};·exact ih h
open Classical in theorem aJ.TE(h:aJ C E w S a β F){l:List (Id×Id)}{gone:List Id}{back news:List (Id×Option Rows)}{G G' r4:Id->List Nat}{fr:List Nat}{I':Nat->Prop}{w':World}{β':Id->Option Loc}{a':Act}{t':Nat->U}(mF:(l.map (·.1)).Nodup)(nk:(l.map (·.2)).Nodup)(dg:∀i∈gone,i∉l.map (·.1))(live:∀i∈l.map (·.1),∃rows,S.h i=some (some rows))(afN:∀i∈gone,∃rows,S.h i=some (some rows))(sD:∀k b,b∈G k->∃i,(i∈l.map (·.1)∨i∈gone)∧b∈F i)(hk:Kept w w' fun b=>∃k,b∈G k)(iO:∀k,(G' k).Nodup)(lG:∀i j b,b∈G' i->b∈G' j->i=j)(WB:∀k b,b∈G' k->b∉fr)(Kl:∀b,(b∈fr∨∃k,b∈G' k)->b<w'.heap.size∧((∃k,b∈G k)∨w.heap.size<=b))(amf:∀b,I' b->(aO E w F b∨(∃k,b∈G k)∨w.heap.size<=b)∧b<w'.heap.size∧b∉fr∧∀k,b∉G' k)(TY:back.map (·.1)=l.map (·.1))(gH:∀x∈back,∀bA,x.2=some bA->∃k,(x.1,k)∈l∧eu w' I' β x.1 bA (G' k))(i1:∀i lo,β i=some lo->β' i=some lo)(i2:∀i,(∀x∈news,x.1≠i)->β' i=β i∧r4 i=[])(i3:∀x∈news,∃rows,x.2=some rows∧eu w' I' β' x.1 rows (r4 x.1))(i4:∀i,(r4 i).Nodup∧∀b∈r4 i,b∈fr)(i5:∀i j b,b∈r4 i->b∈r4 j->i=j)(oC:∀x∈news,S.h x.1=none)(zV:∀x∈news,¬E.K x.1)(hn:a'.tmps.size=S.n)(hdf:a'.defers=a.defers)(FD:∀F',(∀b,aO E w F b->aO E w' F' b)->(∀b,I' b->aO E w' F' b)->∀t,(a'.tmps.getD t undef=a.tmps.getD t undef∧t' t=S.t t)∨R w' (aO E w' F') β' [] (a'.tmps.getD t undef) (t' t)):br C E ⟨S.n,t',bl S.h (news++(back++gone.map fun i=>(i,none)))⟩ a' w':=by let hp:=bl S.h (news++(back++gone.map fun i=>(i,none)));let e9:Id->List Nat:=fun i=>if(∃rows,hp i=some (some rows))then(if i∈l.map (·.1)then(match hG l i with|some k=>G' k|none=>[])else F i++r4 i)else[];have Jo:∀x∈news,x.1∉l.map (·.1):=fun x hx hm=>by{obtain⟨rows,e⟩:=live _ hm;rw[oC x hx]at e;cases e};have Ug:∀x∈news,x.1∉gone:=fun x hx hm=>by{obtain⟨rows,e⟩:=afN _ hm;rw[oC x hx]at e;cases e};have pq:∀x∈back,x.1∈l.map (·.1):=fun x hx=>by{rw[<-TY];exact List.mem_map.2 ⟨x,hx,rfl⟩};have uc:∀i,(∃x∈news,x.1=i∧hp i=some x.2)∨((∀x∈news,x.1≠i)∧∃x∈back,x.1=i∧hp i=some x.2)∨((∀x∈news,x.1≠i)∧i∉l.map (·.1)∧i∈gone∧hp i=some none)∨((∀x∈news,x.1≠i)∧i∉l.map (·.1)∧i∉gone∧hp i=S.h i):=fun i=>by{rcases gO S.h (news++(back++gone.map fun i=>(i,none))) i with⟨x,hx,e1,e2⟩|⟨h1,h2⟩;·{by_cases vJ:∃y∈news,y.1=i;·{obtain⟨y,hy,IT⟩:=vJ;rcases List.mem_append.1 hx with hx|hx;·{exact .inl ⟨x,hx,e1,e2⟩};·exfalso;rcases List.mem_append.1 hx with hx|hx;·{exact Jo y hy (by rw[IT,<-e1];exact pq x hx)};·obtain⟨j,hj,rfl⟩:=List.mem_map.1 hx;exact Ug y hy (by rw[IT,<-e1];exact hj)};·have Ns:∀x∈news,x.1≠i:=fun y hy e=>vJ ⟨y,hy,e⟩;rcases List.mem_append.1 hx with hx|hx;·{exact absurd e1 (Ns x hx)};·rcases List.mem_append.1 hx with hx|hx;·{exact .inr (.inl ⟨Ns,x,hx,e1,e2⟩)};·obtain⟨j,hj,rfl⟩:=List.mem_map.1 hx;have qf:j=i:=e1;subst qf;exact .inr (.inr (.inl ⟨Ns,dg j hj,hj,e2⟩))};·refine .inr (.inr (.inr ⟨fun x hx=>h1 x (Hk _ hx),fun hm=> ?_,fun hm=> ?_,h2⟩));·{rw[<-TY]at hm;obtain⟨x,hx,e⟩:=List.mem_map.1 hm;exact h1 x (Hn _ (Hk _ hx)) e};·exact h1 (i,none) (Hn _ (Hn _ (List.mem_map.2 ⟨i,hm,rfl⟩))) rfl};have HF:∀i b,b∈e9 i->(∃k,b∈G' k∧hG l i=some k∧i∈l.map (·.1))∨(i∉l.map (·.1)∧i∉gone∧b∈F i)∨(i∉l.map (·.1)∧(∃x∈news,x.1=i)∧b∈r4 i):=fun i b hb=>by{simp only[e9]at hb;split at hb;·{rename_i hal;split at hb;·{rename_i qp;cases hr:hG l i with|none=>(rw[hr]at hb;cases hb)|some k=>rw[hr]at hb;exact .inl ⟨k,hb,rfl,qp⟩};·rename_i qp;rcases List.mem_append.1 hb with hb|hb;·{refine .inr (.inl ⟨qp,fun hg=> ?_,hb⟩);obtain⟨rows,hal⟩:=hal;rcases uc i with⟨x,hx,e,_⟩|⟨_,x,hx,e,_⟩|⟨_,_,_,e⟩|⟨_,_,e,_⟩;·{exact Ug x hx (e▸hg)};·{exact qp (e▸pq x hx)};·{rw[e]at hal;cases hal};·exact e hg};·refine .inr (.inr ⟨qp, ?_,hb⟩);by_cases vJ:∃x∈news,x.1=i;·{exact vJ};·rw[(i2 i fun x hx e=>vJ ⟨x,hx,e⟩).2]at hb;cases hb};·cases hb};have E8:∀b,I' b->aO E w' e9 b:=fun b hb=>by{obtain⟨k1,k2,dB,kg⟩:=amf b hb;refine⟨?_,k2,fun i hm=> ?_⟩;·{rcases k1 with k1|⟨k,k1⟩|k1;·{exact k1.1};·{obtain⟨i,_,hi⟩:=sD k b k1;exact(h.lt i b hi).2.elim (fun h=> .inr (.inl h)) (fun h=> .inr (.inr h))};·exact .inr (.inr (Nat.le_trans h.kept.size k1))};·rcases HF i b hm with⟨k,hg,_⟩|⟨n1,n2,hf⟩|⟨_,_,hg⟩;·{exact kg k hg};·{rcases k1 with k1|⟨k,k1⟩|k1;·{exact k1.2.2 i hf};·{obtain⟨j,hj,hf'⟩:=sD k b k1;have:=h.ew i j b hf hf';subst this;exact hj.elim n1 n2};·have:=(h.lt i b hf).1;omega};·exact dB ((i4 i).2 b hg)};refine⟨β',e9, ?_⟩;have ahu:∀i,¬(i∈l.map (·.1)∨i∈gone∨∃x∈news,x.1=i)->e9 i=F i∧hp i=S.h i:=fun i hi=>by{have n1:i∉l.map (·.1):=fun e=>hi (.inl e);have n2:i∉gone:=fun e=>hi (.inr (.inl e));have oI:∀x∈news,x.1≠i:=fun x hx e=>hi (.inr (.inr ⟨x,hx,e⟩));have e:hp i=S.h i:=by{rcases uc i with⟨x,hx,e,_⟩|⟨_,x,hx,e,_⟩|⟨_,_,e,_⟩|⟨_,_,_,e⟩;·{exact absurd e (oI x hx)};·{exact absurd (e▸pq x hx) n1};·{exact absurd e n2};·exact e};refine⟨?_,e⟩;simp only[e9];split;·{rw[(i2 i oI).2,List.append_nil]};·rename_i hal;exact(h.dead i fun rows e'=>hal ⟨rows,by rw[e];exact e'⟩).symm};refine h.G0 (fun i=>i∈l.map (·.1)∨i∈gone∨∃x∈news,x.1=i) hn hk.size hk.os hk.out hk.fX ?_ i1 ?_ ahu ?_ ?_ ?_ ?_ ?_ ?_ (hdf:=hdf) (gx:=hk.rY) (hok:=k7.of rfl fun x hx hne=> ?_);·{intro b hb hno;refine hk.blk b hb fun⟨k,hm⟩=> ?_;obtain⟨i,hi,hf⟩:=sD k b hm;exact hno i (hi.elim .inl fun h=> .inr (.inl h)) hf};·{intro i b hb;have X0:∀{b:Nat},b<w'.heap.size∧((∃k,b∈G k)∨w.heap.size<=b)->(∃i,b∈F i)∨(w.heap.size<=b∧b<w'.heap.size):=fun⟨h1,h2⟩=>by{rcases h2 with⟨k,h2⟩|h2;·{obtain⟨i,_,hi⟩:=sD k _ h2;exact .inl ⟨i,hi⟩};·exact .inr ⟨h2,h1⟩};rcases HF i b hb with⟨k,hg,_⟩|⟨_,_,hf⟩|⟨_,_,hg⟩;·{exact X0 (Kl b (.inr ⟨k,hg⟩))};·{exact .inl ⟨i,hf⟩};·exact X0 (Kl b (.inl ((i4 i).2 b hg)))};·{intro hI i _ rows hr;have hr':hp i=some (some rows):=hr;have hal:∃rows,hp i=some (some rows):=⟨rows,hr'⟩;rcases uc i with⟨x,hx,e,e2⟩|⟨vJ,x,hx,e,e2⟩|⟨_,_,_,e⟩|⟨oI,n1,n2,e⟩;·{subst e;obtain⟨fN,bY,h3⟩:=i3 x hx;rw[e2,bY]at hr';simp only[AC]at hr';subst hr';have:e9 x.1=r4 x.1:=by{simp only[e9];rw[if_pos hal,if_neg (Jo x hx),h.dead x.1 (by rw[oC x hx];simp),List.nil_append]};rw[this];exact h3.mono E8 (fun _ _=>rfl) (fun _ _ h=>h)};·{subst e;rw[e2]at hr';simp only[AC]at hr';obtain⟨k,Ch,Fy⟩:=gH x hx rows hr';have:e9 x.1=G' k:=by{simp only[e9];rw[if_pos hal,if_pos (pq x hx)];obtain⟨k',hk'⟩:=amD (pq x hx);rw[hk',Mf mF Ch (Dg hk')]};rw[this];exact Fy.mono E8 (fun _ _=>rfl) i1};·{rw[e]at hr';cases hr'};·exfalso;rename_i iJ;rcases iJ with iJ|iJ|⟨x,hx,iJ⟩;·{exact n1 iJ};·{exact n2 iJ};·exact oI x hx iJ};·{intro i _ hno;simp only[e9];rw[if_neg];rintro⟨rows,e⟩;exact hno rows e};·{intro i _;simp only[e9];split;·{split;·{cases hG l i with|none=>(exact Hm)|some k=>exact iO k};·by_cases vJ:∃x∈news,x.1=i;·{obtain⟨x,hx,rfl⟩:=vJ;rw[h.dead x.1 (by rw[oC x hx];simp),List.nil_append];exact(i4 _).1};·rw[(i2 i fun x hx e=>vJ ⟨x,hx,e⟩).2,List.append_nil];exact h.nd i};·exact Hm};·{intro i j b _ hi hj;have TU:∀{i j k:Id}{b:Nat},b∈G' k->j∉l.map (·.1)->j∉gone->b∈F j->False:=fun{i j k b}hg n1 n2 hf=>by{rcases(Kl b (.inr ⟨k,hg⟩)).2 with⟨k2,hk2⟩|hge;·{obtain⟨q,hq,Nc⟩:=sD k2 b hk2;have:=h.ew j q b hf Nc;subst this;exact hq.elim n1 n2};·have:=(h.lt j b hf).1;omega};have T8:∀{j:Id}{b:Nat},b∈fr->j∉l.map (·.1)->j∉gone->b∈F j->False:=fun{j b}hg n1 n2 hf=>by{rcases(Kl b (.inl hg)).2 with⟨k2,hk2⟩|hge;·{obtain⟨q,hq,Nc⟩:=sD k2 b hk2;have:=h.ew j q b hf Nc;subst this;exact hq.elim n1 n2};·have:=(h.lt j b hf).1;omega};rcases HF i b hi with⟨k,hg,NB,_⟩|⟨n1,n2,hf⟩|⟨_,_,hg⟩<;>rcases HF j b hj with⟨k',hg',ahH,_⟩|⟨Vr,Vs,hf'⟩|⟨_,_,hg'⟩;·{have:=lG k k' b hg hg';subst this;have e1:=qu nk (Dg NB);have e2:=qu nk (Dg ahH);rw[e1]at e2;exact Option.some.inj e2};·{exact(TU (i:=i) hg Vr Vs hf').elim};·{exact absurd ((i4 j).2 b hg') (WB k b hg)};·{exact(TU (i:=j) hg' n1 n2 hf).elim};·{exact h.ew i j b hf hf'};·{exact(T8 ((i4 j).2 b hg') n1 n2 hf).elim};·{exact absurd ((i4 i).2 b hg) (WB k' b hg')};·{exact(T8 ((i4 i).2 b hg) Vr Vs hf').elim};·exact i5 i j b hg hg'};·{intro i hi;have hi':hp i=none:=hi;rcases uc i with⟨x,hx,_,e⟩|⟨_,x,hx,_,e⟩|⟨_,_,_,e⟩|⟨oI,_,_,e⟩;·{rw[e]at hi';cases hi'};·{rw[e]at hi';cases hi'};·{rw[e]at hi';cases hi'};·rw[(i2 i oI).1];exact h.dom i (by rw[<-e];exact hi')};·{intro hI;exact FD e9 hI E8};·rcases List.mem_append.1 hx with hx|hx;·{exact .inl (zV x hx)};·rcases List.mem_append.1 hx with hx|hx;·{exact .inr (live _ (pq x hx))};·obtain⟨i,_,rfl⟩:=List.mem_map.1 hx;exact absurd rfl hne
theorem DQ.val{w':World}{I':Nat->Prop}{fr:List Nat}{e:Ending}{r:U}(h:DQ w' I' β fr e r)(hr:Cr r=false):∃v,e= .returned v∧R w' I' β fr v r:=by cases r<;>first|exact h|cases hr
theorem ac8{L:Id->Option (Option Rows)}:∀(n:Nat){a:U}{x},pk L n a=some x->∀i∈x.2,∃rows,L i=some (some rows):=by
 intro n
 induction n with
 |zero=>intro a x h;simp[pk]at h
 |succ n ih=>
  have Me:∀{cs:List U}{x},fc (pk L n) cs=some x->∀i∈x.2,∃rows,L i=some (some rows):=fun{cs}=>by
   induction cs with
   |nil=>intro x h i hi;simp[fc]at h;subst h;cases hi
   |cons c cs Af=>
    intro x h i hi
    simp only[fc,Do,GT]at h
    obtain⟨y,hy,z,hz,rfl⟩:=h
    rcases List.mem_append.1 hi with hi|hi
    ·exact ih hy i hi
    ·exact Af hz i hi
  have O0:∀{cs:List U}{x},jV (pk L n) cs=some x->∀i∈x.2,∃rows,L i=some (some rows):=fun h i hi=>by
   unfold jV at h
   split at h
   ·simp only[AC]at h;subst h;cases hi
   ·exact Me h i hi
  have foldr:∀{cs:Rows}{x},fR (jV (pk L n)) cs=some x->∀i∈x.2,∃rows,L i=some (some rows):=fun{cs}=>by
   induction cs with
   |nil=>intro x h i hi;simp[fR]at h;subst h;cases hi
   |cons c cs Af=>
    intro x h i hi
    simp only[fR,Do,GT]at h
    obtain⟨y,hy,z,hz,rfl⟩:=h
    rcases List.mem_append.1 hi with hi|hi
    ·exact O0 hy i hi
    ·exact Af hz i hi
  have alT:∀{cs:Rows}{x},rM (pk L n) cs=some x->∀i∈x.2,∃rows,L i=some (some rows):=fun h i hi=>by
   unfold rM at h
   split at h
   ·simp only[AC]at h;subst h;cases hi
   ·exact foldr h i hi
  intro a x h i hi
  unfold pk at h
  repeat'(first
   |(simp only[reduceCtorEq]at h;done)
   |(simp only[AC]at h;subst h;first|(simp only[H2]at hi;subst hi;exact⟨_,by assumption⟩)|(cases hi;done))
   |(simp only[GT]at h;obtain⟨y,hy,rfl⟩:=h;first|exact O0 hy i hi|(rcases List.mem_cons.1 hi with rfl|hi;exact⟨_,by assumption⟩;first|exact alT hy i hi|exact O0 hy i hi))
   |split at h)
theorem OK{L:Id->Option (Option Rows)}{l:List (Id×Id)}:∀{r:List (Id×Id)}{x},jm L l r=some x->∀i∈x.2,∃rows,L i=some (some rows)
 |[],x,h,i,hi=>by simp only[jm,AC]at h;subst h;cases hi
 |(o,k)::r,x,h,i,hi=>by
  simp only[jm]at h
  split at h
  ·simp only[Do,GT]at h
   obtain⟨y,hy,bA,_,z,hz,rfl⟩:=h
   have adj:∀{a:U}{x},iV L (vU l) a=some x->∀i∈x.2,∃rows,L i=some (some rows):=fun h i hi=>by
    unfold iV at h
    repeat'(first
     |(simp only[reduceCtorEq]at h;done)
     |(simp only[AC]at h;subst h;cases hi)
     |exact ac8 _ h i hi
     |split at h)
   have Me:∀{cs:List U}{x},fc (iV L (vU l)) cs=some x->∀i∈x.2,∃rows,L i=some (some rows):=fun{cs}=>by
    induction cs with
    |nil=>intro x h i hi;simp[fc]at h;subst h;cases hi
    |cons c cs Af=>
     intro x h i hi
     simp only[fc,Do,GT]at h
     obtain⟨y,hy,z,hz,rfl⟩:=h
     rcases List.mem_append.1 hi with hi|hi
     ·exact adj hy i hi
     ·exact Af hz i hi
   have adx:∀{cs:List U}{x},mS L (vU l) cs=some x->∀i∈x.2,∃rows,L i=some (some rows):=fun h i hi=>by
    unfold mS at h
    split at h
    ·simp only[AC]at h;subst h;cases hi
    ·exact Me h i hi
   have foldr:∀{cs:Rows}{x},fR (mS L (vU l)) cs=some x->∀i∈x.2,∃rows,L i=some (some rows):=fun{cs}=>by
    induction cs with
    |nil=>intro x h i hi;simp[fR]at h;subst h;cases hi
    |cons c cs Af=>
     intro x h i hi
     simp only[fR,Do,GT]at h
     obtain⟨y,hy,z,hz,rfl⟩:=h
     rcases List.mem_append.1 hi with hi|hi
     ·exact adx hy i hi
     ·exact Af hz i hi
   rcases List.mem_append.1 hi with hi|hi
   ·unfold o6 at hy
    split at hy
    ·simp only[AC]at hy;subst hy;cases hi
    ·exact foldr hy i hi
   ·exact OK hz i hi
  ·cases h
theorem B0{call:FuncId->List U->Option (U×List U)}{L:Id->Option (Option Rows)}{k:FuncId}{args:List U}{x:Bi}(h:pe call L k args=some x):∃obs outs,jm L x.l x.l=some (obs,x.gone)∧call k (.aI obs::args.map (fD x.l))=some (x.r,outs)∧jv (x.l.map fun x=>(x.2,x.1)) x.l outs=some x.back∧(x.l.map (·.1)).Nodup∧(x.l.map (·.2)).Nodup∧(∀y∈x.l,jT y.2=true)∧x.gone.Nodup∧(∀i∈x.gone,i∉x.l.map (·.1)):=by unfold pe BZ at h;split at h;·{rename_i obs gone ho;split at h;·{rename_i hc;simp only[Hc,List.all_eq_true]at hc;obtain⟨⟨⟨⟨c1,c2⟩,c3⟩,xb⟩,Em⟩:=hc;split at h;·{rename_i r outs bU;obtain⟨back,hb,rfl⟩:=Option.map_eq_some_iff.1 h;refine⟨obs,outs,ho,bU,hb,CN c1,CN c2,c3,CN xb,fun i hi hm=> ?_⟩;have:=List.all_eq_true.1 Em i hi;simp only[Bool.not_eq_true',List.contains_eq_mem,decide_eq_false_iff_not]at this;exact this hm};·cases h};·cases h};·cases h
theorem XK{l:List (Id×Id)}:(l.map fun x=>(x.2,x.1)).map (·.2)=l.map (·.1):=by simp[Function.comp_def]
def HJ(E:Env)(w:World)(β:Id->Option Loc)(F:Id->List Nat)(x:Bi)(e:Ending)(w':World):Prop:=∃(G G':Id->List Nat)(fr:List Nat)(I':Nat->Prop),(∀k b,b∈G k->∃i,(i∈x.l.map (·.1)∨i∈x.gone)∧b∈F i)∧(Kept w w' fun b=>∃k,b∈G k)∧DQ w' I' (fun i=>(gK x.l i).bind β) fr e x.r∧(∀k,(G' k).Nodup)∧(∀i j b,b∈G' i->b∈G' j->i=j)∧fr.Nodup∧(∀k b,b∈G' k->b∉fr)∧(∀b,(b∈fr∨∃k,b∈G' k)->b<w'.heap.size∧((∃k,b∈G k)∨w.heap.size<=b))∧(∀b,I' b->(aO E w F b∨(∃k,b∈G k)∨w.heap.size<=b)∧b<w'.heap.size∧b∉fr∧∀k,b∉G' k)∧(∀y∈x.back,∀bA,y.2=some bA->∃k,(y.1,k)∈x.l∧eu w' I' β y.1 bA (G' k))
theorem VR(h:aJ C E w S a β F){k:FuncId}{call:FuncId->List U->Option (U×List U)}(dr:∀k as r,call k as=some r->Sound C k as r)(Fo:C.iY k=true){args:List U}{vs:List Value}(ha:ay w (aO E w F) β [] vs args){x:Bi}(hx:pe call S.h k args=some x):Ql C.P k ⟨vs⟩ w (HJ E w β F x):=by obtain⟨obs,outs,ho,bU,hb,mF,nk,hK,F4,dg⟩:=B0 hx;obtain⟨hl,G,e1,e2,hpre,sD⟩:=afP h ha ho mF nk F4 dg;have hs:=(dr _ _ _ bU).2 Fo _ _ hl rfl e1 (by rw[e2];exact nk) (fun y hy=>by have:y.1∈x.l.map (·.2):=by{rw[<-e2];exact List.mem_map.2 ⟨y,hy,rfl⟩};obtain⟨z,hz,e⟩:=List.mem_map.1 this;rw[<-e];exact hK z hz) w _ _ G vs hpre;have yJ:∀e w',HQ w (aO E w F) (fun i=>(gK x.l i).bind β) G (x.r,outs) e w'->HJ E w β F x e w':=fun e w' hr=>by{obtain⟨I',G',fr,q1,cq,_,iw,nv,wu,nw,uC,rN⟩:=hr.ex;refine⟨G,G',fr,I',sD,hr.kept,q1,iw,nv,wu,nw,uC,rN,fun y hy bA e=> ?_⟩;obtain⟨k',rows,m1,m2,m3⟩:=(r9 hb).2 y hy bA e;have JT:((x.l.map fun x=>(x.2,x.1)).map (·.2)).Nodup:=by{rw[XK];exact mF};have hm:gK (x.l.map fun x=>(x.2,x.1)) y.1=some k':=qu JT (List.mem_map.2 ⟨_,m1,rfl⟩);have:=(cq k' rows m2).n9 hm (WT JT m3);refine⟨k',m1,this.mono (fun _ h=>h) (fun _ _=>rfl) fun i lo hlo=> ?_⟩;simp only[Option.bind_eq_some_iff]at hlo;obtain⟨j,hj,i',hi',hlo⟩:=hlo;obtain⟨z,hz,e⟩:=List.mem_map.1 (rC hj);simp only[Prod.mk.injEq]at e;have:=qu nk hz;rw[e.1,hi']at this;simp only[Option.some.injEq]at this;rw[this,e.2]at hlo;exact hlo};rcases hs with⟨fn,c,k1,k2,dB⟩|⟨v,w',k1,k2⟩;·{exact .inl ⟨fn,c,k1,k2,dB.mono yJ⟩};·exact .inr ⟨v,w',k1,yJ _ _ k2⟩
theorem aol{l:List (Id×Id)}(mF:(l.map (·.1)).Nodup)(nk:(l.map (·.2)).Nodup){i:Id}{lo:Loc}(h:((gK (l.map fun x=>(x.2,x.1)) i).bind fun i=>(gK l i).bind β)=some lo):β i=some lo:=by simp only[Do]at h;obtain⟨j,hj,i',hi',hlo⟩:=h;obtain⟨z,hz,e⟩:=List.mem_map.1 (rC hj);simp only[GE]at e;have:=qu nk hz;rw[e.1,hi']at this;simp only[AC]at this;rw[this,e.2]at hlo;exact hlo
theorem L5{P:Program}{o:Oper}{c:Call}{cD:Operand}(ho:o.op= .call c)(hc:c.callee= .value cD){k:FuncId}{ic iW:List Value}(oD:a.eval cD= .func (.func k) ⟨ic⟩ ⟨iW⟩):(execOp a.eval o).run P w=(callFunc k ⟨ic++c.args.toList.map a.eval++iW⟩).run P w:=by have e2:((⟨ic⟩:Array Value)++c.args.map a.eval++⟨iW⟩:Array Value)=⟨ic++c.args.toList.map a.eval++iW⟩:=by{apply Array.ext';simp};have bY:resolve a.eval c o.type=(pure {target:= .fn (.func k) ⟨iW⟩,args:=⟨ic⟩++c.args.map a.eval}:Sem Deferred):=by{simp[resolve,hc,oD,Deferred.ofValue]};have gv:execOp a.eval o=(do let d<-resolve a.eval c o.type;invoke d.target d.args:Sem Next):=by{simp[execOp,ho]};rw[gv,bY,Sem.run_bind,Sem.run_pure,Result.andThen_ok];simp only[invoke,e2]
theorem TD{x:U}{y:FuncId×List U×List U}(h:mz C x=some y):x= .fn (.func y.1) y.2.1 y.2.2∧C.iY y.1=true:=by unfold mz at h;split at h;·{split at h;·{rename_i hg;simp only[AC]at h;subst h;exact⟨rfl,hg⟩};·cases h};·cases h
theorem anD{L:Id->Option (Option Rows)}{b:Id×Option Rows}(h:tg L b=true):L b.1=some b.2:=by obtain⟨i,v⟩:=b;unfold tg at h;split at h;·{rename_i h1 h2;simp only[Hc,beq_iff_eq]at h;obtain⟨⟨rfl,rfl⟩,rfl⟩:=h;simp only at h1 h2;rw[h1,h2]};·cases h
theorem Qb{h0 h:Id->Option (Option Rows)}:∀{back:List (Id×Option Rows)},(∀b∈back,h b.1=h0 b.1)->(back.map (·.1)).Nodup->bl h (iU h0 back)=bl h back|[],_,_=>rfl|(i,v)::back,ha,nd=>by have ih:=Qb (h0:=h0) (h:=h) (back:=back) (fun b hb=>ha b (Ha _ hb)) (List.nodup_cons.1 nd).2;unfold iU at ih|-;simp only[List.filter_cons];split;·{simp only[bl,ih]};·rename_i hs;rw[ih];have hs:tg h0 (i,v)=true:=by{simpa using hs};funext j;simp only[bl,au];split;·{rename_i e;subst e;rcases gO h back j with⟨x,hx,e1,_⟩|⟨_,e2⟩;·{exact absurd (List.mem_map.2 ⟨x,hx,e1⟩) (List.nodup_cons.1 nd).1};·rw[e2,ha (j,v) (Hb ..)];exact anD hs};·rfl
theorem akH(hN:uV C.P)(h:aJ C E w S a β F){o:Oper}{c:Call}{cD:Operand}(ho:o.op= .call c)(hc:c.callee= .value cD){f:FuncId}{call:FuncId->List U->Option (U×List U)}(dr:∀k as r,call k as=some r->Sound C k as r){y:FuncId×List U×List U}(ec:mz C (un true (S.get C cD))=some y){e:aZ}(he:qX C f call S o y.1 (y.2.1++(c.args.toList.map fun x=>un true (S.get C x))++y.2.2)=some e)(hd:cO S e)(hn:∀a' w',br C E (S.app e) a' w'->next a' w'):o.wp C.P a w next Q:=by obtain⟨hfn,Fo⟩:=TD ec;have hfo:=h.eH cD;rw[hfn]at hfo;obtain⟨_,ic,iW,oD,h1,h2⟩:=hfo.qj;have hargs:=ay.ofMap h c.args.toList;have hall:ay w (aO E w F) β [] (ic++c.args.toList.map a.eval++iW) (y.2.1++(c.args.toList.map fun x=>un true (S.get C x))++y.2.2):=(h1.append hargs).append h2;unfold qX at he;simp only[Do]at he;obtain⟨x,hx,he⟩:=he;split at he;·{cases he};·rename_i hnp;have hnp:Cr x.r=false:=by{simpa using hnp};generalize vL:(if fA C f o.dst=true then(if flat x.r=true then ey x.r else .aU)else x.r)=rr at he;split at he;·{rename_i hf;simp only[AC]at he;subst he;have sI:=VR h dr Fo hall hx;obtain⟨obs,outs,zW,_,hb,mF,nk,_,F4,dg⟩:=B0 hx;have hb0:=hb;have JT:((x.l.map fun x=>(x.2,x.1)).map (·.2)).Nodup:=by{rw[XK];exact mF};have yJ:∀e' w',HJ E w β F x e' w'->∃v,e'= .returned v∧next (a.put o.dst v) w':=fun e' w'⟨G,G',fr,I',q1,cq,dO,iw,nv,wu,nw,uC,rN,Pc⟩=>by{obtain⟨v,rfl,hv⟩:=dO.val hnp;refine⟨v,rfl,hn _ _ ?_⟩;obtain⟨qP,BX,p1,p2,p3,lZ⟩:∃(qP:Nat->Prop)(BX:List Nat),R w' qP (fun i=>(gK x.l i).bind β) BX v rr∧(BX.Nodup∧∀b∈BX,b∈fr)∧(∀b,I' b->qP b)∧(∀b,qP b->(aO E w F b∨(∃k,b∈G k)∨w.heap.size<=b)∧b<w'.heap.size∧b∉BX∧∀k,b∉G' k):=by{by_cases hz:fA C f o.dst=true;·{rw[if_pos hz]at vL;by_cases hfl:flat x.r=true;·{rw[if_pos hfl]at vL;subst vL;refine⟨fun b=>I' b∨b∈fr,[],((hv.mu hfl b6).ey (fun _ h=> .inl h) (fun _ h=> .inr h)).up,⟨List.nodup_nil,fun b hb=>by cases hb⟩,fun _ h=> .inl h,fun b hb=> ?_⟩;rcases hb with hb|hb;·{obtain⟨k1,k2,_,kg⟩:=rN b hb;exact⟨k1,k2,by simp,kg⟩};·obtain⟨k1,k2⟩:=uC b (.inl hb);exact⟨k2.elim (fun h=> .inr (.inl h)) (fun h=> .inr (.inr h)),k1,by simp,fun k hk=>nw k b hk hb⟩};·rw[if_neg hfl]at vL;subst vL;exact⟨I',[], .aU,⟨List.nodup_nil,fun b hb=>by cases hb⟩,fun _ h=>h,fun b hb=>⟨(rN b hb).1,(rN b hb).2.1,by simp,(rN b hb).2.2.2⟩⟩};·rw[if_neg hz]at vL;subst vL;exact⟨I',fr,hv,⟨wu,fun _ h=>h⟩,fun _ h=>h,rN⟩};obtain⟨f2,xB,hr2⟩:=p1.amE (Pt JT rr);have Ji:f2.Nodup∧∀b∈f2,b∈BX:=by{rcases xB with rfl|rfl;·{exact⟨p2.1,fun _ h=>h⟩};·exact⟨List.nodup_nil,fun b hb=>by cases hb⟩};have Un:R w' qP β f2 v (fD (x.l.map fun x=>(x.2,x.1)) rr):=hr2.mono (fun _ h=>h) (fun _ _=>rfl) fun i lo hlo=>aol mF nk hlo;have oC:=IZ hf;obtain⟨β',r4,a1,a2,a3,a4,a5,a6,a7⟩:=FM (jQ o) Un Ji.1 (fun z hz=>h.dom _ (oC z hz));have zV:=h.F5 hd;have:=h.TE (a':=a.put o.dst v) (t':=dL S.t (put o (imp (jQ o) (fD (x.l.map fun x=>(x.2,x.1)) rr)).1 (x.l.map (·.1)) []).ei) mF nk dg (OJ zW) (OK zW) q1 cq iw nv (fun k b hb hm=>nw k b hb (p2.2 b (Ji.2 b hm))) (fun b hb=>uC b (hb.imp (fun hb=>p2.2 b (Ji.2 b hb)) id)) (fun b hb=>⟨(lZ b hb).1,(lZ b hb).2.1,fun hm=>(lZ b hb).2.2.1 (Ji.2 b hm),(lZ b hb).2.2.2⟩) (r9 hb).1 (fun z hz bA e=>(Pc z hz bA e).imp fun k hk=>⟨hk.1,hk.2.mono p3 (fun _ _=>rfl) (fun _ _ h=>h)⟩) a1 a2 a4 a5 a6 oC (fun z hz=>by obtain⟨q,e⟩:=a7 z hz;rw[e];exact zV q) (by rw[ym];exact h.n) (put_defers ..) (fun F' hI zJ t=> ?_);·{have e:bl S.h ((imp (jQ o) (fD (x.l.map fun x=>(x.2,x.1)) rr)).2++(iU S.h x.back++x.gone.map fun i=>(i,none)))=bl S.h ((imp (jQ o) (fD (x.l.map fun x=>(x.2,x.1)) rr)).2++(x.back++x.gone.map fun i=>(i,none))):=by{have g1:∀b∈x.back,bl S.h (x.gone.map fun i=>(i,none)) b.1=S.h b.1:=fun b hb=>by{have hb':b.1∈x.l.map (·.1):=by{rw[<-(r9 hb0).1];exact List.mem_map.2 ⟨b,hb,rfl⟩};rcases gO S.h (x.gone.map fun i=>(i,none)) b.1 with⟨y,hy,e1,_⟩|⟨_,e2⟩;·{obtain⟨j,hj,rfl⟩:=List.mem_map.1 hy;have e1:j=b.1:=e1;exact absurd hb' (e1▸dg j hj)};·exact e2};have g2:(x.back.map (·.1)).Nodup:=by{rw[(r9 hb0).1];exact mF};rw[uM,uM,uM,uM,Qb g1 g2]};have e2:S.app (put o (imp (jQ o) (fD (x.l.map fun x=>(x.2,x.1)) rr)).1 (x.l.map (·.1)) ((imp (jQ o) (fD (x.l.map fun x=>(x.2,x.1)) rr)).2++(iU S.h x.back++x.gone.map fun i=>(i,none))))=⟨S.n,dL S.t (put o (imp (jQ o) (fD (x.l.map fun x=>(x.2,x.1)) rr)).1 (x.l.map (·.1)) []).ei,bl S.h ((imp (jQ o) (fD (x.l.map fun x=>(x.2,x.1)) rr)).2++(x.back++x.gone.map fun i=>(i,none)))⟩:=by{rw[<-e];rfl};rw[e2];exact this};·cases bB:o.dst with|none=>(refine .inl ⟨by simp[Act.put], ?_⟩;simp[put,bB,dL])|some d=>have hd':d<a.tmps.size:=by{rw[h.n];simpa[cO,put,bB]using hd};rw[yl a d t v hd'];by_cases ht:t=d;·{subst ht;rw[if_pos rfl];refine .inr ?_;have:=a3.mono (w':=w') zJ (fun _ _=>rfl) (fun _ _ h=>h);simpa[put,bB,dL,au]using this};·rw[if_neg ht];refine .inl ⟨rfl, ?_⟩;simp[put,bB,dL,au,ht]};unfold Oper.wp;rw[L5 ho hc oD];rcases sI with⟨fn,code,k1,k2,dB⟩|⟨v,w',k1,k2⟩;·{rw[yD hN k1 k2];simp only[Oper.upon];refine dB.mono fun e' w' hh=> ?_;obtain⟨v,rfl,hr⟩:=yJ e' w' hh;exact hr};·rw[k1];obtain⟨v',e,hr⟩:=yJ _ w' k2;simp only[Ending.returned.injEq]at e;subst e;exact hr};·cases he
end
end Go.Ab
