import Derived.Test.YtbbhbdlljfffdaaGreatDoorAbTake
import Derived.Test.YtbbhbdlljfffdaaGreatDoorAbWeak
open Array renaming toList_modify->H1
open Bool renaming and_eq_true->Hc
open List renaming mem_cons_of_mem->Ha,mem_cons_self->Hb,map_cons->Hd,mem_append_left->Hk,nodup_nil->Hm,mem_append_right->Hn,mem_singleton->H2,flatMap_cons->H3
open Option renaming bind_eq_some_iff->Do,map_eq_some_iff->GT,isNone_iff_eq_none->H0
open Option.some renaming injEq->AC
open Prod.mk renaming injEq->GE
set_option linter.all false
namespace Go.Ab
open Go
def k4(e:MapEntry):List U:=[.val e.key, .val e.val]
section
variable{P:Program}{w:World}{kt et t:TypeId}{kind:TypeDesc}{kv nU z:Value}
theorem run_checkKey{b:Bool}(hk:P.underlying kt=some kind)(hs:Lp kind=true):(Instr.checkKey b 10000 kt kv).run P w= .ok () w:=by show(Instr.checkKey b (9999+1) kt kv).run P w=_;unfold Instr.checkKey;rw[Sem.run_bind,eI (C:={P:=P,bS:=fun _=>none,ext:=fun _=>none,bX:=fun _=>[],dY:=fun _=>[],live:=fun _ _=>[],eK:=fun _ _=>[]}) hk,Result.andThen_ok];cases kind<;>first|(cases hs;done)|rfl
theorem NR:∀{es:List MapEntry}{r:Option Value}(i:Nat),q9 kind kv (es.map k4)=some r->∃j,Instr.findNow kind kv es i=some (r.map fun v=>(j,v))|[],r,i,h=>by{simp only[List.map_nil,q9,AC]at h;subst h;exact⟨0,rfl⟩}|e::es,r,i,h=>by simp only[Hd,k4,q9]at h;unfold Instr.findNow;split at h;·{rename_i hs;simp only[AC]at h;subst h;exact⟨i,by rw[hs];rfl⟩};·{rename_i hs;obtain⟨j,hj⟩:=NR (i+1) h;exact⟨j,by rw[hs];exact hj⟩};·cases h
theorem VY:∀{a b:ByteArray},(a==b)=true->a=b|⟨x⟩,⟨y⟩,h=>by have h':(x==y)=true:=h;rw[eq_of_beq h']
theorem VZ(a:ByteArray):(a==a)=true:=by cases a with|mk x=>show(x==x)=true;simp
theorem RV{b:Nat}{es:Array MapEntry}{clock:Nat}(hb:w.heap[b]? =some (.map es clock)):(getObj b).run P w= .ok (.map es clock) w:=by simp[getObj,Sem.run,hb]
theorem RZ{b:Nat}{es:Array MapEntry}{clock:Nat}(o:Obj)(hb:w.heap[b]? =some (.map es clock)):(setObj b o).run P w= .ok () (gK w b o):=by simp[setObj,Sem.run,hb,gK]
theorem ahn{k e:Value}(h:Instr.sameNow kind k e=some true):Instr.sameBits 10000 e k=true:=by unfold Instr.sameNow at h;split at h;·{split at h;·{rename_i a k' b hk;simp only[AC]at h;show(_&&_)=true;have:=eq_of_beq h;subst hk this;simp};·cases h};·{simp only[AC]at h;have:=VY h;subst this;exact VZ _};·{simp only[AC]at h;have:=eq_of_beq h;subst this;show(_==_)=true;simp};·cases h
theorem Rb:∀{es:List MapEntry}{aT:Rows}(i:Nat),Df kind kv nU (es.map k4)=some aT->(∃j v,∃hj:j<es.length,Instr.findNow kind kv es i=some (some (i+j,v))∧Instr.sameNow kind kv es[j].key=some true∧aT=(es.modify j fun e=>{e with key:=kv,val:=nU}).map k4)∨(Instr.findNow kind kv es i=some none∧aT=es.map k4++[[.val kv, .val nU]])|[],aT,i,h=>by{simp only[List.map_nil,Df,AC]at h;subst h;exact .inr ⟨rfl,rfl⟩}|e::es,aT,i,h=>by simp only[Hd,k4,Df]at h;unfold Instr.findNow;split at h;·{rename_i hs;simp only[AC]at h;subst h;exact .inl ⟨0,e.val,by simp,by rw[hs];rfl,hs,by simp[k4]⟩};·{rename_i hs;obtain⟨y,hy,rfl⟩:=Option.map_eq_some_iff.1 h;rw[hs];rcases Rb (i+1) hy with⟨j,v,hj,h1,h2,rfl⟩|⟨h1,rfl⟩;·{refine .inl ⟨j+1,v,by simpa using hj, ?_,by simpa using h2,by simp[k4]⟩;rw[show i+(j+1)=i+1+j by omega];exact h1};·exact .inr ⟨h1,by simp[k4]⟩};·cases h
end
section
variable{C:ax}{E:Env}{w:World}{S:ah}{a:Act}{β:Id->Option Loc}{F:Id->List Nat}
variable{next:Act->World->Prop}{Q:Exit->Act->World->Prop}
theorem ahp{t:TypeId}{z:Value}(h:Lm C t=some z):(∀w:World,(zeroValue t).run C.P w= .ok z w)∧dN z=true:=by unfold Lm at h;split at h;·{rename_i v hv;split at h;·{rename_i hs;simp only[AC]at h;subst h;refine⟨fun w=> ?_,hs⟩;simp only[Do]at hv;obtain⟨i,hi,hz⟩:=hv;simp[zeroValue,typeInfo,hi,hz]};·cases h};·cases h
theorem PX{t:TypeId}{kind:TypeDesc}{z:Value}(h:Af C t=some (kind,z)):∃kt et,C.P.underlying t=some (.map kt et)∧C.P.underlying kt=some kind∧Lp kind=true∧(∀w:World,(zeroValue et).run C.P w= .ok z w)∧dN z=true:=by unfold Af at h;split at h;·{rename_i kt et hu;split at h;·{rename_i kind' z' hk hz;split at h;·{rename_i hs;simp only[AC,GE]at h;obtain⟨rfl,rfl⟩:=h;obtain⟨h1,h2⟩:=ahp hz;exact⟨kt,et,hu,hk,hs,h1,h2⟩};·cases h};·cases h};·cases h
theorem Zd{w:World}{b:Nat}{es es':Array MapEntry}{c c':Nat}(h:w.heap[b]? =some (.map es c))(x:Addr):(gK w b (.map es' c')).frozen? x=w.frozen? x:=by have hb:=lt_of_heap h;unfold World.frozen? ;rw[vw hb];by_cases hx:x.block=b;·{rw[if_pos hx,hx,h]};·rw[if_neg hx]
theorem aeG(h:ay C E w S a β F){o:Oper}{t:TypeId}{r:Option Operand}(ho:o.op= .makeMap t r){e:aJ}(he:wj C S o t r=some e)(hd:b9 S e)(hn:∀a' w',aL C E (S.app e) a' w'->next a' w'):o.wp C.P a w next Q:=by unfold wj at he;split at he;·{rename_i d hm aU;split at he;·{rename_i hc;simp only[Hc,H0]at hc;obtain⟨rfl,hf⟩:=hc;simp only[AC]at he;subst he;have hfr:S.h [d]=none:=hf;have hd':d<S.n:=by{simpa[b9,put,aU]using hd};refine kC (v:= .map (some w.heap.size)) (w':=w.alloc (.map #[] 0)) ?_ (hn _ _ ?_);·{simp only[execOp,ho];refine nS ?_;rfl};·have e1:S.app (put o (.mr [d]) [] [([d],some [])])=⟨S.n,aj S.t d (.mr [d]),aj S.h [d] (some (some []))⟩:=by{simp[ah.app,put,aU,cS,aN]};rw[e1];have hold:∀b,b<w.heap.size->(w.alloc (.map #[] 0)).heap[b]? =w.heap[b]? :=fun b hb=>heap_alloc_old _ _ _ hb;have hnew:(w.alloc (.map #[] 0)).heap[w.heap.size]? =some (.map #[] 0):=heap_alloc_new _ _;refine h.FZ aU (kill:=[d]) (l:= .map w.heap.size) (aT:=[]) (G:=[w.heap.size]) hfr (.inl rfl) (by simp[aj]) (fun i hi _=>by simp[aj,hi]) (fun hk=>absurd rfl hk) (by simp) rfl rfl (fun x=> ?_) (fun b hb _=>hold b hb) (uy hold) (by simp) (fun b hb=> ?_) (fun I' β' _ _ hb=> ?_) (fun I' β' hb=> .mr hb) hd';·{by_cases hx:x.block=w.heap.size;·{have e2:w.heap[x.block]? =none:=by{rw[hx];simp};simp only[World.frozen?,hx,hnew];simp};·rw[World.frozen?_alloc_old _ _ _ hx]};·{obtain rfl:=List.mem_singleton.1 hb;exact .inr ⟨Nat.le_refl _,by simp⟩};·exact .inr (.inl ⟨_,hb,rfl, #[],0,hnew,rfl,fun e he=>by simp at he⟩)};·cases he};·cases he
theorem adg(h:ay C E w S a β F){x:U}{v:Value}{rows:Rows}{ids:List Id}(hx:R w (av E w F) β [] v x)(hr:CN S.h x=some (rows,ids)):(v= .map none∧rows=[])∨∃b,v= .map (some b)∧nk w b rows:=by unfold CN at hr;split at hr;·{rename_i id;split at hr;·{rename_i aT hid;simp only[AC,GE]at hr;obtain⟨rfl,rfl⟩:=hr;obtain⟨_,b,hb,rfl⟩:=hx.CS;rcases h.obj id _ hid with⟨h1,_⟩|⟨b2,h1,_,hm⟩|⟨_,_,_,_,_,_,h1,_⟩;·{rw[h1]at hb;cases hb};·{rw[h1]at hb;cases hb;exact .inr ⟨_,rfl,hm⟩};·rw[h1]at hb;cases hb};·cases hr};·{simp only[AC,GE]at hr;obtain⟨rfl,rfl⟩:=hr;obtain⟨_,b,rfl,_,hm⟩:=hx.ab3;exact .inr ⟨b,rfl,hm⟩};·{simp only[AC,GE]at hr;obtain⟨rfl,rfl⟩:=hr;obtain⟨_,rfl⟩:=hx.fG;exact .inl ⟨rfl,rfl⟩};·cases hr
theorem NS{kind:TypeDesc}{kv v:Value}:∀{es:List MapEntry},(∀e∈es,dN e.key=true∧dN e.val=true)->q9 kind kv (es.map k4)=some (some v)->dN v=true|[],_,h=>by{simp[q9]at h}|e::es,hs,h=>by simp only[Hd,k4,q9]at h;split at h;·{simp only[AC]at h;subst h;exact(hs e (Hb ..)).2};·{exact NS (fun e he=>hs e (Ha _ he)) h};·cases h
theorem aeD(h:ay C E w S a β F){o:Oper}{t:TypeId}{x k:Operand}{ok:Bool}(ho:o.op= .lookup t x k ok){e:aJ}(he:wh C S o t (un true (S.get C x)) (un true (S.get C k)) ok=some e)(hd:b9 S e)(hn:∀a' w',aL C E (S.app e) a' w'->next a' w'):o.wp C.P a w next Q:=by have hx:=h.dw x;have hk:=h.dw k;generalize un true (S.get C x)=xv at*;generalize un true (S.get C k)=kx at*;have hex:execOp a.eval o=(do pure (Next.value (<-Instr.lookup t (a.eval x) (a.eval k) ok))):=by{simp[execOp,ho]};unfold wh at he;split at he;·{rename_i kind z rows ids kv hm hr;obtain⟨r,hf,rfl⟩:=Option.map_eq_some_iff.1 he;obtain⟨kt,et,hu,hkt,hs,hz,hzs⟩:=PX hm;obtain⟨_,hkv⟩:=hk.fG;have hK:∀es:Array MapEntry,q9 kind kv (es.toList.map k4)=some r->(do Instr.checkKey es.isEmpty 10000 kt (a.eval k)let y<-Instr.findKey kt (a.eval k) es.toList match y with|some (_,v)=>do let x<-pure (v,true)pure (if ok=true then Value.tuple #[x.1,Value.bool x.2]else x.1)|none=>do let z<-zeroValue et let x<-pure (z,false)pure (if ok=true then Value.tuple #[x.1,Value.bool x.2]else x.1):Sem Value).run C.P w= .ok (if ok then .tuple #[r.getD z, .bool r.isSome]else r.getD z) w:=by{intro es hf;obtain⟨j,hj⟩:=NR 0 hf;rw[Sem.run_bind,run_checkKey hkt hs,Result.andThen_ok];have Cf:(Instr.findKey kt (a.eval k) es.toList).run C.P w= .ok (r.map fun v=>(j,v)) w:=by{unfold Instr.findKey;rw[Sem.run_bind,eI hkt,Result.andThen_ok,hkv,hj];rfl};rw[Sem.run_bind,Cf,Result.andThen_ok];cases r with|some v=>(rfl)|none=>simp only[Option.map_none,Option.getD_none,Option.isSome_none];rw[Sem.run_bind,hz w,Result.andThen_ok];rfl};have hrun:(Instr.lookup t (a.eval x) (a.eval k) ok).run C.P w= .ok (if ok then .tuple #[r.getD z, .bool r.isSome]else r.getD z) w∧dN (r.getD z)=true:=by{unfold Instr.lookup;rw[Sem.run_bind,eI hu,Result.andThen_ok];rcases adg h hx hr with⟨hv,rfl⟩|⟨b,hv,es,clock,hb,rfl,hsc⟩;·{refine⟨?_, ?_⟩;·{rw[hv];exact hK #[] hf};·simp only[q9,Option.some.injEq]at hf;subst hf;exact hzs};·refine⟨?_, ?_⟩;·{rw[hv];simp only;rw[Sem.run_bind,RV hb,Result.andThen_ok];exact hK es hf};·cases r with|none=>(exact hzs)|some v=>exact NS hsc hf};obtain⟨hrun,FE⟩:=hrun;refine fD h hd hex hrun ?_ hn;cases ok with|false=>(exact .val FE)|true=>exact .aI (.cons (f1:=[]) (f2:=[]) (.val FE) (.cons (f1:=[]) (f2:=[]) (.val rfl) .nil))};·cases he
theorem QD(h:ay C E w S a β F){o:Oper}{t:TypeId}{x k v:Operand}(ho:o.op= .mapUpdate t x k v∨o.op= .insert t x k v){e:aJ}
  (he:sO C S o t (un true (S.get C x)) (un true (S.get C k)) (un true (S.get C v))=some e)(hd:b9 S e)(hn:∀a' w',aL C E (S.app e) a' w'->next a' w'):o.wp C.P a w next Q:=by
 have hx:=h.dw x
 have hk:=h.dw k
 have hv:=h.dw v
 generalize un true (S.get C x)=xv at*
 generalize un true (S.get C k)=kx at*
 generalize un true (S.get C v)=vx at*
 have hex:execOp a.eval o=(do Instr.mapUpdate t (a.eval x) (a.eval k) (a.eval v);pure Next.skip):=by rcases ho with ho|ho<;>simp[execOp,ho]
 unfold sO at he
 split at he
 ·rename_i kind z id kv nU hm
  split at he
  ·rename_i rows hid
   split at he
   ·rename_i hc
    simp only[Hc,H0]at hc
    obtain⟨⟨Fv,Pf⟩,aU⟩:=hc
    obtain⟨aT,hp,rfl⟩:=Option.map_eq_some_iff.1 he
    obtain⟨kt,et,hu,hkt,hs,_,_⟩:=PX hm
    obtain⟨_,hkv⟩:=hk.fG
    obtain⟨_,abF⟩:=hv.fG
    obtain⟨_,b,bg,w4⟩:=hx.CS
    have Cn:=h.obj id rows hid
    obtain⟨hF,es,clock,hb,rfl,hsc⟩:F id=[b]∧nk w b rows:=by
     rcases Cn with⟨h1,_⟩|⟨b2,h1,h2,hm⟩|⟨_,_,_,_,_,_,h1,_⟩
     ·rw[h1]at bg;cases bg
     ·rw[h1]at bg;cases bg;exact⟨h2,hm⟩
     ·rw[h1]at bg;cases bg
    have jv:=lt_of_heap hb
    have key:∃es':Array MapEntry,∃c':Nat,(Instr.mapUpdate t (a.eval x) (a.eval k) (a.eval v)).run C.P w= .ok () (gK w b (.map es' c'))∧aT=es'.toList.map k4∧∀e∈es'.toList,dN e.key=true∧dN e.val=true:=by
     have pre:∀{r:Option (Nat×Value)},Instr.findNow kind kv es.toList 0=some r->(Instr.mapUpdate t (a.eval x) (a.eval k) (a.eval v)).run C.P w=(match r with
       |some (i,_)=>(do
        let key<-Instr.keyThatStays (((es[i]?).map MapEntry.key).getD kv) kv
        setObj b (.map (es.modify i fun e=>{e with key,val:=nU}) clock):Sem Unit)
       |none=>setObj b (.map (es.push {key:=kv,val:=nU,born:=clock}) (clock+1))).run C.P w:=by
      intro r hr
      unfold Instr.mapUpdate
      rw[Sem.run_bind,eI hu,Result.andThen_ok]
      simp only[w4,hkv,abF]
      rw[Sem.run_bind,RV hb,Result.andThen_ok]
      simp only
      rw[Sem.run_bind,run_checkKey hkt hs,Result.andThen_ok,Sem.run_bind]
      have Cf:(Instr.findKey kt kv es.toList).run C.P w= .ok r w:=by
       unfold Instr.findKey
       rw[Sem.run_bind,eI hkt,Result.andThen_ok,hr]
       rfl
      rw[Cf,Result.andThen_ok]
      cases r with
      |none=>rfl
      |some y=>rfl
     rcases Rb (kind:=kind) (kv:=kv) (nU:=nU) 0 hp with⟨j,v0,hj,h1,h2,rfl⟩|⟨h1,rfl⟩
     ·have hj':j<es.size:=by simpa using hj
      refine⟨es.modify j fun e=>{e with key:=kv,val:=nU},clock, ?_,by simp[H1],fun e he=> ?_⟩
      ·rw[pre h1]
       simp only[Nat.zero_add]
       have e1:((es[j]?).map MapEntry.key).getD kv=es.toList[j].key:=by simp[hj']
       rw[e1,Sem.run_bind]
       have e2:(Instr.keyThatStays es.toList[j].key kv).run C.P w= .ok kv w:=by
        unfold Instr.keyThatStays
        rw[if_pos (ahn h2)];rfl
       rw[e2,Result.andThen_ok,RZ _ hb]
      ·rw[H1]at he
       obtain⟨i,hi,rfl⟩:=List.getElem_of_mem he
       rw[List.getElem_modify]
       split
       ·exact⟨Fv,Pf⟩
       ·exact hsc _ (List.getElem_mem _)
     ·refine⟨es.push {key:=kv,val:=nU,born:=clock},clock+1, ?_,by simp[k4],fun e he=> ?_⟩
      ·rw[pre h1]
       simp only
       rw[RZ _ hb]
      ·simp only[Array.toList_push,List.mem_append,H2]at he
       rcases he with he|rfl
       ·exact hsc e he
       ·exact⟨Fv,Pf⟩
    obtain⟨es',c',hrun,rfl,abv⟩:=key
    have lY:∀k,(gK w b (.map es' c')).heap[k]? =if k=b then some (.map es' c')else w.heap[k]? :=vw jv
    refine LD (w':=gK w b (.map es' c')) (by rw[hex];exact Gy hrun) (hn _ _ ⟨β,F, ?_⟩)
    have e1:S.app (put o .aF [id] [(id,some (es'.toList.map k4))])=⟨S.n,S.t,aj S.h id (some (some (es'.toList.map k4)))⟩:=by simp[ah.app,put,aU,cS,aN]
    have e2:a.put o.dst undef=a:=by rw[aU];rfl
    rw[e1,e2]
    refine h.step (hok:=fun k r2 hk hr2=>by
     by_cases e:k=id
     ·subst e;exact⟨_,by assumption⟩
     ·exact⟨r2,by simpa[aj,e]using hr2⟩) (·=id) h.n (by simp[gK]) rfl rfl (fun x=>Zd hb x) (fun bb _ eU=> ?_) (fun _ _ h=>h) (fun i bb eU=> .inl ⟨i,eU⟩) (fun i hi=>⟨rfl,by simp[aj,hi]⟩) (fun hI i hi eP hr2=> ?_) (fun i hi hno=> ?_) (fun i _=>h.nd i) (fun i j bb _ h1 h2=>h.cR i j bb h1 h2) (fun i hi=> ?_) (fun _ t=> .inl ⟨rfl,rfl⟩) (hdf:=rfl) (e8:= ?_)
    ·rw[lY,if_neg]
     intro e;subst e
     exact eU id rfl (by rw[hF];exact List.mem_singleton.2 rfl)
    ·subst hi
     simp only[aj,if_true,AC]at hr2
     subst hr2
     exact .inr (.inl ⟨b,bg,hF,es',c',by rw[lY,if_pos rfl],rfl,abv⟩)
    ·subst hi
     exact absurd (by simp[aj]) (hno (es'.toList.map k4))
    ·refine h.dom i ?_
     by_cases OU:i=id
     ·subst OU;simp[aj]at hi
     ·simpa[aj,OU]using hi
    ·intro bb n hB
     obtain⟨c2,e2,fY,hn2⟩:=hB
     refine⟨c2,e2, ?_,hn2⟩
     rw[lY,if_neg]
     ·exact fY
     ·intro e;subst e;rw[hb]at fY;cases fY
   ·cases he
  ·cases he
 ·cases he
end
open Go
theorem E5{g:Id->List Nat}:∀{l:List Id},(l.flatMap g).Nodup->∀{i j:Id}{b:Nat},i∈l->j∈l->b∈g i->b∈g j->i=j|[],_,i,_,_,h,_,_,_=>by{cases h}|x::l,hn,i,j,b,hi,hj,hb,hb'=>by simp only[H3]at hn;obtain⟨_,h2,h3⟩:=List.nodup_append.1 hn;rcases List.mem_cons.1 hi with EU|hi2<;>rcases List.mem_cons.1 hj with ej|hj2;·{rw[EU,ej]};·{exact absurd rfl (h3 b (EU▸hb) b (List.mem_flatMap.2 ⟨j,hj2,hb'⟩))};·{exact absurd rfl (h3 b (ej▸hb') b (List.mem_flatMap.2 ⟨i,hi2,hb⟩))};·exact E5 h2 hi2 hj2 hb hb'
theorem H9{g:Id->List Nat}{l:List Id}(hn:(l.flatMap g).Nodup){i:Id}(hi:i∈l):(g i).Nodup:=by induction l with|nil=>(cases hi)|cons x l ih=>simp only[H3]at hn;rcases List.mem_cons.1 hi with rfl|hi;·{exact(List.nodup_append.1 hn).1};·exact ih (List.nodup_append.1 hn).2.1 hi
theorem adw{l:List (Id×Id)}(hn:(l.map (·.2)).Nodup){k:Id}(h:k∈l.map (·.2)):∃o,fC l k=some o:=by obtain⟨x,hx,rfl⟩:=List.mem_map.1 h;exact⟨x.1,ox hn hx⟩
theorem RE{l:List (Id×Id)}(hn:(l.map (·.2)).Nodup){rows aT:Rows}(h:mh l rows=some aT):jZ (fC l) aT rows:=by unfold mh at h;split at h;·{rename_i hf;simp only[AC]at h;subst h;exact .of_flat hf};·exact K3 hn h
section
variable{C:ax}{E:Env}{w:World}{S:ah}{a:Act}{β:Id->Option Loc}{F:Id->List Nat}
variable{next:Act->World->Prop}{Q:Exit->Act->World->Prop}
theorem Qx(h:ay C E w S a β F){l:List (Id×Id)}(hn:(l.map (·.2)).Nodup)(Fv:(l.map (·.1)).Nodup):∀{r:List (Id×Id)}{obs gone},gP S.h l r=some (obs,gone)->(∀x∈r,x∈l)->(r.map (·.1)).Nodup->∃hl,vc obs=some hl∧hl.map (·.1)=r.map (·.2)∧∃(g:Id->List Nat)(rest:List Nat),(∀o k,(o,k)∈r->∀rows,(k,rows)∈hl->dx w (av E w F) (fun i=>(fC l i).bind β) k rows (g o))∧((r.map (·.1)).flatMap g++rest).Perm ((r.map (·.1)).flatMap F++gone.flatMap F)|[],obs,gone,ho,_,_=>by{simp only[gP,AC,GE]at ho;obtain⟨rfl,rfl⟩:=ho;exact⟨[],rfl,rfl,fun _=>[],[],(fun _ _ h=>by cases h),by simp⟩}|(o,k)::r,obs,gone,ho,hl,hr=>by simp only[gP]at ho;split at ho;·{rename_i rows hrows;simp only[Do,GT,GE]at ho;obtain⟨x,hx,aT,abq,⟨xD,gone'⟩,hy,rfl,rfl⟩:=ho;obtain⟨hl',e1,e2,g,rest,g1,g2⟩:=Qx h hn Fv hy (fun x hx=>hl x (Ha _ hx)) (List.nodup_cons.1 hr).2;have hkeep:∀i lo,tj l i=true->β i=some lo->β i=some lo:=fun _ _ _ h=>h;obtain⟨go,ro,k1,k2⟩:=(h.obj o rows hrows).closed h.obj hkeep hx (fun _ h=>h);have hm:fC l k=some o:=ox hn (hl (o,k) (Hb ..));have cC:=k1.mg hm (RE hn abq);have hno:o∉r.map (·.1):=(List.nodup_cons.1 hr).1;refine⟨(k,aT)::hl',by simp[vc,e1],by simp[e2],fun i=>if i=o then go else g i,ro++rest, ?_, ?_⟩;·{intro o2 k' hm2 eP O1;rcases List.mem_cons.1 hm2 with p2|cg;·{simp only[GE]at p2;obtain⟨rfl,rfl⟩:=p2;rcases List.mem_cons.1 O1 with p3|dG;·{simp only[GE,true_and]at p3;subst p3;simpa using cC};·exfalso;have:k'∈r.map (·.2):=by{rw[<-e2];exact List.mem_map.2 ⟨_,dG,rfl⟩};obtain⟨⟨Qi,JU⟩,h3,bh⟩:=List.mem_map.1 this;have h4:=ox hn (hl _ (List.mem_cons_of_mem _ h3));have X0:JU=k':=bh;rw[X0,hm]at h4;simp only[Option.some.injEq]at h4;exact hno (h4▸List.mem_map.2 ⟨_,h3,rfl⟩)};·have hne:o2≠o:=fun e=>hno (e▸List.mem_map.2 ⟨_,cg,rfl⟩);simp only[if_neg hne];rcases List.mem_cons.1 O1 with p3|dG;·{exfalso;simp only[GE]at p3;have h4:=ox hn (hl _ (Ha _ cg));rw[p3.1,hm]at h4;simp only[AC]at h4;exact hne h4.symm};·exact g1 o2 k' cg eP dG};·have e:(r.map (·.1)).flatMap (fun i=>if i=o then go else g i)=(r.map (·.1)).flatMap g:=by{rw[List.flatMap_def,List.flatMap_def];congr 1;refine List.map_congr_left fun i hi=> ?_;have:i≠o:=fun e=>hno (e▸hi);simp[this]};simp only[List.map_cons,List.flatMap_cons,if_true,e,List.flatMap_append];have:=rT k2 g2;rw[List.perm_iff_count]at this|-;intro z;have:=this z;simp only[List.count_append]at this|-;omega};·cases ho
theorem Zx(h:ay C E w S a β F){l:List (Id×Id)}{obs:List U}{gone:List Id}{args:List U}{vs:List Value}(ha:an w (av E w F) β [] vs args)(ho:gP S.h l l=some (obs,gone))(kM:(l.map (·.1)).Nodup)(lp:(l.map (·.2)).Nodup)(CU:gone.Nodup)(dg:∀i∈gone,i∉l.map (·.1)):∃hl G,vc obs=some hl∧hl.map (·.1)=l.map (·.2)∧Eh C w (av E w F) (fun i=>(fC l i).bind β) G hl vs (args.map (eH l))∧(∀k b,b∈G k->∃i,(i∈l.map (·.1)∨i∈gone)∧b∈F i):=by obtain⟨hl,e1,e2,g,rest,g1,g2⟩:=Qx h lp kM ho (fun _ h=>h) kM;have hall:((l.map (·.1))++gone).Nodup:=List.nodup_append.2 ⟨kM,CU,fun x hx y hy e=>dg y hy (e▸hx)⟩;have hnd:((l.map (·.1)).flatMap g).Nodup:=by{have h1:=h.Ia hall;rw[List.flatMap_append]at h1;exact(List.nodup_append.1 (g2.nodup_iff.2 h1)).1};have hmem:∀i b,i∈l.map (·.1)->b∈g i->∃j,(j∈l.map (·.1)∨j∈gone)∧b∈F j:=fun i b hi hb=>by{have h1:b∈(l.map (·.1)).flatMap F++gone.flatMap F:=g2.mem_iff.1 (Hk _ (List.mem_flatMap.2 ⟨i,hi,hb⟩));rcases List.mem_append.1 h1 with h1|h1;·{obtain⟨j,hj,hb⟩:=List.mem_flatMap.1 h1;exact⟨j, .inl hj,hb⟩};·obtain⟨j,hj,hb⟩:=List.mem_flatMap.1 h1;exact⟨j, .inr hj,hb⟩};let G:Id->List Nat:=fun k=>match fC l k with|some o=>g o|none=>[];have eT:∀k b,b∈G k->∃o,fC l k=some o∧o∈l.map (·.1)∧b∈g o:=fun k b hb=>by{simp only[G]at hb;cases ho:fC l k with|none=>(rw[ho]at hb;cases hb)|some o=>rw[ho]at hb;exact⟨o,rfl,List.mem_map.2 ⟨_,pG ho,rfl⟩,hb⟩};have ZX:∀b,av E w F b->∀k,b∉G k:=fun b hb k hk=>by{obtain⟨o,_,h2,h3⟩:=eT k b hk;obtain⟨j,_,h4⟩:=hmem o b h2 h3;exact hb.2.2 j h4};refine⟨hl,G,e1,e2,{args:= ?_,obj:= ?_,out:= ?_,nd:= ?_,cR:= ?_,lt:= ?_,i0:=fun b hb=>⟨hb.2.1,ZX b hb⟩,bS:=fun g cs hg=>(h.bS g cs hg).pn rfl fun _ h=>h}, ?_⟩;·{have go:∀{as:List U}{vs:List Value},an w (av E w F) β [] vs as->an w (av E w F) (fun i=>(fC l i).bind β) [] vs (as.map (eH l)):=fun{as}=>by{induction as with|nil=>(intro vs h;obtain⟨_,rfl⟩:=h.fc;exact .nil)|cons x as ih=>intro vs h;obtain⟨f1,f2,v,vs',e,rfl,h1,h2⟩:=h.cons_inv;have e':=List.append_eq_nil_iff.1 e.symm;obtain⟨rfl,rfl⟩:=e';exact R.cons (f1:=[]) (f2:=[]) (h1.mg (K1 lp x) rfl) (ih h2)};exact go ha};·{intro k rows hk;obtain⟨o,ho⟩:=adw lp (show k∈l.map (·.2)by rw[<-e2];exact List.mem_map.2 ⟨_,hk,rfl⟩);have:=g1 o k (pG ho) rows hk;simpa only[G,ho]using this};·{intro k hk;rw[e2]at hk;have:fC l k=none:=by{cases hx:fC l k with|none=>(rfl)|some o=>exact absurd (List.mem_map.2 ⟨_,pG hx,rfl⟩) hk};simp[G,this]};·{intro k;simp only[G];cases ho:fC l k with|none=>(exact Hm)|some o=>exact H9 hnd (List.mem_map.2 ⟨_,pG ho,rfl⟩)};·{intro i j b hi hj;obtain⟨o,bh,h3,h4⟩:=eT i b hi;obtain⟨o',e5,h5,h6⟩:=eT j b hj;have:=E5 hnd h3 h5 h4 h6;subst this;exact Ih kM (pG bh) (pG e5)};·{intro k b hb;obtain⟨o,_,h2,h3⟩:=eT k b hb;obtain⟨j,_,h4⟩:=hmem o b h2 h3;exact(h.lt j b h4).1};·intro k b hb;obtain⟨o,_,h2,h3⟩:=eT k b hb;obtain⟨j,h4,h5⟩:=hmem o b h2 h3;exact⟨j,h4,h5⟩
theorem R.agr{I:Nat->Prop}{m:Id->Option Id}{f:List Nat}{v:Value}{a b:U}(h:R w I β f v b)(hr:su m a b):∃f2,(f2=f∨f2=[])∧R w I (fun i=>(m i).bind β) f2 v a:=by cases hr with|cell hc=>(exact⟨f, .inl rfl,h.K2 hc⟩)|agg hl=>(obtain⟨vs,rfl,h⟩:=h.oR;exact⟨f, .inl rfl,an.mg hl h⟩)|aI hl=>(obtain⟨vs,rfl,hu⟩:=h.AW;exact⟨f, .inl rfl, .aI (an.mg hl hu)⟩)|fn h1 h2=>(obtain⟨rfl,vs,cs,rfl,k1,k2⟩:=h.mH;exact⟨[], .inl rfl, .fn (an.mg h1 k1) (an.mg h2 k2)⟩)|aF=>exact⟨[], .inr rfl, .aF⟩
theorem p4{l':List (Id×Id)}:∀{r:List (Id×Id)}{outs:List U}{back:List (Id×Option Rows)},gU l' r outs=some back->back.map (·.1)=r.map (·.1)∧∀x∈back,∀aT,x.2=some aT->∃k rows,(x.1,k)∈r∧U.bM k rows∈outs∧mh l' rows=some aT|[],[],back,h=>by{simp only[gU,AC]at h;subst h;exact⟨rfl,fun x hx=>by cases hx⟩}|[],a::outs,back,h=>by{simp[gU]at h}|(o,k)::r,[],back,h=>by{simp[gU]at h}|(o,k)::r,a::outs,back,h=>by cases a with|bM k' rows=>(simp only[gU]at h;split at h;·{rename_i e;subst e;simp only[Do,GT]at h;obtain⟨aT,h1,y,h2,rfl⟩:=h;obtain⟨i1,i2⟩:=p4 h2;refine⟨by simp[i1],fun x hx eP e=> ?_⟩;rcases List.mem_cons.1 hx with rfl|hx;·{simp only[AC]at e;subst e;exact⟨_,rows,Hb ..,Hb ..,h1⟩};·obtain⟨k2,r2,m1,m2,m3⟩:=i2 x hx eP e;exact⟨k2,r2,Ha _ m1,Ha _ m2,m3⟩};·cases h)|aF=>(simp only[gU,GT]at h;obtain⟨y,h2,rfl⟩:=h;obtain⟨i1,i2⟩:=p4 h2;refine⟨by simp[i1],fun x hx eP e=> ?_⟩;rcases List.mem_cons.1 hx with rfl|hx;·{cases e};·obtain⟨k2,r2,m1,m2,m3⟩:=i2 x hx eP e;exact⟨k2,r2,Ha _ m1,Ha _ m2,m3⟩)|_=>simp[gU]at h
theorem Kx{L:Id->Option (Option Rows)}{l:List (Id×Id)}:∀{r:List (Id×Id)}{x},gP L l r=some x->∀i∈r.map (·.1),∃rows,L i=some (some rows)|[],_,_,i,hi=>by{cases hi}|(o,k)::r,x,h,i,hi=>by simp only[gP]at h;split at h;·{rename_i rows hrows;simp only[Do,GT]at h;obtain⟨_,_,_,_,y,hy,_⟩:=h;rcases List.mem_cons.1 hi with rfl|hi;·{exact⟨rows,hrows⟩};·exact Kx hy i hi};·cases h
theorem agq{l:List (Id×Id)}{i:Id}(h:i∈l.map (·.1)):∃k,gy l i=some k:=by induction l with|nil=>(cases h)|cons x l ih=>obtain⟨o,k⟩:=x;simp only[gy];split;·{exact⟨k,rfl⟩};·rename_i hne;rcases List.mem_cons.1 h with e|h;·{exact absurd e.symm hne};·exact ih h
open Classical in theorem ay.Oj(h:ay C E w S a β F){l:List (Id×Id)}{gone:List Id}{back news:List (Id×Option Rows)}{G G' pX:Id->List Nat}{fr:List Nat}{I':Nat->Prop}{w':World}{β':Id->Option Loc}{a':Act}{t':Nat->U}(kM:(l.map (·.1)).Nodup)(lp:(l.map (·.2)).Nodup)(dg:∀i∈gone,i∉l.map (·.1))(live:∀i∈l.map (·.1),∃rows,S.h i=some (some rows))(Zu:∀i∈gone,∃rows,S.h i=some (some rows))(qh:∀k b,b∈G k->∃i,(i∈l.map (·.1)∨i∈gone)∧b∈F i)(hk:Kept w w' fun b=>∃k,b∈G k)(lB:∀k,(G' k).Nodup)(xO:∀i j b,b∈G' i->b∈G' j->i=j)(Rm:∀k b,b∈G' k->b∉fr)(Gl:∀b,(b∈fr∨∃k,b∈G' k)->b<w'.heap.size∧((∃k,b∈G k)∨w.heap.size<=b))(af3:∀b,I' b->(av E w F b∨(∃k,b∈G k)∨w.heap.size<=b)∧b<w'.heap.size∧b∉fr∧∀k,b∉G' k)(OJ:back.map (·.1)=l.map (·.1))(fB:∀x∈back,∀aT,x.2=some aT->∃k,(x.1,k)∈l∧dx w' I' β x.1 aT (G' k))(i1:∀i lo,β i=some lo->β' i=some lo)(i2:∀i,(∀x∈news,x.1≠i)->β' i=β i∧pX i=[])(i3:∀x∈news,∃rows,x.2=some rows∧dx w' I' β' x.1 rows (pX x.1))(i4:∀i,(pX i).Nodup∧∀b∈pX i,b∈fr)(i5:∀i j b,b∈pX i->b∈pX j->i=j)(mM:∀x∈news,S.h x.1=none)(wQ:∀x∈news,¬E.K x.1)(hn:a'.tmps.size=S.n)(hdf:a'.defers=a.defers)(Cs:∀F',(∀b,av E w F b->av E w' F' b)->(∀b,I' b->av E w' F' b)->∀t,(a'.tmps.getD t undef=a.tmps.getD t undef∧t' t=S.t t)∨R w' (av E w' F') β' [] (a'.tmps.getD t undef) (t' t)):aL C E ⟨S.n,t',aN S.h (news++(back++gone.map fun i=>(i,none)))⟩ a' w':=by let hp:=aN S.h (news++(back++gone.map fun i=>(i,none)));let dD:Id->List Nat:=fun i=>if(∃rows,hp i=some (some rows))then(if i∈l.map (·.1)then(match gy l i with|some k=>G' k|none=>[])else F i++pX i)else[];have Fw:∀x∈news,x.1∉l.map (·.1):=fun x hx hm=>by{obtain⟨rows,e⟩:=live _ hm;rw[mM x hx]at e;cases e};have O2:∀x∈news,x.1∉gone:=fun x hx hm=>by{obtain⟨rows,e⟩:=Zu _ hm;rw[mM x hx]at e;cases e};have jv:∀x∈back,x.1∈l.map (·.1):=fun x hx=>by{rw[<-OJ];exact List.mem_map.2 ⟨x,hx,rfl⟩};have ry:∀i,(∃x∈news,x.1=i∧hp i=some x.2)∨((∀x∈news,x.1≠i)∧∃x∈back,x.1=i∧hp i=some x.2)∨((∀x∈news,x.1≠i)∧i∉l.map (·.1)∧i∈gone∧hp i=some none)∨((∀x∈news,x.1≠i)∧i∉l.map (·.1)∧i∉gone∧hp i=S.h i):=fun i=>by{rcases fF S.h (news++(back++gone.map fun i=>(i,none))) i with⟨x,hx,e1,e2⟩|⟨h1,h2⟩;·{by_cases s3:∃y∈news,y.1=i;·{obtain⟨y,hy,E3⟩:=s3;rcases List.mem_append.1 hx with hx|hx;·{exact .inl ⟨x,hx,e1,e2⟩};·exfalso;rcases List.mem_append.1 hx with hx|hx;·{exact Fw y hy (by rw[E3,<-e1];exact jv x hx)};·obtain⟨j,hj,rfl⟩:=List.mem_map.1 hx;exact O2 y hy (by rw[E3,<-e1];exact hj)};·have Jj:∀x∈news,x.1≠i:=fun y hy e=>s3 ⟨y,hy,e⟩;rcases List.mem_append.1 hx with hx|hx;·{exact absurd e1 (Jj x hx)};·rcases List.mem_append.1 hx with hx|hx;·{exact .inr (.inl ⟨Jj,x,hx,e1,e2⟩)};·obtain⟨j,hj,rfl⟩:=List.mem_map.1 hx;have XZ:j=i:=e1;subst XZ;exact .inr (.inr (.inl ⟨Jj,dg j hj,hj,e2⟩))};·refine .inr (.inr (.inr ⟨fun x hx=>h1 x (Hk _ hx),fun hm=> ?_,fun hm=> ?_,h2⟩));·{rw[<-OJ]at hm;obtain⟨x,hx,e⟩:=List.mem_map.1 hm;exact h1 x (Hn _ (Hk _ hx)) e};·exact h1 (i,none) (Hn _ (Hn _ (List.mem_map.2 ⟨i,hm,rfl⟩))) rfl};have Ec:∀i b,b∈dD i->(∃k,b∈G' k∧gy l i=some k∧i∈l.map (·.1))∨(i∉l.map (·.1)∧i∉gone∧b∈F i)∨(i∉l.map (·.1)∧(∃x∈news,x.1=i)∧b∈pX i):=fun i b hb=>by{simp only[dD]at hb;split at hb;·{rename_i hal;split at hb;·{rename_i og;cases hr:gy l i with|none=>(rw[hr]at hb;cases hb)|some k=>rw[hr]at hb;exact .inl ⟨k,hb,rfl,og⟩};·rename_i og;rcases List.mem_append.1 hb with hb|hb;·{refine .inr (.inl ⟨og,fun hg=> ?_,hb⟩);obtain⟨rows,hal⟩:=hal;rcases ry i with⟨x,hx,e,_⟩|⟨_,x,hx,e,_⟩|⟨_,_,_,e⟩|⟨_,_,e,_⟩;·{exact O2 x hx (e▸hg)};·{exact og (e▸jv x hx)};·{rw[e]at hal;cases hal};·exact e hg};·refine .inr (.inr ⟨og, ?_,hb⟩);by_cases s3:∃x∈news,x.1=i;·{exact s3};·rw[(i2 i fun x hx e=>s3 ⟨x,hx,e⟩).2]at hb;cases hb};·cases hb};have B2:∀b,I' b->av E w' dD b:=fun b hb=>by{obtain⟨k1,k2,cC,iY⟩:=af3 b hb;refine⟨?_,k2,fun i hm=> ?_⟩;·{rcases k1 with k1|⟨k,k1⟩|k1;·{exact k1.1};·{obtain⟨i,_,hi⟩:=qh k b k1;exact(h.lt i b hi).2.elim (fun h=> .inr (.inl h)) (fun h=> .inr (.inr h))};·exact .inr (.inr (Nat.le_trans h.kept.size k1))};·rcases Ec i b hm with⟨k,hg,_⟩|⟨n1,n2,hf⟩|⟨_,_,hg⟩;·{exact iY k hg};·{rcases k1 with k1|⟨k,k1⟩|k1;·{exact k1.2.2 i hf};·{obtain⟨j,hj,hf'⟩:=qh k b k1;have:=h.cR i j b hf hf';subst this;exact hj.elim n1 n2};·have:=(h.lt i b hf).1;omega};·exact cC ((i4 i).2 b hg)};refine⟨β',dD, ?_⟩;have abh:∀i,¬(i∈l.map (·.1)∨i∈gone∨∃x∈news,x.1=i)->dD i=F i∧hp i=S.h i:=fun i hi=>by{have n1:i∉l.map (·.1):=fun e=>hi (.inl e);have n2:i∉gone:=fun e=>hi (.inr (.inl e));have ow:∀x∈news,x.1≠i:=fun x hx e=>hi (.inr (.inr ⟨x,hx,e⟩));have e:hp i=S.h i:=by{rcases ry i with⟨x,hx,e,_⟩|⟨_,x,hx,e,_⟩|⟨_,_,e,_⟩|⟨_,_,_,e⟩;·{exact absurd e (ow x hx)};·{exact absurd (e▸jv x hx) n1};·{exact absurd e n2};·exact e};refine⟨?_,e⟩;simp only[dD];split;·{rw[(i2 i ow).2,List.append_nil]};·rename_i hal;exact(h.dead i fun rows e'=>hal ⟨rows,by rw[e];exact e'⟩).symm};refine h.AL (fun i=>i∈l.map (·.1)∨i∈gone∨∃x∈news,x.1=i) hn hk.size hk.os hk.out hk.dY ?_ i1 ?_ abh ?_ ?_ ?_ ?_ ?_ ?_ (hdf:=hdf) (e8:=hk.mq) (hok:=jG.of rfl fun x hx hne=> ?_);·{intro b hb hno;refine hk.blk b hb fun⟨k,hm⟩=> ?_;obtain⟨i,hi,hf⟩:=qh k b hm;exact hno i (hi.elim .inl fun h=> .inr (.inl h)) hf};·{intro i b hb;have SE:∀{b:Nat},b<w'.heap.size∧((∃k,b∈G k)∨w.heap.size<=b)->(∃i,b∈F i)∨(w.heap.size<=b∧b<w'.heap.size):=fun⟨h1,h2⟩=>by{rcases h2 with⟨k,h2⟩|h2;·{obtain⟨i,_,hi⟩:=qh k _ h2;exact .inl ⟨i,hi⟩};·exact .inr ⟨h2,h1⟩};rcases Ec i b hb with⟨k,hg,_⟩|⟨_,_,hf⟩|⟨_,_,hg⟩;·{exact SE (Gl b (.inr ⟨k,hg⟩))};·{exact .inl ⟨i,hf⟩};·exact SE (Gl b (.inl ((i4 i).2 b hg)))};·{intro hI i _ rows hr;have hr':hp i=some (some rows):=hr;have hal:∃rows,hp i=some (some rows):=⟨rows,hr'⟩;rcases ry i with⟨x,hx,e,e2⟩|⟨s3,x,hx,e,e2⟩|⟨_,_,_,e⟩|⟨ow,n1,n2,e⟩;·{subst e;obtain⟨eP,bh,h3⟩:=i3 x hx;rw[e2,bh]at hr';simp only[AC]at hr';subst hr';have:dD x.1=pX x.1:=by{simp only[dD];rw[if_pos hal,if_neg (Fw x hx),h.dead x.1 (by rw[mM x hx];simp),List.nil_append]};rw[this];exact h3.mono B2 (fun _ _=>rfl) (fun _ _ h=>h)};·{subst e;rw[e2]at hr';simp only[AC]at hr';obtain⟨k,Jd,Cn⟩:=fB x hx rows hr';have:dD x.1=G' k:=by{simp only[dD];rw[if_pos hal,if_pos (jv x hx)];obtain⟨k',hk'⟩:=agq (jv x hx);rw[hk',Ih kM Jd (AG hk')]};rw[this];exact Cn.mono B2 (fun _ _=>rfl) i1};·{rw[e]at hr';cases hr'};·exfalso;rename_i gr;rcases gr with gr|gr|⟨x,hx,gr⟩;·{exact n1 gr};·{exact n2 gr};·exact ow x hx gr};·{intro i _ hno;simp only[dD];rw[if_neg];rintro⟨rows,e⟩;exact hno rows e};·{intro i _;simp only[dD];split;·{split;·{cases gy l i with|none=>(exact Hm)|some k=>exact lB k};·by_cases s3:∃x∈news,x.1=i;·{obtain⟨x,hx,rfl⟩:=s3;rw[h.dead x.1 (by rw[mM x hx];simp),List.nil_append];exact(i4 _).1};·rw[(i2 i fun x hx e=>s3 ⟨x,hx,e⟩).2,List.append_nil];exact h.nd i};·exact Hm};·{intro i j b _ hi hj;have OG:∀{i j k:Id}{b:Nat},b∈G' k->j∉l.map (·.1)->j∉gone->b∈F j->False:=fun{i j k b}hg n1 n2 hf=>by{rcases(Gl b (.inr ⟨k,hg⟩)).2 with⟨k2,hk2⟩|hge;·{obtain⟨q,hq,I3⟩:=qh k2 b hk2;have:=h.cR j q b hf I3;subst this;exact hq.elim n1 n2};·have:=(h.lt j b hf).1;omega};have OQ:∀{j:Id}{b:Nat},b∈fr->j∉l.map (·.1)->j∉gone->b∈F j->False:=fun{j b}hg n1 n2 hf=>by{rcases(Gl b (.inl hg)).2 with⟨k2,hk2⟩|hge;·{obtain⟨q,hq,I3⟩:=qh k2 b hk2;have:=h.cR j q b hf I3;subst this;exact hq.elim n1 n2};·have:=(h.lt j b hf).1;omega};rcases Ec i b hi with⟨k,hg,Js,_⟩|⟨n1,n2,hf⟩|⟨_,_,hg⟩<;>rcases Ec j b hj with⟨k',hg',abr,_⟩|⟨P8,P9,hf'⟩|⟨_,_,hg'⟩;·{have:=xO k k' b hg hg';subst this;have e1:=ox lp (AG Js);have e2:=ox lp (AG abr);rw[e1]at e2;exact Option.some.inj e2};·{exact(OG (i:=i) hg P8 P9 hf').elim};·{exact absurd ((i4 j).2 b hg') (Rm k b hg)};·{exact(OG (i:=j) hg' n1 n2 hf).elim};·{exact h.cR i j b hf hf'};·{exact(OQ ((i4 j).2 b hg') n1 n2 hf).elim};·{exact absurd ((i4 i).2 b hg) (Rm k' b hg')};·{exact(OQ ((i4 i).2 b hg) P8 P9 hf').elim};·exact i5 i j b hg hg'};·{intro i hi;have hi':hp i=none:=hi;rcases ry i with⟨x,hx,_,e⟩|⟨_,x,hx,_,e⟩|⟨_,_,_,e⟩|⟨ow,_,_,e⟩;·{rw[e]at hi';cases hi'};·{rw[e]at hi';cases hi'};·{rw[e]at hi';cases hi'};·rw[(i2 i ow).1];exact h.dom i (by rw[<-e];exact hi')};·{intro hI;exact Cs dD hI B2};·rcases List.mem_append.1 hx with hx|hx;·{exact .inl (wQ x hx)};·rcases List.mem_append.1 hx with hx|hx;·{exact .inr (live _ (jv x hx))};·obtain⟨i,_,rfl⟩:=List.mem_map.1 hx;exact absurd rfl hne
theorem A4.val{w':World}{I':Nat->Prop}{fr:List Nat}{e:Ending}{r:U}(h:A4 w' I' β fr e r)(hr:zX r=false):∃v,e= .returned v∧R w' I' β fr v r:=by cases r<;>first|exact h|cases hr
theorem W8{L:Id->Option (Option Rows)}:∀(n:Nat){a:U}{x},pk L n a=some x->∀i∈x.2,∃rows,L i=some (some rows):=by
 intro n
 induction n with
 |zero=>intro a x h;simp[pk]at h
 |succ n ih=>
  have Ie:∀{cs:List U}{x},eu (pk L n) cs=some x->∀i∈x.2,∃rows,L i=some (some rows):=fun{cs}=>by
   induction cs with
   |nil=>intro x h i hi;simp[eu]at h;subst h;cases hi
   |cons c cs w7=>
    intro x h i hi
    simp only[eu,Do,GT]at h
    obtain⟨y,hy,z,hz,rfl⟩:=h
    rcases List.mem_append.1 hi with hi|hi
    ·exact ih hy i hi
    ·exact w7 hz i hi
  have KM:∀{cs:List U}{x},iM (pk L n) cs=some x->∀i∈x.2,∃rows,L i=some (some rows):=fun h i hi=>by
   unfold iM at h
   split at h
   ·simp only[AC]at h;subst h;cases hi
   ·exact Ie h i hi
  have foldr:∀{cs:Rows}{x},eS (iM (pk L n)) cs=some x->∀i∈x.2,∃rows,L i=some (some rows):=fun{cs}=>by
   induction cs with
   |nil=>intro x h i hi;simp[eS]at h;subst h;cases hi
   |cons c cs w7=>
    intro x h i hi
    simp only[eS,Do,GT]at h
    obtain⟨y,hy,z,hz,rfl⟩:=h
    rcases List.mem_append.1 hi with hi|hi
    ·exact KM hy i hi
    ·exact w7 hz i hi
  have afA:∀{cs:Rows}{x},pL (pk L n) cs=some x->∀i∈x.2,∃rows,L i=some (some rows):=fun h i hi=>by
   unfold pL at h
   split at h
   ·simp only[AC]at h;subst h;cases hi
   ·exact foldr h i hi
  intro a x h i hi
  unfold pk at h
  repeat'(first
   |(simp only[reduceCtorEq]at h;done)
   |(simp only[AC]at h;subst h;first|(simp only[H2]at hi;subst hi;exact⟨_,by assumption⟩)|(cases hi;done))
   |(simp only[GT]at h;obtain⟨y,hy,rfl⟩:=h;first|exact KM hy i hi|(rcases List.mem_cons.1 hi with rfl|hi;exact⟨_,by assumption⟩;first|exact afA hy i hi|exact KM hy i hi))
   |split at h)
theorem Ky{L:Id->Option (Option Rows)}{l:List (Id×Id)}:∀{r:List (Id×Id)}{x},gP L l r=some x->∀i∈x.2,∃rows,L i=some (some rows)
 |[],x,h,i,hi=>by simp only[gP,AC]at h;subst h;cases hi
 |(o,k)::r,x,h,i,hi=>by
  simp only[gP]at h
  split at h
  ·simp only[Do,GT]at h
   obtain⟨y,hy,aT,_,z,hz,rfl⟩:=h
   have Xh:∀{a:U}{x},gW L (tj l) a=some x->∀i∈x.2,∃rows,L i=some (some rows):=fun h i hi=>by
    unfold gW at h
    repeat'(first
     |(simp only[reduceCtorEq]at h;done)
     |(simp only[AC]at h;subst h;cases hi)
     |exact W8 _ h i hi
     |split at h)
   have Ie:∀{cs:List U}{x},eu (gW L (tj l)) cs=some x->∀i∈x.2,∃rows,L i=some (some rows):=fun{cs}=>by
    induction cs with
    |nil=>intro x h i hi;simp[eu]at h;subst h;cases hi
    |cons c cs w7=>
     intro x h i hi
     simp only[eu,Do,GT]at h
     obtain⟨y,hy,z,hz,rfl⟩:=h
     rcases List.mem_append.1 hi with hi|hi
     ·exact Xh hy i hi
     ·exact w7 hz i hi
   have Xv:∀{cs:List U}{x},k3 L (tj l) cs=some x->∀i∈x.2,∃rows,L i=some (some rows):=fun h i hi=>by
    unfold k3 at h
    split at h
    ·simp only[AC]at h;subst h;cases hi
    ·exact Ie h i hi
   have foldr:∀{cs:Rows}{x},eS (k3 L (tj l)) cs=some x->∀i∈x.2,∃rows,L i=some (some rows):=fun{cs}=>by
    induction cs with
    |nil=>intro x h i hi;simp[eS]at h;subst h;cases hi
    |cons c cs w7=>
     intro x h i hi
     simp only[eS,Do,GT]at h
     obtain⟨y,hy,z,hz,rfl⟩:=h
     rcases List.mem_append.1 hi with hi|hi
     ·exact Xv hy i hi
     ·exact w7 hz i hi
   rcases List.mem_append.1 hi with hi|hi
   ·unfold nx at hy
    split at hy
    ·simp only[AC]at hy;subst hy;cases hi
    ·exact foldr hy i hi
   ·exact Ky hz i hi
  ·cases h
theorem zm{call:FuncId->List U->Option (U×List U)}{L:Id->Option (Option Rows)}{k:FuncId}{args:List U}{x:yt}(h:nC call L k args=some x):∃obs outs,gP L x.l x.l=some (obs,x.gone)∧call k (.aI obs::args.map (eH x.l))=some (x.r,outs)∧gU (x.l.map fun x=>(x.2,x.1)) x.l outs=some x.back∧(x.l.map (·.1)).Nodup∧(x.l.map (·.2)).Nodup∧(∀y∈x.l,iI y.2=true)∧x.gone.Nodup∧(∀i∈x.gone,i∉x.l.map (·.1)):=by unfold nC zl at h;split at h;·{rename_i obs gone ho;split at h;·{rename_i hc;simp only[Hc,List.all_eq_true]at hc;obtain⟨⟨⟨⟨c1,c2⟩,c3⟩,yY⟩,Br⟩:=hc;split at h;·{rename_i r outs bz;obtain⟨back,hb,rfl⟩:=Option.map_eq_some_iff.1 h;refine⟨obs,outs,ho,bz,hb,Am c1,Am c2,c3,Am yY,fun i hi hm=> ?_⟩;have:=List.all_eq_true.1 Br i hi;simp only[Bool.not_eq_true',List.contains_eq_mem,decide_eq_false_iff_not]at this;exact this hm};·cases h};·cases h};·cases h
theorem So{l:List (Id×Id)}:(l.map fun x=>(x.2,x.1)).map (·.2)=l.map (·.1):=by simp[Function.comp_def]
def Ei(E:Env)(w:World)(β:Id->Option Loc)(F:Id->List Nat)(x:yt)(e:Ending)(w':World):Prop:=∃(G G':Id->List Nat)(fr:List Nat)(I':Nat->Prop),(∀k b,b∈G k->∃i,(i∈x.l.map (·.1)∨i∈x.gone)∧b∈F i)∧(Kept w w' fun b=>∃k,b∈G k)∧A4 w' I' (fun i=>(fC x.l i).bind β) fr e x.r∧(∀k,(G' k).Nodup)∧(∀i j b,b∈G' i->b∈G' j->i=j)∧fr.Nodup∧(∀k b,b∈G' k->b∉fr)∧(∀b,(b∈fr∨∃k,b∈G' k)->b<w'.heap.size∧((∃k,b∈G k)∨w.heap.size<=b))∧(∀b,I' b->(av E w F b∨(∃k,b∈G k)∨w.heap.size<=b)∧b<w'.heap.size∧b∉fr∧∀k,b∉G' k)∧(∀y∈x.back,∀aT,y.2=some aT->∃k,(y.1,k)∈x.l∧dx w' I' β y.1 aT (G' k))
theorem QC(h:ay C E w S a β F){k:FuncId}{call:FuncId->List U->Option (U×List U)}(cB:∀k as r,call k as=some r->Sound C k as r)(Cg:C.gC k=true){args:List U}{vs:List Value}(ha:an w (av E w F) β [] vs args){x:yt}(hx:nC call S.h k args=some x):LK C.P k ⟨vs⟩ w (Ei E w β F x):=by obtain⟨obs,outs,ho,bz,hb,kM,lp,hK,CU,dg⟩:=zm hx;obtain⟨hl,G,e1,e2,hpre,qh⟩:=Zx h ha ho kM lp CU dg;have hs:=(cB _ _ _ bz).2 Cg _ _ hl rfl e1 (by rw[e2];exact lp) (fun y hy=>by have:y.1∈x.l.map (·.2):=by{rw[<-e2];exact List.mem_map.2 ⟨y,hy,rfl⟩};obtain⟨z,hz,e⟩:=List.mem_map.1 this;rw[<-e];exact hK z hz) w _ _ G vs hpre;have vC:∀e w',Es w (av E w F) (fun i=>(fC x.l i).bind β) G (x.r,outs) e w'->Ei E w β F x e w':=fun e w' hr=>by{obtain⟨I',G',fr,q1,cg,_,gb,lz,tH,lA,rW,pM⟩:=hr.ex;refine⟨G,G',fr,I',qh,hr.kept,q1,gb,lz,tH,lA,rW,pM,fun y hy aT e=> ?_⟩;obtain⟨k',rows,m1,m2,m3⟩:=(p4 hb).2 y hy aT e;have F0:((x.l.map fun x=>(x.2,x.1)).map (·.2)).Nodup:=by{rw[So];exact kM};have hm:fC (x.l.map fun x=>(x.2,x.1)) y.1=some k':=ox F0 (List.mem_map.2 ⟨_,m1,rfl⟩);have:=(cg k' rows m2).mg hm (RE F0 m3);refine⟨k',m1,this.mono (fun _ h=>h) (fun _ _=>rfl) fun i lo hlo=> ?_⟩;simp only[Option.bind_eq_some_iff]at hlo;obtain⟨j,hj,i',hi',hlo⟩:=hlo;obtain⟨z,hz,e⟩:=List.mem_map.1 (pG hj);simp only[Prod.mk.injEq]at e;have:=ox lp hz;rw[e.1,hi']at this;simp only[Option.some.injEq]at this;rw[this,e.2]at hlo;exact hlo};rcases hs with⟨fn,c,k1,k2,cC⟩|⟨v,w',k1,k2⟩;·{exact .inl ⟨fn,c,k1,k2,cC.mono vC⟩};·exact .inr ⟨v,w',k1,vC _ _ k2⟩
theorem ahL{l:List (Id×Id)}(kM:(l.map (·.1)).Nodup)(lp:(l.map (·.2)).Nodup){i:Id}{lo:Loc}(h:((fC (l.map fun x=>(x.2,x.1)) i).bind fun i=>(fC l i).bind β)=some lo):β i=some lo:=by simp only[Do]at h;obtain⟨j,hj,i',hi',hlo⟩:=h;obtain⟨z,hz,e⟩:=List.mem_map.1 (pG hj);simp only[GE]at e;have:=ox lp hz;rw[e.1,hi']at this;simp only[AC]at this;rw[this,e.2]at hlo;exact hlo
theorem HX{P:Program}{o:Oper}{c:Call}{bV:Operand}(ho:o.op= .call c)(hc:c.callee= .value bV){k:FuncId}{fV gB:List Value}(iV:a.eval bV= .func (.func k) ⟨fV⟩ ⟨gB⟩):(execOp a.eval o).run P w=(callFunc k ⟨fV++c.args.toList.map a.eval++gB⟩).run P w:=by have e2:((⟨fV⟩:Array Value)++c.args.map a.eval++⟨gB⟩:Array Value)=⟨fV++c.args.toList.map a.eval++gB⟩:=by{apply Array.ext';simp};have bh:resolve a.eval c o.type=(pure {target:= .fn (.func k) ⟨gB⟩,args:=⟨fV⟩++c.args.map a.eval}:Sem Deferred):=by{simp[resolve,hc,iV,Deferred.ofValue]};have e5:execOp a.eval o=(do let d<-resolve a.eval c o.type;invoke d.target d.args:Sem Next):=by{simp[execOp,ho]};rw[e5,bh,Sem.run_bind,Sem.run_pure,Result.andThen_ok];simp only[invoke,e2]
theorem Oi{x:U}{y:FuncId×List U×List U}(h:kG C x=some y):x= .fn (.func y.1) y.2.1 y.2.2∧C.gC y.1=true:=by unfold kG at h;split at h;·{split at h;·{rename_i hg;simp only[AC]at h;subst h;exact⟨rfl,hg⟩};·cases h};·cases h
theorem ahm{L:Id->Option (Option Rows)}{b:Id×Option Rows}(h:yc L b=true):L b.1=some b.2:=by obtain⟨i,v⟩:=b;unfold yc at h;split at h;·{rename_i h1 h2;simp only[Hc,beq_iff_eq]at h;obtain⟨⟨rfl,rfl⟩,rfl⟩:=h;simp only at h1 h2;rw[h1,h2]};·cases h
theorem Lv{h0 h:Id->Option (Option Rows)}:∀{back:List (Id×Option Rows)},(∀b∈back,h b.1=h0 b.1)->(back.map (·.1)).Nodup->aN h (hY h0 back)=aN h back|[],_,_=>rfl|(i,v)::back,ha,nd=>by have ih:=Lv (h0:=h0) (h:=h) (back:=back) (fun b hb=>ha b (Ha _ hb)) (List.nodup_cons.1 nd).2;unfold hY at ih|-;simp only[List.filter_cons];split;·{simp only[aN,ih]};·rename_i hs;rw[ih];have hs:yc h0 (i,v)=true:=by{simpa using hs};funext j;simp only[aN,aj];split;·{rename_i e;subst e;rcases fF h back j with⟨x,hx,e1,_⟩|⟨_,e2⟩;·{exact absurd (List.mem_map.2 ⟨x,hx,e1⟩) (List.nodup_cons.1 nd).1};·rw[e2,ha (j,v) (Hb ..)];exact ahm hs};·rfl
theorem ael(hN:oO C.P)(h:ay C E w S a β F){o:Oper}{c:Call}{bV:Operand}(ho:o.op= .call c)(hc:c.callee= .value bV){f:FuncId}{call:FuncId->List U->Option (U×List U)}(cB:∀k as r,call k as=some r->Sound C k as r){y:FuncId×List U×List U}(di:kG C (un true (S.get C bV))=some y){e:aJ}(he:oU C f call S o y.1 (y.2.1++(c.args.toList.map fun x=>un true (S.get C x))++y.2.2)=some e)(hd:b9 S e)(hn:∀a' w',aL C E (S.app e) a' w'->next a' w'):o.wp C.P a w next Q:=by obtain⟨hfn,Cg⟩:=Oi di;have hfo:=h.dw bV;rw[hfn]at hfo;obtain⟨_,fV,gB,iV,h1,h2⟩:=hfo.mH;have hargs:=an.ofMap h c.args.toList;have hall:an w (av E w F) β [] (fV++c.args.toList.map a.eval++gB) (y.2.1++(c.args.toList.map fun x=>un true (S.get C x))++y.2.2):=(h1.append hargs).append h2;unfold oU at he;simp only[Do]at he;obtain⟨x,hx,he⟩:=he;split at he;·{cases he};·rename_i hnp;have hnp:zX x.r=false:=by{simpa using hnp};generalize s6:(if eG C f o.dst=true then(if flat x.r=true then dy x.r else .aF)else x.r)=rr at he;split at he;·{rename_i hf;simp only[AC]at he;subst he;have qm:=QC h cB Cg hall hx;obtain⟨obs,outs,wR,_,hb,kM,lp,_,CU,dg⟩:=zm hx;have hb0:=hb;have F0:((x.l.map fun x=>(x.2,x.1)).map (·.2)).Nodup:=by{rw[So];exact kM};have vC:∀e' w',Ei E w β F x e' w'->∃v,e'= .returned v∧next (a.put o.dst v) w':=fun e' w'⟨G,G',fr,I',q1,cg,dG,gb,lz,tH,lA,rW,pM,KT⟩=>by{obtain⟨v,rfl,hv⟩:=dG.val hnp;refine⟨v,rfl,hn _ _ ?_⟩;obtain⟨oM,zj,p1,p2,p3,iK⟩:∃(oM:Nat->Prop)(zj:List Nat),R w' oM (fun i=>(fC x.l i).bind β) zj v rr∧(zj.Nodup∧∀b∈zj,b∈fr)∧(∀b,I' b->oM b)∧(∀b,oM b->(av E w F b∨(∃k,b∈G k)∨w.heap.size<=b)∧b<w'.heap.size∧b∉zj∧∀k,b∉G' k):=by{by_cases hz:eG C f o.dst=true;·{rw[if_pos hz]at s6;by_cases hfl:flat x.r=true;·{rw[if_pos hfl]at s6;subst s6;refine⟨fun b=>I' b∨b∈fr,[],((hv.kF hfl br).dy (fun _ h=> .inl h) (fun _ h=> .inr h)).up,⟨List.nodup_nil,fun b hb=>by cases hb⟩,fun _ h=> .inl h,fun b hb=> ?_⟩;rcases hb with hb|hb;·{obtain⟨k1,k2,_,iY⟩:=pM b hb;exact⟨k1,k2,by simp,iY⟩};·obtain⟨k1,k2⟩:=rW b (.inl hb);exact⟨k2.elim (fun h=> .inr (.inl h)) (fun h=> .inr (.inr h)),k1,by simp,fun k hk=>lA k b hk hb⟩};·rw[if_neg hfl]at s6;subst s6;exact⟨I',[], .aF,⟨List.nodup_nil,fun b hb=>by cases hb⟩,fun _ h=>h,fun b hb=>⟨(pM b hb).1,(pM b hb).2.1,by simp,(pM b hb).2.2.2⟩⟩};·rw[if_neg hz]at s6;subst s6;exact⟨I',fr,hv,⟨tH,fun _ h=>h⟩,fun _ h=>h,pM⟩};obtain⟨f2,uN,hr2⟩:=p1.agr (K1 F0 rr);have Fs:f2.Nodup∧∀b∈f2,b∈zj:=by{rcases uN with rfl|rfl;·{exact⟨p2.1,fun _ h=>h⟩};·exact⟨List.nodup_nil,fun b hb=>by cases hb⟩};have O8:R w' oM β f2 v (eH (x.l.map fun x=>(x.2,x.1)) rr):=hr2.mono (fun _ h=>h) (fun _ _=>rfl) fun i lo hlo=>ahL kM lp hlo;have mM:=E9 hf;obtain⟨β',pX,a1,a2,a3,a4,a5,a6,a7⟩:=CC (iT o) O8 Fs.1 (fun z hz=>h.dom _ (mM z hz));have wQ:=h.CW hd;have:=h.Oj (a':=a.put o.dst v) (t':=cS S.t (put o (imp (iT o) (eH (x.l.map fun x=>(x.2,x.1)) rr)).1 (x.l.map (·.1)) []).dj) kM lp dg (Kx wR) (Ky wR) q1 cg gb lz (fun k b hb hm=>lA k b hb (p2.2 b (Fs.2 b hm))) (fun b hb=>rW b (hb.imp (fun hb=>p2.2 b (Fs.2 b hb)) id)) (fun b hb=>⟨(iK b hb).1,(iK b hb).2.1,fun hm=>(iK b hb).2.2.1 (Fs.2 b hm),(iK b hb).2.2.2⟩) (p4 hb).1 (fun z hz aT e=>(KT z hz aT e).imp fun k hk=>⟨hk.1,hk.2.mono p3 (fun _ _=>rfl) (fun _ _ h=>h)⟩) a1 a2 a4 a5 a6 mM (fun z hz=>by obtain⟨q,e⟩:=a7 z hz;rw[e];exact wQ q) (by rw[tG];exact h.n) (put_defers ..) (fun F' hI wF t=> ?_);·{have e:aN S.h ((imp (iT o) (eH (x.l.map fun x=>(x.2,x.1)) rr)).2++(hY S.h x.back++x.gone.map fun i=>(i,none)))=aN S.h ((imp (iT o) (eH (x.l.map fun x=>(x.2,x.1)) rr)).2++(x.back++x.gone.map fun i=>(i,none))):=by{have g1:∀b∈x.back,aN S.h (x.gone.map fun i=>(i,none)) b.1=S.h b.1:=fun b hb=>by{have hb':b.1∈x.l.map (·.1):=by{rw[<-(p4 hb0).1];exact List.mem_map.2 ⟨b,hb,rfl⟩};rcases fF S.h (x.gone.map fun i=>(i,none)) b.1 with⟨y,hy,e1,_⟩|⟨_,e2⟩;·{obtain⟨j,hj,rfl⟩:=List.mem_map.1 hy;have e1:j=b.1:=e1;exact absurd hb' (e1▸dg j hj)};·exact e2};have g2:(x.back.map (·.1)).Nodup:=by{rw[(p4 hb0).1];exact kM};rw[sd,sd,sd,sd,Lv g1 g2]};have e2:S.app (put o (imp (iT o) (eH (x.l.map fun x=>(x.2,x.1)) rr)).1 (x.l.map (·.1)) ((imp (iT o) (eH (x.l.map fun x=>(x.2,x.1)) rr)).2++(hY S.h x.back++x.gone.map fun i=>(i,none))))=⟨S.n,cS S.t (put o (imp (iT o) (eH (x.l.map fun x=>(x.2,x.1)) rr)).1 (x.l.map (·.1)) []).dj,aN S.h ((imp (iT o) (eH (x.l.map fun x=>(x.2,x.1)) rr)).2++(x.back++x.gone.map fun i=>(i,none)))⟩:=by{rw[<-e];rfl};rw[e2];exact this};·cases aU:o.dst with|none=>(refine .inl ⟨by simp[Act.put], ?_⟩;simp[put,aU,cS])|some d=>have hd':d<a.tmps.size:=by{rw[h.n];simpa[b9,put,aU]using hd};rw[tF a d t v hd'];by_cases ht:t=d;·{subst ht;rw[if_pos rfl];refine .inr ?_;have:=a3.mono (w':=w') wF (fun _ _=>rfl) (fun _ _ h=>h);simpa[put,aU,cS,aj]using this};·rw[if_neg ht];refine .inl ⟨rfl, ?_⟩;simp[put,aU,cS,aj,ht]};unfold Oper.wp;rw[HX ho hc iV];rcases qm with⟨fn,code,k1,k2,cC⟩|⟨v,w',k1,k2⟩;·{rw[tQ hN k1 k2];simp only[Oper.upon];refine cC.mono fun e' w' hh=> ?_;obtain⟨v,rfl,hr⟩:=vC e' w' hh;exact hr};·rw[k1];obtain⟨v',e,hr⟩:=vC _ w' k2;simp only[Ending.returned.injEq]at e;subst e;exact hr};·cases he
end
end Go.Ab
