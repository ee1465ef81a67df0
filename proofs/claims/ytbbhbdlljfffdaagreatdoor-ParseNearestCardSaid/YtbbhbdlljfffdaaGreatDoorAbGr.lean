import Derived.Test.YtbbhbdlljfffdaaGreatDoorAbTake
import Derived.MapKept
import Derived.Test.YtbbhbdlljfffdaaGreatDoorAbWeak
open Array renaming toList_modify→H3
open Bool renaming and_eq_true→Hk
open List renaming mem_cons_of_mem→Hc,mem_cons_self→Hd,map_cons→Hm,mem_append_left→Hn,nodup_nil→H0,mem_append_right→H1,mem_singleton→H4,flatMap_cons→H5
open Option renaming bind_eq_some_iff→GT,map_eq_some_iff→Hb,isNone_iff_eq_none→H2
open Option.some renaming injEq→GE
open Prod.mk renaming injEq→Ha
set_option linter.all false
namespace Go.Ab
open Go
def iX(e:MapEntry):List U:=[.val e.key, .val e.val]
section
variable{P:Program}{w:World}{kt et t:TypeId}{kind:TypeDesc}{kv kP z:Value}
theorem run_checkKey{b:Bool}(hk:P.underlying kt=some kind)(hs:EC kind=true):(Instr.checkKey b 10000 kt kv).run P w= .ok () w:=by show(Instr.checkKey b (9999+1) kt kv).run P w=_;unfold Instr.checkKey;rw[Sem.run_bind,dU (C:={P:=P,bJ:=fun _=>none,ext:=fun _=>none,bL:=fun _=>[],dN:=fun _=>[],live:=fun _ _=>[],iV:=fun _ _=>[]}) hk,Result.andThen_ok];cases kind<;>first|(cases hs;done)|rfl
theorem Ho:∀{es:List MapEntry}{r:Option Value}(i:Nat),nI kind kv (es.map iX)=some r→∃j,Instr.findNow kind kv es i=some (r.map fun v=>(j,v))|[],r,i,h=>by{simp only[List.map_nil,nI,GE]at h;subst h;exact⟨0,rfl⟩}|e::es,r,i,h=>by simp only[Hm,iX,nI]at h;unfold Instr.findNow;split at h;·{rename_i hs;simp only[GE]at h;subst h;exact⟨i,by rw[hs];rfl⟩};·{rename_i hs;obtain⟨j,hj⟩:=Ho (i+1) h;exact⟨j,by rw[hs];exact hj⟩};·cases h
theorem Ou:∀{a b:ByteArray},(a==b)=true→a=b|⟨x⟩,⟨y⟩,h=>by have h':(x==y)=true:=h;rw[eq_of_beq h']
theorem Ov(a:ByteArray):(a==a)=true:=by cases a with|mk x=>show(x==x)=true;simp
theorem KQ{b:Nat}{es:Array MapEntry}{clock:Nat}(hb:w.heap[b]? =some (.map es clock)):(getObj b).run P w= .ok (.map es clock) w:=by simp[getObj,Sem.run,hb]
theorem KU{b:Nat}{es:Array MapEntry}{clock:Nat}(o:Obj)(hb:w.heap[b]? =some (.map es clock)):(setObj b o).run P w= .ok () (gB w b o):=by simp[setObj,Sem.run,hb,gB]
theorem Yj{k e:Value}(h:Instr.sameNow kind k e=some true):Instr.sameBits 10000 e k=true:=by unfold Instr.sameNow at h;split at h;·{split at h;·{rename_i a k' b hk;simp only[GE]at h;show(_&&_)=true;have:=eq_of_beq h;subst hk this;simp};·cases h};·{simp only[GE]at h;have:=Ou h;subst this;exact Ov _};·{simp only[GE]at h;have:=eq_of_beq h;subst this;show(_==_)=true;simp};·cases h
theorem Kf:∀{es:List MapEntry}{aV:Rows}(i:Nat),xL kind kv kP (es.map iX)=some aV→(∃j v,∃hj:j<es.length,Instr.findNow kind kv es i=some (some (i+j,v))∧Instr.sameNow kind kv es[j].key=some true∧aV=(es.modify j fun e=>{e with key:=kv,val:=kP}).map iX)∨(Instr.findNow kind kv es i=some none∧aV=es.map iX++[[.val kv, .val kP]])|[],aV,i,h=>by{simp only[List.map_nil,xL,GE]at h;subst h;exact .inr ⟨rfl,rfl⟩}|e::es,aV,i,h=>by simp only[Hm,iX,xL]at h;unfold Instr.findNow;split at h;·{rename_i hs;simp only[GE]at h;subst h;exact .inl ⟨0,e.val,by simp,by rw[hs];rfl,hs,by simp[iX]⟩};·{rename_i hs;obtain⟨y,hy,rfl⟩:=Option.map_eq_some_iff.1 h;rw[hs];rcases Kf (i+1) hy with⟨j,v,hj,h1,h2,rfl⟩|⟨h1,rfl⟩;·{refine .inl ⟨j+1,v,by simpa using hj, ?_,by simpa using h2,by simp[iX]⟩;rw[show i+(j+1)=i+1+j by omega];exact h1};·exact .inr ⟨h1,by simp[iX]⟩};·cases h
end
section
variable{C:aB}{E:Env}{w:World}{S:ah}{a:Act}{β:Id→Option Loc}{F:Id→List Nat}
variable{next:Act→World→Prop}{Q:Exit→Act→World→Prop}
theorem Yk{t:TypeId}{z:Value}(h:EA C t=some z):(∀w:World,(zeroValue t).run C.P w= .ok z w)∧dw z=true:=by unfold EA at h;split at h;·{rename_i v hv;split at h;·{rename_i hs;simp only[GE]at h;subst h;refine⟨fun w=> ?_,hs⟩;simp only[GT]at hv;obtain⟨i,hi,hz⟩:=hv;simp[zeroValue,typeInfo,hi,hz]};·cases h};·cases h
theorem Jc{t:TypeId}{kind:TypeDesc}{z:Value}(h:uc C t=some (kind,z)):∃kt et,C.P.underlying t=some (.map kt et)∧C.P.underlying kt=some kind∧EC kind=true∧(∀w:World,(zeroValue et).run C.P w= .ok z w)∧dw z=true:=by unfold uc at h;split at h;·{rename_i kt et hu;split at h;·{rename_i kind' z' hk hz;split at h;·{rename_i hs;simp only[GE,Ha]at h;obtain⟨rfl,rfl⟩:=h;obtain⟨h1,h2⟩:=Yk hz;exact⟨kt,et,hu,hk,hs,h1,h2⟩};·cases h};·cases h};·cases h
theorem Ro{w:World}{b:Nat}{es es':Array MapEntry}{c c':Nat}(h:w.heap[b]? =some (.map es c))(x:Addr):(gB w b (.map es' c')).frozen? x=w.frozen? x:=by have hb:=lt_of_heap h;unfold World.frozen? ;rw[uI hb];by_cases hx:x.block=b;·{rw[AC hx,hx,h]};·rw[Do hx]
theorem WD(h:aC C E w S a β F){o:Oper}{t:TypeId}{r:Option Operand}(ho:o.op= .makeMap t r){e:aT}(he:q8 C S o t r=some e)(hd:bT S e)(hn:∀a' w',aW C E (S.app e) a' w'→next a' w'):o.wp C.P a w next Q:=by unfold q8 at he;split at he;·{rename_i d hm aY;split at he;·{rename_i hc;simp only[Hk,H2]at hc;obtain⟨rfl,hf⟩:=hc;simp only[GE]at he;subst he;have hfr:S.h [d]=none:=hf;have hd':d<S.n:=by{simpa[bT,put,aY]using hd};refine iF (v:= .map (some w.heap.size)) (w':=w.alloc (.map #[] 0)) ?_ (hn _ _ ?_);·{simp only[execOp,ho];refine kN ?_;rfl};·have e1:S.app (put o (.mr [d]) [] [([d],some [])])=⟨S.n,ai S.t d (.mr [d]),ai S.h [d] (some (some []))⟩:=by{simp[ah.app,put,aY,cv,aQ]};rw[e1];have hold:∀b,b<w.heap.size→(w.alloc (.map #[] 0)).heap[b]? =w.heap[b]? :=fun b hb=>heap_alloc_old _ _ _ hb;have hnew:(w.alloc (.map #[] 0)).heap[w.heap.size]? =some (.map #[] 0):=heap_alloc_new _ _;refine h.zO aY (kill:=[d]) (l:= .map w.heap.size) (aV:=[]) (G:=[w.heap.size]) hfr (.inl rfl) (by simp[ai]) (fun i hi _=>by simp[ai,hi]) (fun hk=>absurd rfl hk) (by simp) rfl rfl (fun x=> ?_) (fun b hb _=>hold b hb) (pK hold) (by simp) (fun b hb=> ?_) (fun I' β' _ _ hb=> ?_) (fun I' β' hb=> .mr hb) hd';·{by_cases hx:x.block=w.heap.size;·{have e2:w.heap[x.block]? =none:=by{rw[hx];simp};simp only[World.frozen?,hx,hnew];simp};·rw[World.frozen?_alloc_old _ _ _ hx]};·{obtain rfl:=List.mem_singleton.1 hb;exact .inr ⟨Nat.le_refl _,by simp⟩};·exact .inr (.inl ⟨_,hb,rfl, #[],0,hnew,rfl,fun e he=>by simp at he⟩)};·cases he};·cases he
theorem U8(h:aC C E w S a β F){x:U}{v:Value}{rows:Rows}{ids:List Id}(hx:R w (av E w F) β [] v x)(hr:w7 S.h x=some (rows,ids)):(v= .map none∧rows=[])∨∃b,v= .map (some b)∧kj w b rows:=by unfold w7 at hr;split at hr;·{rename_i id;split at hr;·{rename_i aV hid;simp only[GE,Ha]at hr;obtain⟨rfl,rfl⟩:=hr;obtain⟨_,b,hb,rfl⟩:=hx.xd;rcases h.obj id _ hid with⟨h1,_⟩|⟨b2,h1,_,hm⟩|⟨_,_,_,_,_,_,h1,_⟩;·{rw[h1]at hb;cases hb};·{rw[h1]at hb;cases hb;exact .inr ⟨_,rfl,hm⟩};·rw[h1]at hb;cases hb};·cases hr};·{simp only[GE,Ha]at hr;obtain⟨rfl,rfl⟩:=hr;obtain⟨_,b,rfl,_,hm⟩:=hx.Um;exact .inr ⟨b,rfl,hm⟩};·{simp only[GE,Ha]at hr;obtain⟨rfl,rfl⟩:=hr;obtain⟨_,rfl⟩:=hx.e6;exact .inl ⟨rfl,rfl⟩};·cases hr
theorem Hp{kind:TypeDesc}{kv v:Value}:∀{es:List MapEntry},(∀e∈es,dw e.key=true∧dw e.val=true)→nI kind kv (es.map iX)=some (some v)→dw v=true|[],_,h=>by{simp[nI]at h}|e::es,hs,h=>by simp only[Hm,iX,nI]at h;split at h;·{simp only[GE]at h;subst h;exact(hs e (Hd ..)).2};·{exact Hp (fun e he=>hs e (Hc _ he)) h};·cases h
theorem WA(h:aC C E w S a β F){o:Oper}{t:TypeId}{x k:Operand}{ok:Bool}(ho:o.op= .lookup t x k ok){e:aT}(he:q7 C S o t (un true (S.get C x)) (un true (S.get C k)) ok=some e)(hd:bT S e)(hn:∀a' w',aW C E (S.app e) a' w'→next a' w'):o.wp C.P a w next Q:=by have hx:=h.cZ x;have hk:=h.cZ k;generalize un true (S.get C x)=xv at*;generalize un true (S.get C k)=kx at*;have hex:execOp a.eval o=(do pure (Next.value (←Instr.lookup t (a.eval x) (a.eval k) ok))):=by{simp[execOp,ho]};unfold q7 at he;split at he;·{rename_i kind z rows ids kv hm hr;obtain⟨r,hf,rfl⟩:=Option.map_eq_some_iff.1 he;obtain⟨kt,et,hu,hkt,hs,hz,hzs⟩:=Jc hm;obtain⟨_,hkv⟩:=hk.e6;have hK:∀es:Array MapEntry,nI kind kv (es.toList.map iX)=some r→(do Instr.checkKey es.isEmpty 10000 kt (a.eval k)let y←Instr.findKey kt (a.eval k) es.toList match y with|some (_,v)=>do let x←pure (v,true)pure (if ok=true then Value.tuple #[x.1,Value.bool x.2]else x.1)|none=>do let z←zeroValue et let x←pure (z,false)pure (if ok=true then Value.tuple #[x.1,Value.bool x.2]else x.1):Sem Value).run C.P w= .ok (if ok then .tuple #[r.getD z, .bool r.isSome]else r.getD z) w:=by{intro es hf;obtain⟨j,hj⟩:=Ho 0 hf;rw[Sem.run_bind,run_checkKey hkt hs,Result.andThen_ok];have vW:(Instr.findKey kt (a.eval k) es.toList).run C.P w= .ok (r.map fun v=>(j,v)) w:=by{unfold Instr.findKey;rw[Sem.run_bind,dU hkt,Result.andThen_ok,hkv,hj];rfl};rw[Sem.run_bind,vW,Result.andThen_ok];cases r with|some v=>(rfl)|none=>simp only[Option.map_none,Option.getD_none,Option.isSome_none];rw[Sem.run_bind,hz w,Result.andThen_ok];rfl};have hrun:(Instr.lookup t (a.eval x) (a.eval k) ok).run C.P w= .ok (if ok then .tuple #[r.getD z, .bool r.isSome]else r.getD z) w∧dw (r.getD z)=true:=by{unfold Instr.lookup;rw[Sem.run_bind,dU hu,Result.andThen_ok];rcases U8 h hx hr with⟨hv,rfl⟩|⟨b,hv,es,clock,hb,rfl,hsc⟩;·{refine⟨?_, ?_⟩;·{rw[hv];exact hK #[] hf};·simp only[nI,Option.some.injEq]at hf;subst hf;exact hzs};·refine⟨?_, ?_⟩;·{rw[hv];simp only;rw[Sem.run_bind,KQ hb,Result.andThen_ok];exact hK es hf};·cases r with|none=>(exact hzs)|some v=>exact Hp hsc hf};obtain⟨hrun,ID⟩:=hrun;refine e4 h hd hex hrun ?_ hn;cases ok with|false=>(exact .val ID)|true=>exact .aE (.cons (f1:=[]) (f2:=[]) (.val ID) (.cons (f1:=[]) (f2:=[]) (.val rfl) .nil))};·cases he
theorem JL(h:aC C E w S a β F){o:Oper}{t:TypeId}{x k v:Operand}(ho:o.op= .mapUpdate t x k v∨o.op= .insert t x k v){e:aT}
  (he:oz C S o t (un true (S.get C x)) (un true (S.get C k)) (un true (S.get C v))=some e)(hd:bT S e)(hn:∀a' w',aW C E (S.app e) a' w'→next a' w'):o.wp C.P a w next Q:=by
 have hx:=h.cZ x
 have hk:=h.cZ k
 have hv:=h.cZ v
 generalize un true (S.get C x)=xv at*
 generalize un true (S.get C k)=kx at*
 generalize un true (S.get C v)=vx at*
 have hex:execOp a.eval o=(do Instr.mapUpdate t (a.eval x) (a.eval k) (a.eval v);pure Next.skip):=by rcases ho with ho|ho<;>simp[execOp,ho]
 unfold oz at he
 split at he
 ·rename_i kind z id kv kP hm
  split at he
  ·rename_i rows hid
   split at he
   ·rename_i hc
    simp only[Hk,H2]at hc
    obtain⟨⟨zv,IJ⟩,aY⟩:=hc
    obtain⟨aV,hp,rfl⟩:=Option.map_eq_some_iff.1 he
    obtain⟨kt,et,hu,hkt,hs,_,_⟩:=Jc hm
    obtain⟨_,hkv⟩:=hk.e6
    obtain⟨_,TZ⟩:=hv.e6
    obtain⟨_,b,bf,rZ⟩:=hx.xd
    have wm:=h.obj id rows hid
    obtain⟨hF,es,clock,hb,rfl,hsc⟩:F id=[b]∧kj w b rows:=by
     rcases wm with⟨h1,_⟩|⟨b2,h1,h2,hm⟩|⟨_,_,_,_,_,_,h1,_⟩
     ·rw[h1]at bf;cases bf
     ·rw[h1]at bf;cases bf;exact⟨h2,hm⟩
     ·rw[h1]at bf;cases bf
    have l5:=lt_of_heap hb
    have key:∃es':Array MapEntry,∃c':Nat,(Instr.mapUpdate t (a.eval x) (a.eval k) (a.eval v)).run C.P w= .ok () (gB w b (.map es' c'))∧aV=es'.toList.map iX∧∀e∈es'.toList,dw e.key=true∧dw e.val=true:=by
     have pre:∀{r:Option (Nat×Value)},Instr.findNow kind kv es.toList 0=some r→(Instr.mapUpdate t (a.eval x) (a.eval k) (a.eval v)).run C.P w=(match r with
       |some (i,_)=>(do
        let key←Instr.keyThatStays (((es[i]?).map MapEntry.key).getD kv) kv
        setObj b (.map (es.modify i fun e=>{e with key,val:=kP}) clock):Sem Unit)
       |none=>setObj b (.map (es.push {key:=kv,val:=kP,born:=clock}) (clock+1))).run C.P w:=by
      intro r hr
      unfold Instr.mapUpdate
      rw[Sem.run_bind,dU hu,Result.andThen_ok]
      simp only[rZ,hkv,TZ]
      rw[Sem.run_bind,KQ hb,Result.andThen_ok]
      simp only
      rw[Sem.run_bind,run_checkKey hkt hs,Result.andThen_ok,Sem.run_bind]
      have vW:(Instr.findKey kt kv es.toList).run C.P w= .ok r w:=by
       unfold Instr.findKey
       rw[Sem.run_bind,dU hkt,Result.andThen_ok,hr]
       rfl
      rw[vW,Result.andThen_ok]
      cases r with
      |none=>rfl
      |some y=>rfl
     rcases Kf (kind:=kind) (kv:=kv) (kP:=kP) 0 hp with⟨j,v0,hj,h1,h2,rfl⟩|⟨h1,rfl⟩
     ·have hj':j<es.size:=by simpa using hj
      refine⟨es.modify j fun e=>{e with key:=kv,val:=kP},clock, ?_,by simp[H3],fun e he=> ?_⟩
      ·rw[pre h1]
       simp only[Nat.zero_add]
       have e1:((es[j]?).map MapEntry.key).getD kv=es.toList[j].key:=by simp[hj']
       rw[e1,Sem.run_bind]
       have e2:(Instr.keyThatStays es.toList[j].key kv).run C.P w= .ok kv w:=by
        unfold Instr.keyThatStays
        rw[AC (Yj h2)];rfl
       rw[e2,Result.andThen_ok,KU _ hb]
      ·rw[H3]at he
       obtain⟨i,hi,rfl⟩:=List.getElem_of_mem he
       rw[List.getElem_modify]
       split
       ·exact⟨zv,IJ⟩
       ·exact hsc _ (List.getElem_mem _)
     ·refine⟨es.push {key:=kv,val:=kP,born:=clock},clock+1, ?_,by simp[iX],fun e he=> ?_⟩
      ·rw[pre h1]
       simp only
       rw[KU _ hb]
      ·simp only[Array.toList_push,List.mem_append,H4]at he
       rcases he with he|rfl
       ·exact hsc e he
       ·exact⟨zv,IJ⟩
    obtain⟨es',c',hrun,rfl,TQ⟩:=key
    have jF:∀k,(gB w b (.map es' c')).heap[k]? =if k=b then some (.map es' c')else w.heap[k]? :=uI l5
    refine Ft (w':=gB w b (.map es' c')) (by rw[hex];exact KW hrun) (hn _ _ ⟨β,F, ?_⟩)
    have e1:S.app (put o .aU [id] [(id,some (es'.toList.map iX))])=⟨S.n,S.t,ai S.h id (some (some (es'.toList.map iX)))⟩:=by simp[ah.app,put,aY,cv,aQ]
    have e2:a.put o.dst undef=a:=by rw[aY];rfl
    rw[e1,e2]
    refine h.step (hok:=fun k r2 hk hr2=>by
     by_cases e:k=id
     ·subst e;exact⟨_,by assumption⟩
     ·exact⟨r2,by simpa[ai,e]using hr2⟩) (·=id) h.n (by simp[gB]) rfl rfl (fun x=>Ro hb x) (fun bb _ ei=> ?_) (fun _ _ h=>h) (fun i bb ei=> .inl ⟨i,ei⟩) (fun i hi=>⟨rfl,by simp[ai,hi]⟩) (fun hI i hi dY hr2=> ?_) (fun i hi hno=> ?_) (fun i _=>h.nd i) (fun i j bb _ h1 h2=>h.ct i j bb h1 h2) (fun i hi=> ?_) (fun _ t=> .inl ⟨rfl,rfl⟩) (hdf:=rfl) (eB:= ?_)
    ·rw[jF,Do]
     intro e;subst e
     exact ei id rfl (by rw[hF];exact List.mem_singleton.2 rfl)
    ·subst hi
     simp only[ai,if_true,GE]at hr2
     subst hr2
     exact .inr (.inl ⟨b,bf,hF,es',c',by rw[jF,AC rfl],rfl,TQ⟩)
    ·subst hi
     exact absurd (by simp[ai]) (hno (es'.toList.map iX))
    ·refine h.dom i ?_
     by_cases Io:i=id
     ·subst Io;simp[ai]at hi
     ·simpa[ai,Io]using hi
    ·intro bb n hB
     obtain⟨c2,e2,jZ,hn2⟩:=hB
     refine⟨c2,e2, ?_,hn2⟩
     rw[jF,Do]
     ·exact jZ
     ·intro e;subst e;rw[hb]at jZ;cases jZ
   ·cases he
  ·cases he
 ·cases he
end
end Go.Ab
namespace Go.Ab
open Go
theorem BE{g:Id→List Nat}:∀{l:List Id},(l.flatMap g).Nodup→∀{i j:Id}{b:Nat},i∈l→j∈l→b∈g i→b∈g j→i=j|[],_,i,_,_,h,_,_,_=>by{cases h}|x::l,hn,i,j,b,hi,hj,hb,hb'=>by simp only[H5]at hn;obtain⟨_,h2,h3⟩:=List.nodup_append.1 hn;rcases List.mem_cons.1 hi with He|hi2<;>rcases List.mem_cons.1 hj with ej|hj2;·{rw[He,ej]};·{exact absurd rfl (h3 b (He▸hb) b (List.mem_flatMap.2 ⟨j,hj2,hb'⟩))};·{exact absurd rfl (h3 b (ej▸hb') b (List.mem_flatMap.2 ⟨i,hi2,hb⟩))};·exact BE h2 hi2 hj2 hb hb'
theorem Hw{g:Id→List Nat}{l:List Id}(hn:(l.flatMap g).Nodup){i:Id}(hi:i∈l):(g i).Nodup:=by induction l with|nil=>(cases hi)|cons x l ih=>simp only[H5]at hn;rcases List.mem_cons.1 hi with rfl|hi;·{exact(List.nodup_append.1 hn).1};·exact ih (List.nodup_append.1 hn).2.1 hi
theorem Vx{l:List (Id×Id)}(hn:(l.map (·.2)).Nodup){k:Id}(h:k∈l.map (·.2)):∃o,eI l k=some o:=by obtain⟨x,hx,rfl⟩:=List.mem_map.1 h;exact⟨x.1,lu hn hx⟩
theorem KD{l:List (Id×Id)}(hn:(l.map (·.2)).Nodup){rows aV:Rows}(h:jP l rows=some aV):ic (eI l) aV rows:=by unfold jP at h;split at h;·{rename_i hf;simp only[GE]at h;subst h;exact .of_flat hf};·exact Ek hn h
section
variable{C:aB}{E:Env}{w:World}{S:ah}{a:Act}{β:Id→Option Loc}{F:Id→List Nat}
variable{next:Act→World→Prop}{Q:Exit→Act→World→Prop}
theorem JF(h:aC C E w S a β F){l:List (Id×Id)}(hn:(l.map (·.2)).Nodup)(zv:(l.map (·.1)).Nodup):∀{r:List (Id×Id)}{obs gone},fY S.h l r=some (obs,gone)→(∀x∈r,x∈l)→(r.map (·.1)).Nodup→∃hl,qq obs=some hl∧hl.map (·.1)=r.map (·.2)∧∃(g:Id→List Nat)(rest:List Nat),(∀o k,(o,k)∈r→∀rows,(k,rows)∈hl→cW w (av E w F) (fun i=>(eI l i).bind β) k rows (g o))∧((r.map (·.1)).flatMap g++rest).Perm ((r.map (·.1)).flatMap F++gone.flatMap F)|[],obs,gone,ho,_,_=>by{simp only[fY,GE,Ha]at ho;obtain⟨rfl,rfl⟩:=ho;exact⟨[],rfl,rfl,fun _=>[],[],(fun _ _ h=>by cases h),by simp⟩}|(o,k)::r,obs,gone,ho,hl,hr=>by simp only[fY]at ho;split at ho;·{rename_i rows hrows;simp only[GT,Hb,Ha]at ho;obtain⟨x,hx,aV,TM,⟨xk,gone'⟩,hy,rfl,rfl⟩:=ho;obtain⟨hl',e1,e2,g,rest,g1,g2⟩:=JF h hn zv hy (fun x hx=>hl x (Hc _ hx)) (List.nodup_cons.1 hr).2;have hkeep:∀i lo,oO l i=true→β i=some lo→β i=some lo:=fun _ _ _ h=>h;obtain⟨go,ro,k1,k2⟩:=(h.obj o rows hrows).closed h.obj hkeep hx (fun _ h=>h);have hm:eI l k=some o:=lu hn (hl (o,k) (Hd ..));have dH:=k1.jO hm (KD hn TM);have hno:o∉r.map (·.1):=(List.nodup_cons.1 hr).1;refine⟨(k,aV)::hl',by simp[qq,e1],by simp[e2],fun i=>if i=o then go else g i,ro++rest, ?_, ?_⟩;·{intro o2 k' hm2 dY It;rcases List.mem_cons.1 hm2 with p2|eD;·{simp only[Ha]at p2;obtain⟨rfl,rfl⟩:=p2;rcases List.mem_cons.1 It with p3|jk;·{simp only[Ha,true_and]at p3;subst p3;simpa using dH};·exfalso;have:k'∈r.map (·.2):=by{rw[←e2];exact List.mem_map.2 ⟨_,jk,rfl⟩};obtain⟨⟨abl,C7⟩,h3,b5⟩:=List.mem_map.1 this;have h4:=lu hn (hl _ (List.mem_cons_of_mem _ h3));have Ql:C7=k':=b5;rw[Ql,hm]at h4;simp only[Option.some.injEq]at h4;exact hno (h4▸List.mem_map.2 ⟨_,h3,rfl⟩)};·have hne:o2≠o:=fun e=>hno (e▸List.mem_map.2 ⟨_,eD,rfl⟩);simp only[Do hne];rcases List.mem_cons.1 It with p3|jk;·{exfalso;simp only[Ha]at p3;have h4:=lu hn (hl _ (Hc _ eD));rw[p3.1,hm]at h4;simp only[GE]at h4;exact hne h4.symm};·exact g1 o2 k' eD dY jk};·have e:(r.map (·.1)).flatMap (fun i=>if i=o then go else g i)=(r.map (·.1)).flatMap g:=by{rw[List.flatMap_def,List.flatMap_def];congr 1;refine List.map_congr_left fun i hi=> ?_;have:i≠o:=fun e=>hno (e▸hi);simp[this]};simp only[List.map_cons,List.flatMap_cons,if_true,e,List.flatMap_append];have:=nY k2 g2;rw[List.perm_iff_count]at this⊢;intro z;have:=this z;simp only[List.count_append]at this⊢;omega};·cases ho
theorem RN(h:aC C E w S a β F){l:List (Id×Id)}{obs:List U}{gone:List Id}{args:List U}{vs:List Value}(ha:aj w (av E w F) β [] vs args)(ho:fY S.h l l=some (obs,gone))(j5:(l.map (·.1)).Nodup)(j6:(l.map (·.2)).Nodup)(zQ:gone.Nodup)(dg:∀i∈gone,i∉l.map (·.1)):∃hl G,qq obs=some hl∧hl.map (·.1)=l.map (·.2)∧yf C w (av E w F) (fun i=>(eI l i).bind β) G hl vs (args.map (ek l))∧(∀k b,b∈G k→∃i,(i∈l.map (·.1)∨i∈gone)∧b∈F i):=by obtain⟨hl,e1,e2,g,rest,g1,g2⟩:=JF h j6 j5 ho (fun _ h=>h) j5;have hall:((l.map (·.1))++gone).Nodup:=List.nodup_append.2 ⟨j5,zQ,fun x hx y hy e=>dg y hy (e▸hx)⟩;have hnd:((l.map (·.1)).flatMap g).Nodup:=by{have h1:=h.BF hall;rw[List.flatMap_append]at h1;exact(List.nodup_append.1 (g2.nodup_iff.2 h1)).1};have hmem:∀i b,i∈l.map (·.1)→b∈g i→∃j,(j∈l.map (·.1)∨j∈gone)∧b∈F j:=fun i b hi hb=>by{have h1:b∈(l.map (·.1)).flatMap F++gone.flatMap F:=g2.mem_iff.1 (Hn _ (List.mem_flatMap.2 ⟨i,hi,hb⟩));rcases List.mem_append.1 h1 with h1|h1;·{obtain⟨j,hj,hb⟩:=List.mem_flatMap.1 h1;exact⟨j, .inl hj,hb⟩};·obtain⟨j,hj,hb⟩:=List.mem_flatMap.1 h1;exact⟨j, .inr hj,hb⟩};let G:Id→List Nat:=fun k=>match eI l k with|some o=>g o|none=>[];have eH:∀k b,b∈G k→∃o,eI l k=some o∧o∈l.map (·.1)∧b∈g o:=fun k b hb=>by{simp only[G]at hb;cases ho:eI l k with|none=>(rw[ho]at hb;cases hb)|some o=>rw[ho]at hb;exact⟨o,rfl,List.mem_map.2 ⟨_,mg ho,rfl⟩,hb⟩};have Ss:∀b,av E w F b→∀k,b∉G k:=fun b hb k hk=>by{obtain⟨o,_,h2,h3⟩:=eH k b hk;obtain⟨j,_,h4⟩:=hmem o b h2 h3;exact hb.2.2 j h4};refine⟨hl,G,e1,e2,{args:= ?_,obj:= ?_,out:= ?_,nd:= ?_,ct:= ?_,lt:= ?_,i0:=fun b hb=>⟨hb.2.1,Ss b hb⟩,bJ:=fun g cs hg=>(h.bJ g cs hg).mc rfl fun _ h=>h}, ?_⟩;·{have go:∀{as:List U}{vs:List Value},aj w (av E w F) β [] vs as→aj w (av E w F) (fun i=>(eI l i).bind β) [] vs (as.map (ek l)):=fun{as}=>by{induction as with|nil=>(intro vs h;obtain⟨_,rfl⟩:=h.eJ;exact .nil)|cons x as ih=>intro vs h;obtain⟨f1,f2,v,vs',e,rfl,h1,h2⟩:=h.cons_inv;have e':=List.append_eq_nil_iff.1 e.symm;obtain⟨rfl,rfl⟩:=e';exact R.cons (f1:=[]) (f2:=[]) (h1.jO (Ei j6 x) rfl) (ih h2)};exact go ha};·{intro k rows hk;obtain⟨o,ho⟩:=Vx j6 (show k∈l.map (·.2)by rw[←e2];exact List.mem_map.2 ⟨_,hk,rfl⟩);have:=g1 o k (mg ho) rows hk;simpa only[G,ho]using this};·{intro k hk;rw[e2]at hk;have:eI l k=none:=by{cases hx:eI l k with|none=>(rfl)|some o=>exact absurd (List.mem_map.2 ⟨_,mg hx,rfl⟩) hk};simp[G,this]};·{intro k;simp only[G];cases ho:eI l k with|none=>(exact H0)|some o=>exact Hw hnd (List.mem_map.2 ⟨_,mg ho,rfl⟩)};·{intro i j b hi hj;obtain⟨o,b5,h3,h4⟩:=eH i b hi;obtain⟨o',gh,h5,h6⟩:=eH j b hj;have:=BE hnd h3 h5 h4 h6;subst this;exact BJ j5 (mg b5) (mg gh)};·{intro k b hb;obtain⟨o,_,h2,h3⟩:=eH k b hb;obtain⟨j,_,h4⟩:=hmem o b h2 h3;exact(h.lt j b h4).1};·intro k b hb;obtain⟨o,_,h2,h3⟩:=eH k b hb;obtain⟨j,h4,h5⟩:=hmem o b h2 h3;exact⟨j,h4,h5⟩
theorem R.XU{I:Nat→Prop}{m:Id→Option Id}{f:List Nat}{v:Value}{a b:U}(h:R w I β f v b)(hr:oa m a b):∃f2,(f2=f∨f2=[])∧R w I (fun i=>(m i).bind β) f2 v a:=by cases hr with|cell hc=>(exact⟨f, .inl rfl,h.Ej hc⟩)|agg hl=>(obtain⟨vs,rfl,h⟩:=h.lP;exact⟨f, .inl rfl,aj.jO hl h⟩)|aE hl=>(obtain⟨vs,rfl,hu⟩:=h.uO;exact⟨f, .inl rfl, .aE (aj.jO hl hu)⟩)|fn h1 h2=>(obtain⟨rfl,vs,cs,rfl,k1,k2⟩:=h.lY;exact⟨[], .inl rfl, .fn (aj.jO h1 k1) (aj.jO h2 k2)⟩)|aU=>exact⟨[], .inr rfl, .aU⟩
theorem qW{l':List (Id×Id)}:∀{r:List (Id×Id)}{outs:List U}{back:List (Id×Option Rows)},gb l' r outs=some back→back.map (·.1)=r.map (·.1)∧∀x∈back,∀aV,x.2=some aV→∃k rows,(x.1,k)∈r∧U.aP k rows∈outs∧jP l' rows=some aV|[],[],back,h=>by{simp only[gb,GE]at h;subst h;exact⟨rfl,fun x hx=>by cases hx⟩}|[],a::outs,back,h=>by{simp[gb]at h}|(o,k)::r,[],back,h=>by{simp[gb]at h}|(o,k)::r,a::outs,back,h=>by cases a with|aP k' rows=>(simp only[gb]at h;split at h;·{rename_i e;subst e;simp only[GT,Hb]at h;obtain⟨aV,h1,y,h2,rfl⟩:=h;obtain⟨i1,i2⟩:=qW h2;refine⟨by simp[i1],fun x hx dY e=> ?_⟩;rcases List.mem_cons.1 hx with rfl|hx;·{simp only[GE]at e;subst e;exact⟨_,rows,Hd ..,Hd ..,h1⟩};·obtain⟨k2,r2,m1,m2,m3⟩:=i2 x hx dY e;exact⟨k2,r2,Hc _ m1,Hc _ m2,m3⟩};·cases h)|aU=>(simp only[gb,Hb]at h;obtain⟨y,h2,rfl⟩:=h;obtain⟨i1,i2⟩:=qW h2;refine⟨by simp[i1],fun x hx dY e=> ?_⟩;rcases List.mem_cons.1 hx with rfl|hx;·{cases e};·obtain⟨k2,r2,m1,m2,m3⟩:=i2 x hx dY e;exact⟨k2,r2,Hc _ m1,Hc _ m2,m3⟩)|_=>simp[gb]at h
theorem JC{L:Id→Option (Option Rows)}{l:List (Id×Id)}:∀{r:List (Id×Id)}{x},fY L l r=some x→∀i∈r.map (·.1),∃rows,L i=some (some rows)|[],_,_,i,hi=>by{cases hi}|(o,k)::r,x,h,i,hi=>by simp only[fY]at h;split at h;·{rename_i rows hrows;simp only[GT,Hb]at h;obtain⟨_,_,_,_,y,hy,_⟩:=h;rcases List.mem_cons.1 hi with rfl|hi;·{exact⟨rows,hrows⟩};·exact JC hy i hi};·cases h
theorem XT{l:List (Id×Id)}{i:Id}(h:i∈l.map (·.1)):∃k,eP l i=some k:=by induction l with|nil=>(cases h)|cons x l ih=>obtain⟨o,k⟩:=x;simp only[eP];split;·{exact⟨k,rfl⟩};·rename_i hne;rcases List.mem_cons.1 h with e|h;·{exact absurd e.symm hne};·exact ih h
open Classical in theorem aC.RP(h:aC C E w S a β F){l:List (Id×Id)}{gone:List Id}{back news:List (Id×Option Rows)}{G G' nx:Id→List Nat}{fr:List Nat}{I':Nat→Prop}{w':World}{β':Id→Option Loc}{a':Act}{t':Nat→U}(j5:(l.map (·.1)).Nodup)(j6:(l.map (·.2)).Nodup)(dg:∀i∈gone,i∉l.map (·.1))(live:∀i∈l.map (·.1),∃rows,S.h i=some (some rows))(RI:∀i∈gone,∃rows,S.h i=some (some rows))(mU:∀k b,b∈G k→∃i,(i∈l.map (·.1)∨i∈gone)∧b∈F i)(hk:Kept w w' fun b=>∃k,b∈G k)(j8:∀k,(G' k).Nodup)(sw:∀i j b,b∈G' i→b∈G' j→i=j)(Km:∀k b,b∈G' k→b∉fr)(Al:∀b,(b∈fr∨∃k,b∈G' k)→b<w'.heap.size∧((∃k,b∈G k)∨w.heap.size≤b))(XK:∀b,I' b→(av E w F b∨(∃k,b∈G k)∨w.heap.size≤b)∧b<w'.heap.size∧b∉fr∧∀k,b∉G' k)(Ic:back.map (·.1)=l.map (·.1))(iq:∀x∈back,∀aV,x.2=some aV→∃k,(x.1,k)∈l∧cW w' I' β x.1 aV (G' k))(i1:∀i lo,β i=some lo→β' i=some lo)(i2:∀i,(∀x∈news,x.1≠i)→β' i=β i∧nx i=[])(i3:∀x∈news,∃rows,x.2=some rows∧cW w' I' β' x.1 rows (nx x.1))(i4:∀i,(nx i).Nodup∧∀b∈nx i,b∈fr)(i5:∀i j b,b∈nx i→b∈nx j→i=j)(j0:∀x∈news,S.h x.1=none)(rO:∀x∈news,¬E.K x.1)(hn:a'.tmps.size=S.n)(hdf:a'.defers=a.defers)(wA:∀F',(∀b,av E w F b→av E w' F' b)→(∀b,I' b→av E w' F' b)→∀t,(a'.tmps.getD t undef=a.tmps.getD t undef∧t' t=S.t t)∨R w' (av E w' F') β' [] (a'.tmps.getD t undef) (t' t)):aW C E ⟨S.n,t',aQ S.h (news++(back++gone.map fun i=>(i,none)))⟩ a' w':=by let hp:=aQ S.h (news++(back++gone.map fun i=>(i,none)));let cY:Id→List Nat:=fun i=>if(∃rows,hp i=some (some rows))then(if i∈l.map (·.1)then(match eP l i with|some k=>G' k|none=>[])else F i++nx i)else[];have zw:∀x∈news,x.1∉l.map (·.1):=fun x hx hm=>by{obtain⟨rows,e⟩:=live _ hm;rw[j0 x hx]at e;cases e};have Iv:∀x∈news,x.1∉gone:=fun x hx hm=>by{obtain⟨rows,e⟩:=RI _ hm;rw[j0 x hx]at e;cases e};have l5:∀x∈back,x.1∈l.map (·.1):=fun x hx=>by{rw[←Ic];exact List.mem_map.2 ⟨x,hx,rfl⟩};have nO:∀i,(∃x∈news,x.1=i∧hp i=some x.2)∨((∀x∈news,x.1≠i)∧∃x∈back,x.1=i∧hp i=some x.2)∨((∀x∈news,x.1≠i)∧i∉l.map (·.1)∧i∈gone∧hp i=some none)∨((∀x∈news,x.1≠i)∧i∉l.map (·.1)∧i∉gone∧hp i=S.h i):=fun i=>by{rcases eR S.h (news++(back++gone.map fun i=>(i,none))) i with⟨x,hx,e1,e2⟩|⟨h1,h2⟩;·{by_cases oJ:∃y∈news,y.1=i;·{obtain⟨y,hy,y4⟩:=oJ;rcases List.mem_append.1 hx with hx|hx;·{exact .inl ⟨x,hx,e1,e2⟩};·exfalso;rcases List.mem_append.1 hx with hx|hx;·{exact zw y hy (by rw[y4,←e1];exact l5 x hx)};·obtain⟨j,hj,rfl⟩:=List.mem_map.1 hx;exact Iv y hy (by rw[y4,←e1];exact hj)};·have Cv:∀x∈news,x.1≠i:=fun y hy e=>oJ ⟨y,hy,e⟩;rcases List.mem_append.1 hx with hx|hx;·{exact absurd e1 (Cv x hx)};·rcases List.mem_append.1 hx with hx|hx;·{exact .inr (.inl ⟨Cv,x,hx,e1,e2⟩)};·obtain⟨j,hj,rfl⟩:=List.mem_map.1 hx;have Qk:j=i:=e1;subst Qk;exact .inr (.inr (.inl ⟨Cv,dg j hj,hj,e2⟩))};·refine .inr (.inr (.inr ⟨fun x hx=>h1 x (Hn _ hx),fun hm=> ?_,fun hm=> ?_,h2⟩));·{rw[←Ic]at hm;obtain⟨x,hx,e⟩:=List.mem_map.1 hm;exact h1 x (H1 _ (Hn _ hx)) e};·exact h1 (i,none) (H1 _ (H1 _ (List.mem_map.2 ⟨i,hm,rfl⟩))) rfl};have yb:∀i b,b∈cY i→(∃k,b∈G' k∧eP l i=some k∧i∈l.map (·.1))∨(i∉l.map (·.1)∧i∉gone∧b∈F i)∨(i∉l.map (·.1)∧(∃x∈news,x.1=i)∧b∈nx i):=fun i b hb=>by{simp only[cY]at hb;split at hb;·{rename_i hal;split at hb;·{rename_i vY;cases hr:eP l i with|none=>(rw[hr]at hb;cases hb)|some k=>rw[hr]at hb;exact .inl ⟨k,hb,rfl,vY⟩};·rename_i vY;rcases List.mem_append.1 hb with hb|hb;·{refine .inr (.inl ⟨vY,fun hg=> ?_,hb⟩);obtain⟨rows,hal⟩:=hal;rcases nO i with⟨x,hx,e,_⟩|⟨_,x,hx,e,_⟩|⟨_,_,_,e⟩|⟨_,_,e,_⟩;·{exact Iv x hx (e▸hg)};·{exact vY (e▸l5 x hx)};·{rw[e]at hal;cases hal};·exact e hg};·refine .inr (.inr ⟨vY, ?_,hb⟩);by_cases oJ:∃x∈news,x.1=i;·{exact oJ};·rw[(i2 i fun x hx e=>oJ ⟨x,hx,e⟩).2]at hb;cases hb};·cases hb};have vN:∀b,I' b→av E w' cY b:=fun b hb=>by{obtain⟨k1,k2,dH,gw⟩:=XK b hb;refine⟨?_,k2,fun i hm=> ?_⟩;·{rcases k1 with k1|⟨k,k1⟩|k1;·{exact k1.1};·{obtain⟨i,_,hi⟩:=mU k b k1;exact(h.lt i b hi).2.elim (fun h=> .inr (.inl h)) (fun h=> .inr (.inr h))};·exact .inr (.inr (Nat.le_trans h.kept.size k1))};·rcases yb i b hm with⟨k,hg,_⟩|⟨n1,n2,hf⟩|⟨_,_,hg⟩;·{exact gw k hg};·{rcases k1 with k1|⟨k,k1⟩|k1;·{exact k1.2.2 i hf};·{obtain⟨j,hj,hf'⟩:=mU k b k1;have:=h.ct i j b hf hf';subst this;exact hj.elim n1 n2};·have:=(h.lt i b hf).1;omega};·exact dH ((i4 i).2 b hg)};refine⟨β',cY, ?_⟩;have TD:∀i,¬(i∈l.map (·.1)∨i∈gone∨∃x∈news,x.1=i)→cY i=F i∧hp i=S.h i:=fun i hi=>by{have n1:i∉l.map (·.1):=fun e=>hi (.inl e);have n2:i∉gone:=fun e=>hi (.inr (.inl e));have lq:∀x∈news,x.1≠i:=fun x hx e=>hi (.inr (.inr ⟨x,hx,e⟩));have e:hp i=S.h i:=by{rcases nO i with⟨x,hx,e,_⟩|⟨_,x,hx,e,_⟩|⟨_,_,e,_⟩|⟨_,_,_,e⟩;·{exact absurd e (lq x hx)};·{exact absurd (e▸l5 x hx) n1};·{exact absurd e n2};·exact e};refine⟨?_,e⟩;simp only[cY];split;·{rw[(i2 i lq).2,List.append_nil]};·rename_i hal;exact(h.dead i fun rows e'=>hal ⟨rows,by rw[e];exact e'⟩).symm};refine h.uK (fun i=>i∈l.map (·.1)∨i∈gone∨∃x∈news,x.1=i) hn hk.size hk.os hk.out hk.dN ?_ i1 ?_ TD ?_ ?_ ?_ ?_ ?_ ?_ (hdf:=hdf) (eB:=hk.ke) (hok:=gT.of rfl fun x hx hne=> ?_);·{intro b hb hno;refine hk.blk b hb fun⟨k,hm⟩=> ?_;obtain⟨i,hi,hf⟩:=mU k b hm;exact hno i (hi.elim .inl fun h=> .inr (.inl h)) hf};·{intro i b hb;have Li:∀{b:Nat},b<w'.heap.size∧((∃k,b∈G k)∨w.heap.size≤b)→(∃i,b∈F i)∨(w.heap.size≤b∧b<w'.heap.size):=fun⟨h1,h2⟩=>by{rcases h2 with⟨k,h2⟩|h2;·{obtain⟨i,_,hi⟩:=mU k _ h2;exact .inl ⟨i,hi⟩};·exact .inr ⟨h2,h1⟩};rcases yb i b hb with⟨k,hg,_⟩|⟨_,_,hf⟩|⟨_,_,hg⟩;·{exact Li (Al b (.inr ⟨k,hg⟩))};·{exact .inl ⟨i,hf⟩};·exact Li (Al b (.inl ((i4 i).2 b hg)))};·{intro hI i _ rows hr;have hr':hp i=some (some rows):=hr;have hal:∃rows,hp i=some (some rows):=⟨rows,hr'⟩;rcases nO i with⟨x,hx,e,e2⟩|⟨oJ,x,hx,e,e2⟩|⟨_,_,_,e⟩|⟨lq,n1,n2,e⟩;·{subst e;obtain⟨dY,b5,h3⟩:=i3 x hx;rw[e2,b5]at hr';simp only[GE]at hr';subst hr';have:cY x.1=nx x.1:=by{simp only[cY];rw[AC hal,Do (zw x hx),h.dead x.1 (by rw[j0 x hx];simp),List.nil_append]};rw[this];exact h3.mono vN (fun _ _=>rfl) (fun _ _ h=>h)};·{subst e;rw[e2]at hr';simp only[GE]at hr';obtain⟨k,Tt,wm⟩:=iq x hx rows hr';have:cY x.1=G' k:=by{simp only[cY];rw[AC hal,AC (l5 x hx)];obtain⟨k',hk'⟩:=XT (l5 x hx);rw[hk',BJ j5 Tt (uE hk')]};rw[this];exact wm.mono vN (fun _ _=>rfl) i1};·{rw[e]at hr';cases hr'};·exfalso;rename_i gr;rcases gr with gr|gr|⟨x,hx,gr⟩;·{exact n1 gr};·{exact n2 gr};·exact lq x hx gr};·{intro i _ hno;simp only[cY];rw[Do];rintro⟨rows,e⟩;exact hno rows e};·{intro i _;simp only[cY];split;·{split;·{cases eP l i with|none=>(exact H0)|some k=>exact j8 k};·by_cases oJ:∃x∈news,x.1=i;·{obtain⟨x,hx,rfl⟩:=oJ;rw[h.dead x.1 (by rw[j0 x hx];simp),List.nil_append];exact(i4 _).1};·rw[(i2 i fun x hx e=>oJ ⟨x,hx,e⟩).2,List.append_nil];exact h.nd i};·exact H0};·{intro i j b _ hi hj;have H9:∀{i j k:Id}{b:Nat},b∈G' k→j∉l.map (·.1)→j∉gone→b∈F j→False:=fun{i j k b}hg n1 n2 hf=>by{rcases(Al b (.inr ⟨k,hg⟩)).2 with⟨k2,hk2⟩|hge;·{obtain⟨q,hq,Ci⟩:=mU k2 b hk2;have:=h.ct j q b hf Ci;subst this;exact hq.elim n1 n2};·have:=(h.lt j b hf).1;omega};have Ik:∀{j:Id}{b:Nat},b∈fr→j∉l.map (·.1)→j∉gone→b∈F j→False:=fun{j b}hg n1 n2 hf=>by{rcases(Al b (.inl hg)).2 with⟨k2,hk2⟩|hge;·{obtain⟨q,hq,Ci⟩:=mU k2 b hk2;have:=h.ct j q b hf Ci;subst this;exact hq.elim n1 n2};·have:=(h.lt j b hf).1;omega};rcases yb i b hi with⟨k,hg,CC,_⟩|⟨n1,n2,hf⟩|⟨_,_,hg⟩<;>rcases yb j b hj with⟨k',hg',TN,_⟩|⟨Jl,Jm,hf'⟩|⟨_,_,hg'⟩;·{have:=sw k k' b hg hg';subst this;have e1:=lu j6 (uE CC);have e2:=lu j6 (uE TN);rw[e1]at e2;exact Option.some.inj e2};·{exact(H9 (i:=i) hg Jl Jm hf').elim};·{exact absurd ((i4 j).2 b hg') (Km k b hg)};·{exact(H9 (i:=j) hg' n1 n2 hf).elim};·{exact h.ct i j b hf hf'};·{exact(Ik ((i4 j).2 b hg') n1 n2 hf).elim};·{exact absurd ((i4 i).2 b hg) (Km k' b hg')};·{exact(Ik ((i4 i).2 b hg) Jl Jm hf').elim};·exact i5 i j b hg hg'};·{intro i hi;have hi':hp i=none:=hi;rcases nO i with⟨x,hx,_,e⟩|⟨_,x,hx,_,e⟩|⟨_,_,_,e⟩|⟨lq,_,_,e⟩;·{rw[e]at hi';cases hi'};·{rw[e]at hi';cases hi'};·{rw[e]at hi';cases hi'};·rw[(i2 i lq).1];exact h.dom i (by rw[←e];exact hi')};·{intro hI;exact wA cY hI vN};·rcases List.mem_append.1 hx with hx|hx;·{exact .inl (rO x hx)};·rcases List.mem_append.1 hx with hx|hx;·{exact .inr (live _ (l5 x hx))};·obtain⟨i,_,rfl⟩:=List.mem_map.1 hx;exact absurd rfl hne
theorem uT.val{w':World}{I':Nat→Prop}{fr:List Nat}{e:Ending}{r:U}(h:uT w' I' β fr e r)(hr:tV r=false):∃v,e= .returned v∧R w' I' β fr v r:=by cases r<;>first|exact h|cases hr
theorem Pt{L:Id→Option (Option Rows)}:∀(n:Nat){a:U}{x},pk L n a=some x→∀i∈x.2,∃rows,L i=some (some rows):=by
 intro n
 induction n with
 |zero=>intro a x h;simp[pk]at h
 |succ n ih=>
  have BH:∀{cs:List U}{x},dF (pk L n) cs=some x→∀i∈x.2,∃rows,L i=some (some rows):=fun{cs}=>by
   induction cs with
   |nil=>intro x h i hi;simp[dF]at h;subst h;cases hi
   |cons c cs r3=>
    intro x h i hi
    simp only[dF,GT,Hb]at h
    obtain⟨y,hy,z,hz,rfl⟩:=h
    rcases List.mem_append.1 hi with hi|hi
    ·exact ih hy i hi
    ·exact r3 hz i hi
  have D5:∀{cs:List U}{x},gj (pk L n) cs=some x→∀i∈x.2,∃rows,L i=some (some rows):=fun h i hi=>by
   unfold gj at h
   split at h
   ·simp only[GE]at h;subst h;cases hi
   ·exact BH h i hi
  have foldr:∀{cs:Rows}{x},ef (gj (pk L n)) cs=some x→∀i∈x.2,∃rows,L i=some (some rows):=fun{cs}=>by
   induction cs with
   |nil=>intro x h i hi;simp[ef]at h;subst h;cases hi
   |cons c cs r3=>
    intro x h i hi
    simp only[ef,GT,Hb]at h
    obtain⟨y,hy,z,hz,rfl⟩:=h
    rcases List.mem_append.1 hi with hi|hi
    ·exact D5 hy i hi
    ·exact r3 hz i hi
  have Xs:∀{cs:Rows}{x},mo (pk L n) cs=some x→∀i∈x.2,∃rows,L i=some (some rows):=fun h i hi=>by
   unfold mo at h
   split at h
   ·simp only[GE]at h;subst h;cases hi
   ·exact foldr h i hi
  intro a x h i hi
  unfold pk at h
  repeat'(first
   |(simp only[reduceCtorEq]at h;done)
   |(simp only[GE]at h;subst h;first|(simp only[H4]at hi;subst hi;exact⟨_,by assumption⟩)|(cases hi;done))
   |(simp only[Hb]at h;obtain⟨y,hy,rfl⟩:=h;first|exact D5 hy i hi|(rcases List.mem_cons.1 hi with rfl|hi;exact⟨_,by assumption⟩;first|exact Xs hy i hi|exact D5 hy i hi))
   |split at h)
theorem JE{L:Id→Option (Option Rows)}{l:List (Id×Id)}:∀{r:List (Id×Id)}{x},fY L l r=some x→∀i∈x.2,∃rows,L i=some (some rows)
 |[],x,h,i,hi=>by simp only[fY,GE]at h;subst h;cases hi
 |(o,k)::r,x,h,i,hi=>by
  simp only[fY]at h
  split at h
  ·simp only[GT,Hb]at h
   obtain⟨y,hy,aV,_,z,hz,rfl⟩:=h
   have PC:∀{a:U}{x},fz L (oO l) a=some x→∀i∈x.2,∃rows,L i=some (some rows):=fun h i hi=>by
    unfold fz at h
    repeat'(first
     |(simp only[reduceCtorEq]at h;done)
     |(simp only[GE]at h;subst h;cases hi)
     |exact Pt _ h i hi
     |split at h)
   have BH:∀{cs:List U}{x},dF (fz L (oO l)) cs=some x→∀i∈x.2,∃rows,L i=some (some rows):=fun{cs}=>by
    induction cs with
    |nil=>intro x h i hi;simp[dF]at h;subst h;cases hi
    |cons c cs r3=>
     intro x h i hi
     simp only[dF,GT,Hb]at h
     obtain⟨y,hy,z,hz,rfl⟩:=h
     rcases List.mem_append.1 hi with hi|hi
     ·exact PC hy i hi
     ·exact r3 hz i hi
   have PT:∀{cs:List U}{x},iW L (oO l) cs=some x→∀i∈x.2,∃rows,L i=some (some rows):=fun h i hi=>by
    unfold iW at h
    split at h
    ·simp only[GE]at h;subst h;cases hi
    ·exact BH h i hi
   have foldr:∀{cs:Rows}{x},ef (iW L (oO l)) cs=some x→∀i∈x.2,∃rows,L i=some (some rows):=fun{cs}=>by
    induction cs with
    |nil=>intro x h i hi;simp[ef]at h;subst h;cases hi
    |cons c cs r3=>
     intro x h i hi
     simp only[ef,GT,Hb]at h
     obtain⟨y,hy,z,hz,rfl⟩:=h
     rcases List.mem_append.1 hi with hi|hi
     ·exact PT hy i hi
     ·exact r3 hz i hi
   rcases List.mem_append.1 hi with hi|hi
   ·unfold kA at hy
    split at hy
    ·simp only[GE]at hy;subst hy;cases hi
    ·exact foldr hy i hi
   ·exact JE hz i hi
  ·cases h
theorem zb{call:FuncId→List U→Option (U×List U)}{L:Id→Option (Option Rows)}{k:FuncId}{args:List U}{x:sJ}(h:nJ call L k args=some x):∃obs outs,fY L x.l x.l=some (obs,x.gone)∧call k (.aE obs::args.map (ek x.l))=some (x.r,outs)∧gb (x.l.map fun x=>(x.2,x.1)) x.l outs=some x.back∧(x.l.map (·.1)).Nodup∧(x.l.map (·.2)).Nodup∧(∀y∈x.l,gK y.2=true)∧x.gone.Nodup∧(∀i∈x.gone,i∉x.l.map (·.1)):=by unfold nJ vI at h;split at h;·{rename_i obs gone ho;split at h;·{rename_i hc;simp only[Hk,List.all_eq_true]at hc;obtain⟨⟨⟨⟨c1,c2⟩,c3⟩,s0⟩,vg⟩:=hc;split at h;·{rename_i r outs bx;obtain⟨back,hb,rfl⟩:=Option.map_eq_some_iff.1 h;refine⟨obs,outs,ho,bx,hb,ug c1,ug c2,c3,ug s0,fun i hi hm=> ?_⟩;have:=List.all_eq_true.1 vg i hi;simp only[Bool.not_eq_true',List.contains_eq_mem,decide_eq_false_iff_not]at this;exact this hm};·cases h};·cases h};·cases h
theorem K7{l:List (Id×Id)}:(l.map fun x=>(x.2,x.1)).map (·.2)=l.map (·.1):=by simp[Function.comp_def]
def AL(E:Env)(w:World)(β:Id→Option Loc)(F:Id→List Nat)(x:sJ)(e:Ending)(w':World):Prop:=∃(G G':Id→List Nat)(fr:List Nat)(I':Nat→Prop),(∀k b,b∈G k→∃i,(i∈x.l.map (·.1)∨i∈x.gone)∧b∈F i)∧(Kept w w' fun b=>∃k,b∈G k)∧uT w' I' (fun i=>(eI x.l i).bind β) fr e x.r∧(∀k,(G' k).Nodup)∧(∀i j b,b∈G' i→b∈G' j→i=j)∧fr.Nodup∧(∀k b,b∈G' k→b∉fr)∧(∀b,(b∈fr∨∃k,b∈G' k)→b<w'.heap.size∧((∃k,b∈G k)∨w.heap.size≤b))∧(∀b,I' b→(av E w F b∨(∃k,b∈G k)∨w.heap.size≤b)∧b<w'.heap.size∧b∉fr∧∀k,b∉G' k)∧(∀y∈x.back,∀aV,y.2=some aV→∃k,(y.1,k)∈x.l∧cW w' I' β y.1 aV (G' k))
theorem Wr(h:aC C E w S a β F){k:FuncId}{call:FuncId→List U→Option (U×List U)}(c6:∀k as r,call k as=some r→Sound C k as r)(Ck:C.fP k=true){args:List U}{vs:List Value}(ha:aj w (av E w F) β [] vs args){x:sJ}(hx:nJ call S.h k args=some x):FB C.P k ⟨vs⟩ w (AL E w β F x):=by obtain⟨obs,outs,ho,bx,hb,j5,j6,hK,zQ,dg⟩:=zb hx;obtain⟨hl,G,e1,e2,hpre,mU⟩:=RN h ha ho j5 j6 zQ dg;have hs:=(c6 _ _ _ bx).2 Ck _ _ hl rfl e1 (by rw[e2];exact j6) (fun y hy=>by have:y.1∈x.l.map (·.2):=by{rw[←e2];exact List.mem_map.2 ⟨y,hy,rfl⟩};obtain⟨z,hz,e⟩:=List.mem_map.1 this;rw[←e];exact hK z hz) w _ _ G vs hpre;have xZ:∀e w',AU w (av E w F) (fun i=>(eI x.l i).bind β) G (x.r,outs) e w'→AL E w β F x e w':=fun e w' hr=>by{obtain⟨I',G',fr,q1,eD,_,xM,Eb,Ec,Ai,Aj,sv⟩:=hr.ex;refine⟨G,G',fr,I',mU,hr.kept,q1,xM,Eb,Ec,Ai,Aj,sv,fun y hy aV e=> ?_⟩;obtain⟨k',rows,m1,m2,m3⟩:=(qW hb).2 y hy aV e;have zP:((x.l.map fun x=>(x.2,x.1)).map (·.2)).Nodup:=by{rw[K7];exact j5};have hm:eI (x.l.map fun x=>(x.2,x.1)) y.1=some k':=lu zP (List.mem_map.2 ⟨_,m1,rfl⟩);have:=(eD k' rows m2).jO hm (KD zP m3);refine⟨k',m1,this.mono (fun _ h=>h) (fun _ _=>rfl) fun i lo hlo=> ?_⟩;simp only[Option.bind_eq_some_iff]at hlo;obtain⟨j,hj,i',hi',hlo⟩:=hlo;obtain⟨z,hz,e⟩:=List.mem_map.1 (mg hj);simp only[Prod.mk.injEq]at e;have:=lu j6 hz;rw[e.1,hi']at this;simp only[Option.some.injEq]at this;rw[this,e.2]at hlo;exact hlo};rcases hs with⟨fn,c,k1,k2,dH⟩|⟨v,w',k1,k2⟩;·{exact .inl ⟨fn,c,k1,k2,dH.mono xZ⟩};·exact .inr ⟨v,w',k1,xZ _ _ k2⟩
theorem Yx{l:List (Id×Id)}(j5:(l.map (·.1)).Nodup)(j6:(l.map (·.2)).Nodup){i:Id}{lo:Loc}(h:((eI (l.map fun x=>(x.2,x.1)) i).bind fun i=>(eI l i).bind β)=some lo):β i=some lo:=by simp only[GT]at h;obtain⟨j,hj,i',hi',hlo⟩:=h;obtain⟨z,hz,e⟩:=List.mem_map.1 (mg hj);simp only[Ha]at e;have:=lu j6 hz;rw[e.1,hi']at this;simp only[GE]at this;rw[this,e.2]at hlo;exact hlo
theorem QD{P:Program}{o:Oper}{c:Call}{cj:Operand}(ho:o.op= .call c)(hc:c.callee= .value cj){k:FuncId}{fo fV:List Value}(je:a.eval cj= .func (.func k) ⟨fo⟩ ⟨fV⟩):(execOp a.eval o).run P w=(callFunc k ⟨fo++c.args.toList.map a.eval++fV⟩).run P w:=by have e2:((⟨fo⟩:Array Value)++c.args.map a.eval++⟨fV⟩:Array Value)=⟨fo++c.args.toList.map a.eval++fV⟩:=by{apply Array.ext';simp};have b5:resolve a.eval c o.type=(pure {target:= .fn (.func k) ⟨fV⟩,args:=⟨fo⟩++c.args.map a.eval}:Sem Deferred):=by{simp[resolve,hc,je,Deferred.ofValue]};have gh:execOp a.eval o=(do let d←resolve a.eval c o.type;invoke d.target d.args:Sem Next):=by{simp[execOp,ho]};rw[gh,b5,Sem.run_bind,Sem.run_pure,Result.andThen_ok];simp only[invoke,e2]
theorem RO{x:U}{y:FuncId×List U×List U}(h:kD C x=some y):x= .fn (.func y.1) y.2.1 y.2.2∧C.fP y.1=true:=by unfold kD at h;split at h;·{split at h;·{rename_i hg;simp only[GE]at h;subst h;exact⟨rfl,hg⟩};·cases h};·cases h
theorem Yi{L:Id→Option (Option Rows)}{b:Id×Option Rows}(h:n3 L b=true):L b.1=some b.2:=by obtain⟨i,v⟩:=b;unfold n3 at h;split at h;·{rename_i h1 h2;simp only[Hk,beq_iff_eq]at h;obtain⟨⟨rfl,rfl⟩,rfl⟩:=h;simp only at h1 h2;rw[h1,h2]};·cases h
theorem Lf{h0 h:Id→Option (Option Rows)}:∀{back:List (Id×Option Rows)},(∀b∈back,h b.1=h0 b.1)→(back.map (·.1)).Nodup→aQ h (gX h0 back)=aQ h back|[],_,_=>rfl|(i,v)::back,ha,nd=>by have ih:=Lf (h0:=h0) (h:=h) (back:=back) (fun b hb=>ha b (Hc _ hb)) (List.nodup_cons.1 nd).2;unfold gX at ih⊢;simp only[List.filter_cons];split;·{simp only[aQ,ih]};·rename_i hs;rw[ih];have hs:n3 h0 (i,v)=true:=by{simpa using hs};funext j;simp only[aQ,ai];split;·{rename_i e;subst e;rcases eR h back j with⟨x,hx,e1,_⟩|⟨_,e2⟩;·{exact absurd (List.mem_map.2 ⟨x,hx,e1⟩) (List.nodup_cons.1 nd).1};·rw[e2,ha (j,v) (Hd ..)];exact Yi hs};·rfl
theorem Wi(hN:mC C.P)(h:aC C E w S a β F){o:Oper}{c:Call}{cj:Operand}(ho:o.op= .call c)(hc:c.callee= .value cj){f:FuncId}{call:FuncId→List U→Option (U×List U)}(c6:∀k as r,call k as=some r→Sound C k as r){y:FuncId×List U×List U}(dm:kD C (un true (S.get C cj))=some y){e:aT}(he:mG C f call S o y.1 (y.2.1++(c.args.toList.map fun x=>un true (S.get C x))++y.2.2)=some e)(hd:bT S e)(hn:∀a' w',aW C E (S.app e) a' w'→next a' w'):o.wp C.P a w next Q:=by obtain⟨hfn,Ck⟩:=RO dm;have hfo:=h.cZ cj;rw[hfn]at hfo;obtain⟨_,fo,fV,je,h1,h2⟩:=hfo.lY;have hargs:=aj.ofMap h c.args.toList;have hall:aj w (av E w F) β [] (fo++c.args.toList.map a.eval++fV) (y.2.1++(c.args.toList.map fun x=>un true (S.get C x))++y.2.2):=(h1.append hargs).append h2;unfold mG at he;simp only[GT]at he;obtain⟨x,hx,he⟩:=he;split at he;·{cases he};·rename_i hnp;have hnp:tV x.r=false:=by{simpa using hnp};generalize oK:(if dS C f o.dst=true then(if flat x.r=true then cS x.r else .aU)else x.r)=rr at he;split at he;·{rename_i hf;simp only[GE]at he;subst he;have oG:=Wr h c6 Ck hall hx;obtain⟨obs,outs,zx,_,hb,j5,j6,_,zQ,dg⟩:=zb hx;have hb0:=hb;have zP:((x.l.map fun x=>(x.2,x.1)).map (·.2)).Nodup:=by{rw[K7];exact j5};have xZ:∀e' w',AL E w β F x e' w'→∃v,e'= .returned v∧next (a.put o.dst v) w':=fun e' w'⟨G,G',fr,I',q1,eD,jk,xM,Eb,Ec,Ai,Aj,sv,XF⟩=>by{obtain⟨v,rfl,hv⟩:=jk.val hnp;refine⟨v,rfl,hn _ _ ?_⟩;obtain⟨lO,th,p1,p2,p3,mj⟩:∃(lO:Nat→Prop)(th:List Nat),R w' lO (fun i=>(eI x.l i).bind β) th v rr∧(th.Nodup∧∀b∈th,b∈fr)∧(∀b,I' b→lO b)∧(∀b,lO b→(av E w F b∨(∃k,b∈G k)∨w.heap.size≤b)∧b<w'.heap.size∧b∉th∧∀k,b∉G' k):=by{by_cases hz:dS C f o.dst=true;·{rw[AC hz]at oK;by_cases hfl:flat x.r=true;·{rw[AC hfl]at oK;subst oK;refine⟨fun b=>I' b∨b∈fr,[],((hv.iI hfl br).cS (fun _ h=> .inl h) (fun _ h=> .inr h)).up,⟨List.nodup_nil,fun b hb=>by cases hb⟩,fun _ h=> .inl h,fun b hb=> ?_⟩;rcases hb with hb|hb;·{obtain⟨k1,k2,_,gw⟩:=sv b hb;exact⟨k1,k2,by simp,gw⟩};·obtain⟨k1,k2⟩:=Aj b (.inl hb);exact⟨k2.elim (fun h=> .inr (.inl h)) (fun h=> .inr (.inr h)),k1,by simp,fun k hk=>Ai k b hk hb⟩};·rw[Do hfl]at oK;subst oK;exact⟨I',[], .aU,⟨List.nodup_nil,fun b hb=>by cases hb⟩,fun _ h=>h,fun b hb=>⟨(sv b hb).1,(sv b hb).2.1,by simp,(sv b hb).2.2.2⟩⟩};·rw[Do hz]at oK;subst oK;exact⟨I',fr,hv,⟨Ec,fun _ h=>h⟩,fun _ h=>h,sv⟩};obtain⟨f2,p8,hr2⟩:=p1.XU (Ei zP rr);have zo:f2.Nodup∧∀b∈f2,b∈th:=by{rcases p8 with rfl|rfl;·{exact⟨p2.1,fun _ h=>h⟩};·exact⟨List.nodup_nil,fun b hb=>by cases hb⟩};have TK:R w' lO β f2 v (ek (x.l.map fun x=>(x.2,x.1)) rr):=hr2.mono (fun _ h=>h) (fun _ _=>rfl) fun i lo hlo=>Yx j5 j6 hlo;have j0:=y9 hf;obtain⟨β',nx,a1,a2,a3,a4,a5,a6,a7⟩:=wL (gd o) TK zo.1 (fun z hz=>h.dom _ (j0 z hz));have rO:=h.xg hd;have:=h.RP (a':=a.put o.dst v) (t':=cv S.t (put o (imp (gd o) (ek (x.l.map fun x=>(x.2,x.1)) rr)).1 (x.l.map (·.1)) []).cO) j5 j6 dg (JC zx) (JE zx) q1 eD xM Eb (fun k b hb hm=>Ai k b hb (p2.2 b (zo.2 b hm))) (fun b hb=>Aj b (hb.imp (fun hb=>p2.2 b (zo.2 b hb)) id)) (fun b hb=>⟨(mj b hb).1,(mj b hb).2.1,fun hm=>(mj b hb).2.2.1 (zo.2 b hm),(mj b hb).2.2.2⟩) (qW hb).1 (fun z hz aV e=>(XF z hz aV e).imp fun k hk=>⟨hk.1,hk.2.mono p3 (fun _ _=>rfl) (fun _ _ h=>h)⟩) a1 a2 a4 a5 a6 j0 (fun z hz=>by obtain⟨q,e⟩:=a7 z hz;rw[e];exact rO q) (by rw[oV];exact h.n) (put_defers ..) (fun F' hI rD t=> ?_);·{have e:aQ S.h ((imp (gd o) (ek (x.l.map fun x=>(x.2,x.1)) rr)).2++(gX S.h x.back++x.gone.map fun i=>(i,none)))=aQ S.h ((imp (gd o) (ek (x.l.map fun x=>(x.2,x.1)) rr)).2++(x.back++x.gone.map fun i=>(i,none))):=by{have g1:∀b∈x.back,aQ S.h (x.gone.map fun i=>(i,none)) b.1=S.h b.1:=fun b hb=>by{have hb':b.1∈x.l.map (·.1):=by{rw[←(qW hb0).1];exact List.mem_map.2 ⟨b,hb,rfl⟩};rcases eR S.h (x.gone.map fun i=>(i,none)) b.1 with⟨y,hy,e1,_⟩|⟨_,e2⟩;·{obtain⟨j,hj,rfl⟩:=List.mem_map.1 hy;have e1:j=b.1:=e1;exact absurd hb' (e1▸dg j hj)};·exact e2};have g2:(x.back.map (·.1)).Nodup:=by{rw[(qW hb0).1];exact j5};rw[sD,sD,sD,sD,Lf g1 g2]};have e2:S.app (put o (imp (gd o) (ek (x.l.map fun x=>(x.2,x.1)) rr)).1 (x.l.map (·.1)) ((imp (gd o) (ek (x.l.map fun x=>(x.2,x.1)) rr)).2++(gX S.h x.back++x.gone.map fun i=>(i,none))))=⟨S.n,cv S.t (put o (imp (gd o) (ek (x.l.map fun x=>(x.2,x.1)) rr)).1 (x.l.map (·.1)) []).cO,aQ S.h ((imp (gd o) (ek (x.l.map fun x=>(x.2,x.1)) rr)).2++(x.back++x.gone.map fun i=>(i,none)))⟩:=by{rw[←e];rfl};rw[e2];exact this};·cases aY:o.dst with|none=>(refine .inl ⟨by simp[Act.put], ?_⟩;simp[put,aY,cv])|some d=>have hd':d<a.tmps.size:=by{rw[h.n];simpa[bT,put,aY]using hd};rw[oU a d t v hd'];by_cases ht:t=d;·{subst ht;rw[AC rfl];refine .inr ?_;have:=a3.mono (w':=w') rD (fun _ _=>rfl) (fun _ _ h=>h);simpa[put,aY,cv,ai]using this};·rw[Do ht];refine .inl ⟨rfl, ?_⟩;simp[put,aY,cv,ai,ht]};unfold Oper.wp;rw[QD ho hc je];rcases oG with⟨fn,code,k1,k2,dH⟩|⟨v,w',k1,k2⟩;·{rw[qE hN k1 k2];simp only[Oper.upon];refine dH.mono fun e' w' hh=> ?_;obtain⟨v,rfl,hr⟩:=xZ e' w' hh;exact hr};·rw[k1];obtain⟨v',e,hr⟩:=xZ _ w' k2;simp only[Ending.returned.injEq]at e;subst e;exact hr};·cases he
end
end Go.Ab
