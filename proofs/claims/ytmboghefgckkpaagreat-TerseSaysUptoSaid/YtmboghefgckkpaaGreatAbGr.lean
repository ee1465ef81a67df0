import Derived.Test.YtmboghefgckkpaaGreatAbTake
import Derived.MapKept
import Derived.Test.YtmboghefgckkpaaGreatAbWeak
namespace Go.Ab
open Go
def mj(e:MapEntry):List aa:=[.val e.key, .val e.val]
section
variable{P:Program}{w:World}{kt et t:TypeId}{kind:TypeDesc}{kv pF z:Value}
theorem run_checkKey{b:Bool}(hk:P.underlying kt=some kind)(hs:Ph kind=true):(Instr.checkKey b 10000 kt kv).run P w= .ok () w:=by show(Instr.checkKey b (9999+1) kt kv).run P w=_;unfold Instr.checkKey;rw[Sem.run_bind,fo (C:={P:=P,cP:=fun _=>none,ext:=fun _=>none,cK:=fun _=>[],e7:=fun _=>[],live:=fun _ _=>[],iJ:=fun _ _=>[]}) hk,Result.andThen_ok];cases kind<;>first|(cases hs;done)|rfl
theorem Sy:∀{es:List MapEntry}{r:Option Value}(i:Nat),qW kind kv (es.map mj)=some r→∃j,Instr.findNow kind kv es i=some (r.map fun v=>(j,v))|[],r,i,h=>by{simp only[List.map_nil,qW,Option.some.injEq]at h;subst h;exact⟨0,rfl⟩}|e::es,r,i,h=>by simp only[List.map_cons,mj,qW]at h;unfold Instr.findNow;split at h;·{rename_i hs;simp only[Option.some.injEq]at h;subst h;exact⟨i,by rw[hs];rfl⟩};·{rename_i hs;obtain⟨j,hj⟩:=Sy (i+1) h;exact⟨j,by rw[hs];exact hj⟩};·cases h
theorem Q9:∀{a b:ByteArray},(a==b)=true→a=b|⟨x⟩,⟨y⟩,h=>by have h':(x==y)=true:=h;rw[eq_of_beq h']
theorem Ra(a:ByteArray):(a==a)=true:=by cases a with|mk x=>show(x==x)=true;simp
theorem Ww{b:Nat}{es:Array MapEntry}{clock:Nat}(hb:w.heap[b]? =some (.map es clock)):(getObj b).run P w= .ok (.map es clock) w:=by simp[getObj,Sem.run,hb]
theorem WA{b:Nat}{es:Array MapEntry}{clock:Nat}(o:Obj)(hb:w.heap[b]? =some (.map es clock)):(setObj b o).run P w= .ok () (jV w b o):=by simp[setObj,Sem.run,hb,jV]
theorem amO{k e:Value}(h:Instr.sameNow kind k e=some true):Instr.sameBits 10000 e k=true:=by unfold Instr.sameNow at h;split at h;·{split at h;·{rename_i a k' b hk;simp only[Option.some.injEq]at h;show(_&&_)=true;have:=eq_of_beq h;subst hk this;simp};·cases h};·{simp only[Option.some.injEq]at h;have:=Q9 h;subst this;exact Ra _};·{simp only[Option.some.injEq]at h;have:=eq_of_beq h;subst this;show(_==_)=true;simp};·cases h
theorem VZ:∀{es:List MapEntry}{bB:Rows}(i:Nat),z9 kind kv pF (es.map mj)=some bB→(∃j v,∃hj:j<es.length,Instr.findNow kind kv es i=some (some (i+j,v))∧Instr.sameNow kind kv es[j].key=some true∧bB=(es.modify j fun e=>{e with key:=kv,val:=pF}).map mj)∨(Instr.findNow kind kv es i=some none∧bB=es.map mj++[[.val kv, .val pF]])|[],bB,i,h=>by{simp only[List.map_nil,z9,Option.some.injEq]at h;subst h;exact .inr ⟨rfl,rfl⟩}|e::es,bB,i,h=>by simp only[List.map_cons,mj,z9]at h;unfold Instr.findNow;split at h;·{rename_i hs;simp only[Option.some.injEq]at h;subst h;exact .inl ⟨0,e.val,by simp,by rw[hs];rfl,hs,by simp[mj]⟩};·{rename_i hs;obtain⟨y,hy,rfl⟩:=Option.map_eq_some_iff.1 h;rw[hs];rcases VZ (i+1) hy with⟨j,v,hj,h1,h2,rfl⟩|⟨h1,rfl⟩;·{refine .inl ⟨j+1,v,by simpa using hj, ?_,by simpa using h2,by simp[mj]⟩;rw[show i+(j+1)=i+1+j by omega];exact h1};·exact .inr ⟨h1,by simp[mj]⟩};·cases h
end
section
variable{C:aU}{E:Env}{w:World}{S:an}{a:Act}{β:Id→Option Loc}{F:Id→List Nat}
variable{next:Act→World→Prop}{Q:Exit→Act→World→Prop}
theorem amP{t:TypeId}{z:Value}(h:Pc C t=some z):(∀w:World,(zeroValue t).run C.P w= .ok z w)∧e4 z=true:=by unfold Pc at h;split at h;·{rename_i v hv;split at h;·{rename_i hs;simp only[Option.some.injEq]at h;subst h;refine⟨fun w=> ?_,hs⟩;simp only[Option.bind_eq_some_iff]at hv;obtain⟨i,hi,hz⟩:=hv;simp[zeroValue,typeInfo,hi,hz]};·cases h};·cases h
theorem UO{t:TypeId}{kind:TypeDesc}{z:Value}(h:Cn C t=some (kind,z)):∃kt et,C.P.underlying t=some (.map kt et)∧C.P.underlying kt=some kind∧Ph kind=true∧(∀w:World,(zeroValue et).run C.P w= .ok z w)∧e4 z=true:=by unfold Cn at h;split at h;·{rename_i kt et hu;split at h;·{rename_i kind' z' hk hz;split at h;·{rename_i hs;simp only[Option.some.injEq,Prod.mk.injEq]at h;obtain⟨rfl,rfl⟩:=h;obtain⟨h1,h2⟩:=amP hz;exact⟨kt,et,hu,hk,hs,h1,h2⟩};·cases h};·cases h};·cases h
theorem aeU{w:World}{b:Nat}{es es':Array MapEntry}{c c':Nat}(h:w.heap[b]? =some (.map es c))(x:Addr):(jV w b (.map es' c')).frozen? x=w.frozen? x:=by have hb:=mL h;unfold World.frozen? ;rw[DF hb];by_cases hx:x.block=b;·{rw[if_pos hx,hx,h]};·rw[if_neg hx]
theorem akA(h:aV C E w S a β F){o:Oper}{t:TypeId}{r:Option Operand}(ho:o.op= .makeMap t r){e:bE}(he:vl C S o t r=some e)(hd:cQ S e)(hn:∀a' w',bO C E (S.app e) a' w'→next a' w'):o.wp C.P a w next Q:=by unfold vl at he;split at he;·{rename_i d hm bT;split at he;·{rename_i hc;simp only[Bool.and_eq_true,Option.isNone_iff_eq_none]at hc;obtain⟨rfl,hf⟩:=hc;simp only[Option.some.injEq]at he;subst he;have hfr:S.h [d]=none:=hf;have hd':d<S.n:=by{simpa[cQ,put,bT]using hd};refine lG (v:= .map (some w.heap.size)) (w':=w.alloc (.map #[] 0)) ?_ (hn _ _ ?_);·{simp only[execOp,ho];refine o8 ?_;rfl};·have e1:S.app (put o (.mr [d]) [] [([d],some [])])=⟨S.n,aC S.t d (.mr [d]),aC S.h [d] (some (some []))⟩:=by{simp[an.app,put,bT,dF,bD]};rw[e1];have hold:∀b,b<w.heap.size→(w.alloc (.map #[] 0)).heap[b]? =w.heap[b]? :=fun b hb=>heap_alloc_old _ _ _ hb;have hnew:(w.alloc (.map #[] 0)).heap[w.heap.size]? =some (.map #[] 0):=heap_alloc_new _ _;refine h.Kn bT (kill:=[d]) (l:= .map w.heap.size) (bB:=[]) (G:=[w.heap.size]) hfr (.inl rfl) (by simp[aC]) (fun i hi _=>by simp[aC,hi]) (fun hk=>absurd rfl hk) (by simp) rfl rfl (fun x=> ?_) (fun b hb _=>hold b hb) (yC hold) (by simp) (fun b hb=> ?_) (fun I' β' _ _ hb=> ?_) (fun I' β' hb=> .mr hb) hd';·{by_cases hx:x.block=w.heap.size;·{have e2:w.heap[x.block]? =none:=by{rw[hx];simp};simp only[World.frozen?,hx,hnew];simp};·rw[World.frozen?_alloc_old _ _ _ hx]};·{obtain rfl:=List.mem_singleton.1 hb;exact .inr ⟨Nat.le_refl _,by simp⟩};·exact .inr (.inl ⟨_,hb,rfl, #[],0,hnew,rfl,fun e he=>by simp at he⟩)};·cases he};·cases he
theorem ai4(h:aV C E w S a β F){x:aa}{v:Value}{rows:Rows}{ids:List Id}(hx:R w (aQ E w F) β [] v x)(hr:xz S.h x=some (rows,ids)):(v= .map none∧rows=[])∨∃b,v= .map (some b)∧oA w b rows:=by unfold xz at hr;split at hr;·{rename_i id;split at hr;·{rename_i bB hid;simp only[Option.some.injEq,Prod.mk.injEq]at hr;obtain⟨rfl,rfl⟩:=hr;obtain⟨_,b,hb,rfl⟩:=hx.GD;rcases h.obj id _ hid with⟨h1,_⟩|⟨b2,h1,_,hm⟩|⟨_,_,_,_,_,_,h1,_⟩;·{rw[h1]at hb;cases hb};·{rw[h1]at hb;cases hb;exact .inr ⟨_,rfl,hm⟩};·rw[h1]at hb;cases hb};·cases hr};·{simp only[Option.some.injEq,Prod.mk.injEq]at hr;obtain⟨rfl,rfl⟩:=hr;obtain⟨_,b,rfl,_,hm⟩:=hx.air;exact .inr ⟨b,rfl,hm⟩};·{simp only[Option.some.injEq,Prod.mk.injEq]at hr;obtain⟨rfl,rfl⟩:=hr;obtain⟨_,rfl⟩:=hx.hJ;exact .inl ⟨rfl,rfl⟩};·cases hr
theorem Sz{kind:TypeDesc}{kv v:Value}:∀{es:List MapEntry},(∀e∈es,e4 e.key=true∧e4 e.val=true)→qW kind kv (es.map mj)=some (some v)→e4 v=true|[],_,h=>by{simp[qW]at h}|e::es,hs,h=>by simp only[List.map_cons,mj,qW]at h;split at h;·{simp only[Option.some.injEq]at h;subst h;exact(hs e (List.mem_cons_self ..)).2};·{exact Sz (fun e he=>hs e (List.mem_cons_of_mem _ he)) h};·cases h
theorem akx(h:aV C E w S a β F){o:Oper}{t:TypeId}{x k:Operand}{ok:Bool}(ho:o.op= .lookup t x k ok){e:bE}(he:pX C S o t (un true (S.get C x)) (un true (S.get C k)) ok=some e)(hd:cQ S e)(hn:∀a' w',bO C E (S.app e) a' w'→next a' w'):o.wp C.P a w next Q:=by have hx:=h.eD x;have hk:=h.eD k;generalize un true (S.get C x)=xv at*;generalize un true (S.get C k)=kx at*;have hex:execOp a.eval o=(do pure (Next.value (←Instr.lookup t (a.eval x) (a.eval k) ok))):=by{simp[execOp,ho]};unfold pX at he;split at he;·{rename_i kind z rows ids kv hm hr;obtain⟨r,hf,rfl⟩:=Option.map_eq_some_iff.1 he;obtain⟨kt,et,hu,zo,hs,hz,hzs⟩:=UO hm;obtain⟨_,hkv⟩:=hk.hJ;have hK:∀es:Array MapEntry,qW kind kv (es.toList.map mj)=some r→(do Instr.checkKey es.isEmpty 10000 kt (a.eval k)let y←Instr.findKey kt (a.eval k) es.toList match y with|some (_,v)=>do let x←pure (v,true)pure (if ok=true then Value.tuple #[x.1,Value.bool x.2]else x.1)|none=>do let z←zeroValue et let x←pure (z,false)pure (if ok=true then Value.tuple #[x.1,Value.bool x.2]else x.1):Sem Value).run C.P w= .ok (if ok then .tuple #[r.getD z, .bool r.isSome]else r.getD z) w:=by{intro es hf;obtain⟨j,hj⟩:=Sy 0 hf;rw[Sem.run_bind,run_checkKey zo hs,Result.andThen_ok];have FJ:(Instr.findKey kt (a.eval k) es.toList).run C.P w= .ok (r.map fun v=>(j,v)) w:=by{unfold Instr.findKey;rw[Sem.run_bind,fo zo,Result.andThen_ok,hkv,hj];rfl};rw[Sem.run_bind,FJ,Result.andThen_ok];cases r with|some v=>(rfl)|none=>simp only[Option.map_none,Option.getD_none,Option.isSome_none];rw[Sem.run_bind,hz w,Result.andThen_ok];rfl};have hrun:(Instr.lookup t (a.eval x) (a.eval k) ok).run C.P w= .ok (if ok then .tuple #[r.getD z, .bool r.isSome]else r.getD z) w∧e4 (r.getD z)=true:=by{unfold Instr.lookup;rw[Sem.run_bind,fo hu,Result.andThen_ok];rcases ai4 h hx hr with⟨hv,rfl⟩|⟨b,hv,es,clock,hb,rfl,hsc⟩;·{refine⟨?_, ?_⟩;·{rw[hv];exact hK #[] hf};·simp only[qW,Option.some.injEq]at hf;subst hf;exact hzs};·refine⟨?_, ?_⟩;·{rw[hv];simp only;rw[Sem.run_bind,Ww hb,Result.andThen_ok];exact hK es hf};·cases r with|none=>(exact hzs)|some v=>exact Sz hsc hf};obtain⟨hrun,T0⟩:=hrun;refine gH h hd hex hrun ?_ hn;cases ok with|false=>(exact .val T0)|true=>exact .bG (.cons (f1:=[]) (f2:=[]) (.val T0) (.cons (f1:=[]) (f2:=[]) (.val rfl) .nil))};·cases he
theorem VA(h:aV C E w S a β F){o:Oper}{t:TypeId}{x k v:Operand}(ho:o.op= .mapUpdate t x k v∨o.op= .insert t x k v){e:bE}
  (he:pY C S o t (un true (S.get C x)) (un true (S.get C k)) (un true (S.get C v))=some e)(hd:cQ S e)(hn:∀a' w',bO C E (S.app e) a' w'→next a' w'):o.wp C.P a w next Q:=by
 have hx:=h.eD x
 have hk:=h.eD k
 have hv:=h.eD v
 generalize un true (S.get C x)=xv at*
 generalize un true (S.get C k)=kx at*
 generalize un true (S.get C v)=vx at*
 have hex:execOp a.eval o=(do Instr.mapUpdate t (a.eval x) (a.eval k) (a.eval v);pure Next.skip):=by rcases ho with ho|ho<;>simp[execOp,ho]
 unfold pY at he
 split at he
 ·rename_i kind z id kv pF hm
  split at he
  ·rename_i rows hid
   split at he
   ·rename_i hc
    simp only[Bool.and_eq_true,Option.isNone_iff_eq_none]at hc
    obtain⟨⟨eI,T5⟩,bT⟩:=hc
    obtain⟨bB,hp,rfl⟩:=Option.map_eq_some_iff.1 he
    obtain⟨kt,et,hu,zo,hs,_,_⟩:=UO hm
    obtain⟨_,hkv⟩:=hk.hJ
    obtain⟨_,ah5⟩:=hv.hJ
    obtain⟨_,b,bS,zC⟩:=hx.GD
    have tX:=h.obj id rows hid
    obtain⟨hF,es,clock,hb,rfl,hsc⟩:F id=[b]∧oA w b rows:=by
     rcases tX with⟨h1,_⟩|⟨b2,h1,h2,hm⟩|⟨_,_,_,_,_,_,h1,_⟩
     ·rw[h1]at bS;cases bS
     ·rw[h1]at bS;cases bS;exact⟨h2,hm⟩
     ·rw[h1]at bS;cases bS
    have ng:=mL hb
    have key:∃es':Array MapEntry,∃c':Nat,(Instr.mapUpdate t (a.eval x) (a.eval k) (a.eval v)).run C.P w= .ok () (jV w b (.map es' c'))∧bB=es'.toList.map mj∧∀e∈es'.toList,e4 e.key=true∧e4 e.val=true:=by
     have pre:∀{r:Option (Nat×Value)},Instr.findNow kind kv es.toList 0=some r→(Instr.mapUpdate t (a.eval x) (a.eval k) (a.eval v)).run C.P w=(match r with
       |some (i,_)=>(do
        let key←Instr.keyThatStays (((es[i]?).map MapEntry.key).getD kv) kv
        setObj b (.map (es.modify i fun e=>{e with key,val:=pF}) clock):Sem Unit)
       |none=>setObj b (.map (es.push {key:=kv,val:=pF,born:=clock}) (clock+1))).run C.P w:=by
      intro r hr
      unfold Instr.mapUpdate
      rw[Sem.run_bind,fo hu,Result.andThen_ok]
      simp only[zC,hkv,ah5]
      rw[Sem.run_bind,Ww hb,Result.andThen_ok]
      simp only
      rw[Sem.run_bind,run_checkKey zo hs,Result.andThen_ok,Sem.run_bind]
      have FJ:(Instr.findKey kt kv es.toList).run C.P w= .ok r w:=by
       unfold Instr.findKey
       rw[Sem.run_bind,fo zo,Result.andThen_ok,hr]
       rfl
      rw[FJ,Result.andThen_ok]
      cases r with
      |none=>rfl
      |some y=>rfl
     rcases VZ (kind:=kind) (kv:=kv) (pF:=pF) 0 hp with⟨j,v0,hj,h1,h2,rfl⟩|⟨h1,rfl⟩
     ·have hj':j<es.size:=by simpa using hj
      refine⟨es.modify j fun e=>{e with key:=kv,val:=pF},clock, ?_,by simp[Array.toList_modify],fun e he=> ?_⟩
      ·rw[pre h1]
       simp only[Nat.zero_add]
       have e1:((es[j]?).map MapEntry.key).getD kv=es.toList[j].key:=by simp[hj']
       rw[e1,Sem.run_bind]
       have e2:(Instr.keyThatStays es.toList[j].key kv).run C.P w= .ok kv w:=by
        unfold Instr.keyThatStays
        rw[if_pos (amO h2)];rfl
       rw[e2,Result.andThen_ok,WA _ hb]
      ·rw[Array.toList_modify]at he
       obtain⟨i,hi,rfl⟩:=List.getElem_of_mem he
       rw[List.getElem_modify]
       split
       ·exact⟨eI,T5⟩
       ·exact hsc _ (List.getElem_mem _)
     ·refine⟨es.push {key:=kv,val:=pF,born:=clock},clock+1, ?_,by simp[mj],fun e he=> ?_⟩
      ·rw[pre h1]
       simp only
       rw[WA _ hb]
      ·simp only[Array.toList_push,List.mem_append,List.mem_singleton]at he
       rcases he with he|rfl
       ·exact hsc e he
       ·exact⟨eI,T5⟩
    obtain⟨es',c',hrun,rfl,ahS⟩:=key
    have nj:∀k,(jV w b (.map es' c')).heap[k]? =if k=b then some (.map es' c')else w.heap[k]? :=DF ng
    refine PI (w':=jV w b (.map es' c')) (by rw[hex];exact WC hrun) (hn _ _ ⟨β,F, ?_⟩)
    have e1:S.app (put o .bH [id] [(id,some (es'.toList.map mj))])=⟨S.n,S.t,aC S.h id (some (some (es'.toList.map mj)))⟩:=by simp[an.app,put,bT,dF,bD]
    have e2:a.put o.dst undef=a:=by rw[bT];rfl
    rw[e1,e2]
    refine h.step (hok:=fun k r2 hk nY=>by
     by_cases e:k=id
     ·subst e;exact⟨_,by assumption⟩
     ·exact⟨r2,by simpa[aC,e]using nY⟩) (·=id) h.n (by simp[jV]) rfl rfl (fun x=>aeU hb x) (fun bb _ fI=> ?_) (fun _ _ h=>h) (fun i bb fI=> .inl ⟨i,fI⟩) (fun i hi=>⟨rfl,by simp[aC,hi]⟩) (fun hI i hi fD nY=> ?_) (fun i hi hno=> ?_) (fun i _=>h.nd i) (fun i j bb _ h1 h2=>h.dK i j bb h1 h2) (fun i hi=> ?_) (fun _ t=> .inl ⟨rfl,rfl⟩) (hdf:=rfl) (fY:= ?_)
    ·rw[nj,if_neg]
     intro e;subst e
     exact fI id rfl (by rw[hF];exact List.mem_singleton.2 rfl)
    ·subst hi
     simp only[aC,if_true,Option.some.injEq]at nY
     subst nY
     exact .inr (.inl ⟨b,bS,hF,es',c',by rw[nj,if_pos rfl],rfl,ahS⟩)
    ·subst hi
     exact absurd (by simp[aC]) (hno (es'.toList.map mj))
    ·refine h.dom i ?_
     by_cases Tw:i=id
     ·subst Tw;simp[aC]at hi
     ·simpa[aC,Tw]using hi
    ·intro bb n hB
     obtain⟨c2,e2,jb,hn2⟩:=hB
     refine⟨c2,e2, ?_,hn2⟩
     rw[nj,if_neg]
     ·exact jb
     ·intro e;subst e;rw[hb]at jb;cases jb
   ·cases he
  ·cases he
 ·cases he
end
end Go.Ab
namespace Go.Ab
open Go
theorem Mk{g:Id→List Nat}:∀{l:List Id},(l.flatMap g).Nodup→∀{i j:Id}{b:Nat},i∈l→j∈l→b∈g i→b∈g j→i=j|[],_,i,_,_,h,_,_,_=>by{cases h}|x::l,hn,i,j,b,hi,hj,hb,hb'=>by simp only[List.flatMap_cons]at hn;obtain⟨_,h2,h3⟩:=List.nodup_append.1 hn;rcases List.mem_cons.1 hi with Sg|hi2<;>rcases List.mem_cons.1 hj with I8|hj2;·{rw[Sg,I8]};·{exact absurd rfl (h3 b (Sg▸hb) b (List.mem_flatMap.2 ⟨j,hj2,hb'⟩))};·{exact absurd rfl (h3 b (I8▸hb') b (List.mem_flatMap.2 ⟨i,hi2,hb⟩))};·exact Mk h2 hi2 hj2 hb hb'
theorem SI{g:Id→List Nat}{l:List Id}(hn:(l.flatMap g).Nodup){i:Id}(hi:i∈l):(g i).Nodup:=by induction l with|nil=>(cases hi)|cons x l ih=>simp only[List.flatMap_cons]at hn;rcases List.mem_cons.1 hi with rfl|hi;·{exact(List.nodup_append.1 hn).1};·exact ih (List.nodup_append.1 hn).2.1 hi
theorem ajs{l:List (Id×Id)}(hn:(l.map (·.2)).Nodup){k:Id}(h:k∈l.map (·.2)):∃o,gl l k=some o:=by obtain⟨x,hx,rfl⟩:=List.mem_map.1 h;exact⟨x.1,qi hn hx⟩
theorem arh{obs:List aa}{hl:List (Id×Rows)}(h:sN obs=some hl):∀k rows,(k,rows)∈hl↔aa.cz k rows∈obs:=by induction obs generalizing hl with|nil=>(simp only[sN,Option.some.injEq]at h;subst h;simp)|cons a obs ih=>cases a with|cz i r=>(simp only[sN,Option.map_eq_some_iff]at h;obtain⟨y,hy,rfl⟩:=h;intro k rows;simp[ih hy])|_=>simp[sN]at h
theorem Wk{l:List (Id×Id)}(hn:(l.map (·.2)).Nodup){rows bB:Rows}(h:nB l rows=some bB):kZ (gl l) bB rows:=by unfold nB at h;split at h;·{rename_i hf;simp only[Option.some.injEq]at h;subst h;exact .of_flat hf};·exact OZ hn h
section
variable{C:aU}{E:Env}{w:World}{S:an}{a:Act}{β:Id→Option Loc}{F:Id→List Nat}
variable{next:Act→World→Prop}{Q:Exit→Act→World→Prop}
theorem Vu(h:aV C E w S a β F){l:List (Id×Id)}(hn:(l.map (·.2)).Nodup)(eI:(l.map (·.1)).Nodup):∀{r:List (Id×Id)}{obs gone},je S.h l r=some (obs,gone)→(∀x∈r,x∈l)→(r.map (·.1)).Nodup→∃hl,sN obs=some hl∧hl.map (·.1)=r.map (·.2)∧∃(g:Id→List Nat)(rest:List Nat),(∀o k,(o,k)∈r→∀rows,(k,rows)∈hl→eu w (aQ E w F) (fun i=>(gl l i).bind β) k rows (g o))∧((r.map (·.1)).flatMap g++rest).Perm ((r.map (·.1)).flatMap F++gone.flatMap F)|[],obs,gone,ho,_,_=>by{simp only[je,Option.some.injEq,Prod.mk.injEq]at ho;obtain⟨rfl,rfl⟩:=ho;exact⟨[],rfl,rfl,fun _=>[],[],(fun _ _ h=>by cases h),by simp⟩}|(o,k)::r,obs,gone,ho,hl,hr=>by simp only[je]at ho;split at ho;·{rename_i rows cy;simp only[Option.bind_eq_some_iff,Option.map_eq_some_iff,Prod.mk.injEq]at ho;obtain⟨x,hx,bB,ahN,⟨GJ,gone'⟩,hy,rfl,rfl⟩:=ho;obtain⟨hl',e1,e2,g,rest,g1,g2⟩:=Vu h hn eI hy (fun x hx=>hl x (List.mem_cons_of_mem _ hx)) (List.nodup_cons.1 hr).2;have hkeep:∀i lo,vG l i=true→β i=some lo→β i=some lo:=fun _ _ _ h=>h;obtain⟨go,ro,k1,k2⟩:=(h.obj o rows cy).closed h.obj hkeep hx (fun _ h=>h);have hm:gl l k=some o:=qi hn (hl (o,k) (List.mem_cons_self ..));have c8:=k1.nA hm (Wk hn ahN);have hno:o∉r.map (·.1):=(List.nodup_cons.1 hr).1;refine⟨(k,bB)::hl',by simp[sN,e1],by simp[e2],fun i=>if i=o then go else g i,ro++rest, ?_, ?_⟩;·{intro o2 k' hm2 fD TL;rcases List.mem_cons.1 hm2 with p2|bW;·{simp only[Prod.mk.injEq]at p2;obtain⟨rfl,rfl⟩:=p2;rcases List.mem_cons.1 TL with p3|cO;·{simp only[Prod.mk.injEq,true_and]at p3;subst p3;simpa using c8};·exfalso;have:k'∈r.map (·.2):=by{rw[←e2];exact List.mem_map.2 ⟨_,cO,rfl⟩};obtain⟨⟨U8,N0⟩,h3,bV⟩:=List.mem_map.1 this;have h4:=qi hn (hl _ (List.mem_cons_of_mem _ h3));have vi:N0=k':=bV;rw[vi,hm]at h4;simp only[Option.some.injEq]at h4;exact hno (h4▸List.mem_map.2 ⟨_,h3,rfl⟩)};·have hne:o2≠o:=fun e=>hno (e▸List.mem_map.2 ⟨_,bW,rfl⟩);simp only[if_neg hne];rcases List.mem_cons.1 TL with p3|cO;·{exfalso;simp only[Prod.mk.injEq]at p3;have h4:=qi hn (hl _ (List.mem_cons_of_mem _ bW));rw[p3.1,hm]at h4;simp only[Option.some.injEq]at h4;exact hne h4.symm};·exact g1 o2 k' bW fD cO};·have e:(r.map (·.1)).flatMap (fun i=>if i=o then go else g i)=(r.map (·.1)).flatMap g:=by{rw[List.flatMap_def,List.flatMap_def];congr 1;refine List.map_congr_left fun i hi=> ?_;have:i≠o:=fun e=>hno (e▸hi);simp[this]};simp only[List.map_cons,List.flatMap_cons,if_true,e,List.flatMap_append];have:=ur k2 g2;rw[List.perm_iff_count]at this⊢;intro z;have:=this z;simp only[List.count_append]at this⊢;omega};·cases ho
theorem aff(h:aV C E w S a β F){l:List (Id×Id)}{obs:List aa}{gone:List Id}{args:List aa}{vs:List Value}(ha:aH w (aQ E w F) β [] vs args)(ho:je S.h l l=some (obs,gone))(n6:(l.map (·.1)).Nodup)(n7:(l.map (·.2)).Nodup)(Kp:gone.Nodup)(wI:∀i∈gone,i∉l.map (·.1)):∃hl G,sN obs=some hl∧hl.map (·.1)=l.map (·.2)∧Iw C w (aQ E w F) (fun i=>(gl l i).bind β) G hl vs (args.map (fL l))∧(∀k b,b∈G k→∃i,(i∈l.map (·.1)∨i∈gone)∧b∈F i):=by obtain⟨hl,e1,e2,g,rest,g1,g2⟩:=Vu h n7 n6 ho (fun _ h=>h) n6;have hall:((l.map (·.1))++gone).Nodup:=List.nodup_append.2 ⟨n6,Kp,fun x hx y hy e=>wI y hy (e▸hx)⟩;have ct:((l.map (·.1)).flatMap g).Nodup:=by{have h1:=h.Ml hall;rw[List.flatMap_append]at h1;exact(List.nodup_append.1 (g2.nodup_iff.2 h1)).1};have hmem:∀i b,i∈l.map (·.1)→b∈g i→∃j,(j∈l.map (·.1)∨j∈gone)∧b∈F j:=fun i b hi hb=>by{have h1:b∈(l.map (·.1)).flatMap F++gone.flatMap F:=g2.mem_iff.1 (List.mem_append_left _ (List.mem_flatMap.2 ⟨i,hi,hb⟩));rcases List.mem_append.1 h1 with h1|h1;·{obtain⟨j,hj,hb⟩:=List.mem_flatMap.1 h1;exact⟨j, .inl hj,hb⟩};·obtain⟨j,hj,hb⟩:=List.mem_flatMap.1 h1;exact⟨j, .inr hj,hb⟩};let G:Id→List Nat:=fun k=>match gl l k with|some o=>g o|none=>[];have ec:∀k b,b∈G k→∃o,gl l k=some o∧o∈l.map (·.1)∧b∈g o:=fun k b hb=>by{simp only[G]at hb;cases ho:gl l k with|none=>(rw[ho]at hb;cases hb)|some o=>rw[ho]at hb;exact⟨o,rfl,List.mem_map.2 ⟨_,rA ho,rfl⟩,hb⟩};have af2:∀b,aQ E w F b→∀k,b∉G k:=fun b hb k hk=>by{obtain⟨o,_,h2,h3⟩:=ec k b hk;obtain⟨j,_,h4⟩:=hmem o b h2 h3;exact hb.2.2 j h4};refine⟨hl,G,e1,e2,{args:= ?_,obj:= ?_,out:= ?_,nd:= ?_,dK:= ?_,lt:= ?_,i0:=fun b hb=>⟨hb.2.1,af2 b hb⟩,cP:=fun g cs hg=>(h.cP g cs hg).ri rfl fun _ h=>h}, ?_⟩;·{have go:∀{as:List aa}{vs:List Value},aH w (aQ E w F) β [] vs as→aH w (aQ E w F) (fun i=>(gl l i).bind β) [] vs (as.map (fL l)):=fun{as}=>by{induction as with|nil=>(intro vs h;obtain⟨_,rfl⟩:=h.gv;exact .nil)|cons x as ih=>intro vs h;obtain⟨f1,f2,v,vs',e,rfl,h1,h2⟩:=h.cons_inv;have e':=List.append_eq_nil_iff.1 e.symm;obtain⟨rfl,rfl⟩:=e';exact R.cons (f1:=[]) (f2:=[]) (h1.nA (OX n7 x) rfl) (ih h2)};exact go ha};·{intro k rows hk;obtain⟨o,ho⟩:=ajs n7 (show k∈l.map (·.2)by rw[←e2];exact List.mem_map.2 ⟨_,hk,rfl⟩);have:=g1 o k (rA ho) rows hk;simpa only[G,ho]using this};·{intro k hk;rw[e2]at hk;have:gl l k=none:=by{cases hx:gl l k with|none=>(rfl)|some o=>exact absurd (List.mem_map.2 ⟨_,rA hx,rfl⟩) hk};simp[G,this]};·{intro k;simp only[G];cases ho:gl l k with|none=>(exact List.nodup_nil)|some o=>exact SI ct (List.mem_map.2 ⟨_,rA ho,rfl⟩)};·{intro i j b hi hj;obtain⟨o,bV,h3,h4⟩:=ec i b hi;obtain⟨o',e3,h5,h6⟩:=ec j b hj;have:=Mk ct h3 h5 h4 h6;subst this;exact Mq n6 (rA bV) (rA e3)};·{intro k b hb;obtain⟨o,_,h2,h3⟩:=ec k b hb;obtain⟨j,_,h4⟩:=hmem o b h2 h3;exact(h.lt j b h4).1};·intro k b hb;obtain⟨o,_,h2,h3⟩:=ec k b hb;obtain⟨j,h4,h5⟩:=hmem o b h2 h3;exact⟨j,h4,h5⟩
theorem R.al8{I:Nat→Prop}{m:Id→Option Id}{f:List Nat}{v:Value}{a b:aa}(h:R w I β f v b)(hr:uZ m a b):∃f2,(f2=f∨f2=[])∧R w I (fun i=>(m i).bind β) f2 v a:=by cases hr with|cell hc=>(exact⟨f, .inl rfl,h.OY hc⟩)|agg hl=>(obtain⟨vs,rfl,h⟩:=h.qL;exact⟨f, .inl rfl,aH.nA hl h⟩)|bG hl=>(obtain⟨vs,rfl,hu⟩:=h.DZ;exact⟨f, .inl rfl, .bG (aH.nA hl hu)⟩)|fn h1 h2=>(obtain⟨rfl,vs,cs,rfl,k1,k2⟩:=h.so;exact⟨[], .inl rfl, .fn (aH.nA h1 k1) (aH.nA h2 k2)⟩)|bH=>exact⟨[], .inr rfl, .bH⟩
theorem yB{l':List (Id×Id)}:∀{r:List (Id×Id)}{outs:List aa}{back:List (Id×Option Rows)},jr l' r outs=some back→back.map (·.1)=r.map (·.1)∧∀x∈back,∀bB,x.2=some bB→∃k rows,(x.1,k)∈r∧aa.cz k rows∈outs∧nB l' rows=some bB|[],[],back,h=>by{simp only[jr,Option.some.injEq]at h;subst h;exact⟨rfl,fun x hx=>by cases hx⟩}|[],a::outs,back,h=>by{simp[jr]at h}|(o,k)::r,[],back,h=>by{simp[jr]at h}|(o,k)::r,a::outs,back,h=>by cases a with|cz k' rows=>(simp only[jr]at h;split at h;·{rename_i e;subst e;simp only[Option.bind_eq_some_iff,Option.map_eq_some_iff]at h;obtain⟨bB,h1,y,h2,rfl⟩:=h;obtain⟨i1,i2⟩:=yB h2;refine⟨by simp[i1],fun x hx fD e=> ?_⟩;rcases List.mem_cons.1 hx with rfl|hx;·{simp only[Option.some.injEq]at e;subst e;exact⟨_,rows,List.mem_cons_self ..,List.mem_cons_self ..,h1⟩};·obtain⟨k2,r2,m1,m2,lS⟩:=i2 x hx fD e;exact⟨k2,r2,List.mem_cons_of_mem _ m1,List.mem_cons_of_mem _ m2,lS⟩};·cases h)|bH=>(simp only[jr,Option.map_eq_some_iff]at h;obtain⟨y,h2,rfl⟩:=h;obtain⟨i1,i2⟩:=yB h2;refine⟨by simp[i1],fun x hx fD e=> ?_⟩;rcases List.mem_cons.1 hx with rfl|hx;·{cases e};·obtain⟨k2,r2,m1,m2,lS⟩:=i2 x hx fD e;exact⟨k2,r2,List.mem_cons_of_mem _ m1,List.mem_cons_of_mem _ m2,lS⟩)|_=>simp[jr]at h
theorem Vr{L:Id→Option (Option Rows)}{l:List (Id×Id)}:∀{r:List (Id×Id)}{x},je L l r=some x→∀i∈r.map (·.1),∃rows,L i=some (some rows)|[],_,_,i,hi=>by{cases hi}|(o,k)::r,x,h,i,hi=>by simp only[je]at h;split at h;·{rename_i rows cy;simp only[Option.bind_eq_some_iff,Option.map_eq_some_iff]at h;obtain⟨_,_,_,_,y,hy,_⟩:=h;rcases List.mem_cons.1 hi with rfl|hi;·{exact⟨rows,cy⟩};·exact Vr hy i hi};·cases h
theorem al7{l:List (Id×Id)}{i:Id}(h:i∈l.map (·.1)):∃k,gx l i=some k:=by induction l with|nil=>(cases h)|cons x l ih=>obtain⟨o,k⟩:=x;simp only[gx];split;·{exact⟨k,rfl⟩};·rename_i hne;rcases List.mem_cons.1 h with e|h;·{exact absurd e.symm hne};·exact ih h
open Classical in theorem aV.afi(h:aV C E w S a β F){l:List (Id×Id)}{gone:List Id}{back news:List (Id×Option Rows)}{G G' ta:Id→List Nat}{fr:List Nat}{I':Nat→Prop}{w':World}{β':Id→Option Loc}{a':Act}{t':Nat→aa}(n6:(l.map (·.1)).Nodup)(n7:(l.map (·.2)).Nodup)(wI:∀i∈gone,i∉l.map (·.1))(live:∀i∈l.map (·.1),∃rows,S.h i=some (some rows))(afc:∀i∈gone,∃rows,S.h i=some (some rows))(sx:∀k b,b∈G k→∃i,(i∈l.map (·.1)∨i∈gone)∧b∈F i)(hk:Kept w w' fun b=>∃k,b∈G k)(jA:∀k,(G' k).Nodup)(jR:∀i j b,b∈G' i→b∈G' j→i=j)(CC:∀k b,b∈G' k→b∉fr)(KL:∀b,(b∈fr∨∃k,b∈G' k)→b<w'.heap.size∧((∃k,b∈G k)∨w.heap.size≤b))(alT:∀b,I' b→(aQ E w F b∨(∃k,b∈G k)∨w.heap.size≤b)∧b<w'.heap.size∧b∉fr∧∀k,b∉G' k)(Tn:back.map (·.1)=l.map (·.1))(j9:∀x∈back,∀bB,x.2=some bB→∃k,(x.1,k)∈l∧eu w' I' β x.1 bB (G' k))(i1:∀i lo,β i=some lo→β' i=some lo)(i2:∀i,(∀x∈news,x.1≠i)→β' i=β i∧ta i=[])(i3:∀x∈news,∃rows,x.2=some rows∧eu w' I' β' x.1 rows (ta x.1))(i4:∀i,(ta i).Nodup∧∀b∈ta i,b∈fr)(i5:∀i j b,b∈ta i→b∈ta j→i=j)(nR:∀x∈news,S.h x.1=none)(zq:∀x∈news,¬E.K x.1)(hn:a'.tmps.size=S.n)(hdf:a'.defers=a.defers)(F4:∀F',(∀b,aQ E w F b→aQ E w' F' b)→(∀b,I' b→aQ E w' F' b)→∀t,(a'.tmps.getD t undef=a.tmps.getD t undef∧t' t=S.t t)∨R w' (aQ E w' F') β' [] (a'.tmps.getD t undef) (t' t)):bO C E ⟨S.n,t',bD S.h (news++(back++gone.map fun i=>(i,none)))⟩ a' w':=by let hp:=bD S.h (news++(back++gone.map fun i=>(i,none)));let eL:Id→List Nat:=fun i=>if(∃rows,hp i=some (some rows))then(if i∈l.map (·.1)then(match gx l i with|some k=>G' k|none=>[])else F i++ta i)else[];have JX:∀x∈news,x.1∉l.map (·.1):=fun x hx hm=>by{obtain⟨rows,e⟩:=live _ hm;rw[nR x hx]at e;cases e};have TO:∀x∈news,x.1∉gone:=fun x hx hm=>by{obtain⟨rows,e⟩:=afc _ hm;rw[nR x hx]at e;cases e};have ng:∀x∈back,x.1∈l.map (·.1):=fun x hx=>by{rw[←Tn];exact List.mem_map.2 ⟨x,hx,rfl⟩};have qZ:∀i,(∃x∈news,x.1=i∧hp i=some x.2)∨((∀x∈news,x.1≠i)∧∃x∈back,x.1=i∧hp i=some x.2)∨((∀x∈news,x.1≠i)∧i∉l.map (·.1)∧i∈gone∧hp i=some none)∨((∀x∈news,x.1≠i)∧i∉l.map (·.1)∧i∉gone∧hp i=S.h i):=fun i=>by{rcases gy S.h (news++(back++gone.map fun i=>(i,none))) i with⟨x,hx,e1,e2⟩|⟨h1,h2⟩;·{by_cases vz:∃y∈news,y.1=i;·{obtain⟨y,hy,Ji⟩:=vz;rcases List.mem_append.1 hx with hx|hx;·{exact .inl ⟨x,hx,e1,e2⟩};·exfalso;rcases List.mem_append.1 hx with hx|hx;·{exact JX y hy (by rw[Ji,←e1];exact ng x hx)};·obtain⟨j,hj,rfl⟩:=List.mem_map.1 hx;exact TO y hy (by rw[Ji,←e1];exact hj)};·have Nx:∀x∈news,x.1≠i:=fun y hy e=>vz ⟨y,hy,e⟩;rcases List.mem_append.1 hx with hx|hx;·{exact absurd e1 (Nx x hx)};·rcases List.mem_append.1 hx with hx|hx;·{exact .inr (.inl ⟨Nx,x,hx,e1,e2⟩)};·obtain⟨j,hj,rfl⟩:=List.mem_map.1 hx;have adP:j=i:=e1;subst adP;exact .inr (.inr (.inl ⟨Nx,wI j hj,hj,e2⟩))};·refine .inr (.inr (.inr ⟨fun x hx=>h1 x (List.mem_append_left _ hx),fun hm=> ?_,fun hm=> ?_,h2⟩));·{rw[←Tn]at hm;obtain⟨x,hx,e⟩:=List.mem_map.1 hm;exact h1 x (List.mem_append_right _ (List.mem_append_left _ hx)) e};·exact h1 (i,none) (List.mem_append_right _ (List.mem_append_right _ (List.mem_map.2 ⟨i,hm,rfl⟩))) rfl};have Is:∀i b,b∈eL i→(∃k,b∈G' k∧gx l i=some k∧i∈l.map (·.1))∨(i∉l.map (·.1)∧i∉gone∧b∈F i)∨(i∉l.map (·.1)∧(∃x∈news,x.1=i)∧b∈ta i):=fun i b hb=>by{simp only[eL]at hb;split at hb;·{rename_i jt;split at hb;·{rename_i w5;cases hr:gx l i with|none=>(rw[hr]at hb;cases hb)|some k=>rw[hr]at hb;exact .inl ⟨k,hb,rfl,w5⟩};·rename_i w5;rcases List.mem_append.1 hb with hb|hb;·{refine .inr (.inl ⟨w5,fun hg=> ?_,hb⟩);obtain⟨rows,jt⟩:=jt;rcases qZ i with⟨x,hx,e,_⟩|⟨_,x,hx,e,_⟩|⟨_,_,_,e⟩|⟨_,_,e,_⟩;·{exact TO x hx (e▸hg)};·{exact w5 (e▸ng x hx)};·{rw[e]at jt;cases jt};·exact e hg};·refine .inr (.inr ⟨w5, ?_,hb⟩);by_cases vz:∃x∈news,x.1=i;·{exact vz};·rw[(i2 i fun x hx e=>vz ⟨x,hx,e⟩).2]at hb;cases hb};·cases hb};have FA:∀b,I' b→aQ E w' eL b:=fun b hb=>by{obtain⟨k1,k2,c8,eV⟩:=alT b hb;refine⟨?_,k2,fun i hm=> ?_⟩;·{rcases k1 with k1|⟨k,k1⟩|k1;·{exact k1.1};·{obtain⟨i,_,hi⟩:=sx k b k1;exact(h.lt i b hi).2.elim (fun h=> .inr (.inl h)) (fun h=> .inr (.inr h))};·exact .inr (.inr (Nat.le_trans h.kept.size k1))};·rcases Is i b hm with⟨k,hg,_⟩|⟨n1,n2,hf⟩|⟨_,_,hg⟩;·{exact eV k hg};·{rcases k1 with k1|⟨k,k1⟩|k1;·{exact k1.2.2 i hf};·{obtain⟨j,hj,hf'⟩:=sx k b k1;have:=h.dK i j b hf hf';subst this;exact hj.elim n1 n2};·have:=(h.lt i b hf).1;omega};·exact c8 ((i4 i).2 b hg)};refine⟨β',eL, ?_⟩;have ahv:∀i,¬(i∈l.map (·.1)∨i∈gone∨∃x∈news,x.1=i)→eL i=F i∧hp i=S.h i:=fun i hi=>by{have n1:i∉l.map (·.1):=fun e=>hi (.inl e);have n2:i∉gone:=fun e=>hi (.inr (.inl e));have lV:∀x∈news,x.1≠i:=fun x hx e=>hi (.inr (.inr ⟨x,hx,e⟩));have e:hp i=S.h i:=by{rcases qZ i with⟨x,hx,e,_⟩|⟨_,x,hx,e,_⟩|⟨_,_,e,_⟩|⟨_,_,_,e⟩;·{exact absurd e (lV x hx)};·{exact absurd (e▸ng x hx) n1};·{exact absurd e n2};·exact e};refine⟨?_,e⟩;simp only[eL];split;·{rw[(i2 i lV).2,List.append_nil]};·rename_i jt;exact(h.dead i fun rows e'=>jt ⟨rows,by rw[e];exact e'⟩).symm};refine h.DN (fun i=>i∈l.map (·.1)∨i∈gone∨∃x∈news,x.1=i) hn hk.size hk.os hk.out hk.e7 ?_ i1 ?_ ahv ?_ ?_ ?_ ?_ ?_ ?_ (hdf:=hdf) (fY:=hk.qx) (hok:=kI.of rfl fun x hx hne=> ?_);·{intro b hb hno;refine hk.dh b hb fun⟨k,hm⟩=> ?_;obtain⟨i,hi,hf⟩:=sx k b hm;exact hno i (hi.elim .inl fun h=> .inr (.inl h)) hf};·{intro i b hb;have Xq:∀{b:Nat},b<w'.heap.size∧((∃k,b∈G k)∨w.heap.size≤b)→(∃i,b∈F i)∨(w.heap.size≤b∧b<w'.heap.size):=fun⟨h1,h2⟩=>by{rcases h2 with⟨k,h2⟩|h2;·{obtain⟨i,_,hi⟩:=sx k _ h2;exact .inl ⟨i,hi⟩};·exact .inr ⟨h2,h1⟩};rcases Is i b hb with⟨k,hg,_⟩|⟨_,_,hf⟩|⟨_,_,hg⟩;·{exact Xq (KL b (.inr ⟨k,hg⟩))};·{exact .inl ⟨i,hf⟩};·exact Xq (KL b (.inl ((i4 i).2 b hg)))};·{intro hI i _ rows hr;have hr':hp i=some (some rows):=hr;have jt:∃rows,hp i=some (some rows):=⟨rows,hr'⟩;rcases qZ i with⟨x,hx,e,e2⟩|⟨vz,x,hx,e,e2⟩|⟨_,_,_,e⟩|⟨lV,n1,n2,e⟩;·{subst e;obtain⟨fD,bV,h3⟩:=i3 x hx;rw[e2,bV]at hr';simp only[Option.some.injEq]at hr';subst hr';have:eL x.1=ta x.1:=by{simp only[eL];rw[if_pos jt,if_neg (JX x hx),h.dead x.1 (by rw[nR x hx];simp),List.nil_append]};rw[this];exact h3.mono FA (fun _ _=>rfl) (fun _ _ h=>h)};·{subst e;rw[e2]at hr';simp only[Option.some.injEq]at hr';obtain⟨k,gS,tX⟩:=j9 x hx rows hr';have:eL x.1=G' k:=by{simp only[eL];rw[if_pos jt,if_pos (ng x hx)];obtain⟨k',hk'⟩:=al7 (ng x hx);rw[hk',Mq n6 gS (Dx hk')]};rw[this];exact tX.mono FA (fun _ _=>rfl) i1};·{rw[e]at hr';cases hr'};·exfalso;rename_i gZ;rcases gZ with gZ|gZ|⟨x,hx,gZ⟩;·{exact n1 gZ};·{exact n2 gZ};·exact lV x hx gZ};·{intro i _ hno;simp only[eL];rw[if_neg];rintro⟨rows,e⟩;exact hno rows e};·{intro i _;simp only[eL];split;·{split;·{cases gx l i with|none=>(exact List.nodup_nil)|some k=>exact jA k};·by_cases vz:∃x∈news,x.1=i;·{obtain⟨x,hx,rfl⟩:=vz;rw[h.dead x.1 (by rw[nR x hx];simp),List.nil_append];exact(i4 _).1};·rw[(i2 i fun x hx e=>vz ⟨x,hx,e⟩).2,List.append_nil];exact h.nd i};·exact List.nodup_nil};·{intro i j b _ hi hj;have Tk:∀{i j k:Id}{b:Nat},b∈G' k→j∉l.map (·.1)→j∉gone→b∈F j→False:=fun{i j k b}hg n1 n2 hf=>by{rcases(KL b (.inr ⟨k,hg⟩)).2 with⟨k2,hk2⟩|hge;·{obtain⟨q,hq,M6⟩:=sx k2 b hk2;have:=h.dK j q b hf M6;subst this;exact hq.elim n1 n2};·have:=(h.lt j b hf).1;omega};have Ts:∀{j:Id}{b:Nat},b∈fr→j∉l.map (·.1)→j∉gone→b∈F j→False:=fun{j b}hg n1 n2 hf=>by{rcases(KL b (.inl hg)).2 with⟨k2,hk2⟩|hge;·{obtain⟨q,hq,M6⟩:=sx k2 b hk2;have:=h.dK j q b hf M6;subst this;exact hq.elim n1 n2};·have:=(h.lt j b hf).1;omega};rcases Is i b hi with⟨k,hg,NC,_⟩|⟨n1,n2,hf⟩|⟨_,_,hg⟩<;>rcases Is j b hj with⟨k',hg',ahO,_⟩|⟨UZ,U0,hf'⟩|⟨_,_,hg'⟩;·{have:=jR k k' b hg hg';subst this;have e1:=qi n7 (Dx NC);have e2:=qi n7 (Dx ahO);rw[e1]at e2;exact Option.some.inj e2};·{exact(Tk (i:=i) hg UZ U0 hf').elim};·{exact absurd ((i4 j).2 b hg') (CC k b hg)};·{exact(Tk (i:=j) hg' n1 n2 hf).elim};·{exact h.dK i j b hf hf'};·{exact(Ts ((i4 j).2 b hg') n1 n2 hf).elim};·{exact absurd ((i4 i).2 b hg) (CC k' b hg')};·{exact(Ts ((i4 i).2 b hg) UZ U0 hf').elim};·exact i5 i j b hg hg'};·{intro i hi;have hi':hp i=none:=hi;rcases qZ i with⟨x,hx,_,e⟩|⟨_,x,hx,_,e⟩|⟨_,_,_,e⟩|⟨lV,_,_,e⟩;·{rw[e]at hi';cases hi'};·{rw[e]at hi';cases hi'};·{rw[e]at hi';cases hi'};·rw[(i2 i lV).1];exact h.dom i (by rw[←e];exact hi')};·{intro hI;exact F4 eL hI FA};·rcases List.mem_append.1 hx with hx|hx;·{exact .inl (zq x hx)};·rcases List.mem_append.1 hx with hx|hx;·{exact .inr (live _ (ng x hx))};·obtain⟨i,_,rfl⟩:=List.mem_map.1 hx;exact absurd rfl hne
theorem Ej.val{w':World}{I':Nat→Prop}{fr:List Nat}{e:Ending}{r:aa}(h:Ej w' I' β fr e r)(hr:Ca r=false):∃v,e= .returned v∧R w' I' β fr v r:=by cases r<;>first|exact h|cases hr
theorem acR{L:Id→Option (Option Rows)}:∀(n:Nat){a:aa}{x},pk L n a=some x→∀i∈x.2,∃rows,L i=some (some rows):=by
 intro n
 induction n with
 |zero=>intro a x h;simp[pk]at h
 |succ n ih=>
  have Mn:∀{cs:List aa}{x},ew (pk L n) cs=some x→∀i∈x.2,∃rows,L i=some (some rows):=fun{cs}=>by
   induction cs with
   |nil=>intro x h i hi;simp[ew]at h;subst h;cases hi
   |cons c cs zF=>
    intro x h i hi
    simp only[ew,Option.bind_eq_some_iff,Option.map_eq_some_iff]at h
    obtain⟨y,hy,z,hz,rfl⟩:=h
    rcases List.mem_append.1 hi with hi|hi
    ·exact ih hy i hi
    ·exact zF hz i hi
  have OL:∀{cs:List aa}{x},iF (pk L n) cs=some x→∀i∈x.2,∃rows,L i=some (some rows):=fun h i hi=>by
   unfold iF at h
   split at h
   ·simp only[Option.some.injEq]at h;subst h;cases hi
   ·exact Mn h i hi
  have foldr:∀{cs:Rows}{x},eB (iF (pk L n)) cs=some x→∀i∈x.2,∃rows,L i=some (some rows):=fun{cs}=>by
   induction cs with
   |nil=>intro x h i hi;simp[eB]at h;subst h;cases hi
   |cons c cs zF=>
    intro x h i hi
    simp only[eB,Option.bind_eq_some_iff,Option.map_eq_some_iff]at h
    obtain⟨y,hy,z,hz,rfl⟩:=h
    rcases List.mem_append.1 hi with hi|hi
    ·exact OL hy i hi
    ·exact zF hz i hi
  have aly:∀{cs:Rows}{x},mP (pk L n) cs=some x→∀i∈x.2,∃rows,L i=some (some rows):=fun h i hi=>by
   unfold mP at h
   split at h
   ·simp only[Option.some.injEq]at h;subst h;cases hi
   ·exact foldr h i hi
  intro a x h i hi
  unfold pk at h
  repeat'(first
   |(simp only[reduceCtorEq]at h;done)
   |(simp only[Option.some.injEq]at h;subst h;first|(simp only[List.mem_singleton]at hi;subst hi;exact⟨_,by assumption⟩)|(cases hi;done))
   |(simp only[Option.map_eq_some_iff]at h;obtain⟨y,hy,rfl⟩:=h;first|exact OL hy i hi|(rcases List.mem_cons.1 hi with rfl|hi;exact⟨_,by assumption⟩;first|exact aly hy i hi|exact OL hy i hi))
   |split at h)
theorem Vt{L:Id→Option (Option Rows)}{l:List (Id×Id)}:∀{r:List (Id×Id)}{x},je L l r=some x→∀i∈x.2,∃rows,L i=some (some rows)
 |[],x,h,i,hi=>by simp only[je,Option.some.injEq]at h;subst h;cases hi
 |(o,k)::r,x,h,i,hi=>by
  simp only[je]at h
  split at h
  ·simp only[Option.bind_eq_some_iff,Option.map_eq_some_iff]at h
   obtain⟨y,hy,bB,_,z,hz,rfl⟩:=h
   have ac0:∀{a:aa}{x},hY L (vG l) a=some x→∀i∈x.2,∃rows,L i=some (some rows):=fun h i hi=>by
    unfold hY at h
    repeat'(first
     |(simp only[reduceCtorEq]at h;done)
     |(simp only[Option.some.injEq]at h;subst h;cases hi)
     |exact acR _ h i hi
     |split at h)
   have Mn:∀{cs:List aa}{x},ew (hY L (vG l)) cs=some x→∀i∈x.2,∃rows,L i=some (some rows):=fun{cs}=>by
    induction cs with
    |nil=>intro x h i hi;simp[ew]at h;subst h;cases hi
    |cons c cs zF=>
     intro x h i hi
     simp only[ew,Option.bind_eq_some_iff,Option.map_eq_some_iff]at h
     obtain⟨y,hy,z,hz,rfl⟩:=h
     rcases List.mem_append.1 hi with hi|hi
     ·exact ac0 hy i hi
     ·exact zF hz i hi
   have ac7:∀{cs:List aa}{x},mg L (vG l) cs=some x→∀i∈x.2,∃rows,L i=some (some rows):=fun h i hi=>by
    unfold mg at h
    split at h
    ·simp only[Option.some.injEq]at h;subst h;cases hi
    ·exact Mn h i hi
   have foldr:∀{cs:Rows}{x},eB (mg L (vG l)) cs=some x→∀i∈x.2,∃rows,L i=some (some rows):=fun{cs}=>by
    induction cs with
    |nil=>intro x h i hi;simp[eB]at h;subst h;cases hi
    |cons c cs zF=>
     intro x h i hi
     simp only[eB,Option.bind_eq_some_iff,Option.map_eq_some_iff]at h
     obtain⟨y,hy,z,hz,rfl⟩:=h
     rcases List.mem_append.1 hi with hi|hi
     ·exact ac7 hy i hi
     ·exact zF hz i hi
   rcases List.mem_append.1 hi with hi|hi
   ·unfold oE at hy
    split at hy
    ·simp only[Option.some.injEq]at hy;subst hy;cases hi
    ·exact foldr hy i hi
   ·exact Vt hz i hi
  ·cases h
theorem Jz{call:FuncId→List aa→Option (aa×List aa)}{L:Id→Option (Option Rows)}{k:FuncId}{args:List aa}{x:A4}(h:tF call L k args=some x):∃obs outs,je L x.l x.l=some (obs,x.gone)∧call k (.bG obs::args.map (fL x.l))=some (x.r,outs)∧jr (x.l.map fun x=>(x.2,x.1)) x.l outs=some x.back∧(x.l.map (·.1)).Nodup∧(x.l.map (·.2)).Nodup∧(∀y∈x.l,ki y.2=true)∧x.gone.Nodup∧(∀i∈x.gone,i∉x.l.map (·.1)):=by unfold tF Fu at h;split at h;·{rename_i obs gone ho;split at h;·{rename_i hc;simp only[Bool.and_eq_true,List.all_eq_true]at hc;obtain⟨⟨⟨⟨c1,c2⟩,c3⟩,iC⟩,EY⟩:=hc;split at h;·{rename_i r outs cc;obtain⟨back,hb,rfl⟩:=Option.map_eq_some_iff.1 h;refine⟨obs,outs,ho,cc,hb,Cq c1,Cq c2,c3,Cq iC,fun i hi hm=> ?_⟩;have:=List.all_eq_true.1 EY i hi;simp only[Bool.not_eq_true',List.contains_eq_mem,decide_eq_false_iff_not]at this;exact this hm};·cases h};·cases h};·cases h
theorem WV{l:List (Id×Id)}:(l.map fun x=>(x.2,x.1)).map (·.2)=l.map (·.1):=by simp[Function.comp_def]
def Lg(E:Env)(w:World)(β:Id→Option Loc)(F:Id→List Nat)(x:A4)(e:Ending)(w':World):Prop:=∃(G G':Id→List Nat)(fr:List Nat)(I':Nat→Prop),(∀k b,b∈G k→∃i,(i∈x.l.map (·.1)∨i∈x.gone)∧b∈F i)∧(Kept w w' fun b=>∃k,b∈G k)∧Ej w' I' (fun i=>(gl x.l i).bind β) fr e x.r∧(∀k,(G' k).Nodup)∧(∀i j b,b∈G' i→b∈G' j→i=j)∧fr.Nodup∧(∀k b,b∈G' k→b∉fr)∧(∀b,(b∈fr∨∃k,b∈G' k)→b<w'.heap.size∧((∃k,b∈G k)∨w.heap.size≤b))∧(∀b,I' b→(aQ E w F b∨(∃k,b∈G k)∨w.heap.size≤b)∧b<w'.heap.size∧b∉fr∧∀k,b∉G' k)∧(∀y∈x.back,∀bB,y.2=some bB→∃k,(y.1,k)∈x.l∧eu w' I' β y.1 bB (G' k))
theorem ako(h:aV C E w S a β F){k:FuncId}{call:FuncId→List aa→Option (aa×List aa)}(eY:∀k as r,call k as=some r→Sound C k as r)(M8:C.dy k=true){args:List aa}{vs:List Value}(ha:aH w (aQ E w F) β [] vs args){x:A4}(hx:tF call S.h k args=some x):PZ C.P k ⟨vs⟩ w (Lg E w β F x):=by obtain⟨obs,outs,ho,cc,hb,n6,n7,hK,Kp,wI⟩:=Jz hx;obtain⟨hl,G,e1,e2,hpre,sx⟩:=aff h ha ho n6 n7 Kp wI;have hs:=(eY _ _ _ cc).2 M8 _ _ hl rfl e1 (by rw[e2];exact n7) (fun y hy=>by have:y.1∈x.l.map (·.2):=by{rw[←e2];exact List.mem_map.2 ⟨y,hy,rfl⟩};obtain⟨z,hz,e⟩:=List.mem_map.1 this;rw[←e];exact hK z hz) w _ _ G vs hpre;have H9:∀e w',Ls w (aQ E w F) (fun i=>(gl x.l i).bind β) G (x.r,outs) e w'→Lg E w β F x e w':=fun e w' hr=>by{obtain⟨I',G',fr,q1,bW,_,iq,jz,OT,KJ,KK,Aa⟩:=hr.ex;refine⟨G,G',fr,I',sx,hr.kept,q1,iq,jz,OT,KJ,KK,Aa,fun y hy bB e=> ?_⟩;obtain⟨k',rows,m1,m2,lS⟩:=(yB hb).2 y hy bB e;have Ko:((x.l.map fun x=>(x.2,x.1)).map (·.2)).Nodup:=by{rw[WV];exact n6};have hm:gl (x.l.map fun x=>(x.2,x.1)) y.1=some k':=qi Ko (List.mem_map.2 ⟨_,m1,rfl⟩);have:=(bW k' rows m2).nA hm (Wk Ko lS);refine⟨k',m1,this.mono (fun _ h=>h) (fun _ _=>rfl) fun i lo hlo=> ?_⟩;simp only[Option.bind_eq_some_iff]at hlo;obtain⟨j,hj,i',hi',hlo⟩:=hlo;obtain⟨z,hz,e⟩:=List.mem_map.1 (rA hj);simp only[Prod.mk.injEq]at e;have:=qi n7 hz;rw[e.1,hi']at this;simp only[Option.some.injEq]at this;rw[this,e.2]at hlo;exact hlo};rcases hs with⟨fn,c,k1,k2,c8⟩|⟨v,w',k1,k2⟩;·{exact .inl ⟨fn,c,k1,k2,c8.mono H9⟩};·exact .inr ⟨v,w',k1,H9 _ _ k2⟩
theorem am9{l:List (Id×Id)}(n6:(l.map (·.1)).Nodup)(n7:(l.map (·.2)).Nodup){i:Id}{lo:Loc}(h:((gl (l.map fun x=>(x.2,x.1)) i).bind fun i=>(gl l i).bind β)=some lo):β i=some lo:=by simp only[Option.bind_eq_some_iff]at h;obtain⟨j,hj,i',hi',hlo⟩:=h;obtain⟨z,hz,e⟩:=List.mem_map.1 (rA hj);simp only[Prod.mk.injEq]at e;have:=qi n7 hz;rw[e.1,hi']at this;simp only[Option.some.injEq]at this;rw[this,e.2]at hlo;exact hlo
theorem aea{P:Program}{o:Oper}{c:Call}{cS:Operand}(ho:o.op= .call c)(hc:c.callee= .value cS){k:FuncId}{iz iY:List Value}(nS:a.eval cS= .func (.func k) ⟨iz⟩ ⟨iY⟩):(execOp a.eval o).run P w=(callFunc k ⟨iz++c.args.toList.map a.eval++iY⟩).run P w:=by have e2:((⟨iz⟩:Array Value)++c.args.map a.eval++⟨iY⟩:Array Value)=⟨iz++c.args.toList.map a.eval++iY⟩:=by{apply Array.ext';simp};have bV:resolve a.eval c o.type=(pure {target:= .fn (.func k) ⟨iY⟩,args:=⟨iz⟩++c.args.map a.eval}:Sem Deferred):=by{simp[resolve,hc,nS,Deferred.ofValue]};have e3:execOp a.eval o=(do let d←resolve a.eval c o.type;invoke d.target d.args:Sem Next):=by{simp[execOp,ho]};rw[e3,bV,Sem.run_bind,Sem.run_pure,Result.andThen_ok];simp only[invoke,e2]
theorem afh{x:aa}{y:FuncId×List aa×List aa}(h:oK C x=some y):x= .fn (.func y.1) y.2.1 y.2.2∧C.dy y.1=true:=by unfold oK at h;split at h;·{split at h;·{rename_i hg;simp only[Option.some.injEq]at h;subst h;exact⟨rfl,hg⟩};·cases h};·cases h
theorem amN{L:Id→Option (Option Rows)}{b:Id×Option Rows}(h:Aw L b=true):L b.1=some b.2:=by obtain⟨i,v⟩:=b;unfold Aw at h;split at h;·{rename_i h1 h2;simp only[Bool.and_eq_true,beq_iff_eq]at h;obtain⟨⟨rfl,rfl⟩,rfl⟩:=h;simp only at h1 h2;rw[h1,h2]};·cases h
theorem Xl{h0 h:Id→Option (Option Rows)}:∀{back:List (Id×Option Rows)},(∀b∈back,h b.1=h0 b.1)→(back.map (·.1)).Nodup→bD h (kK h0 back)=bD h back|[],_,_=>rfl|(i,v)::back,ha,nd=>by have ih:=Xl (h0:=h0) (h:=h) (back:=back) (fun b hb=>ha b (List.mem_cons_of_mem _ hb)) (List.nodup_cons.1 nd).2;unfold kK at ih⊢;simp only[List.filter_cons];split;·{simp only[bD,ih]};·rename_i hs;rw[ih];have hs:Aw h0 (i,v)=true:=by{simpa using hs};funext j;simp only[bD,aC];split;·{rename_i e;subst e;rcases gy h back j with⟨x,hx,e1,_⟩|⟨_,e2⟩;·{exact absurd (List.mem_map.2 ⟨x,hx,e1⟩) (List.nodup_cons.1 nd).1};·rw[e2,ha (j,v) (List.mem_cons_self ..)];exact amN hs};·rfl
theorem akf(bA:rX C.P)(h:aV C E w S a β F){o:Oper}{c:Call}{cS:Operand}(ho:o.op= .call c)(hc:c.callee= .value cS){f:FuncId}{call:FuncId→List aa→Option (aa×List aa)}(eY:∀k as r,call k as=some r→Sound C k as r){y:FuncId×List aa×List aa}(ey:oK C (un true (S.get C cS))=some y){e:bE}(he:r8 C f call S o y.1 (y.2.1++(c.args.toList.map fun x=>un true (S.get C x))++y.2.2)=some e)(hd:cQ S e)(hn:∀a' w',bO C E (S.app e) a' w'→next a' w'):o.wp C.P a w next Q:=by obtain⟨hfn,M8⟩:=afh ey;have hfo:=h.eD cS;rw[hfn]at hfo;obtain⟨_,iz,iY,nS,h1,h2⟩:=hfo.so;have hargs:=aH.ofMap h c.args.toList;have hall:aH w (aQ E w F) β [] (iz++c.args.toList.map a.eval++iY) (y.2.1++(c.args.toList.map fun x=>un true (S.get C x))++y.2.2):=(h1.append hargs).append h2;unfold r8 at he;simp only[Option.bind_eq_some_iff]at he;obtain⟨x,hx,he⟩:=he;split at he;·{cases he};·rename_i hnp;have hnp:Ca x.r=false:=by{simpa using hnp};generalize vB:(if fc C f o.dst=true then(if flat x.r=true then eC x.r else .bH)else x.r)=rr at he;split at he;·{rename_i hf;simp only[Option.some.injEq]at he;subst he;have qa:=ako h eY M8 hall hx;obtain⟨obs,outs,TR,_,hb,n6,n7,_,Kp,wI⟩:=Jz hx;have hb0:=hb;have Ko:((x.l.map fun x=>(x.2,x.1)).map (·.2)).Nodup:=by{rw[WV];exact n6};have H9:∀e' w',Lg E w β F x e' w'→∃v,e'= .returned v∧next (a.put o.dst v) w':=fun e' w'⟨G,G',fr,I',q1,bW,cO,iq,jz,OT,KJ,KK,Aa,alP⟩=>by{obtain⟨v,rfl,hv⟩:=cO.val hnp;refine⟨v,rfl,hn _ _ ?_⟩;obtain⟨qJ,BG,p1,p2,p3,jP⟩:∃(qJ:Nat→Prop)(BG:List Nat),R w' qJ (fun i=>(gl x.l i).bind β) BG v rr∧(BG.Nodup∧∀b∈BG,b∈fr)∧(∀b,I' b→qJ b)∧(∀b,qJ b→(aQ E w F b∨(∃k,b∈G k)∨w.heap.size≤b)∧b<w'.heap.size∧b∉BG∧∀k,b∉G' k):=by{by_cases hz:fc C f o.dst=true;·{rw[if_pos hz]at vB;by_cases hfl:flat x.r=true;·{rw[if_pos hfl]at vB;subst vB;refine⟨fun b=>I' b∨b∈fr,[],((hv.lN hfl cv).eC (fun _ h=> .inl h) (fun _ h=> .inr h)).up,⟨List.nodup_nil,fun b hb=>by cases hb⟩,fun _ h=> .inl h,fun b hb=> ?_⟩;rcases hb with hb|hb;·{obtain⟨k1,k2,_,eV⟩:=Aa b hb;exact⟨k1,k2,by simp,eV⟩};·obtain⟨k1,k2⟩:=KK b (.inl hb);exact⟨k2.elim (fun h=> .inr (.inl h)) (fun h=> .inr (.inr h)),k1,by simp,fun k hk=>KJ k b hk hb⟩};·rw[if_neg hfl]at vB;subst vB;exact⟨I',[], .bH,⟨List.nodup_nil,fun b hb=>by cases hb⟩,fun _ h=>h,fun b hb=>⟨(Aa b hb).1,(Aa b hb).2.1,by simp,(Aa b hb).2.2.2⟩⟩};·rw[if_neg hz]at vB;subst vB;exact⟨I',fr,hv,⟨OT,fun _ h=>h⟩,fun _ h=>h,Aa⟩};obtain⟨f2,wZ,nY⟩:=p1.al8 (OX Ko rr);have JQ:f2.Nodup∧∀b∈f2,b∈BG:=by{rcases wZ with rfl|rfl;·{exact⟨p2.1,fun _ h=>h⟩};·exact⟨List.nodup_nil,fun b hb=>by cases hb⟩};have ahL:R w' qJ β f2 v (fL (x.l.map fun x=>(x.2,x.1)) rr):=nY.mono (fun _ h=>h) (fun _ _=>rfl) fun i lo hlo=>am9 n6 n7 hlo;have nR:=Jx hf;obtain⟨β',ta,a1,a2,a3,a4,a5,a6,a7⟩:=Gj (js o) ahL JQ.1 (fun z hz=>h.dom _ (nR z hz));have zq:=h.GG hd;have:=h.afi (a':=a.put o.dst v) (t':=dF S.t (put o (imp (js o) (fL (x.l.map fun x=>(x.2,x.1)) rr)).1 (x.l.map (·.1)) []).ek) n6 n7 wI (Vr TR) (Vt TR) q1 bW iq jz (fun k b hb hm=>KJ k b hb (p2.2 b (JQ.2 b hm))) (fun b hb=>KK b (hb.imp (fun hb=>p2.2 b (JQ.2 b hb)) id)) (fun b hb=>⟨(jP b hb).1,(jP b hb).2.1,fun hm=>(jP b hb).2.2.1 (JQ.2 b hm),(jP b hb).2.2.2⟩) (yB hb).1 (fun z hz bB e=>(alP z hz bB e).imp fun k hk=>⟨hk.1,hk.2.mono p3 (fun _ _=>rfl) (fun _ _ h=>h)⟩) a1 a2 a4 a5 a6 nR (fun z hz=>by obtain⟨q,e⟩:=a7 z hz;rw[e];exact zq q) (by rw[vQ];exact h.n) (put_defers ..) (fun F' hI y4 t=> ?_);·{have e:bD S.h ((imp (js o) (fL (x.l.map fun x=>(x.2,x.1)) rr)).2++(kK S.h x.back++x.gone.map fun i=>(i,none)))=bD S.h ((imp (js o) (fL (x.l.map fun x=>(x.2,x.1)) rr)).2++(x.back++x.gone.map fun i=>(i,none))):=by{have g1:∀b∈x.back,bD S.h (x.gone.map fun i=>(i,none)) b.1=S.h b.1:=fun b hb=>by{have hb':b.1∈x.l.map (·.1):=by{rw[←(yB hb0).1];exact List.mem_map.2 ⟨b,hb,rfl⟩};rcases gy S.h (x.gone.map fun i=>(i,none)) b.1 with⟨y,hy,e1,_⟩|⟨_,e2⟩;·{obtain⟨j,hj,rfl⟩:=List.mem_map.1 hy;have e1:j=b.1:=e1;exact absurd hb' (e1▸wI j hj)};·exact e2};have g2:(x.back.map (·.1)).Nodup:=by{rw[(yB hb0).1];exact n6};rw[AV,AV,AV,AV,Xl g1 g2]};have e2:S.app (put o (imp (js o) (fL (x.l.map fun x=>(x.2,x.1)) rr)).1 (x.l.map (·.1)) ((imp (js o) (fL (x.l.map fun x=>(x.2,x.1)) rr)).2++(kK S.h x.back++x.gone.map fun i=>(i,none))))=⟨S.n,dF S.t (put o (imp (js o) (fL (x.l.map fun x=>(x.2,x.1)) rr)).1 (x.l.map (·.1)) []).ek,bD S.h ((imp (js o) (fL (x.l.map fun x=>(x.2,x.1)) rr)).2++(x.back++x.gone.map fun i=>(i,none)))⟩:=by{rw[←e];rfl};rw[e2];exact this};·cases bT:o.dst with|none=>(refine .inl ⟨by simp[Act.put], ?_⟩;simp[put,bT,dF])|some d=>have hd':d<a.tmps.size:=by{rw[h.n];simpa[cQ,put,bT]using hd};rw[vP a d t v hd'];by_cases ht:t=d;·{subst ht;rw[if_pos rfl];refine .inr ?_;have:=a3.mono (w':=w') y4 (fun _ _=>rfl) (fun _ _ h=>h);simpa[put,bT,dF,aC]using this};·rw[if_neg ht];refine .inl ⟨rfl, ?_⟩;simp[put,bT,dF,aC,ht]};unfold Oper.wp;rw[aea ho hc nS];rcases qa with⟨fn,code,k1,k2,c8⟩|⟨v,w',k1,k2⟩;·{rw[Au bA k1 k2];simp only[Oper.upon];refine c8.mono fun e' w' hh=> ?_;obtain⟨v,rfl,hr⟩:=H9 e' w' hh;exact hr};·rw[k1];obtain⟨v',e,hr⟩:=H9 _ w' k2;simp only[Ending.returned.injEq]at e;subst e;exact hr};·cases he
end
end Go.Ab
