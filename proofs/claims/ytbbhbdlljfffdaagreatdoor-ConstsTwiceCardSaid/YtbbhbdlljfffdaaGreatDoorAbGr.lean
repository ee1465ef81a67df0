import Derived.Test.YtbbhbdlljfffdaaGreatDoorAbTake
import Derived.MapKept
import Derived.Test.YtbbhbdlljfffdaaGreatDoorAbWeak
open Array renaming toList_modify→H3
open Bool renaming and_eq_true→Hk
open List renaming mem_cons_of_mem→Hc,mem_cons_self→Hd,map_cons→Hm,mem_append_left→Hn,nodup_nil→H0,mem_append_right→H1,mem_singleton→H4,flatMap_cons→H5
open Option renaming bind_eq_some_iff→GT,map_eq_some_iff→Hb,isNone_iff_eq_none→H2
open Option.some renaming injEq→GE
open Prod.mk renaming injEq→Ha
set_option linter.all false
namespace Go.Ab
open Go
def jd(e:MapEntry):List U:=[.val e.key, .val e.val]
section
variable{P:Program}{w:World}{kt et t:TypeId}{kind:TypeDesc}{kv kS z:Value}
theorem run_checkKey{b:Bool}(hk:P.underlying kt=some kind)(hs:GQ kind=true):(Instr.checkKey b 10000 kt kv).run P w= .ok () w:=by show(Instr.checkKey b (9999+1) kt kv).run P w=_;unfold Instr.checkKey;rw[Sem.run_bind,dK (C:={P:=P,bM:=fun _=>none,ext:=fun _=>none,bR:=fun _=>[],dB:=fun _=>[],live:=fun _ _=>[],jb:=fun _ _=>[]}) hk,Result.andThen_ok];cases kind<;>first|(cases hs;done)|rfl
theorem JA:∀{es:List MapEntry}{r:Option Value}(i:Nat),nX kind kv (es.map jd)=some r→∃j,Instr.findNow kind kv es i=some (r.map fun v=>(j,v))|[],r,i,h=>by{simp only[List.map_nil,nX,GE]at h;subst h;exact⟨0,rfl⟩}|e::es,r,i,h=>by simp only[Hm,jd,nX]at h;unfold Instr.findNow;split at h;·{rename_i hs;simp only[GE]at h;subst h;exact⟨i,by rw[hs];rfl⟩};·{rename_i hs;obtain⟨j,hj⟩:=JA (i+1) h;exact⟨j,by rw[hs];exact hj⟩};·cases h
theorem Ru:∀{a b:ByteArray},(a==b)=true→a=b|⟨x⟩,⟨y⟩,h=>by have h':(x==y)=true:=h;rw[eq_of_beq h']
theorem Rv(a:ByteArray):(a==a)=true:=by cases a with|mk x=>show(x==x)=true;simp
theorem Nh{b:Nat}{es:Array MapEntry}{clock:Nat}(hb:w.heap[b]? =some (.map es clock)):(getObj b).run P w= .ok (.map es clock) w:=by simp[getObj,Sem.run,hb]
theorem Nl{b:Nat}{es:Array MapEntry}{clock:Nat}(o:Obj)(hb:w.heap[b]? =some (.map es clock)):(setObj b o).run P w= .ok () (gA w b o):=by simp[setObj,Sem.run,hb,gA]
theorem ab1{k e:Value}(h:Instr.sameNow kind k e=some true):Instr.sameBits 10000 e k=true:=by unfold Instr.sameNow at h;split at h;·{split at h;·{rename_i a k' b hk;simp only[GE]at h;show(_&&_)=true;have:=eq_of_beq h;subst hk this;simp};·cases h};·{simp only[GE]at h;have:=Ru h;subst this;exact Rv _};·{simp only[GE]at h;have:=eq_of_beq h;subst this;show(_==_)=true;simp};·cases h
theorem MF:∀{es:List MapEntry}{aL:Rows}(i:Nat),zm kind kv kS (es.map jd)=some aL→(∃j v,∃hj:j<es.length,Instr.findNow kind kv es i=some (some (i+j,v))∧Instr.sameNow kind kv es[j].key=some true∧aL=(es.modify j fun e=>{e with key:=kv,val:=kS}).map jd)∨(Instr.findNow kind kv es i=some none∧aL=es.map jd++[[.val kv, .val kS]])|[],aL,i,h=>by{simp only[List.map_nil,zm,GE]at h;subst h;exact .inr ⟨rfl,rfl⟩}|e::es,aL,i,h=>by simp only[Hm,jd,zm]at h;unfold Instr.findNow;split at h;·{rename_i hs;simp only[GE]at h;subst h;exact .inl ⟨0,e.val,by simp,by rw[hs];rfl,hs,by simp[jd]⟩};·{rename_i hs;obtain⟨y,hy,rfl⟩:=Option.map_eq_some_iff.1 h;rw[hs];rcases MF (i+1) hy with⟨j,v,hj,h1,h2,rfl⟩|⟨h1,rfl⟩;·{refine .inl ⟨j+1,v,by simpa using hj, ?_,by simpa using h2,by simp[jd]⟩;rw[show i+(j+1)=i+1+j by omega];exact h1};·exact .inr ⟨h1,by simp[jd]⟩};·cases h
end
section
variable{C:av}{E:Env}{w:World}{S:ah}{a:Act}{β:Id→Option Loc}{F:Id→List Nat}
variable{next:Act→World→Prop}{Q:Exit→Act→World→Prop}
theorem ab2{t:TypeId}{z:Value}(h:GO C t=some z):(∀w:World,(zeroValue t).run C.P w= .ok z w)∧dc z=true:=by unfold GO at h;split at h;·{rename_i v hv;split at h;·{rename_i hs;simp only[GE]at h;subst h;refine⟨fun w=> ?_,hs⟩;simp only[GT]at hv;obtain⟨i,hi,hz⟩:=hv;simp[zeroValue,typeInfo,hi,hz]};·cases h};·cases h
theorem Lv{t:TypeId}{kind:TypeDesc}{z:Value}(h:vA C t=some (kind,z)):∃kt et,C.P.underlying t=some (.map kt et)∧C.P.underlying kt=some kind∧GQ kind=true∧(∀w:World,(zeroValue et).run C.P w= .ok z w)∧dc z=true:=by unfold vA at h;split at h;·{rename_i kt et hu;split at h;·{rename_i kind' z' hk hz;split at h;·{rename_i hs;simp only[GE,Ha]at h;obtain⟨rfl,rfl⟩:=h;obtain⟨h1,h2⟩:=ab2 hz;exact⟨kt,et,hu,hk,hs,h1,h2⟩};·cases h};·cases h};·cases h
theorem UJ{w:World}{b:Nat}{es es':Array MapEntry}{c c':Nat}(h:w.heap[b]? =some (.map es c))(x:Addr):(gA w b (.map es' c')).frozen? x=w.frozen? x:=by have hb:=lt_of_heap h;unfold World.frozen? ;rw[wg hb];by_cases hx:x.block=b;·{rw[AC hx,hx,h]};·rw[Do hx]
theorem Z8(h:ax C E w S a β F){o:Oper}{t:TypeId}{r:Option Operand}(ho:o.op= .makeMap t r){e:aJ}(he:sr C S o t r=some e)(hd:bV S e)(hn:∀a' w',aO C E (S.app e) a' w'→next a' w'):o.wp C.P a w next Q:=by unfold sr at he;split at he;·{rename_i d hm aP;split at he;·{rename_i hc;simp only[Hk,H2]at hc;obtain⟨rfl,hf⟩:=hc;simp only[GE]at he;subst he;have hfr:S.h [d]=none:=hf;have hd':d<S.n:=by{simpa[bV,put,aP]using hd};refine iK (v:= .map (some w.heap.size)) (w':=w.alloc (.map #[] 0)) ?_ (hn _ _ ?_);·{simp only[execOp,ho];refine kR ?_;rfl};·have e1:S.app (put o (.mr [d]) [] [([d],some [])])=⟨S.n,ai S.t d (.mr [d]),ai S.h [d] (some (some []))⟩:=by{simp[ah.app,put,aP,cm,aI]};rw[e1];have hold:∀b,b<w.heap.size→(w.alloc (.map #[] 0)).heap[b]? =w.heap[b]? :=fun b hb=>heap_alloc_old _ _ _ hb;have hnew:(w.alloc (.map #[] 0)).heap[w.heap.size]? =some (.map #[] 0):=heap_alloc_new _ _;refine h.BM aP (kill:=[d]) (l:= .map w.heap.size) (aL:=[]) (G:=[w.heap.size]) hfr (.inl rfl) (by simp[ai]) (fun i hi _=>by simp[ai,hi]) (fun hk=>absurd rfl hk) (by simp) rfl rfl (fun x=> ?_) (fun b hb _=>hold b hb) (qe hold) (by simp) (fun b hb=> ?_) (fun I' β' _ _ hb=> ?_) (fun I' β' hb=> .mr hb) hd';·{by_cases hx:x.block=w.heap.size;·{have e2:w.heap[x.block]? =none:=by{rw[hx];simp};simp only[World.frozen?,hx,hnew];simp};·rw[World.frozen?_alloc_old _ _ _ hx]};·{obtain rfl:=List.mem_singleton.1 hb;exact .inr ⟨Nat.le_refl _,by simp⟩};·exact .inr (.inl ⟨_,hb,rfl, #[],0,hnew,rfl,fun e he=>by simp at he⟩)};·cases he};·cases he
theorem YC(h:ax C E w S a β F){x:U}{v:Value}{rows:Rows}{ids:List Id}(hx:R w (aq E w F) β [] v x)(hr:yZ S.h x=some (rows,ids)):(v= .map none∧rows=[])∨∃b,v= .map (some b)∧ko w b rows:=by unfold yZ at hr;split at hr;·{rename_i id;split at hr;·{rename_i aL hid;simp only[GE,Ha]at hr;obtain⟨rfl,rfl⟩:=hr;obtain⟨_,b,hb,rfl⟩:=hx.y5;rcases h.obj id _ hid with⟨h1,_⟩|⟨b2,h1,_,hm⟩|⟨_,_,_,_,_,_,h1,_⟩;·{rw[h1]at hb;cases hb};·{rw[h1]at hb;cases hb;exact .inr ⟨_,rfl,hm⟩};·rw[h1]at hb;cases hb};·cases hr};·{simp only[GE,Ha]at hr;obtain⟨rfl,rfl⟩:=hr;obtain⟨_,b,rfl,_,hm⟩:=hx.XK;exact .inr ⟨b,rfl,hm⟩};·{simp only[GE,Ha]at hr;obtain⟨rfl,rfl⟩:=hr;obtain⟨_,rfl⟩:=hx.e3;exact .inl ⟨rfl,rfl⟩};·cases hr
theorem JB{kind:TypeDesc}{kv v:Value}:∀{es:List MapEntry},(∀e∈es,dc e.key=true∧dc e.val=true)→nX kind kv (es.map jd)=some (some v)→dc v=true|[],_,h=>by{simp[nX]at h}|e::es,hs,h=>by simp only[Hm,jd,nX]at h;split at h;·{simp only[GE]at h;subst h;exact(hs e (Hd ..)).2};·{exact JB (fun e he=>hs e (Hc _ he)) h};·cases h
theorem Z5(h:ax C E w S a β F){o:Oper}{t:TypeId}{x k:Operand}{ok:Bool}(ho:o.op= .lookup t x k ok){e:aJ}(he:so C S o t (un true (S.get C x)) (un true (S.get C k)) ok=some e)(hd:bV S e)(hn:∀a' w',aO C E (S.app e) a' w'→next a' w'):o.wp C.P a w next Q:=by have hx:=h.cQ x;have hk:=h.cQ k;generalize un true (S.get C x)=xv at*;generalize un true (S.get C k)=kx at*;have hex:execOp a.eval o=(do pure (Next.value (←Instr.lookup t (a.eval x) (a.eval k) ok))):=by{simp[execOp,ho]};unfold so at he;split at he;·{rename_i kind z rows ids kv hm hr;obtain⟨r,hf,rfl⟩:=Option.map_eq_some_iff.1 he;obtain⟨kt,et,hu,hkt,hs,hz,hzs⟩:=Lv hm;obtain⟨_,hkv⟩:=hk.e3;have hK:∀es:Array MapEntry,nX kind kv (es.toList.map jd)=some r→(do Instr.checkKey es.isEmpty 10000 kt (a.eval k)let y←Instr.findKey kt (a.eval k) es.toList match y with|some (_,v)=>do let x←pure (v,true)pure (if ok=true then Value.tuple #[x.1,Value.bool x.2]else x.1)|none=>do let z←zeroValue et let x←pure (z,false)pure (if ok=true then Value.tuple #[x.1,Value.bool x.2]else x.1):Sem Value).run C.P w= .ok (if ok then .tuple #[r.getD z, .bool r.isSome]else r.getD z) w:=by{intro es hf;obtain⟨j,hj⟩:=JA 0 hf;rw[Sem.run_bind,run_checkKey hkt hs,Result.andThen_ok];have x6:(Instr.findKey kt (a.eval k) es.toList).run C.P w= .ok (r.map fun v=>(j,v)) w:=by{unfold Instr.findKey;rw[Sem.run_bind,dK hkt,Result.andThen_ok,hkv,hj];rfl};rw[Sem.run_bind,x6,Result.andThen_ok];cases r with|some v=>(rfl)|none=>simp only[Option.map_none,Option.getD_none,Option.isSome_none];rw[Sem.run_bind,hz w,Result.andThen_ok];rfl};have hrun:(Instr.lookup t (a.eval x) (a.eval k) ok).run C.P w= .ok (if ok then .tuple #[r.getD z, .bool r.isSome]else r.getD z) w∧dc (r.getD z)=true:=by{unfold Instr.lookup;rw[Sem.run_bind,dK hu,Result.andThen_ok];rcases YC h hx hr with⟨hv,rfl⟩|⟨b,hv,es,clock,hb,rfl,hsc⟩;·{refine⟨?_, ?_⟩;·{rw[hv];exact hK #[] hf};·simp only[nX,Option.some.injEq]at hf;subst hf;exact hzs};·refine⟨?_, ?_⟩;·{rw[hv];simp only;rw[Sem.run_bind,Nh hb,Result.andThen_ok];exact hK es hf};·cases r with|none=>(exact hzs)|some v=>exact JB hsc hf};obtain⟨hrun,KR⟩:=hrun;refine eY h hd hex hrun ?_ hn;cases ok with|false=>(exact .val KR)|true=>exact .aG (.cons (f1:=[]) (f2:=[]) (.val KR) (.cons (f1:=[]) (f2:=[]) (.val rfl) .nil))};·cases he
theorem Md(h:ax C E w S a β F){o:Oper}{t:TypeId}{x k v:Operand}(ho:o.op= .mapUpdate t x k v∨o.op= .insert t x k v){e:aJ}
  (he:oU C S o t (un true (S.get C x)) (un true (S.get C k)) (un true (S.get C v))=some e)(hd:bV S e)(hn:∀a' w',aO C E (S.app e) a' w'→next a' w'):o.wp C.P a w next Q:=by
 have hx:=h.cQ x
 have hk:=h.cQ k
 have hv:=h.cQ v
 generalize un true (S.get C x)=xv at*
 generalize un true (S.get C k)=kx at*
 generalize un true (S.get C v)=vx at*
 have hex:execOp a.eval o=(do Instr.mapUpdate t (a.eval x) (a.eval k) (a.eval v);pure Next.skip):=by rcases ho with ho|ho<;>simp[execOp,ho]
 unfold oU at he
 split at he
 ·rename_i kind z id kv kS hm
  split at he
  ·rename_i rows hid
   split at he
   ·rename_i hc
    simp only[Hk,H2]at hc
    obtain⟨⟨u7,KX⟩,aP⟩:=hc
    obtain⟨aL,hp,rfl⟩:=Option.map_eq_some_iff.1 he
    obtain⟨kt,et,hu,hkt,hs,_,_⟩:=Lv hm
    obtain⟨_,hkv⟩:=hk.e3
    obtain⟨_,Xn⟩:=hv.e3
    obtain⟨_,b,aV,s0⟩:=hx.y5
    have yg:=h.obj id rows hid
    obtain⟨hF,es,clock,hb,rfl,hsc⟩:F id=[b]∧ko w b rows:=by
     rcases yg with⟨h1,_⟩|⟨b2,h1,h2,hm⟩|⟨_,_,_,_,_,_,h1,_⟩
     ·rw[h1]at aV;cases aV
     ·rw[h1]at aV;cases aV;exact⟨h2,hm⟩
     ·rw[h1]at aV;cases aV
    have l9:=lt_of_heap hb
    have key:∃es':Array MapEntry,∃c':Nat,(Instr.mapUpdate t (a.eval x) (a.eval k) (a.eval v)).run C.P w= .ok () (gA w b (.map es' c'))∧aL=es'.toList.map jd∧∀e∈es'.toList,dc e.key=true∧dc e.val=true:=by
     have pre:∀{r:Option (Nat×Value)},Instr.findNow kind kv es.toList 0=some r→(Instr.mapUpdate t (a.eval x) (a.eval k) (a.eval v)).run C.P w=(match r with
       |some (i,_)=>(do
        let key←Instr.keyThatStays (((es[i]?).map MapEntry.key).getD kv) kv
        setObj b (.map (es.modify i fun e=>{e with key,val:=kS}) clock):Sem Unit)
       |none=>setObj b (.map (es.push {key:=kv,val:=kS,born:=clock}) (clock+1))).run C.P w:=by
      intro r hr
      unfold Instr.mapUpdate
      rw[Sem.run_bind,dK hu,Result.andThen_ok]
      simp only[s0,hkv,Xn]
      rw[Sem.run_bind,Nh hb,Result.andThen_ok]
      simp only
      rw[Sem.run_bind,run_checkKey hkt hs,Result.andThen_ok,Sem.run_bind]
      have x6:(Instr.findKey kt kv es.toList).run C.P w= .ok r w:=by
       unfold Instr.findKey
       rw[Sem.run_bind,dK hkt,Result.andThen_ok,hr]
       rfl
      rw[x6,Result.andThen_ok]
      cases r with
      |none=>rfl
      |some y=>rfl
     rcases MF (kind:=kind) (kv:=kv) (kS:=kS) 0 hp with⟨j,v0,hj,h1,h2,rfl⟩|⟨h1,rfl⟩
     ·have hj':j<es.size:=by simpa using hj
      refine⟨es.modify j fun e=>{e with key:=kv,val:=kS},clock, ?_,by simp[H3],fun e he=> ?_⟩
      ·rw[pre h1]
       simp only[Nat.zero_add]
       have e1:((es[j]?).map MapEntry.key).getD kv=es.toList[j].key:=by simp[hj']
       rw[e1,Sem.run_bind]
       have e2:(Instr.keyThatStays es.toList[j].key kv).run C.P w= .ok kv w:=by
        unfold Instr.keyThatStays
        rw[AC (ab1 h2)];rfl
       rw[e2,Result.andThen_ok,Nl _ hb]
      ·rw[H3]at he
       obtain⟨i,hi,rfl⟩:=List.getElem_of_mem he
       rw[List.getElem_modify]
       split
       ·exact⟨u7,KX⟩
       ·exact hsc _ (List.getElem_mem _)
     ·refine⟨es.push {key:=kv,val:=kS,born:=clock},clock+1, ?_,by simp[jd],fun e he=> ?_⟩
      ·rw[pre h1]
       simp only
       rw[Nl _ hb]
      ·simp only[Array.toList_push,List.mem_append,H4]at he
       rcases he with he|rfl
       ·exact hsc e he
       ·exact⟨u7,KX⟩
    obtain⟨es',c',hrun,rfl,Xd⟩:=key
    have jB:∀k,(gA w b (.map es' c')).heap[k]? =if k=b then some (.map es' c')else w.heap[k]? :=wg l9
    refine Hz (w':=gA w b (.map es' c')) (by rw[hex];exact No hrun) (hn _ _ ⟨β,F, ?_⟩)
    have e1:S.app (put o .aK [id] [(id,some (es'.toList.map jd))])=⟨S.n,S.t,ai S.h id (some (some (es'.toList.map jd)))⟩:=by simp[ah.app,put,aP,cm,aI]
    have e2:a.put o.dst undef=a:=by rw[aP];rfl
    rw[e1,e2]
    refine h.step (hok:=fun k r2 hk hr2=>by
     by_cases e:k=id
     ·subst e;exact⟨_,by assumption⟩
     ·exact⟨r2,by simpa[ai,e]using hr2⟩) (·=id) h.n (by simp[gA]) rfl rfl (fun x=>UJ hb x) (fun bb _ dV=> ?_) (fun _ _ h=>h) (fun i bb dV=> .inl ⟨i,dV⟩) (fun i hi=>⟨rfl,by simp[ai,hi]⟩) (fun hI i hi dR hr2=> ?_) (fun i hi hno=> ?_) (fun i _=>h.nd i) (fun i j bb _ h1 h2=>h.ck i j bb h1 h2) (fun i hi=> ?_) (fun _ t=> .inl ⟨rfl,rfl⟩) (hdf:=rfl) (eu:= ?_)
    ·rw[jB,Do]
     intro e;subst e
     exact dV id rfl (by rw[hF];exact List.mem_singleton.2 rfl)
    ·subst hi
     simp only[ai,if_true,GE]at hr2
     subst hr2
     exact .inr (.inl ⟨b,aV,hF,es',c',by rw[jB,AC rfl],rfl,Xd⟩)
    ·subst hi
     exact absurd (by simp[ai]) (hno (es'.toList.map jd))
    ·refine h.dom i ?_
     by_cases KC:i=id
     ·subst KC;simp[ai]at hi
     ·simpa[ai,KC]using hi
    ·intro bb n hB
     obtain⟨c2,e2,ji,hn2⟩:=hB
     refine⟨c2,e2, ?_,hn2⟩
     rw[jB,Do]
     ·exact ji
     ·intro e;subst e;rw[hb]at ji;cases ji
   ·cases he
  ·cases he
 ·cases he
end
end Go.Ab
namespace Go.Ab
open Go
theorem DR{g:Id→List Nat}:∀{l:List Id},(l.flatMap g).Nodup→∀{i j:Id}{b:Nat},i∈l→j∈l→b∈g i→b∈g j→i=j|[],_,i,_,_,h,_,_,_=>by{cases h}|x::l,hn,i,j,b,hi,hj,hb,hb'=>by simp only[H5]at hn;obtain⟨_,h2,h3⟩:=List.nodup_append.1 hn;rcases List.mem_cons.1 hi with Jn|hi2<;>rcases List.mem_cons.1 hj with ej|hj2;·{rw[Jn,ej]};·{exact absurd rfl (h3 b (Jn▸hb) b (List.mem_flatMap.2 ⟨j,hj2,hb'⟩))};·{exact absurd rfl (h3 b (ej▸hb') b (List.mem_flatMap.2 ⟨i,hi2,hb⟩))};·exact DR h2 hi2 hj2 hb hb'
theorem JM{g:Id→List Nat}{l:List Id}(hn:(l.flatMap g).Nodup){i:Id}(hi:i∈l):(g i).Nodup:=by induction l with|nil=>(cases hi)|cons x l ih=>simp only[H5]at hn;rcases List.mem_cons.1 hi with rfl|hi;·{exact(List.nodup_append.1 hn).1};·exact ih (List.nodup_append.1 hn).2.1 hi
theorem YS{l:List (Id×Id)}(hn:(l.map (·.2)).Nodup){k:Id}(h:k∈l.map (·.2)):∃o,eE l k=some o:=by obtain⟨x,hx,rfl⟩:=List.mem_map.1 h;exact⟨x.1,lA hn hx⟩
theorem M3{l:List (Id×Id)}(hn:(l.map (·.2)).Nodup){rows aL:Rows}(h:jL l rows=some aL):ir (eE l) aL rows:=by unfold jL at h;split at h;·{rename_i hf;simp only[GE]at h;subst h;exact .of_flat hf};·exact Gy hn h
section
variable{C:av}{E:Env}{w:World}{S:ah}{a:Act}{β:Id→Option Loc}{F:Id→List Nat}
variable{next:Act→World→Prop}{Q:Exit→Act→World→Prop}
theorem L6(h:ax C E w S a β F){l:List (Id×Id)}(hn:(l.map (·.2)).Nodup)(u7:(l.map (·.1)).Nodup):∀{r:List (Id×Id)}{obs gone},fZ S.h l r=some (obs,gone)→(∀x∈r,x∈l)→(r.map (·.1)).Nodup→∃hl,q2 obs=some hl∧hl.map (·.1)=r.map (·.2)∧∃(g:Id→List Nat)(rest:List Nat),(∀o k,(o,k)∈r→∀rows,(k,rows)∈hl→cL w (aq E w F) (fun i=>(eE l i).bind β) k rows (g o))∧((r.map (·.1)).flatMap g++rest).Perm ((r.map (·.1)).flatMap F++gone.flatMap F)|[],obs,gone,ho,_,_=>by{simp only[fZ,GE,Ha]at ho;obtain⟨rfl,rfl⟩:=ho;exact⟨[],rfl,rfl,fun _=>[],[],(fun _ _ h=>by cases h),by simp⟩}|(o,k)::r,obs,gone,ho,hl,hr=>by simp only[fZ]at ho;split at ho;·{rename_i rows hrows;simp only[GT,Hb,Ha]at ho;obtain⟨x,hx,aL,W8,⟨zb,gone'⟩,hy,rfl,rfl⟩:=ho;obtain⟨hl',e1,e2,g,rest,g1,g2⟩:=L6 h hn u7 hy (fun x hx=>hl x (Hc _ hx)) (List.nodup_cons.1 hr).2;have hkeep:∀i lo,pH l i=true→β i=some lo→β i=some lo:=fun _ _ _ h=>h;obtain⟨go,ro,k1,k2⟩:=(h.obj o rows hrows).closed h.obj hkeep hx (fun _ h=>h);have hm:eE l k=some o:=lA hn (hl (o,k) (Hd ..));have cD:=k1.jK hm (M3 hn W8);have hno:o∉r.map (·.1):=(List.nodup_cons.1 hr).1;refine⟨(k,aL)::hl',by simp[q2,e1],by simp[e2],fun i=>if i=o then go else g i,ro++rest, ?_, ?_⟩;·{intro o2 k' hm2 dR KH;rcases List.mem_cons.1 hm2 with p2|dj;·{simp only[Ha]at p2;obtain⟨rfl,rfl⟩:=p2;rcases List.mem_cons.1 KH with p3|ez;·{simp only[Ha,true_and]at p3;subst p3;simpa using cD};·exfalso;have:k'∈r.map (·.2):=by{rw[←e2];exact List.mem_map.2 ⟨_,ez,rfl⟩};obtain⟨⟨LR,Fv⟩,h3,bQ⟩:=List.mem_map.1 this;have h4:=lA hn (hl _ (List.mem_cons_of_mem _ h3));have TA:Fv=k':=bQ;rw[TA,hm]at h4;simp only[Option.some.injEq]at h4;exact hno (h4▸List.mem_map.2 ⟨_,h3,rfl⟩)};·have hne:o2≠o:=fun e=>hno (e▸List.mem_map.2 ⟨_,dj,rfl⟩);simp only[Do hne];rcases List.mem_cons.1 KH with p3|ez;·{exfalso;simp only[Ha]at p3;have h4:=lA hn (hl _ (Hc _ dj));rw[p3.1,hm]at h4;simp only[GE]at h4;exact hne h4.symm};·exact g1 o2 k' dj dR ez};·have e:(r.map (·.1)).flatMap (fun i=>if i=o then go else g i)=(r.map (·.1)).flatMap g:=by{rw[List.flatMap_def,List.flatMap_def];congr 1;refine List.map_congr_left fun i hi=> ?_;have:i≠o:=fun e=>hno (e▸hi);simp[this]};simp only[List.map_cons,List.flatMap_cons,if_true,e,List.flatMap_append];have:=ot k2 g2;rw[List.perm_iff_count]at this⊢;intro z;have:=this z;simp only[List.count_append]at this⊢;omega};·cases ho
theorem Va(h:ax C E w S a β F){l:List (Id×Id)}{obs:List U}{gone:List Id}{args:List U}{vs:List Value}(ha:ak w (aq E w F) β [] vs args)(ho:fZ S.h l l=some (obs,gone))(j6:(l.map (·.1)).Nodup)(j7:(l.map (·.2)).Nodup)(BQ:gone.Nodup)(dg:∀i∈gone,i∉l.map (·.1)):∃hl G,q2 obs=some hl∧hl.map (·.1)=l.map (·.2)∧Aa C w (aq E w F) (fun i=>(eE l i).bind β) G hl vs (args.map (dW l))∧(∀k b,b∈G k→∃i,(i∈l.map (·.1)∨i∈gone)∧b∈F i):=by obtain⟨hl,e1,e2,g,rest,g1,g2⟩:=L6 h j7 j6 ho (fun _ h=>h) j6;have hall:((l.map (·.1))++gone).Nodup:=List.nodup_append.2 ⟨j6,BQ,fun x hx y hy e=>dg y hy (e▸hx)⟩;have hnd:((l.map (·.1)).flatMap g).Nodup:=by{have h1:=h.DS hall;rw[List.flatMap_append]at h1;exact(List.nodup_append.1 (g2.nodup_iff.2 h1)).1};have hmem:∀i b,i∈l.map (·.1)→b∈g i→∃j,(j∈l.map (·.1)∨j∈gone)∧b∈F j:=fun i b hi hb=>by{have h1:b∈(l.map (·.1)).flatMap F++gone.flatMap F:=g2.mem_iff.1 (Hn _ (List.mem_flatMap.2 ⟨i,hi,hb⟩));rcases List.mem_append.1 h1 with h1|h1;·{obtain⟨j,hj,hb⟩:=List.mem_flatMap.1 h1;exact⟨j, .inl hj,hb⟩};·obtain⟨j,hj,hb⟩:=List.mem_flatMap.1 h1;exact⟨j, .inr hj,hb⟩};let G:Id→List Nat:=fun k=>match eE l k with|some o=>g o|none=>[];have c8:∀k b,b∈G k→∃o,eE l k=some o∧o∈l.map (·.1)∧b∈g o:=fun k b hb=>by{simp only[G]at hb;cases ho:eE l k with|none=>(rw[ho]at hb;cases hb)|some o=>rw[ho]at hb;exact⟨o,rfl,List.mem_map.2 ⟨_,mu ho,rfl⟩,hb⟩};have VG:∀b,aq E w F b→∀k,b∉G k:=fun b hb k hk=>by{obtain⟨o,_,h2,h3⟩:=c8 k b hk;obtain⟨j,_,h4⟩:=hmem o b h2 h3;exact hb.2.2 j h4};refine⟨hl,G,e1,e2,{args:= ?_,obj:= ?_,out:= ?_,nd:= ?_,ck:= ?_,lt:= ?_,i0:=fun b hb=>⟨hb.2.1,VG b hb⟩,bM:=fun g cs hg=>(h.bM g cs hg).mm rfl fun _ h=>h}, ?_⟩;·{have go:∀{as:List U}{vs:List Value},ak w (aq E w F) β [] vs as→ak w (aq E w F) (fun i=>(eE l i).bind β) [] vs (as.map (dW l)):=fun{as}=>by{induction as with|nil=>(intro vs h;obtain⟨_,rfl⟩:=h.eK;exact .nil)|cons x as ih=>intro vs h;obtain⟨f1,f2,v,vs',e,rfl,h1,h2⟩:=h.cons_inv;have e':=List.append_eq_nil_iff.1 e.symm;obtain⟨rfl,rfl⟩:=e';exact R.cons (f1:=[]) (f2:=[]) (h1.jK (Gw j7 x) rfl) (ih h2)};exact go ha};·{intro k rows hk;obtain⟨o,ho⟩:=YS j7 (show k∈l.map (·.2)by rw[←e2];exact List.mem_map.2 ⟨_,hk,rfl⟩);have:=g1 o k (mu ho) rows hk;simpa only[G,ho]using this};·{intro k hk;rw[e2]at hk;have:eE l k=none:=by{cases hx:eE l k with|none=>(rfl)|some o=>exact absurd (List.mem_map.2 ⟨_,mu hx,rfl⟩) hk};simp[G,this]};·{intro k;simp only[G];cases ho:eE l k with|none=>(exact H0)|some o=>exact JM hnd (List.mem_map.2 ⟨_,mu ho,rfl⟩)};·{intro i j b hi hj;obtain⟨o,bQ,h3,h4⟩:=c8 i b hi;obtain⟨o',eV,h5,h6⟩:=c8 j b hj;have:=DR hnd h3 h5 h4 h6;subst this;exact DX j6 (mu bQ) (mu eV)};·{intro k b hb;obtain⟨o,_,h2,h3⟩:=c8 k b hb;obtain⟨j,_,h4⟩:=hmem o b h2 h3;exact(h.lt j b h4).1};·intro k b hb;obtain⟨o,_,h2,h3⟩:=c8 k b hb;obtain⟨j,h4,h5⟩:=hmem o b h2 h3;exact⟨j,h4,h5⟩
theorem R.aby{I:Nat→Prop}{m:Id→Option Id}{f:List Nat}{v:Value}{a b:U}(h:R w I β f v b)(hr:oB m a b):∃f2,(f2=f∨f2=[])∧R w I (fun i=>(m i).bind β) f2 v a:=by cases hr with|cell hc=>(exact⟨f, .inl rfl,h.Gx hc⟩)|agg hl=>(obtain⟨vs,rfl,h⟩:=h.lP;exact⟨f, .inl rfl,ak.jK hl h⟩)|aG hl=>(obtain⟨vs,rfl,hu⟩:=h.wH;exact⟨f, .inl rfl, .aG (ak.jK hl hu)⟩)|fn h1 h2=>(obtain⟨rfl,vs,cs,rfl,k1,k2⟩:=h.lZ;exact⟨[], .inl rfl, .fn (ak.jK h1 k1) (ak.jK h2 k2)⟩)|aK=>exact⟨[], .inr rfl, .aK⟩
theorem rX{l':List (Id×Id)}:∀{r:List (Id×Id)}{outs:List U}{back:List (Id×Option Rows)},gh l' r outs=some back→back.map (·.1)=r.map (·.1)∧∀x∈back,∀aL,x.2=some aL→∃k rows,(x.1,k)∈r∧U.bf k rows∈outs∧jL l' rows=some aL|[],[],back,h=>by{simp only[gh,GE]at h;subst h;exact⟨rfl,fun x hx=>by cases hx⟩}|[],a::outs,back,h=>by{simp[gh]at h}|(o,k)::r,[],back,h=>by{simp[gh]at h}|(o,k)::r,a::outs,back,h=>by cases a with|bf k' rows=>(simp only[gh]at h;split at h;·{rename_i e;subst e;simp only[GT,Hb]at h;obtain⟨aL,h1,y,h2,rfl⟩:=h;obtain⟨i1,i2⟩:=rX h2;refine⟨by simp[i1],fun x hx dR e=> ?_⟩;rcases List.mem_cons.1 hx with rfl|hx;·{simp only[GE]at e;subst e;exact⟨_,rows,Hd ..,Hd ..,h1⟩};·obtain⟨k2,r2,m1,m2,m3⟩:=i2 x hx dR e;exact⟨k2,r2,Hc _ m1,Hc _ m2,m3⟩};·cases h)|aK=>(simp only[gh,Hb]at h;obtain⟨y,h2,rfl⟩:=h;obtain⟨i1,i2⟩:=rX h2;refine⟨by simp[i1],fun x hx dR e=> ?_⟩;rcases List.mem_cons.1 hx with rfl|hx;·{cases e};·obtain⟨k2,r2,m1,m2,m3⟩:=i2 x hx dR e;exact⟨k2,r2,Hc _ m1,Hc _ m2,m3⟩)|_=>simp[gh]at h
theorem L3{L:Id→Option (Option Rows)}{l:List (Id×Id)}:∀{r:List (Id×Id)}{x},fZ L l r=some x→∀i∈r.map (·.1),∃rows,L i=some (some rows)|[],_,_,i,hi=>by{cases hi}|(o,k)::r,x,h,i,hi=>by simp only[fZ]at h;split at h;·{rename_i rows hrows;simp only[GT,Hb]at h;obtain⟨_,_,_,_,y,hy,_⟩:=h;rcases List.mem_cons.1 hi with rfl|hi;·{exact⟨rows,hrows⟩};·exact L3 hy i hi};·cases h
theorem abx{l:List (Id×Id)}{i:Id}(h:i∈l.map (·.1)):∃k,eN l i=some k:=by induction l with|nil=>(cases h)|cons x l ih=>obtain⟨o,k⟩:=x;simp only[eN];split;·{exact⟨k,rfl⟩};·rename_i hne;rcases List.mem_cons.1 h with e|h;·{exact absurd e.symm hne};·exact ih h
open Classical in theorem ax.Vc(h:ax C E w S a β F){l:List (Id×Id)}{gone:List Id}{back news:List (Id×Option Rows)}{G G' nK:Id→List Nat}{fr:List Nat}{I':Nat→Prop}{w':World}{β':Id→Option Loc}{a':Act}{t':Nat→U}(j6:(l.map (·.1)).Nodup)(j7:(l.map (·.2)).Nodup)(dg:∀i∈gone,i∉l.map (·.1))(live:∀i∈l.map (·.1),∃rows,S.h i=some (some rows))(U6:∀i∈gone,∃rows,S.h i=some (some rows))(ng:∀k b,b∈G k→∃i,(i∈l.map (·.1)∨i∈gone)∧b∈F i)(hk:Kept w w' fun b=>∃k,b∈G k)(lD:∀k,(G' k).Nodup)(Cf:∀i j b,b∈G' i→b∈G' j→i=j)(ML:∀k b,b∈G' k→b∉fr)(Cg:∀b,(b∈fr∨∃k,b∈G' k)→b<w'.heap.size∧((∃k,b∈G k)∨w.heap.size≤b))(abj:∀b,I' b→(aq E w F b∨(∃k,b∈G k)∨w.heap.size≤b)∧b<w'.heap.size∧b∉fr∧∀k,b∉G' k)(Kt:back.map (·.1)=l.map (·.1))(iw:∀x∈back,∀aL,x.2=some aL→∃k,(x.1,k)∈l∧cL w' I' β x.1 aL (G' k))(i1:∀i lo,β i=some lo→β' i=some lo)(i2:∀i,(∀x∈news,x.1≠i)→β' i=β i∧nK i=[])(i3:∀x∈news,∃rows,x.2=some rows∧cL w' I' β' x.1 rows (nK x.1))(i4:∀i,(nK i).Nodup∧∀b∈nK i,b∈fr)(i5:∀i j b,b∈nK i→b∈nK j→i=j)(j0:∀x∈news,S.h x.1=none)(sQ:∀x∈news,¬E.K x.1)(hn:a'.tmps.size=S.n)(hdf:a'.defers=a.defers)(yq:∀F',(∀b,aq E w F b→aq E w' F' b)→(∀b,I' b→aq E w' F' b)→∀t,(a'.tmps.getD t undef=a.tmps.getD t undef∧t' t=S.t t)∨R w' (aq E w' F') β' [] (a'.tmps.getD t undef) (t' t)):aO C E ⟨S.n,t',aI S.h (news++(back++gone.map fun i=>(i,none)))⟩ a' w':=by let hp:=aI S.h (news++(back++gone.map fun i=>(i,none)));let cP:Id→List Nat:=fun i=>if(∃rows,hp i=some (some rows))then(if i∈l.map (·.1)then(match eN l i with|some k=>G' k|none=>[])else F i++nK i)else[];have Bs:∀x∈news,x.1∉l.map (·.1):=fun x hx hm=>by{obtain⟨rows,e⟩:=live _ hm;rw[j0 x hx]at e;cases e};have KJ:∀x∈news,x.1∉gone:=fun x hx hm=>by{obtain⟨rows,e⟩:=U6 _ hm;rw[j0 x hx]at e;cases e};have l9:∀x∈back,x.1∈l.map (·.1):=fun x hx=>by{rw[←Kt];exact List.mem_map.2 ⟨x,hx,rfl⟩};have n7:∀i,(∃x∈news,x.1=i∧hp i=some x.2)∨((∀x∈news,x.1≠i)∧∃x∈back,x.1=i∧hp i=some x.2)∨((∀x∈news,x.1≠i)∧i∉l.map (·.1)∧i∈gone∧hp i=some none)∨((∀x∈news,x.1≠i)∧i∉l.map (·.1)∧i∉gone∧hp i=S.h i):=fun i=>by{rcases eP S.h (news++(back++gone.map fun i=>(i,none))) i with⟨x,hx,e1,e2⟩|⟨h1,h2⟩;·{by_cases pe:∃y∈news,y.1=i;·{obtain⟨y,hy,A3⟩:=pe;rcases List.mem_append.1 hx with hx|hx;·{exact .inl ⟨x,hx,e1,e2⟩};·exfalso;rcases List.mem_append.1 hx with hx|hx;·{exact Bs y hy (by rw[A3,←e1];exact l9 x hx)};·obtain⟨j,hj,rfl⟩:=List.mem_map.1 hx;exact KJ y hy (by rw[A3,←e1];exact hj)};·have ES:∀x∈news,x.1≠i:=fun y hy e=>pe ⟨y,hy,e⟩;rcases List.mem_append.1 hx with hx|hx;·{exact absurd e1 (ES x hx)};·rcases List.mem_append.1 hx with hx|hx;·{exact .inr (.inl ⟨ES,x,hx,e1,e2⟩)};·obtain⟨j,hj,rfl⟩:=List.mem_map.1 hx;have Tz:j=i:=e1;subst Tz;exact .inr (.inr (.inl ⟨ES,dg j hj,hj,e2⟩))};·refine .inr (.inr (.inr ⟨fun x hx=>h1 x (Hn _ hx),fun hm=> ?_,fun hm=> ?_,h2⟩));·{rw[←Kt]at hm;obtain⟨x,hx,e⟩:=List.mem_map.1 hm;exact h1 x (H1 _ (Hn _ hx)) e};·exact h1 (i,none) (H1 _ (H1 _ (List.mem_map.2 ⟨i,hm,rfl⟩))) rfl};have z6:∀i b,b∈cP i→(∃k,b∈G' k∧eN l i=some k∧i∈l.map (·.1))∨(i∉l.map (·.1)∧i∉gone∧b∈F i)∨(i∉l.map (·.1)∧(∃x∈news,x.1=i)∧b∈nK i):=fun i b hb=>by{simp only[cP]at hb;split at hb;·{rename_i hal;split at hb;·{rename_i qG;cases hr:eN l i with|none=>(rw[hr]at hb;cases hb)|some k=>rw[hr]at hb;exact .inl ⟨k,hb,rfl,qG⟩};·rename_i qG;rcases List.mem_append.1 hb with hb|hb;·{refine .inr (.inl ⟨qG,fun hg=> ?_,hb⟩);obtain⟨rows,hal⟩:=hal;rcases n7 i with⟨x,hx,e,_⟩|⟨_,x,hx,e,_⟩|⟨_,_,_,e⟩|⟨_,_,e,_⟩;·{exact KJ x hx (e▸hg)};·{exact qG (e▸l9 x hx)};·{rw[e]at hal;cases hal};·exact e hg};·refine .inr (.inr ⟨qG, ?_,hb⟩);by_cases pe:∃x∈news,x.1=i;·{exact pe};·rw[(i2 i fun x hx e=>pe ⟨x,hx,e⟩).2]at hb;cases hb};·cases hb};have xS:∀b,I' b→aq E w' cP b:=fun b hb=>by{obtain⟨k1,k2,cD,eX⟩:=abj b hb;refine⟨?_,k2,fun i hm=> ?_⟩;·{rcases k1 with k1|⟨k,k1⟩|k1;·{exact k1.1};·{obtain⟨i,_,hi⟩:=ng k b k1;exact(h.lt i b hi).2.elim (fun h=> .inr (.inl h)) (fun h=> .inr (.inr h))};·exact .inr (.inr (Nat.le_trans h.kept.size k1))};·rcases z6 i b hm with⟨k,hg,_⟩|⟨n1,n2,hf⟩|⟨_,_,hg⟩;·{exact eX k hg};·{rcases k1 with k1|⟨k,k1⟩|k1;·{exact k1.2.2 i hf};·{obtain⟨j,hj,hf'⟩:=ng k b k1;have:=h.ck i j b hf hf';subst this;exact hj.elim n1 n2};·have:=(h.lt i b hf).1;omega};·exact cD ((i4 i).2 b hg)};refine⟨β',cP, ?_⟩;have WW:∀i,¬(i∈l.map (·.1)∨i∈gone∨∃x∈news,x.1=i)→cP i=F i∧hp i=S.h i:=fun i hi=>by{have n1:i∉l.map (·.1):=fun e=>hi (.inl e);have n2:i∉gone:=fun e=>hi (.inr (.inl e));have iE:∀x∈news,x.1≠i:=fun x hx e=>hi (.inr (.inr ⟨x,hx,e⟩));have e:hp i=S.h i:=by{rcases n7 i with⟨x,hx,e,_⟩|⟨_,x,hx,e,_⟩|⟨_,_,e,_⟩|⟨_,_,_,e⟩;·{exact absurd e (iE x hx)};·{exact absurd (e▸l9 x hx) n1};·{exact absurd e n2};·exact e};refine⟨?_,e⟩;simp only[cP];split;·{rw[(i2 i iE).2,List.append_nil]};·rename_i hal;exact(h.dead i fun rows e'=>hal ⟨rows,by rw[e];exact e'⟩).symm};refine h.wq (fun i=>i∈l.map (·.1)∨i∈gone∨∃x∈news,x.1=i) hn hk.size hk.os hk.out hk.dB ?_ i1 ?_ WW ?_ ?_ ?_ ?_ ?_ ?_ (hdf:=hdf) (eu:=hk.kg) (hok:=gW.of rfl fun x hx hne=> ?_);·{intro b hb hno;refine hk.blk b hb fun⟨k,hm⟩=> ?_;obtain⟨i,hi,hf⟩:=ng k b hm;exact hno i (hi.elim .inl fun h=> .inr (.inl h)) hf};·{intro i b hb;have NU:∀{b:Nat},b<w'.heap.size∧((∃k,b∈G k)∨w.heap.size≤b)→(∃i,b∈F i)∨(w.heap.size≤b∧b<w'.heap.size):=fun⟨h1,h2⟩=>by{rcases h2 with⟨k,h2⟩|h2;·{obtain⟨i,_,hi⟩:=ng k _ h2;exact .inl ⟨i,hi⟩};·exact .inr ⟨h2,h1⟩};rcases z6 i b hb with⟨k,hg,_⟩|⟨_,_,hf⟩|⟨_,_,hg⟩;·{exact NU (Cg b (.inr ⟨k,hg⟩))};·{exact .inl ⟨i,hf⟩};·exact NU (Cg b (.inl ((i4 i).2 b hg)))};·{intro hI i _ rows hr;have hr':hp i=some (some rows):=hr;have hal:∃rows,hp i=some (some rows):=⟨rows,hr'⟩;rcases n7 i with⟨x,hx,e,e2⟩|⟨pe,x,hx,e,e2⟩|⟨_,_,_,e⟩|⟨iE,n1,n2,e⟩;·{subst e;obtain⟨dR,bQ,h3⟩:=i3 x hx;rw[e2,bQ]at hr';simp only[GE]at hr';subst hr';have:cP x.1=nK x.1:=by{simp only[cP];rw[AC hal,Do (Bs x hx),h.dead x.1 (by rw[j0 x hx];simp),List.nil_append]};rw[this];exact h3.mono xS (fun _ _=>rfl) (fun _ _ h=>h)};·{subst e;rw[e2]at hr';simp only[GE]at hr';obtain⟨k,u9,yg⟩:=iw x hx rows hr';have:cP x.1=G' k:=by{simp only[cP];rw[AC hal,AC (l9 x hx)];obtain⟨k',hk'⟩:=abx (l9 x hx);rw[hk',DX j6 u9 (vY hk')]};rw[this];exact yg.mono xS (fun _ _=>rfl) i1};·{rw[e]at hr';cases hr'};·exfalso;rename_i gx;rcases gx with gx|gx|⟨x,hx,gx⟩;·{exact n1 gx};·{exact n2 gx};·exact iE x hx gx};·{intro i _ hno;simp only[cP];rw[Do];rintro⟨rows,e⟩;exact hno rows e};·{intro i _;simp only[cP];split;·{split;·{cases eN l i with|none=>(exact H0)|some k=>exact lD k};·by_cases pe:∃x∈news,x.1=i;·{obtain⟨x,hx,rfl⟩:=pe;rw[h.dead x.1 (by rw[j0 x hx];simp),List.nil_append];exact(i4 _).1};·rw[(i2 i fun x hx e=>pe ⟨x,hx,e⟩).2,List.append_nil];exact h.nd i};·exact H0};·{intro i j b _ hi hj;have Kq:∀{i j k:Id}{b:Nat},b∈G' k→j∉l.map (·.1)→j∉gone→b∈F j→False:=fun{i j k b}hg n1 n2 hf=>by{rcases(Cg b (.inr ⟨k,hg⟩)).2 with⟨k2,hk2⟩|hge;·{obtain⟨q,hq,ED⟩:=ng k2 b hk2;have:=h.ck j q b hf ED;subst this;exact hq.elim n1 n2};·have:=(h.lt j b hf).1;omega};have Kz:∀{j:Id}{b:Nat},b∈fr→j∉l.map (·.1)→j∉gone→b∈F j→False:=fun{j b}hg n1 n2 hf=>by{rcases(Cg b (.inl hg)).2 with⟨k2,hk2⟩|hge;·{obtain⟨q,hq,ED⟩:=ng k2 b hk2;have:=h.ck j q b hf ED;subst this;exact hq.elim n1 n2};·have:=(h.lt j b hf).1;omega};rcases z6 i b hi with⟨k,hg,EZ,_⟩|⟨n1,n2,hf⟩|⟨_,_,hg⟩<;>rcases z6 j b hj with⟨k',hg',W9,_⟩|⟨LH,LI,hf'⟩|⟨_,_,hg'⟩;·{have:=Cf k k' b hg hg';subst this;have e1:=lA j7 (vY EZ);have e2:=lA j7 (vY W9);rw[e1]at e2;exact Option.some.inj e2};·{exact(Kq (i:=i) hg LH LI hf').elim};·{exact absurd ((i4 j).2 b hg') (ML k b hg)};·{exact(Kq (i:=j) hg' n1 n2 hf).elim};·{exact h.ck i j b hf hf'};·{exact(Kz ((i4 j).2 b hg') n1 n2 hf).elim};·{exact absurd ((i4 i).2 b hg) (ML k' b hg')};·{exact(Kz ((i4 i).2 b hg) LH LI hf').elim};·exact i5 i j b hg hg'};·{intro i hi;have hi':hp i=none:=hi;rcases n7 i with⟨x,hx,_,e⟩|⟨_,x,hx,_,e⟩|⟨_,_,_,e⟩|⟨iE,_,_,e⟩;·{rw[e]at hi';cases hi'};·{rw[e]at hi';cases hi'};·{rw[e]at hi';cases hi'};·rw[(i2 i iE).1];exact h.dom i (by rw[←e];exact hi')};·{intro hI;exact yq cP hI xS};·rcases List.mem_append.1 hx with hx|hx;·{exact .inl (sQ x hx)};·rcases List.mem_append.1 hx with hx|hx;·{exact .inr (live _ (l9 x hx))};·obtain⟨i,_,rfl⟩:=List.mem_map.1 hx;exact absurd rfl hne
theorem wR.val{w':World}{I':Nat→Prop}{fr:List Nat}{e:Ending}{r:U}(h:wR w' I' β fr e r)(hr:vr r=false):∃v,e= .returned v∧R w' I' β fr v r:=by cases r<;>first|exact h|cases hr
theorem Sx{L:Id→Option (Option Rows)}:∀(n:Nat){a:U}{x},pk L n a=some x→∀i∈x.2,∃rows,L i=some (some rows):=by
 intro n
 induction n with
 |zero=>intro a x h;simp[pk]at h
 |succ n ih=>
  have DV:∀{cs:List U}{x},dm (pk L n) cs=some x→∀i∈x.2,∃rows,L i=some (some rows):=fun{cs}=>by
   induction cs with
   |nil=>intro x h i hi;simp[dm]at h;subst h;cases hi
   |cons c cs s5=>
    intro x h i hi
    simp only[dm,GT,Hb]at h
    obtain⟨y,hy,z,hz,rfl⟩:=h
    rcases List.mem_append.1 hi with hi|hi
    ·exact ih hy i hi
    ·exact s5 hz i hi
  have Gk:∀{cs:List U}{x},gm (pk L n) cs=some x→∀i∈x.2,∃rows,L i=some (some rows):=fun h i hi=>by
   unfold gm at h
   split at h
   ·simp only[GE]at h;subst h;cases hi
   ·exact DV h i hi
  have foldr:∀{cs:Rows}{x},dU (gm (pk L n)) cs=some x→∀i∈x.2,∃rows,L i=some (some rows):=fun{cs}=>by
   induction cs with
   |nil=>intro x h i hi;simp[dU]at h;subst h;cases hi
   |cons c cs s5=>
    intro x h i hi
    simp only[dU,GT,Hb]at h
    obtain⟨y,hy,z,hz,rfl⟩:=h
    rcases List.mem_append.1 hi with hi|hi
    ·exact Gk hy i hi
    ·exact s5 hz i hi
  have aaZ:∀{cs:Rows}{x},mA (pk L n) cs=some x→∀i∈x.2,∃rows,L i=some (some rows):=fun h i hi=>by
   unfold mA at h
   split at h
   ·simp only[GE]at h;subst h;cases hi
   ·exact foldr h i hi
  intro a x h i hi
  unfold pk at h
  repeat'(first
   |(simp only[reduceCtorEq]at h;done)
   |(simp only[GE]at h;subst h;first|(simp only[H4]at hi;subst hi;exact⟨_,by assumption⟩)|(cases hi;done))
   |(simp only[Hb]at h;obtain⟨y,hy,rfl⟩:=h;first|exact Gk hy i hi|(rcases List.mem_cons.1 hi with rfl|hi;exact⟨_,by assumption⟩;first|exact aaZ hy i hi|exact Gk hy i hi))
   |split at h)
theorem L5{L:Id→Option (Option Rows)}{l:List (Id×Id)}:∀{r:List (Id×Id)}{x},fZ L l r=some x→∀i∈x.2,∃rows,L i=some (some rows)
 |[],x,h,i,hi=>by simp only[fZ,GE]at h;subst h;cases hi
 |(o,k)::r,x,h,i,hi=>by
  simp only[fZ]at h
  split at h
  ·simp only[GT,Hb]at h
   obtain⟨y,hy,aL,_,z,hz,rfl⟩:=h
   have SG:∀{a:U}{x},e5 L (pH l) a=some x→∀i∈x.2,∃rows,L i=some (some rows):=fun h i hi=>by
    unfold e5 at h
    repeat'(first
     |(simp only[reduceCtorEq]at h;done)
     |(simp only[GE]at h;subst h;cases hi)
     |exact Sx _ h i hi
     |split at h)
   have DV:∀{cs:List U}{x},dm (e5 L (pH l)) cs=some x→∀i∈x.2,∃rows,L i=some (some rows):=fun{cs}=>by
    induction cs with
    |nil=>intro x h i hi;simp[dm]at h;subst h;cases hi
    |cons c cs s5=>
     intro x h i hi
     simp only[dm,GT,Hb]at h
     obtain⟨y,hy,z,hz,rfl⟩:=h
     rcases List.mem_append.1 hi with hi|hi
     ·exact SG hy i hi
     ·exact s5 hz i hi
   have SV:∀{cs:List U}{x},jc L (pH l) cs=some x→∀i∈x.2,∃rows,L i=some (some rows):=fun h i hi=>by
    unfold jc at h
    split at h
    ·simp only[GE]at h;subst h;cases hi
    ·exact DV h i hi
   have foldr:∀{cs:Rows}{x},dU (jc L (pH l)) cs=some x→∀i∈x.2,∃rows,L i=some (some rows):=fun{cs}=>by
    induction cs with
    |nil=>intro x h i hi;simp[dU]at h;subst h;cases hi
    |cons c cs s5=>
     intro x h i hi
     simp only[dU,GT,Hb]at h
     obtain⟨y,hy,z,hz,rfl⟩:=h
     rcases List.mem_append.1 hi with hi|hi
     ·exact SV hy i hi
     ·exact s5 hz i hi
   rcases List.mem_append.1 hi with hi|hi
   ·unfold kA at hy
    split at hy
    ·simp only[GE]at hy;subst hy;cases hi
    ·exact foldr hy i hi
   ·exact L5 hz i hi
  ·cases h
theorem Ba{call:FuncId→List U→Option (U×List U)}{L:Id→Option (Option Rows)}{k:FuncId}{args:List U}{x:tX}(h:nY call L k args=some x):∃obs outs,fZ L x.l x.l=some (obs,x.gone)∧call k (.aG obs::args.map (dW x.l))=some (x.r,outs)∧gh (x.l.map fun x=>(x.2,x.1)) x.l outs=some x.back∧(x.l.map (·.1)).Nodup∧(x.l.map (·.2)).Nodup∧(∀y∈x.l,gL y.2=true)∧x.gone.Nodup∧(∀i∈x.gone,i∉x.l.map (·.1)):=by unfold nY xO at h;split at h;·{rename_i obs gone ho;split at h;·{rename_i hc;simp only[Hk,List.all_eq_true]at hc;obtain⟨⟨⟨⟨c1,c2⟩,c3⟩,uz⟩,xe⟩:=hc;split at h;·{rename_i r outs bh;obtain⟨back,hb,rfl⟩:=Option.map_eq_some_iff.1 h;refine⟨obs,outs,ho,bh,hb,vE c1,vE c2,c3,vE uz,fun i hi hm=> ?_⟩;have:=List.all_eq_true.1 xe i hi;simp only[Bool.not_eq_true',List.contains_eq_mem,decide_eq_false_iff_not]at this;exact this hm};·cases h};·cases h};·cases h
theorem ND{l:List (Id×Id)}:(l.map fun x=>(x.2,x.1)).map (·.2)=l.map (·.1):=by simp[Function.comp_def]
def CJ(E:Env)(w:World)(β:Id→Option Loc)(F:Id→List Nat)(x:tX)(e:Ending)(w':World):Prop:=∃(G G':Id→List Nat)(fr:List Nat)(I':Nat→Prop),(∀k b,b∈G k→∃i,(i∈x.l.map (·.1)∨i∈x.gone)∧b∈F i)∧(Kept w w' fun b=>∃k,b∈G k)∧wR w' I' (fun i=>(eE x.l i).bind β) fr e x.r∧(∀k,(G' k).Nodup)∧(∀i j b,b∈G' i→b∈G' j→i=j)∧fr.Nodup∧(∀k b,b∈G' k→b∉fr)∧(∀b,(b∈fr∨∃k,b∈G' k)→b<w'.heap.size∧((∃k,b∈G k)∨w.heap.size≤b))∧(∀b,I' b→(aq E w F b∨(∃k,b∈G k)∨w.heap.size≤b)∧b<w'.heap.size∧b∉fr∧∀k,b∉G' k)∧(∀y∈x.back,∀aL,y.2=some aL→∃k,(y.1,k)∈x.l∧cL w' I' β y.1 aL (G' k))
theorem ZW(h:ax C E w S a β F){k:FuncId}{call:FuncId→List U→Option (U×List U)}(cS:∀k as r,call k as=some r→Sound C k as r)(EF:C.fD k=true){args:List U}{vs:List Value}(ha:ak w (aq E w F) β [] vs args){x:tX}(hx:nY call S.h k args=some x):HF C.P k ⟨vs⟩ w (CJ E w β F x):=by obtain⟨obs,outs,ho,bh,hb,j6,j7,hK,BQ,dg⟩:=Ba hx;obtain⟨hl,G,e1,e2,hpre,ng⟩:=Va h ha ho j6 j7 BQ dg;have hs:=(cS _ _ _ bh).2 EF _ _ hl rfl e1 (by rw[e2];exact j7) (fun y hy=>by have:y.1∈x.l.map (·.2):=by{rw[←e2];exact List.mem_map.2 ⟨y,hy,rfl⟩};obtain⟨z,hz,e⟩:=List.mem_map.1 this;rw[←e];exact hK z hz) w _ _ G vs hpre;have zQ:∀e w',CT w (aq E w F) (fun i=>(eE x.l i).bind β) G (x.r,outs) e w'→CJ E w β F x e w':=fun e w' hr=>by{obtain⟨I',G',fr,q1,dj,_,zn,Gr,Gs,Cc,Cd,tD⟩:=hr.ex;refine⟨G,G',fr,I',ng,hr.kept,q1,zn,Gr,Gs,Cc,Cd,tD,fun y hy aL e=> ?_⟩;obtain⟨k',rows,m1,m2,m3⟩:=(rX hb).2 y hy aL e;have BP:((x.l.map fun x=>(x.2,x.1)).map (·.2)).Nodup:=by{rw[ND];exact j6};have hm:eE (x.l.map fun x=>(x.2,x.1)) y.1=some k':=lA BP (List.mem_map.2 ⟨_,m1,rfl⟩);have:=(dj k' rows m2).jK hm (M3 BP m3);refine⟨k',m1,this.mono (fun _ h=>h) (fun _ _=>rfl) fun i lo hlo=> ?_⟩;simp only[Option.bind_eq_some_iff]at hlo;obtain⟨j,hj,i',hi',hlo⟩:=hlo;obtain⟨z,hz,e⟩:=List.mem_map.1 (mu hj);simp only[Prod.mk.injEq]at e;have:=lA j7 hz;rw[e.1,hi']at this;simp only[Option.some.injEq]at this;rw[this,e.2]at hlo;exact hlo};rcases hs with⟨fn,c,k1,k2,cD⟩|⟨v,w',k1,k2⟩;·{exact .inl ⟨fn,c,k1,k2,cD.mono zQ⟩};·exact .inr ⟨v,w',k1,zQ _ _ k2⟩
theorem acw{l:List (Id×Id)}(j6:(l.map (·.1)).Nodup)(j7:(l.map (·.2)).Nodup){i:Id}{lo:Loc}(h:((eE (l.map fun x=>(x.2,x.1)) i).bind fun i=>(eE l i).bind β)=some lo):β i=some lo:=by simp only[GT]at h;obtain⟨j,hj,i',hi',hlo⟩:=h;obtain⟨z,hz,e⟩:=List.mem_map.1 (mu hj);simp only[Ha]at e;have:=lA j7 hz;rw[e.1,hi']at this;simp only[GE]at this;rw[this,e.2]at hlo;exact hlo
theorem TT{P:Program}{o:Oper}{c:Call}{bW:Operand}(ho:o.op= .call c)(hc:c.callee= .value bW){k:FuncId}{fA fW:List Value}(jj:a.eval bW= .func (.func k) ⟨fA⟩ ⟨fW⟩):(execOp a.eval o).run P w=(callFunc k ⟨fA++c.args.toList.map a.eval++fW⟩).run P w:=by have e2:((⟨fA⟩:Array Value)++c.args.map a.eval++⟨fW⟩:Array Value)=⟨fA++c.args.toList.map a.eval++fW⟩:=by{apply Array.ext';simp};have bQ:resolve a.eval c o.type=(pure {target:= .fn (.func k) ⟨fW⟩,args:=⟨fA⟩++c.args.map a.eval}:Sem Deferred):=by{simp[resolve,hc,jj,Deferred.ofValue]};have eV:execOp a.eval o=(do let d←resolve a.eval c o.type;invoke d.target d.args:Sem Next):=by{simp[execOp,ho]};rw[eV,bQ,Sem.run_bind,Sem.run_pure,Result.andThen_ok];simp only[invoke,e2]
theorem Vb{x:U}{y:FuncId×List U×List U}(h:kF C x=some y):x= .fn (.func y.1) y.2.1 y.2.2∧C.fD y.1=true:=by unfold kF at h;split at h;·{split at h;·{rename_i hg;simp only[GE]at h;subst h;exact⟨rfl,hg⟩};·cases h};·cases h
theorem ab0{L:Id→Option (Option Rows)}{b:Id×Option Rows}(h:tI L b=true):L b.1=some b.2:=by obtain⟨i,v⟩:=b;unfold tI at h;split at h;·{rename_i h1 h2;simp only[Hk,beq_iff_eq]at h;obtain⟨⟨rfl,rfl⟩,rfl⟩:=h;simp only at h1 h2;rw[h1,h2]};·cases h
theorem NM{h0 h:Id→Option (Option Rows)}:∀{back:List (Id×Option Rows)},(∀b∈back,h b.1=h0 b.1)→(back.map (·.1)).Nodup→aI h (gY h0 back)=aI h back|[],_,_=>rfl|(i,v)::back,ha,nd=>by have ih:=NM (h0:=h0) (h:=h) (back:=back) (fun b hb=>ha b (Hc _ hb)) (List.nodup_cons.1 nd).2;unfold gY at ih⊢;simp only[List.filter_cons];split;·{simp only[aI,ih]};·rename_i hs;rw[ih];have hs:tI h0 (i,v)=true:=by{simpa using hs};funext j;simp only[aI,ai];split;·{rename_i e;subst e;rcases eP h back j with⟨x,hx,e1,_⟩|⟨_,e2⟩;·{exact absurd (List.mem_map.2 ⟨x,hx,e1⟩) (List.nodup_cons.1 nd).1};·rw[e2,ha (j,v) (Hd ..)];exact ab0 hs};·rfl
theorem ZN(hN:mI C.P)(h:ax C E w S a β F){o:Oper}{c:Call}{bW:Operand}(ho:o.op= .call c)(hc:c.callee= .value bW){f:FuncId}{call:FuncId→List U→Option (U×List U)}(cS:∀k as r,call k as=some r→Sound C k as r){y:FuncId×List U×List U}(cW:kF C (un true (S.get C bW))=some y){e:aJ}(he:mQ C f call S o y.1 (y.2.1++(c.args.toList.map fun x=>un true (S.get C x))++y.2.2)=some e)(hd:bV S e)(hn:∀a' w',aO C E (S.app e) a' w'→next a' w'):o.wp C.P a w next Q:=by obtain⟨hfn,EF⟩:=Vb cW;have hfo:=h.cQ bW;rw[hfn]at hfo;obtain⟨_,fA,fW,jj,h1,h2⟩:=hfo.lZ;have hargs:=ak.ofMap h c.args.toList;have hall:ak w (aq E w F) β [] (fA++c.args.toList.map a.eval++fW) (y.2.1++(c.args.toList.map fun x=>un true (S.get C x))++y.2.2):=(h1.append hargs).append h2;unfold mQ at he;simp only[GT]at he;obtain⟨x,hx,he⟩:=he;split at he;·{cases he};·rename_i hnp;have hnp:vr x.r=false:=by{simpa using hnp};generalize pn:(if dI C f o.dst=true then(if flat x.r=true then cI x.r else .aK)else x.r)=rr at he;split at he;·{rename_i hf;simp only[GE]at he;subst he;have o6:=ZW h cS EF hall hx;obtain⟨obs,outs,Bt,_,hb,j6,j7,_,BQ,dg⟩:=Ba hx;have hb0:=hb;have BP:((x.l.map fun x=>(x.2,x.1)).map (·.2)).Nodup:=by{rw[ND];exact j6};have zQ:∀e' w',CJ E w β F x e' w'→∃v,e'= .returned v∧next (a.put o.dst v) w':=fun e' w'⟨G,G',fr,I',q1,dj,ez,zn,Gr,Gs,Cc,Cd,tD,abc⟩=>by{obtain⟨v,rfl,hv⟩:=ez.val hnp;refine⟨v,rfl,hn _ _ ?_⟩;obtain⟨lN,uP,p1,p2,p3,mz⟩:∃(lN:Nat→Prop)(uP:List Nat),R w' lN (fun i=>(eE x.l i).bind β) uP v rr∧(uP.Nodup∧∀b∈uP,b∈fr)∧(∀b,I' b→lN b)∧(∀b,lN b→(aq E w F b∨(∃k,b∈G k)∨w.heap.size≤b)∧b<w'.heap.size∧b∉uP∧∀k,b∉G' k):=by{by_cases hz:dI C f o.dst=true;·{rw[AC hz]at pn;by_cases hfl:flat x.r=true;·{rw[AC hfl]at pn;subst pn;refine⟨fun b=>I' b∨b∈fr,[],((hv.iO hfl aX).cI (fun _ h=> .inl h) (fun _ h=> .inr h)).up,⟨List.nodup_nil,fun b hb=>by cases hb⟩,fun _ h=> .inl h,fun b hb=> ?_⟩;rcases hb with hb|hb;·{obtain⟨k1,k2,_,eX⟩:=tD b hb;exact⟨k1,k2,by simp,eX⟩};·obtain⟨k1,k2⟩:=Cd b (.inl hb);exact⟨k2.elim (fun h=> .inr (.inl h)) (fun h=> .inr (.inr h)),k1,by simp,fun k hk=>Cc k b hk hb⟩};·rw[Do hfl]at pn;subst pn;exact⟨I',[], .aK,⟨List.nodup_nil,fun b hb=>by cases hb⟩,fun _ h=>h,fun b hb=>⟨(tD b hb).1,(tD b hb).2.1,by simp,(tD b hb).2.2.2⟩⟩};·rw[Do hz]at pn;subst pn;exact⟨I',fr,hv,⟨Gs,fun _ h=>h⟩,fun _ h=>h,tD⟩};obtain⟨f2,qE,hr2⟩:=p1.aby (Gw BP rr);have Bp:f2.Nodup∧∀b∈f2,b∈uP:=by{rcases qE with rfl|rfl;·{exact⟨p2.1,fun _ h=>h⟩};·exact⟨List.nodup_nil,fun b hb=>by cases hb⟩};have W5:R w' lN β f2 v (dW (x.l.map fun x=>(x.2,x.1)) rr):=hr2.mono (fun _ h=>h) (fun _ _=>rfl) fun i lo hlo=>acw j6 j7 hlo;have j0:=A8 hf;obtain⟨β',nK,a1,a2,a3,a4,a5,a6,a7⟩:=yF (gv o) W5 Bp.1 (fun z hz=>h.dom _ (j0 z hz));have sQ:=h.y8 hd;have:=h.Vc (a':=a.put o.dst v) (t':=cm S.t (put o (imp (gv o) (dW (x.l.map fun x=>(x.2,x.1)) rr)).1 (x.l.map (·.1)) []).cG) j6 j7 dg (L3 Bt) (L5 Bt) q1 dj zn Gr (fun k b hb hm=>Cc k b hb (p2.2 b (Bp.2 b hm))) (fun b hb=>Cd b (hb.imp (fun hb=>p2.2 b (Bp.2 b hb)) id)) (fun b hb=>⟨(mz b hb).1,(mz b hb).2.1,fun hm=>(mz b hb).2.2.1 (Bp.2 b hm),(mz b hb).2.2.2⟩) (rX hb).1 (fun z hz aL e=>(abc z hz aL e).imp fun k hk=>⟨hk.1,hk.2.mono p3 (fun _ _=>rfl) (fun _ _ h=>h)⟩) a1 a2 a4 a5 a6 j0 (fun z hz=>by obtain⟨q,e⟩:=a7 z hz;rw[e];exact sQ q) (by rw[pQ];exact h.n) (put_defers ..) (fun F' hI sE t=> ?_);·{have e:aI S.h ((imp (gv o) (dW (x.l.map fun x=>(x.2,x.1)) rr)).2++(gY S.h x.back++x.gone.map fun i=>(i,none)))=aI S.h ((imp (gv o) (dW (x.l.map fun x=>(x.2,x.1)) rr)).2++(x.back++x.gone.map fun i=>(i,none))):=by{have g1:∀b∈x.back,aI S.h (x.gone.map fun i=>(i,none)) b.1=S.h b.1:=fun b hb=>by{have hb':b.1∈x.l.map (·.1):=by{rw[←(rX hb0).1];exact List.mem_map.2 ⟨b,hb,rfl⟩};rcases eP S.h (x.gone.map fun i=>(i,none)) b.1 with⟨y,hy,e1,_⟩|⟨_,e2⟩;·{obtain⟨j,hj,rfl⟩:=List.mem_map.1 hy;have e1:j=b.1:=e1;exact absurd hb' (e1▸dg j hj)};·exact e2};have g2:(x.back.map (·.1)).Nodup:=by{rw[(rX hb0).1];exact j6};rw[tR,tR,tR,tR,NM g1 g2]};have e2:S.app (put o (imp (gv o) (dW (x.l.map fun x=>(x.2,x.1)) rr)).1 (x.l.map (·.1)) ((imp (gv o) (dW (x.l.map fun x=>(x.2,x.1)) rr)).2++(gY S.h x.back++x.gone.map fun i=>(i,none))))=⟨S.n,cm S.t (put o (imp (gv o) (dW (x.l.map fun x=>(x.2,x.1)) rr)).1 (x.l.map (·.1)) []).cG,aI S.h ((imp (gv o) (dW (x.l.map fun x=>(x.2,x.1)) rr)).2++(x.back++x.gone.map fun i=>(i,none)))⟩:=by{rw[←e];rfl};rw[e2];exact this};·cases aP:o.dst with|none=>(refine .inl ⟨by simp[Act.put], ?_⟩;simp[put,aP,cm])|some d=>have hd':d<a.tmps.size:=by{rw[h.n];simpa[bV,put,aP]using hd};rw[pP a d t v hd'];by_cases ht:t=d;·{subst ht;rw[AC rfl];refine .inr ?_;have:=a3.mono (w':=w') sE (fun _ _=>rfl) (fun _ _ h=>h);simpa[put,aP,cm,ai]using this};·rw[Do ht];refine .inl ⟨rfl, ?_⟩;simp[put,aP,cm,ai,ht]};unfold Oper.wp;rw[TT ho hc jj];rcases o6 with⟨fn,code,k1,k2,cD⟩|⟨v,w',k1,k2⟩;·{rw[rq hN k1 k2];simp only[Oper.upon];refine cD.mono fun e' w' hh=> ?_;obtain⟨v,rfl,hr⟩:=zQ e' w' hh;exact hr};·rw[k1];obtain⟨v',e,hr⟩:=zQ _ w' k2;simp only[Ending.returned.injEq]at e;subst e;exact hr};·cases he
end
end Go.Ab
