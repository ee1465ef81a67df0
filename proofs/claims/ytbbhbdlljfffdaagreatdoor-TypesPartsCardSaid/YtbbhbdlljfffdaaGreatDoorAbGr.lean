import Derived.Test.YtbbhbdlljfffdaaGreatDoorAbTake
import Derived.MapKept
import Derived.Test.YtbbhbdlljfffdaaGreatDoorAbWeak
open Array renaming toList_modify→H1
open Bool renaming and_eq_true→Hc
open List renaming mem_cons_of_mem→Ha,mem_cons_self→Hb,map_cons→Hd,mem_append_left→Hk,nodup_nil→Hm,mem_append_right→Hn,mem_singleton→H2,flatMap_cons→H3
open Option renaming bind_eq_some_iff→Do,map_eq_some_iff→GT,isNone_iff_eq_none→H0
open Option.some renaming injEq→AC
open Prod.mk renaming injEq→GE
set_option linter.all false
namespace Go.Ab
open Go
def lA(e:MapEntry):List U:=[.val e.key, .val e.val]
section
variable{P:Program}{w:World}{kt et t:TypeId}{kind:TypeDesc}{kv nH z:Value}
theorem run_checkKey{b:Bool}(hk:P.underlying kt=some kind)(hs:LN kind=true):(Instr.checkKey b 10000 kt kv).run P w= .ok () w:=by show(Instr.checkKey b (9999+1) kt kv).run P w=_;unfold Instr.checkKey;rw[Sem.run_bind,eO (C:={P:=P,cw:=fun _=>none,ext:=fun _=>none,ct:=fun _=>[],eD:=fun _=>[],live:=fun _ _=>[],hU:=fun _ _=>[]}) hk,Result.andThen_ok];cases kind<;>first|(cases hs;done)|rfl
theorem OP:∀{es:List MapEntry}{r:Option Value}(i:Nat),oV kind kv (es.map lA)=some r→∃j,Instr.findNow kind kv es i=some (r.map fun v=>(j,v))|[],r,i,h=>by{simp only[List.map_nil,oV,AC]at h;subst h;exact⟨0,rfl⟩}|e::es,r,i,h=>by simp only[Hd,lA,oV]at h;unfold Instr.findNow;split at h;·{rename_i hs;simp only[AC]at h;subst h;exact⟨i,by rw[hs];rfl⟩};·{rename_i hs;obtain⟨j,hj⟩:=OP (i+1) h;exact⟨j,by rw[hs];exact hj⟩};·cases h
theorem Nu:∀{a b:ByteArray},(a==b)=true→a=b|⟨x⟩,⟨y⟩,h=>by have h':(x==y)=true:=h;rw[eq_of_beq h']
theorem Nv(a:ByteArray):(a==a)=true:=by cases a with|mk x=>show(x==x)=true;simp
theorem SZ{b:Nat}{es:Array MapEntry}{clock:Nat}(hb:w.heap[b]? =some (.map es clock)):(getObj b).run P w= .ok (.map es clock) w:=by simp[getObj,Sem.run,hb]
theorem S3{b:Nat}{es:Array MapEntry}{clock:Nat}(o:Obj)(hb:w.heap[b]? =some (.map es clock)):(setObj b o).run P w= .ok () (jw w b o):=by simp[setObj,Sem.run,hb,jw]
theorem aiq{k e:Value}(h:Instr.sameNow kind k e=some true):Instr.sameBits 10000 e k=true:=by unfold Instr.sameNow at h;split at h;·{split at h;·{rename_i a k' b hk;simp only[AC]at h;show(_&&_)=true;have:=eq_of_beq h;subst hk this;simp};·cases h};·{simp only[AC]at h;have:=Nu h;subst this;exact Nv _};·{simp only[AC]at h;have:=eq_of_beq h;subst this;show(_==_)=true;simp};·cases h
theorem So:∀{es:List MapEntry}{bh:Rows}(i:Nat),xy kind kv nH (es.map lA)=some bh→(∃j v,∃hj:j<es.length,Instr.findNow kind kv es i=some (some (i+j,v))∧Instr.sameNow kind kv es[j].key=some true∧bh=(es.modify j fun e=>{e with key:=kv,val:=nH}).map lA)∨(Instr.findNow kind kv es i=some none∧bh=es.map lA++[[.val kv, .val nH]])|[],bh,i,h=>by{simp only[List.map_nil,xy,AC]at h;subst h;exact .inr ⟨rfl,rfl⟩}|e::es,bh,i,h=>by simp only[Hd,lA,xy]at h;unfold Instr.findNow;split at h;·{rename_i hs;simp only[AC]at h;subst h;exact .inl ⟨0,e.val,by simp,by rw[hs];rfl,hs,by simp[lA]⟩};·{rename_i hs;obtain⟨y,hy,rfl⟩:=Option.map_eq_some_iff.1 h;rw[hs];rcases So (i+1) hy with⟨j,v,hj,h1,h2,rfl⟩|⟨h1,rfl⟩;·{refine .inl ⟨j+1,v,by simpa using hj, ?_,by simpa using h2,by simp[lA]⟩;rw[show i+(j+1)=i+1+j by omega];exact h1};·exact .inr ⟨h1,by simp[lA]⟩};·cases h
end
section
variable{C:aF}{E:Env}{w:World}{S:ah}{a:Act}{β:Id→Option Loc}{F:Id→List Nat}
variable{next:Act→World→Prop}{Q:Exit→Act→World→Prop}
theorem air{t:TypeId}{z:Value}(h:LI C t=some z):(∀w:World,(zeroValue t).run C.P w= .ok z w)∧ey z=true:=by unfold LI at h;split at h;·{rename_i v hv;split at h;·{rename_i hs;simp only[AC]at h;subst h;refine⟨fun w=> ?_,hs⟩;simp only[Do]at hv;obtain⟨i,hi,hz⟩:=hv;simp[zeroValue,typeInfo,hi,hz]};·cases h};·cases h
theorem Q8{t:TypeId}{kind:TypeDesc}{z:Value}(h:zH C t=some (kind,z)):∃kt et,C.P.underlying t=some (.map kt et)∧C.P.underlying kt=some kind∧LN kind=true∧(∀w:World,(zeroValue et).run C.P w= .ok z w)∧ey z=true:=by unfold zH at h;split at h;·{rename_i kt et hu;split at h;·{rename_i kind' z' hk hz;split at h;·{rename_i hs;simp only[AC,GE]at h;obtain⟨rfl,rfl⟩:=h;obtain⟨h1,h2⟩:=air hz;exact⟨kt,et,hu,hk,hs,h1,h2⟩};·cases h};·cases h};·cases h
theorem aao{w:World}{b:Nat}{es es':Array MapEntry}{c c':Nat}(h:w.heap[b]? =some (.map es c))(x:Addr):(jw w b (.map es' c')).frozen? x=w.frozen? x:=by have hb:=lt_of_heap h;unfold World.frozen? ;rw[Ah hb];by_cases hx:x.block=b;·{rw[if_pos hx,hx,h]};·rw[if_neg hx]
theorem agr(h:aL C E w S a β F){o:Oper}{t:TypeId}{r:Option Operand}(ho:o.op= .makeMap t r){e:bn}(he:sE C S o t r=some e)(hd:cA S e)(hn:∀a' w',bu C E (S.app e) a' w'→next a' w'):o.wp C.P a w next Q:=by unfold sE at he;split at he;·{rename_i d hm bA;split at he;·{rename_i hc;simp only[Hc,H0]at hc;obtain⟨rfl,hf⟩:=hc;simp only[AC]at he;subst he;have hfr:S.h [d]=none:=hf;have hd':d<S.n:=by{simpa[cA,put,bA]using hd};refine kK (v:= .map (some w.heap.size)) (w':=w.alloc (.map #[] 0)) ?_ (hn _ _ ?_);·{simp only[execOp,ho];refine nC ?_;rfl};·have e1:S.app (put o (.mr [d]) [] [([d],some [])])=⟨S.n,ak S.t d (.mr [d]),ak S.h [d] (some (some []))⟩:=by{simp[ah.app,put,bA,cT,bk]};rw[e1];have hold:∀b,b<w.heap.size→(w.alloc (.map #[] 0)).heap[b]? =w.heap[b]? :=fun b hb=>heap_alloc_old _ _ _ hb;have hnew:(w.alloc (.map #[] 0)).heap[w.heap.size]? =some (.map #[] 0):=heap_alloc_new _ _;refine h.FD bA (kill:=[d]) (l:= .map w.heap.size) (bh:=[]) (G:=[w.heap.size]) hfr (.inl rfl) (by simp[ak]) (fun i hi _=>by simp[ak,hi]) (fun hk=>absurd rfl hk) (by simp) rfl rfl (fun x=> ?_) (fun b hb _=>hold b hb) (tM hold) (by simp) (fun b hb=> ?_) (fun I' β' _ _ hb=> ?_) (fun I' β' hb=> .mr hb) hd';·{by_cases hx:x.block=w.heap.size;·{have e2:w.heap[x.block]? =none:=by{rw[hx];simp};simp only[World.frozen?,hx,hnew];simp};·rw[World.frozen?_alloc_old _ _ _ hx]};·{obtain rfl:=List.mem_singleton.1 hb;exact .inr ⟨Nat.le_refl _,by simp⟩};·exact .inr (.inl ⟨_,hb,rfl, #[],0,hnew,rfl,fun e he=>by simp at he⟩)};·cases he};·cases he
theorem aeR(h:aL C E w S a β F){x:U}{v:Value}{rows:Rows}{ids:List Id}(hx:R w (az E w F) β [] v x)(hr:xh S.h x=some (rows,ids)):(v= .map none∧rows=[])∨∃b,v= .map (some b)∧mW w b rows:=by unfold xh at hr;split at hr;·{rename_i id;split at hr;·{rename_i bh hid;simp only[AC,GE]at hr;obtain⟨rfl,rfl⟩:=hr;obtain⟨_,b,hb,rfl⟩:=hx.CH;rcases h.obj id _ hid with⟨h1,_⟩|⟨b2,h1,_,hm⟩|⟨_,_,_,_,_,_,h1,_⟩;·{rw[h1]at hb;cases hb};·{rw[h1]at hb;cases hb;exact .inr ⟨_,rfl,hm⟩};·rw[h1]at hb;cases hb};·cases hr};·{simp only[AC,GE]at hr;obtain⟨rfl,rfl⟩:=hr;obtain⟨_,b,rfl,_,hm⟩:=hx.adR;exact .inr ⟨b,rfl,hm⟩};·{simp only[AC,GE]at hr;obtain⟨rfl,rfl⟩:=hr;obtain⟨_,rfl⟩:=hx.gq;exact .inl ⟨rfl,rfl⟩};·cases hr
theorem OQ{kind:TypeDesc}{kv v:Value}:∀{es:List MapEntry},(∀e∈es,ey e.key=true∧ey e.val=true)→oV kind kv (es.map lA)=some (some v)→ey v=true|[],_,h=>by{simp[oV]at h}|e::es,hs,h=>by simp only[Hd,lA,oV]at h;split at h;·{simp only[AC]at h;subst h;exact(hs e (Hb ..)).2};·{exact OQ (fun e he=>hs e (Ha _ he)) h};·cases h
theorem ago(h:aL C E w S a β F){o:Oper}{t:TypeId}{x k:Operand}{ok:Bool}(ho:o.op= .lookup t x k ok){e:bn}(he:p8 C S o t (un true (S.get C x)) (un true (S.get C k)) ok=some e)(hd:cA S e)(hn:∀a' w',bu C E (S.app e) a' w'→next a' w'):o.wp C.P a w next Q:=by have hx:=h.dP x;have hk:=h.dP k;generalize un true (S.get C x)=xv at*;generalize un true (S.get C k)=kx at*;have hex:execOp a.eval o=(do pure (Next.value (←Instr.lookup t (a.eval x) (a.eval k) ok))):=by{simp[execOp,ho]};unfold p8 at he;split at he;·{rename_i kind z rows ids kv hm hr;obtain⟨r,hf,rfl⟩:=Option.map_eq_some_iff.1 he;obtain⟨kt,et,hu,hkt,hs,hz,hzs⟩:=Q8 hm;obtain⟨_,hkv⟩:=hk.gq;have hK:∀es:Array MapEntry,oV kind kv (es.toList.map lA)=some r→(do Instr.checkKey es.isEmpty 10000 kt (a.eval k)let y←Instr.findKey kt (a.eval k) es.toList match y with|some (_,v)=>do let x←pure (v,true)pure (if ok=true then Value.tuple #[x.1,Value.bool x.2]else x.1)|none=>do let z←zeroValue et let x←pure (z,false)pure (if ok=true then Value.tuple #[x.1,Value.bool x.2]else x.1):Sem Value).run C.P w= .ok (if ok then .tuple #[r.getD z, .bool r.isSome]else r.getD z) w:=by{intro es hf;obtain⟨j,hj⟩:=OP 0 hf;rw[Sem.run_bind,run_checkKey hkt hs,Result.andThen_ok];have BM:(Instr.findKey kt (a.eval k) es.toList).run C.P w= .ok (r.map fun v=>(j,v)) w:=by{unfold Instr.findKey;rw[Sem.run_bind,eO hkt,Result.andThen_ok,hkv,hj];rfl};rw[Sem.run_bind,BM,Result.andThen_ok];cases r with|some v=>(rfl)|none=>simp only[Option.map_none,Option.getD_none,Option.isSome_none];rw[Sem.run_bind,hz w,Result.andThen_ok];rfl};have hrun:(Instr.lookup t (a.eval x) (a.eval k) ok).run C.P w= .ok (if ok then .tuple #[r.getD z, .bool r.isSome]else r.getD z) w∧ey (r.getD z)=true:=by{unfold Instr.lookup;rw[Sem.run_bind,eO hu,Result.andThen_ok];rcases aeR h hx hr with⟨hv,rfl⟩|⟨b,hv,es,clock,hb,rfl,hsc⟩;·{refine⟨?_, ?_⟩;·{rw[hv];exact hK #[] hf};·simp only[oV,Option.some.injEq]at hf;subst hf;exact hzs};·refine⟨?_, ?_⟩;·{rw[hv];simp only;rw[Sem.run_bind,SZ hb,Result.andThen_ok];exact hK es hf};·cases r with|none=>(exact hzs)|some v=>exact OQ hsc hf};obtain⟨hrun,Qg⟩:=hrun;refine gl h hd hex hrun ?_ hn;cases ok with|false=>(exact .val Qg)|true=>exact .aT (.cons (f1:=[]) (f2:=[]) (.val Qg) (.cons (f1:=[]) (f2:=[]) (.val rfl) .nil))};·cases he
theorem RN(h:aL C E w S a β F){o:Oper}{t:TypeId}{x k v:Operand}(ho:o.op= .mapUpdate t x k v∨o.op= .insert t x k v){e:bn}
  (he:p9 C S o t (un true (S.get C x)) (un true (S.get C k)) (un true (S.get C v))=some e)(hd:cA S e)(hn:∀a' w',bu C E (S.app e) a' w'→next a' w'):o.wp C.P a w next Q:=by
 have hx:=h.dP x
 have hk:=h.dP k
 have hv:=h.dP v
 generalize un true (S.get C x)=xv at*
 generalize un true (S.get C k)=kx at*
 generalize un true (S.get C v)=vx at*
 have hex:execOp a.eval o=(do Instr.mapUpdate t (a.eval x) (a.eval k) (a.eval v);pure Next.skip):=by rcases ho with ho|ho<;>simp[execOp,ho]
 unfold p9 at he
 split at he
 ·rename_i kind z id kv nH hm
  split at he
  ·rename_i rows hid
   split at he
   ·rename_i hc
    simp only[Hc,H0]at hc
    obtain⟨⟨fc,Fm⟩,bA⟩:=hc
    obtain⟨bh,hp,rfl⟩:=Option.map_eq_some_iff.1 he
    obtain⟨kt,et,hu,hkt,hs,_,_⟩:=Q8 hm
    obtain⟨_,hkv⟩:=hk.gq
    obtain⟨_,adv⟩:=hv.gq
    obtain⟨_,b,bG,wV⟩:=hx.CH
    have BZ:=h.obj id rows hid
    obtain⟨hF,es,clock,hb,rfl,hsc⟩:F id=[b]∧mW w b rows:=by
     rcases BZ with⟨h1,_⟩|⟨b2,h1,h2,hm⟩|⟨_,_,_,_,_,_,h1,_⟩
     ·rw[h1]at bG;cases bG
     ·rw[h1]at bG;cases bG;exact⟨h2,hm⟩
     ·rw[h1]at bG;cases bG
    have mG:=lt_of_heap hb
    have key:∃es':Array MapEntry,∃c':Nat,(Instr.mapUpdate t (a.eval x) (a.eval k) (a.eval v)).run C.P w= .ok () (jw w b (.map es' c'))∧bh=es'.toList.map lA∧∀e∈es'.toList,ey e.key=true∧ey e.val=true:=by
     have pre:∀{r:Option (Nat×Value)},Instr.findNow kind kv es.toList 0=some r→(Instr.mapUpdate t (a.eval x) (a.eval k) (a.eval v)).run C.P w=(match r with
       |some (i,_)=>(do
        let key←Instr.keyThatStays (((es[i]?).map MapEntry.key).getD kv) kv
        setObj b (.map (es.modify i fun e=>{e with key,val:=nH}) clock):Sem Unit)
       |none=>setObj b (.map (es.push {key:=kv,val:=nH,born:=clock}) (clock+1))).run C.P w:=by
      intro r hr
      unfold Instr.mapUpdate
      rw[Sem.run_bind,eO hu,Result.andThen_ok]
      simp only[wV,hkv,adv]
      rw[Sem.run_bind,SZ hb,Result.andThen_ok]
      simp only
      rw[Sem.run_bind,run_checkKey hkt hs,Result.andThen_ok,Sem.run_bind]
      have BM:(Instr.findKey kt kv es.toList).run C.P w= .ok r w:=by
       unfold Instr.findKey
       rw[Sem.run_bind,eO hkt,Result.andThen_ok,hr]
       rfl
      rw[BM,Result.andThen_ok]
      cases r with
      |none=>rfl
      |some y=>rfl
     rcases So (kind:=kind) (kv:=kv) (nH:=nH) 0 hp with⟨j,v0,hj,h1,h2,rfl⟩|⟨h1,rfl⟩
     ·have hj':j<es.size:=by simpa using hj
      refine⟨es.modify j fun e=>{e with key:=kv,val:=nH},clock, ?_,by simp[H1],fun e he=> ?_⟩
      ·rw[pre h1]
       simp only[Nat.zero_add]
       have e1:((es[j]?).map MapEntry.key).getD kv=es.toList[j].key:=by simp[hj']
       rw[e1,Sem.run_bind]
       have e2:(Instr.keyThatStays es.toList[j].key kv).run C.P w= .ok kv w:=by
        unfold Instr.keyThatStays
        rw[if_pos (aiq h2)];rfl
       rw[e2,Result.andThen_ok,S3 _ hb]
      ·rw[H1]at he
       obtain⟨i,hi,rfl⟩:=List.getElem_of_mem he
       rw[List.getElem_modify]
       split
       ·exact⟨fc,Fm⟩
       ·exact hsc _ (List.getElem_mem _)
     ·refine⟨es.push {key:=kv,val:=nH,born:=clock},clock+1, ?_,by simp[lA],fun e he=> ?_⟩
      ·rw[pre h1]
       simp only
       rw[S3 _ hb]
      ·simp only[Array.toList_push,List.mem_append,H2]at he
       rcases he with he|rfl
       ·exact hsc e he
       ·exact⟨fc,Fm⟩
    obtain⟨es',c',hrun,rfl,adm⟩:=key
    have l7:∀k,(jw w b (.map es' c')).heap[k]? =if k=b then some (.map es' c')else w.heap[k]? :=Ah mG
    refine Mq (w':=jw w b (.map es' c')) (by rw[hex];exact S5 hrun) (hn _ _ ⟨β,F, ?_⟩)
    have e1:S.app (put o .bp [id] [(id,some (es'.toList.map lA))])=⟨S.n,S.t,ak S.h id (some (some (es'.toList.map lA)))⟩:=by simp[ah.app,put,bA,cT,bk]
    have e2:a.put o.dst undef=a:=by rw[bA];rfl
    rw[e1,e2]
    refine h.step (hok:=fun k r2 hk hr2=>by
     by_cases e:k=id
     ·subst e;exact⟨_,by assumption⟩
     ·exact⟨r2,by simpa[ak,e]using hr2⟩) (·=id) h.n (by simp[jw]) rfl rfl (fun x=>aao hb x) (fun bb _ eW=> ?_) (fun _ _ h=>h) (fun i bb eW=> .inl ⟨i,eW⟩) (fun i hi=>⟨rfl,by simp[ak,hi]⟩) (fun hI i hi eU hr2=> ?_) (fun i hi hno=> ?_) (fun i _=>h.nd i) (fun i j bb _ h1 h2=>h.cV i j bb h1 h2) (fun i hi=> ?_) (fun _ t=> .inl ⟨rfl,rfl⟩) (hdf:=rfl) (fu:= ?_)
    ·rw[l7,if_neg]
     intro e;subst e
     exact eW id rfl (by rw[hF];exact List.mem_singleton.2 rfl)
    ·subst hi
     simp only[ak,if_true,AC]at hr2
     subst hr2
     exact .inr (.inl ⟨b,bG,hF,es',c',by rw[l7,if_pos rfl],rfl,adm⟩)
    ·subst hi
     exact absurd (by simp[ak]) (hno (es'.toList.map lA))
    ·refine h.dom i ?_
     by_cases PY:i=id
     ·subst PY;simp[ak]at hi
     ·simpa[ak,PY]using hi
    ·intro bb n hB
     obtain⟨c2,e2,jl,hn2⟩:=hB
     refine⟨c2,e2, ?_,hn2⟩
     rw[l7,if_neg]
     ·exact jl
     ·intro e;subst e;rw[hb]at jl;cases jl
   ·cases he
  ·cases he
 ·cases he
end
end Go.Ab
namespace Go.Ab
open Go
theorem Ib{g:Id→List Nat}:∀{l:List Id},(l.flatMap g).Nodup→∀{i j:Id}{b:Nat},i∈l→j∈l→b∈g i→b∈g j→i=j|[],_,i,_,_,h,_,_,_=>by{cases h}|x::l,hn,i,j,b,hi,hj,hb,hb'=>by simp only[H3]at hn;obtain⟨_,h2,h3⟩:=List.nodup_append.1 hn;rcases List.mem_cons.1 hi with OE|hi2<;>rcases List.mem_cons.1 hj with ej|hj2;·{rw[OE,ej]};·{exact absurd rfl (h3 b (OE▸hb) b (List.mem_flatMap.2 ⟨j,hj2,hb'⟩))};·{exact absurd rfl (h3 b (ej▸hb') b (List.mem_flatMap.2 ⟨i,hi2,hb⟩))};·exact Ib h2 hi2 hj2 hb hb'
theorem OZ{g:Id→List Nat}{l:List Id}(hn:(l.flatMap g).Nodup){i:Id}(hi:i∈l):(g i).Nodup:=by induction l with|nil=>(cases hi)|cons x l ih=>simp only[H3]at hn;rcases List.mem_cons.1 hi with rfl|hi;·{exact(List.nodup_append.1 hn).1};·exact ih (List.nodup_append.1 hn).2.1 hi
theorem afb{l:List (Id×Id)}(hn:(l.map (·.2)).Nodup){k:Id}(h:k∈l.map (·.2)):∃o,fL l k=some o:=by obtain⟨x,hx,rfl⟩:=List.mem_map.1 h;exact⟨x.1,od hn hx⟩
theorem SK{l:List (Id×Id)}(hn:(l.map (·.2)).Nodup){rows bh:Rows}(h:mm l rows=some bh):ko (fL l) bh rows:=by unfold mm at h;split at h;·{rename_i hf;simp only[AC]at h;subst h;exact .of_flat hf};·exact Lq hn h
section
variable{C:aF}{E:Env}{w:World}{S:ah}{a:Act}{β:Id→Option Loc}{F:Id→List Nat}
variable{next:Act→World→Prop}{Q:Exit→Act→World→Prop}
theorem RF(h:aL C E w S a β F){l:List (Id×Id)}(hn:(l.map (·.2)).Nodup)(fc:(l.map (·.1)).Nodup):∀{r:List (Id×Id)}{obs gone},iE S.h l r=some (obs,gone)→(∀x∈r,x∈l)→(r.map (·.1)).Nodup→∃hl,uN obs=some hl∧hl.map (·.1)=r.map (·.2)∧∃(g:Id→List Nat)(rest:List Nat),(∀o k,(o,k)∈r→∀rows,(k,rows)∈hl→dK w (az E w F) (fun i=>(fL l i).bind β) k rows (g o))∧((r.map (·.1)).flatMap g++rest).Perm ((r.map (·.1)).flatMap F++gone.flatMap F)|[],obs,gone,ho,_,_=>by{simp only[iE,AC,GE]at ho;obtain⟨rfl,rfl⟩:=ho;exact⟨[],rfl,rfl,fun _=>[],[],(fun _ _ h=>by cases h),by simp⟩}|(o,k)::r,obs,gone,ho,hl,hr=>by simp only[iE]at ho;split at ho;·{rename_i rows hrows;simp only[Do,GT,GE]at ho;obtain⟨x,hx,bh,adi,⟨CM,gone'⟩,hy,rfl,rfl⟩:=ho;obtain⟨hl',e1,e2,g,rest,g1,g2⟩:=RF h hn fc hy (fun x hx=>hl x (Ha _ hx)) (List.nodup_cons.1 hr).2;have hkeep:∀i lo,s3 l i=true→β i=some lo→β i=some lo:=fun _ _ _ h=>h;obtain⟨go,ro,k1,k2⟩:=(h.obj o rows hrows).closed h.obj hkeep hx (fun _ h=>h);have hm:fL l k=some o:=od hn (hl (o,k) (Hb ..));have dL:=k1.mj hm (SK hn adi);have hno:o∉r.map (·.1):=(List.nodup_cons.1 hr).1;refine⟨(k,bh)::hl',by simp[uN,e1],by simp[e2],fun i=>if i=o then go else g i,ro++rest, ?_, ?_⟩;·{intro o2 k' hm2 eU P4;rcases List.mem_cons.1 hm2 with p2|cc;·{simp only[GE]at p2;obtain⟨rfl,rfl⟩:=p2;rcases List.mem_cons.1 P4 with p3|cZ;·{simp only[GE,true_and]at p3;subst p3;simpa using dL};·exfalso;have:k'∈r.map (·.2):=by{rw[←e2];exact List.mem_map.2 ⟨_,cZ,rfl⟩};obtain⟨⟨CK,J6⟩,h3,b7⟩:=List.mem_map.1 this;have h4:=od hn (hl _ (List.mem_cons_of_mem _ h3));have v7:J6=k':=b7;rw[v7,hm]at h4;simp only[Option.some.injEq]at h4;exact hno (h4▸List.mem_map.2 ⟨_,h3,rfl⟩)};·have hne:o2≠o:=fun e=>hno (e▸List.mem_map.2 ⟨_,cc,rfl⟩);simp only[if_neg hne];rcases List.mem_cons.1 P4 with p3|cZ;·{exfalso;simp only[GE]at p3;have h4:=od hn (hl _ (Ha _ cc));rw[p3.1,hm]at h4;simp only[AC]at h4;exact hne h4.symm};·exact g1 o2 k' cc eU cZ};·have e:(r.map (·.1)).flatMap (fun i=>if i=o then go else g i)=(r.map (·.1)).flatMap g:=by{rw[List.flatMap_def,List.flatMap_def];congr 1;refine List.map_congr_left fun i hi=> ?_;have:i≠o:=fun e=>hno (e▸hi);simp[this]};simp only[List.map_cons,List.flatMap_cons,if_true,e,List.flatMap_append];have:=rN k2 g2;rw[List.perm_iff_count]at this⊢;intro z;have:=this z;simp only[List.count_append]at this⊢;omega};·cases ho
theorem aaQ(h:aL C E w S a β F){l:List (Id×Id)}{obs:List U}{gone:List Id}{args:List U}{vs:List Value}(ha:av w (az E w F) β [] vs args)(ho:iE S.h l l=some (obs,gone))(mM:(l.map (·.1)).Nodup)(mN:(l.map (·.2)).Nodup)(FG:gone.Nodup)(dg:∀i∈gone,i∉l.map (·.1)):∃hl G,uN obs=some hl∧hl.map (·.1)=l.map (·.2)∧DN C w (az E w F) (fun i=>(fL l i).bind β) G hl vs (args.map (eY l))∧(∀k b,b∈G k→∃i,(i∈l.map (·.1)∨i∈gone)∧b∈F i):=by obtain⟨hl,e1,e2,g,rest,g1,g2⟩:=RF h mN mM ho (fun _ h=>h) mM;have hall:((l.map (·.1))++gone).Nodup:=List.nodup_append.2 ⟨mM,FG,fun x hx y hy e=>dg y hy (e▸hx)⟩;have hnd:((l.map (·.1)).flatMap g).Nodup:=by{have h1:=h.Ic hall;rw[List.flatMap_append]at h1;exact(List.nodup_append.1 (g2.nodup_iff.2 h1)).1};have hmem:∀i b,i∈l.map (·.1)→b∈g i→∃j,(j∈l.map (·.1)∨j∈gone)∧b∈F j:=fun i b hi hb=>by{have h1:b∈(l.map (·.1)).flatMap F++gone.flatMap F:=g2.mem_iff.1 (Hk _ (List.mem_flatMap.2 ⟨i,hi,hb⟩));rcases List.mem_append.1 h1 with h1|h1;·{obtain⟨j,hj,hb⟩:=List.mem_flatMap.1 h1;exact⟨j, .inl hj,hb⟩};·obtain⟨j,hj,hb⟩:=List.mem_flatMap.1 h1;exact⟨j, .inr hj,hb⟩};let G:Id→List Nat:=fun k=>match fL l k with|some o=>g o|none=>[];have en:∀k b,b∈G k→∃o,fL l k=some o∧o∈l.map (·.1)∧b∈g o:=fun k b hb=>by{simp only[G]at hb;cases ho:fL l k with|none=>(rw[ho]at hb;cases hb)|some o=>rw[ho]at hb;exact⟨o,rfl,List.mem_map.2 ⟨_,pq ho,rfl⟩,hb⟩};have abq:∀b,az E w F b→∀k,b∉G k:=fun b hb k hk=>by{obtain⟨o,_,h2,h3⟩:=en k b hk;obtain⟨j,_,h4⟩:=hmem o b h2 h3;exact hb.2.2 j h4};refine⟨hl,G,e1,e2,{args:= ?_,obj:= ?_,out:= ?_,nd:= ?_,cV:= ?_,lt:= ?_,i0:=fun b hb=>⟨hb.2.1,abq b hb⟩,cw:=fun g cs hg=>(h.cw g cs hg).o8 rfl fun _ h=>h}, ?_⟩;·{have go:∀{as:List U}{vs:List Value},av w (az E w F) β [] vs as→av w (az E w F) (fun i=>(fL l i).bind β) [] vs (as.map (eY l)):=fun{as}=>by{induction as with|nil=>(intro vs h;obtain⟨_,rfl⟩:=h.fR;exact .nil)|cons x as ih=>intro vs h;obtain⟨f1,f2,v,vs',e,rfl,h1,h2⟩:=h.cons_inv;have e':=List.append_eq_nil_iff.1 e.symm;obtain⟨rfl,rfl⟩:=e';exact R.cons (f1:=[]) (f2:=[]) (h1.mj (Lo mN x) rfl) (ih h2)};exact go ha};·{intro k rows hk;obtain⟨o,ho⟩:=afb mN (show k∈l.map (·.2)by rw[←e2];exact List.mem_map.2 ⟨_,hk,rfl⟩);have:=g1 o k (pq ho) rows hk;simpa only[G,ho]using this};·{intro k hk;rw[e2]at hk;have:fL l k=none:=by{cases hx:fL l k with|none=>(rfl)|some o=>exact absurd (List.mem_map.2 ⟨_,pq hx,rfl⟩) hk};simp[G,this]};·{intro k;simp only[G];cases ho:fL l k with|none=>(exact Hm)|some o=>exact OZ hnd (List.mem_map.2 ⟨_,pq ho,rfl⟩)};·{intro i j b hi hj;obtain⟨o,b7,h3,h4⟩:=en i b hi;obtain⟨o',gh,h5,h6⟩:=en j b hj;have:=Ib hnd h3 h5 h4 h6;subst this;exact Ii mM (pq b7) (pq gh)};·{intro k b hb;obtain⟨o,_,h2,h3⟩:=en k b hb;obtain⟨j,_,h4⟩:=hmem o b h2 h3;exact(h.lt j b h4).1};·intro k b hb;obtain⟨o,_,h2,h3⟩:=en k b hb;obtain⟨j,h4,h5⟩:=hmem o b h2 h3;exact⟨j,h4,h5⟩
theorem R.ahV{I:Nat→Prop}{m:Id→Option Id}{f:List Nat}{v:Value}{a b:U}(h:R w I β f v b)(hr:r5 m a b):∃f2,(f2=f∨f2=[])∧R w I (fun i=>(m i).bind β) f2 v a:=by cases hr with|cell hc=>(exact⟨f, .inl rfl,h.Lp hc⟩)|agg hl=>(obtain⟨vs,rfl,h⟩:=h.oK;exact⟨f, .inl rfl,av.mj hl h⟩)|aT hl=>(obtain⟨vs,rfl,hu⟩:=h.Ax;exact⟨f, .inl rfl, .aT (av.mj hl hu)⟩)|fn h1 h2=>(obtain⟨rfl,vs,cs,rfl,k1,k2⟩:=h.oW;exact⟨[], .inl rfl, .fn (av.mj h1 k1) (av.mj h2 k2)⟩)|bp=>exact⟨[], .inr rfl, .bp⟩
theorem vQ{l':List (Id×Id)}:∀{r:List (Id×Id)}{outs:List U}{back:List (Id×Option Rows)},iK l' r outs=some back→back.map (·.1)=r.map (·.1)∧∀x∈back,∀bh,x.2=some bh→∃k rows,(x.1,k)∈r∧U.bf k rows∈outs∧mm l' rows=some bh|[],[],back,h=>by{simp only[iK,AC]at h;subst h;exact⟨rfl,fun x hx=>by cases hx⟩}|[],a::outs,back,h=>by{simp[iK]at h}|(o,k)::r,[],back,h=>by{simp[iK]at h}|(o,k)::r,a::outs,back,h=>by cases a with|bf k' rows=>(simp only[iK]at h;split at h;·{rename_i e;subst e;simp only[Do,GT]at h;obtain⟨bh,h1,y,h2,rfl⟩:=h;obtain⟨i1,i2⟩:=vQ h2;refine⟨by simp[i1],fun x hx eU e=> ?_⟩;rcases List.mem_cons.1 hx with rfl|hx;·{simp only[AC]at e;subst e;exact⟨_,rows,Hb ..,Hb ..,h1⟩};·obtain⟨k2,r2,m1,m2,m3⟩:=i2 x hx eU e;exact⟨k2,r2,Ha _ m1,Ha _ m2,m3⟩};·cases h)|bp=>(simp only[iK,GT]at h;obtain⟨y,h2,rfl⟩:=h;obtain⟨i1,i2⟩:=vQ h2;refine⟨by simp[i1],fun x hx eU e=> ?_⟩;rcases List.mem_cons.1 hx with rfl|hx;·{cases e};·obtain⟨k2,r2,m1,m2,m3⟩:=i2 x hx eU e;exact⟨k2,r2,Ha _ m1,Ha _ m2,m3⟩)|_=>simp[iK]at h
theorem RC{L:Id→Option (Option Rows)}{l:List (Id×Id)}:∀{r:List (Id×Id)}{x},iE L l r=some x→∀i∈r.map (·.1),∃rows,L i=some (some rows)|[],_,_,i,hi=>by{cases hi}|(o,k)::r,x,h,i,hi=>by simp only[iE]at h;split at h;·{rename_i rows hrows;simp only[Do,GT]at h;obtain⟨_,_,_,_,y,hy,_⟩:=h;rcases List.mem_cons.1 hi with rfl|hi;·{exact⟨rows,hrows⟩};·exact RC hy i hi};·cases h
theorem ahU{l:List (Id×Id)}{i:Id}(h:i∈l.map (·.1)):∃k,fU l i=some k:=by induction l with|nil=>(cases h)|cons x l ih=>obtain⟨o,k⟩:=x;simp only[fU];split;·{exact⟨k,rfl⟩};·rename_i hne;rcases List.mem_cons.1 h with e|h;·{exact absurd e.symm hne};·exact ih h
open Classical in theorem aL.aaV(h:aL C E w S a β F){l:List (Id×Id)}{gone:List Id}{back news:List (Id×Option Rows)}{G G' qM:Id→List Nat}{fr:List Nat}{I':Nat→Prop}{w':World}{β':Id→Option Loc}{a':Act}{t':Nat→U}(mM:(l.map (·.1)).Nodup)(mN:(l.map (·.2)).Nodup)(dg:∀i∈gone,i∉l.map (·.1))(live:∀i∈l.map (·.1),∃rows,S.h i=some (some rows))(aaM:∀i∈gone,∃rows,S.h i=some (some rows))(qf:∀k b,b∈G k→∃i,(i∈l.map (·.1)∨i∈gone)∧b∈F i)(hk:Kept w w' fun b=>∃k,b∈G k)(mP:∀k,(G' k).Nodup)(xA:∀i j b,b∈G' i→b∈G' j→i=j)(Sv:∀k b,b∈G' k→b∉fr)(Gf:∀b,(b∈fr∨∃k,b∈G' k)→b<w'.heap.size∧((∃k,b∈G k)∨w.heap.size≤b))(ahL:∀b,I' b→(az E w F b∨(∃k,b∈G k)∨w.heap.size≤b)∧b<w'.heap.size∧b∉fr∧∀k,b∉G' k)(PK:back.map (·.1)=l.map (·.1))(kA:∀x∈back,∀bh,x.2=some bh→∃k,(x.1,k)∈l∧dK w' I' β x.1 bh (G' k))(i1:∀i lo,β i=some lo→β' i=some lo)(i2:∀i,(∀x∈news,x.1≠i)→β' i=β i∧qM i=[])(i3:∀x∈news,∃rows,x.2=some rows∧dK w' I' β' x.1 rows (qM x.1))(i4:∀i,(qM i).Nodup∧∀b∈qM i,b∈fr)(i5:∀i j b,b∈qM i→b∈qM j→i=j)(mH:∀x∈news,S.h x.1=none)(wM:∀x∈news,¬E.K x.1)(hn:a'.tmps.size=S.n)(hdf:a'.defers=a.defers)(B6:∀F',(∀b,az E w F b→az E w' F' b)→(∀b,I' b→az E w' F' b)→∀t,(a'.tmps.getD t undef=a.tmps.getD t undef∧t' t=S.t t)∨R w' (az E w' F') β' [] (a'.tmps.getD t undef) (t' t)):bu C E ⟨S.n,t',bk S.h (news++(back++gone.map fun i=>(i,none)))⟩ a' w':=by let hp:=bk S.h (news++(back++gone.map fun i=>(i,none)));let dB:Id→List Nat:=fun i=>if(∃rows,hp i=some (some rows))then(if i∈l.map (·.1)then(match fU l i with|some k=>G' k|none=>[])else F i++qM i)else[];have Fb:∀x∈news,x.1∉l.map (·.1):=fun x hx hm=>by{obtain⟨rows,e⟩:=live _ hm;rw[mH x hx]at e;cases e};have P6:∀x∈news,x.1∉gone:=fun x hx hm=>by{obtain⟨rows,e⟩:=aaM _ hm;rw[mH x hx]at e;cases e};have mG:∀x∈back,x.1∈l.map (·.1):=fun x hx=>by{rw[←PK];exact List.mem_map.2 ⟨x,hx,rfl⟩};have ry:∀i,(∃x∈news,x.1=i∧hp i=some x.2)∨((∀x∈news,x.1≠i)∧∃x∈back,x.1=i∧hp i=some x.2)∨((∀x∈news,x.1≠i)∧i∉l.map (·.1)∧i∈gone∧hp i=some none)∨((∀x∈news,x.1≠i)∧i∉l.map (·.1)∧i∉gone∧hp i=S.h i):=fun i=>by{rcases fV S.h (news++(back++gone.map fun i=>(i,none))) i with⟨x,hx,e1,e2⟩|⟨h1,h2⟩;·{by_cases sR:∃y∈news,y.1=i;·{obtain⟨y,hy,EB⟩:=sR;rcases List.mem_append.1 hx with hx|hx;·{exact .inl ⟨x,hx,e1,e2⟩};·exfalso;rcases List.mem_append.1 hx with hx|hx;·{exact Fb y hy (by rw[EB,←e1];exact mG x hx)};·obtain⟨j,hj,rfl⟩:=List.mem_map.1 hx;exact P6 y hy (by rw[EB,←e1];exact hj)};·have Jw:∀x∈news,x.1≠i:=fun y hy e=>sR ⟨y,hy,e⟩;rcases List.mem_append.1 hx with hx|hx;·{exact absurd e1 (Jw x hx)};·rcases List.mem_append.1 hx with hx|hx;·{exact .inr (.inl ⟨Jw,x,hx,e1,e2⟩)};·obtain⟨j,hj,rfl⟩:=List.mem_map.1 hx;have Zj:j=i:=e1;subst Zj;exact .inr (.inr (.inl ⟨Jw,dg j hj,hj,e2⟩))};·refine .inr (.inr (.inr ⟨fun x hx=>h1 x (Hk _ hx),fun hm=> ?_,fun hm=> ?_,h2⟩));·{rw[←PK]at hm;obtain⟨x,hx,e⟩:=List.mem_map.1 hm;exact h1 x (Hn _ (Hk _ hx)) e};·exact h1 (i,none) (Hn _ (Hn _ (List.mem_map.2 ⟨i,hm,rfl⟩))) rfl};have DJ:∀i b,b∈dB i→(∃k,b∈G' k∧fU l i=some k∧i∈l.map (·.1))∨(i∉l.map (·.1)∧i∉gone∧b∈F i)∨(i∉l.map (·.1)∧(∃x∈news,x.1=i)∧b∈qM i):=fun i b hb=>by{simp only[dB]at hb;split at hb;·{rename_i hal;split at hb;·{rename_i BQ;cases hr:fU l i with|none=>(rw[hr]at hb;cases hb)|some k=>rw[hr]at hb;exact .inl ⟨k,hb,rfl,BQ⟩};·rename_i BQ;rcases List.mem_append.1 hb with hb|hb;·{refine .inr (.inl ⟨BQ,fun hg=> ?_,hb⟩);obtain⟨rows,hal⟩:=hal;rcases ry i with⟨x,hx,e,_⟩|⟨_,x,hx,e,_⟩|⟨_,_,_,e⟩|⟨_,_,e,_⟩;·{exact P6 x hx (e▸hg)};·{exact BQ (e▸mG x hx)};·{rw[e]at hal;cases hal};·exact e hg};·refine .inr (.inr ⟨BQ, ?_,hb⟩);by_cases sR:∃x∈news,x.1=i;·{exact sR};·rw[(i2 i fun x hx e=>sR ⟨x,hx,e⟩).2]at hb;cases hb};·cases hb};have BA:∀b,I' b→az E w' dB b:=fun b hb=>by{obtain⟨k1,k2,dL,ie⟩:=ahL b hb;refine⟨?_,k2,fun i hm=> ?_⟩;·{rcases k1 with k1|⟨k,k1⟩|k1;·{exact k1.1};·{obtain⟨i,_,hi⟩:=qf k b k1;exact(h.lt i b hi).2.elim (fun h=> .inr (.inl h)) (fun h=> .inr (.inr h))};·exact .inr (.inr (Nat.le_trans h.kept.size k1))};·rcases DJ i b hm with⟨k,hg,_⟩|⟨n1,n2,hf⟩|⟨_,_,hg⟩;·{exact ie k hg};·{rcases k1 with k1|⟨k,k1⟩|k1;·{exact k1.2.2 i hf};·{obtain⟨j,hj,hf'⟩:=qf k b k1;have:=h.cV i j b hf hf';subst this;exact hj.elim n1 n2};·have:=(h.lt i b hf).1;omega};·exact dL ((i4 i).2 b hg)};refine⟨β',dB, ?_⟩;have ac4:∀i,¬(i∈l.map (·.1)∨i∈gone∨∃x∈news,x.1=i)→dB i=F i∧hp i=S.h i:=fun i hi=>by{have n1:i∉l.map (·.1):=fun e=>hi (.inl e);have n2:i∉gone:=fun e=>hi (.inr (.inl e));have oc:∀x∈news,x.1≠i:=fun x hx e=>hi (.inr (.inr ⟨x,hx,e⟩));have e:hp i=S.h i:=by{rcases ry i with⟨x,hx,e,_⟩|⟨_,x,hx,e,_⟩|⟨_,_,e,_⟩|⟨_,_,_,e⟩;·{exact absurd e (oc x hx)};·{exact absurd (e▸mG x hx) n1};·{exact absurd e n2};·exact e};refine⟨?_,e⟩;simp only[dB];split;·{rw[(i2 i oc).2,List.append_nil]};·rename_i hal;exact(h.dead i fun rows e'=>hal ⟨rows,by rw[e];exact e'⟩).symm};refine h.Am (fun i=>i∈l.map (·.1)∨i∈gone∨∃x∈news,x.1=i) hn hk.size hk.os hk.out hk.eD ?_ i1 ?_ ac4 ?_ ?_ ?_ ?_ ?_ ?_ (hdf:=hdf) (fu:=hk.mR) (hok:=jU.of rfl fun x hx hne=> ?_);·{intro b hb hno;refine hk.blk b hb fun⟨k,hm⟩=> ?_;obtain⟨i,hi,hf⟩:=qf k b hm;exact hno i (hi.elim .inl fun h=> .inr (.inl h)) hf};·{intro i b hb;have TD:∀{b:Nat},b<w'.heap.size∧((∃k,b∈G k)∨w.heap.size≤b)→(∃i,b∈F i)∨(w.heap.size≤b∧b<w'.heap.size):=fun⟨h1,h2⟩=>by{rcases h2 with⟨k,h2⟩|h2;·{obtain⟨i,_,hi⟩:=qf k _ h2;exact .inl ⟨i,hi⟩};·exact .inr ⟨h2,h1⟩};rcases DJ i b hb with⟨k,hg,_⟩|⟨_,_,hf⟩|⟨_,_,hg⟩;·{exact TD (Gf b (.inr ⟨k,hg⟩))};·{exact .inl ⟨i,hf⟩};·exact TD (Gf b (.inl ((i4 i).2 b hg)))};·{intro hI i _ rows hr;have hr':hp i=some (some rows):=hr;have hal:∃rows,hp i=some (some rows):=⟨rows,hr'⟩;rcases ry i with⟨x,hx,e,e2⟩|⟨sR,x,hx,e,e2⟩|⟨_,_,_,e⟩|⟨oc,n1,n2,e⟩;·{subst e;obtain⟨eU,b7,h3⟩:=i3 x hx;rw[e2,b7]at hr';simp only[AC]at hr';subst hr';have:dB x.1=qM x.1:=by{simp only[dB];rw[if_pos hal,if_neg (Fb x hx),h.dead x.1 (by rw[mH x hx];simp),List.nil_append]};rw[this];exact h3.mono BA (fun _ _=>rfl) (fun _ _ h=>h)};·{subst e;rw[e2]at hr';simp only[AC]at hr';obtain⟨k,jn,BZ⟩:=kA x hx rows hr';have:dB x.1=G' k:=by{simp only[dB];rw[if_pos hal,if_pos (mG x hx)];obtain⟨k',hk'⟩:=ahU (mG x hx);rw[hk',Ii mM jn (Ac hk')]};rw[this];exact BZ.mono BA (fun _ _=>rfl) i1};·{rw[e]at hr';cases hr'};·exfalso;rename_i jm;rcases jm with jm|jm|⟨x,hx,jm⟩;·{exact n1 jm};·{exact n2 jm};·exact oc x hx jm};·{intro i _ hno;simp only[dB];rw[if_neg];rintro⟨rows,e⟩;exact hno rows e};·{intro i _;simp only[dB];split;·{split;·{cases fU l i with|none=>(exact Hm)|some k=>exact mP k};·by_cases sR:∃x∈news,x.1=i;·{obtain⟨x,hx,rfl⟩:=sR;rw[h.dead x.1 (by rw[mH x hx];simp),List.nil_append];exact(i4 _).1};·rw[(i2 i fun x hx e=>sR ⟨x,hx,e⟩).2,List.append_nil];exact h.nd i};·exact Hm};·{intro i j b _ hi hj;have PG:∀{i j k:Id}{b:Nat},b∈G' k→j∉l.map (·.1)→j∉gone→b∈F j→False:=fun{i j k b}hg n1 n2 hf=>by{rcases(Gf b (.inr ⟨k,hg⟩)).2 with⟨k2,hk2⟩|hge;·{obtain⟨q,hq,Ja⟩:=qf k2 b hk2;have:=h.cV j q b hf Ja;subst this;exact hq.elim n1 n2};·have:=(h.lt j b hf).1;omega};have PU:∀{j:Id}{b:Nat},b∈fr→j∉l.map (·.1)→j∉gone→b∈F j→False:=fun{j b}hg n1 n2 hf=>by{rcases(Gf b (.inl hg)).2 with⟨k2,hk2⟩|hge;·{obtain⟨q,hq,Ja⟩:=qf k2 b hk2;have:=h.cV j q b hf Ja;subst this;exact hq.elim n1 n2};·have:=(h.lt j b hf).1;omega};rcases DJ i b hi with⟨k,hg,JD,_⟩|⟨n1,n2,hf⟩|⟨_,_,hg⟩<;>rcases DJ j b hj with⟨k',hg',adj,_⟩|⟨Rh,Ri,hf'⟩|⟨_,_,hg'⟩;·{have:=xA k k' b hg hg';subst this;have e1:=od mN (Ac JD);have e2:=od mN (Ac adj);rw[e1]at e2;exact Option.some.inj e2};·{exact(PG (i:=i) hg Rh Ri hf').elim};·{exact absurd ((i4 j).2 b hg') (Sv k b hg)};·{exact(PG (i:=j) hg' n1 n2 hf).elim};·{exact h.cV i j b hf hf'};·{exact(PU ((i4 j).2 b hg') n1 n2 hf).elim};·{exact absurd ((i4 i).2 b hg) (Sv k' b hg')};·{exact(PU ((i4 i).2 b hg) Rh Ri hf').elim};·exact i5 i j b hg hg'};·{intro i hi;have hi':hp i=none:=hi;rcases ry i with⟨x,hx,_,e⟩|⟨_,x,hx,_,e⟩|⟨_,_,_,e⟩|⟨oc,_,_,e⟩;·{rw[e]at hi';cases hi'};·{rw[e]at hi';cases hi'};·{rw[e]at hi';cases hi'};·rw[(i2 i oc).1];exact h.dom i (by rw[←e];exact hi')};·{intro hI;exact B6 dB hI BA};·rcases List.mem_append.1 hx with hx|hx;·{exact .inl (wM x hx)};·rcases List.mem_append.1 hx with hx|hx;·{exact .inr (live _ (mG x hx))};·obtain⟨i,_,rfl⟩:=List.mem_map.1 hx;exact absurd rfl hne
theorem AI.val{w':World}{I':Nat→Prop}{fr:List Nat}{e:Ending}{r:U}(h:AI w' I' β fr e r)(hr:zw r=false):∃v,e= .returned v∧R w' I' β fr v r:=by cases r<;>first|exact h|cases hr
theorem Yk{L:Id→Option (Option Rows)}:∀(n:Nat){a:U}{x},pk L n a=some x→∀i∈x.2,∃rows,L i=some (some rows):=by
 intro n
 induction n with
 |zero=>intro a x h;simp[pk]at h
 |succ n ih=>
  have Ig:∀{cs:List U}{x},dN (pk L n) cs=some x→∀i∈x.2,∃rows,L i=some (some rows):=fun{cs}=>by
   induction cs with
   |nil=>intro x h i hi;simp[dN]at h;subst h;cases hi
   |cons c cs wY=>
    intro x h i hi
    simp only[dN,Do,GT]at h
    obtain⟨y,hy,z,hz,rfl⟩:=h
    rcases List.mem_append.1 hi with hi|hi
    ·exact ih hy i hi
    ·exact wY hz i hi
  have Ld:∀{cs:List U}{x},gY (pk L n) cs=some x→∀i∈x.2,∃rows,L i=some (some rows):=fun h i hi=>by
   unfold gY at h
   split at h
   ·simp only[AC]at h;subst h;cases hi
   ·exact Ig h i hi
  have foldr:∀{cs:Rows}{x},dO (gY (pk L n)) cs=some x→∀i∈x.2,∃rows,L i=some (some rows):=fun{cs}=>by
   induction cs with
   |nil=>intro x h i hi;simp[dO]at h;subst h;cases hi
   |cons c cs wY=>
    intro x h i hi
    simp only[dO,Do,GT]at h
    obtain⟨y,hy,z,hz,rfl⟩:=h
    rcases List.mem_append.1 hi with hi|hi
    ·exact Ld hy i hi
    ·exact wY hz i hi
  have aho:∀{cs:Rows}{x},lO (pk L n) cs=some x→∀i∈x.2,∃rows,L i=some (some rows):=fun h i hi=>by
   unfold lO at h
   split at h
   ·simp only[AC]at h;subst h;cases hi
   ·exact foldr h i hi
  intro a x h i hi
  unfold pk at h
  repeat'(first
   |(simp only[reduceCtorEq]at h;done)
   |(simp only[AC]at h;subst h;first|(simp only[H2]at hi;subst hi;exact⟨_,by assumption⟩)|(cases hi;done))
   |(simp only[GT]at h;obtain⟨y,hy,rfl⟩:=h;first|exact Ld hy i hi|(rcases List.mem_cons.1 hi with rfl|hi;exact⟨_,by assumption⟩;first|exact aho hy i hi|exact Ld hy i hi))
   |split at h)
theorem RE{L:Id→Option (Option Rows)}{l:List (Id×Id)}:∀{r:List (Id×Id)}{x},iE L l r=some x→∀i∈x.2,∃rows,L i=some (some rows)
 |[],x,h,i,hi=>by simp only[iE,AC]at h;subst h;cases hi
 |(o,k)::r,x,h,i,hi=>by
  simp only[iE]at h
  split at h
  ·simp only[Do,GT]at h
   obtain⟨y,hy,bh,_,z,hz,rfl⟩:=h
   have Yt:∀{a:U}{x},gL L (s3 l) a=some x→∀i∈x.2,∃rows,L i=some (some rows):=fun h i hi=>by
    unfold gL at h
    repeat'(first
     |(simp only[reduceCtorEq]at h;done)
     |(simp only[AC]at h;subst h;cases hi)
     |exact Yk _ h i hi
     |split at h)
   have Ig:∀{cs:List U}{x},dN (gL L (s3 l)) cs=some x→∀i∈x.2,∃rows,L i=some (some rows):=fun{cs}=>by
    induction cs with
    |nil=>intro x h i hi;simp[dN]at h;subst h;cases hi
    |cons c cs wY=>
     intro x h i hi
     simp only[dN,Do,GT]at h
     obtain⟨y,hy,z,hz,rfl⟩:=h
     rcases List.mem_append.1 hi with hi|hi
     ·exact Yt hy i hi
     ·exact wY hz i hi
   have YH:∀{cs:List U}{x},lz L (s3 l) cs=some x→∀i∈x.2,∃rows,L i=some (some rows):=fun h i hi=>by
    unfold lz at h
    split at h
    ·simp only[AC]at h;subst h;cases hi
    ·exact Ig h i hi
   have foldr:∀{cs:Rows}{x},dO (lz L (s3 l)) cs=some x→∀i∈x.2,∃rows,L i=some (some rows):=fun{cs}=>by
    induction cs with
    |nil=>intro x h i hi;simp[dO]at h;subst h;cases hi
    |cons c cs wY=>
     intro x h i hi
     simp only[dO,Do,GT]at h
     obtain⟨y,hy,z,hz,rfl⟩:=h
     rcases List.mem_append.1 hi with hi|hi
     ·exact YH hy i hi
     ·exact wY hz i hi
   rcases List.mem_append.1 hi with hi|hi
   ·unfold nh at hy
    split at hy
    ·simp only[AC]at hy;subst hy;cases hi
    ·exact foldr hy i hi
   ·exact RE hz i hi
  ·cases h
theorem EP{call:FuncId→List U→Option (U×List U)}{L:Id→Option (Option Rows)}{k:FuncId}{args:List U}{x:xY}(h:q8 call L k args=some x):∃obs outs,iE L x.l x.l=some (obs,x.gone)∧call k (.aT obs::args.map (eY x.l))=some (x.r,outs)∧iK (x.l.map fun x=>(x.2,x.1)) x.l outs=some x.back∧(x.l.map (·.1)).Nodup∧(x.l.map (·.2)).Nodup∧(∀y∈x.l,jI y.2=true)∧x.gone.Nodup∧(∀i∈x.gone,i∉x.l.map (·.1)):=by unfold q8 Bu at h;split at h;·{rename_i obs gone ho;split at h;·{rename_i hc;simp only[Hc,List.all_eq_true]at hc;obtain⟨⟨⟨⟨c1,c2⟩,c3⟩,nN⟩,qU⟩:=hc;split at h;·{rename_i r outs bZ;obtain⟨back,hb,rfl⟩:=Option.map_eq_some_iff.1 h;refine⟨obs,outs,ho,bZ,hb,zM c1,zM c2,c3,zM nN,fun i hi hm=> ?_⟩;have:=List.all_eq_true.1 qU i hi;simp only[Bool.not_eq_true',List.contains_eq_mem,decide_eq_false_iff_not]at this;exact this hm};·cases h};·cases h};·cases h
theorem Tn{l:List (Id×Id)}:(l.map fun x=>(x.2,x.1)).map (·.2)=l.map (·.1):=by simp[Function.comp_def]
def GK(E:Env)(w:World)(β:Id→Option Loc)(F:Id→List Nat)(x:xY)(e:Ending)(w':World):Prop:=∃(G G':Id→List Nat)(fr:List Nat)(I':Nat→Prop),(∀k b,b∈G k→∃i,(i∈x.l.map (·.1)∨i∈x.gone)∧b∈F i)∧(Kept w w' fun b=>∃k,b∈G k)∧AI w' I' (fun i=>(fL x.l i).bind β) fr e x.r∧(∀k,(G' k).Nodup)∧(∀i j b,b∈G' i→b∈G' j→i=j)∧fr.Nodup∧(∀k b,b∈G' k→b∉fr)∧(∀b,(b∈fr∨∃k,b∈G' k)→b<w'.heap.size∧((∃k,b∈G k)∨w.heap.size≤b))∧(∀b,I' b→(az E w F b∨(∃k,b∈G k)∨w.heap.size≤b)∧b<w'.heap.size∧b∉fr∧∀k,b∉G' k)∧(∀y∈x.back,∀bh,y.2=some bh→∃k,(y.1,k)∈x.l∧dK w' I' β y.1 bh (G' k))
theorem age(h:aL C E w S a β F){k:FuncId}{call:FuncId→List U→Option (U×List U)}(dV:∀k as r,call k as=some r→Sound C k as r)(Jd:C.gU k=true){args:List U}{vs:List Value}(ha:av w (az E w F) β [] vs args){x:xY}(hx:q8 call S.h k args=some x):Mx C.P k ⟨vs⟩ w (GK E w β F x):=by obtain⟨obs,outs,ho,bZ,hb,mM,mN,hK,FG,dg⟩:=EP hx;obtain⟨hl,G,e1,e2,hpre,qf⟩:=aaQ h ha ho mM mN FG dg;have hs:=(dV _ _ _ bZ).2 Jd _ _ hl rfl e1 (by rw[e2];exact mN) (fun y hy=>by have:y.1∈x.l.map (·.2):=by{rw[←e2];exact List.mem_map.2 ⟨y,hy,rfl⟩};obtain⟨z,hz,e⟩:=List.mem_map.1 this;rw[←e];exact hK z hz) w _ _ G vs hpre;have Dx:∀e w',GY w (az E w F) (fun i=>(fL x.l i).bind β) G (x.r,outs) e w'→GK E w β F x e w':=fun e w' hr=>by{obtain⟨I',G',fr,q1,cc,_,eN,iF,C8,Gc,Gd,xz⟩:=hr.ex;refine⟨G,G',fr,I',qf,hr.kept,q1,eN,iF,C8,Gc,Gd,xz,fun y hy bh e=> ?_⟩;obtain⟨k',rows,m1,m2,m3⟩:=(vQ hb).2 y hy bh e;have FF:((x.l.map fun x=>(x.2,x.1)).map (·.2)).Nodup:=by{rw[Tn];exact mM};have hm:fL (x.l.map fun x=>(x.2,x.1)) y.1=some k':=od FF (List.mem_map.2 ⟨_,m1,rfl⟩);have:=(cc k' rows m2).mj hm (SK FF m3);refine⟨k',m1,this.mono (fun _ h=>h) (fun _ _=>rfl) fun i lo hlo=> ?_⟩;simp only[Option.bind_eq_some_iff]at hlo;obtain⟨j,hj,i',hi',hlo⟩:=hlo;obtain⟨z,hz,e⟩:=List.mem_map.1 (pq hj);simp only[Prod.mk.injEq]at e;have:=od mN hz;rw[e.1,hi']at this;simp only[Option.some.injEq]at this;rw[this,e.2]at hlo;exact hlo};rcases hs with⟨fn,c,k1,k2,dL⟩|⟨v,w',k1,k2⟩;·{exact .inl ⟨fn,c,k1,k2,dL.mono Dx⟩};·exact .inr ⟨v,w',k1,Dx _ _ k2⟩
theorem aiM{l:List (Id×Id)}(mM:(l.map (·.1)).Nodup)(mN:(l.map (·.2)).Nodup){i:Id}{lo:Loc}(h:((fL (l.map fun x=>(x.2,x.1)) i).bind fun i=>(fL l i).bind β)=some lo):β i=some lo:=by simp only[Do]at h;obtain⟨j,hj,i',hi',hlo⟩:=h;obtain⟨z,hz,e⟩:=List.mem_map.1 (pq hj);simp only[GE]at e;have:=od mN hz;rw[e.1,hi']at this;simp only[AC]at this;rw[this,e.2]at hlo;exact hlo
theorem ZE{P:Program}{o:Oper}{c:Call}{cN:Operand}(ho:o.op= .call c)(hc:c.callee= .value cN){k:FuncId}{gR iz:List Value}(lJ:a.eval cN= .func (.func k) ⟨gR⟩ ⟨iz⟩):(execOp a.eval o).run P w=(callFunc k ⟨gR++c.args.toList.map a.eval++iz⟩).run P w:=by have e2:((⟨gR⟩:Array Value)++c.args.map a.eval++⟨iz⟩:Array Value)=⟨gR++c.args.toList.map a.eval++iz⟩:=by{apply Array.ext';simp};have b7:resolve a.eval c o.type=(pure {target:= .fn (.func k) ⟨iz⟩,args:=⟨gR⟩++c.args.map a.eval}:Sem Deferred):=by{simp[resolve,hc,lJ,Deferred.ofValue]};have gh:execOp a.eval o=(do let d←resolve a.eval c o.type;invoke d.target d.args:Sem Next):=by{simp[execOp,ho]};rw[gh,b7,Sem.run_bind,Sem.run_pure,Result.andThen_ok];simp only[invoke,e2]
theorem aaU{x:U}{y:FuncId×List U×List U}(h:nq C x=some y):x= .fn (.func y.1) y.2.1 y.2.2∧C.gU y.1=true:=by unfold nq at h;split at h;·{split at h;·{rename_i hg;simp only[AC]at h;subst h;exact⟨rfl,hg⟩};·cases h};·cases h
theorem aip{L:Id→Option (Option Rows)}{b:Id×Option Rows}(h:rP L b=true):L b.1=some b.2:=by obtain⟨i,v⟩:=b;unfold rP at h;split at h;·{rename_i h1 h2;simp only[Hc,beq_iff_eq]at h;obtain⟨⟨rfl,rfl⟩,rfl⟩:=h;simp only at h1 h2;rw[h1,h2]};·cases h
theorem Tz{h0 h:Id→Option (Option Rows)}:∀{back:List (Id×Option Rows)},(∀b∈back,h b.1=h0 b.1)→(back.map (·.1)).Nodup→bk h (j3 h0 back)=bk h back|[],_,_=>rfl|(i,v)::back,ha,nd=>by have ih:=Tz (h0:=h0) (h:=h) (back:=back) (fun b hb=>ha b (Ha _ hb)) (List.nodup_cons.1 nd).2;unfold j3 at ih⊢;simp only[List.filter_cons];split;·{simp only[bk,ih]};·rename_i hs;rw[ih];have hs:rP h0 (i,v)=true:=by{simpa using hs};funext j;simp only[bk,ak];split;·{rename_i e;subst e;rcases fV h back j with⟨x,hx,e1,_⟩|⟨_,e2⟩;·{exact absurd (List.mem_map.2 ⟨x,hx,e1⟩) (List.nodup_cons.1 nd).1};·rw[e2,ha (j,v) (Hb ..)];exact aip hs};·rfl
theorem af5(hN:pU C.P)(h:aL C E w S a β F){o:Oper}{c:Call}{cN:Operand}(ho:o.op= .call c)(hc:c.callee= .value cN){f:FuncId}{call:FuncId→List U→Option (U×List U)}(dV:∀k as r,call k as=some r→Sound C k as r){y:FuncId×List U×List U}(dY:nq C (un true (S.get C cN))=some y){e:bn}(he:pZ C f call S o y.1 (y.2.1++(c.args.toList.map fun x=>un true (S.get C x))++y.2.2)=some e)(hd:cA S e)(hn:∀a' w',bu C E (S.app e) a' w'→next a' w'):o.wp C.P a w next Q:=by obtain⟨hfn,Jd⟩:=aaU dY;have hfo:=h.dP cN;rw[hfn]at hfo;obtain⟨_,gR,iz,lJ,h1,h2⟩:=hfo.oW;have hargs:=av.ofMap h c.args.toList;have hall:av w (az E w F) β [] (gR++c.args.toList.map a.eval++iz) (y.2.1++(c.args.toList.map fun x=>un true (S.get C x))++y.2.2):=(h1.append hargs).append h2;unfold pZ at he;simp only[Do]at he;obtain⟨x,hx,he⟩:=he;split at he;·{cases he};·rename_i hnp;have hnp:zw x.r=false:=by{simpa using hnp};generalize sS:(if eK C f o.dst=true then(if flat x.r=true then dJ x.r else .bp)else x.r)=rr at he;split at he;·{rename_i hf;simp only[AC]at he;subst he;have sO:=age h dV Jd hall hx;obtain⟨obs,outs,Fe,_,hb,mM,mN,_,FG,dg⟩:=EP hx;have hb0:=hb;have FF:((x.l.map fun x=>(x.2,x.1)).map (·.2)).Nodup:=by{rw[Tn];exact mM};have Dx:∀e' w',GK E w β F x e' w'→∃v,e'= .returned v∧next (a.put o.dst v) w':=fun e' w'⟨G,G',fr,I',q1,cc,cZ,eN,iF,C8,Gc,Gd,xz,ahE⟩=>by{obtain⟨v,rfl,hv⟩:=cZ.val hnp;refine⟨v,rfl,hn _ _ ?_⟩;obtain⟨oI,yN,p1,p2,p3,mO⟩:∃(oI:Nat→Prop)(yN:List Nat),R w' oI (fun i=>(fL x.l i).bind β) yN v rr∧(yN.Nodup∧∀b∈yN,b∈fr)∧(∀b,I' b→oI b)∧(∀b,oI b→(az E w F b∨(∃k,b∈G k)∨w.heap.size≤b)∧b<w'.heap.size∧b∉yN∧∀k,b∉G' k):=by{by_cases hz:eK C f o.dst=true;·{rw[if_pos hz]at sS;by_cases hfl:flat x.r=true;·{rw[if_pos hfl]at sS;subst sS;refine⟨fun b=>I' b∨b∈fr,[],((hv.kN hfl bS).dJ (fun _ h=> .inl h) (fun _ h=> .inr h)).up,⟨List.nodup_nil,fun b hb=>by cases hb⟩,fun _ h=> .inl h,fun b hb=> ?_⟩;rcases hb with hb|hb;·{obtain⟨k1,k2,_,ie⟩:=xz b hb;exact⟨k1,k2,by simp,ie⟩};·obtain⟨k1,k2⟩:=Gd b (.inl hb);exact⟨k2.elim (fun h=> .inr (.inl h)) (fun h=> .inr (.inr h)),k1,by simp,fun k hk=>Gc k b hk hb⟩};·rw[if_neg hfl]at sS;subst sS;exact⟨I',[], .bp,⟨List.nodup_nil,fun b hb=>by cases hb⟩,fun _ h=>h,fun b hb=>⟨(xz b hb).1,(xz b hb).2.1,by simp,(xz b hb).2.2.2⟩⟩};·rw[if_neg hz]at sS;subst sS;exact⟨I',fr,hv,⟨C8,fun _ h=>h⟩,fun _ h=>h,xz⟩};obtain⟨f2,uk,hr2⟩:=p1.ahV (Lo FF rr);have E5:f2.Nodup∧∀b∈f2,b∈yN:=by{rcases uk with rfl|rfl;·{exact⟨p2.1,fun _ h=>h⟩};·exact⟨List.nodup_nil,fun b hb=>by cases hb⟩};have adg:R w' oI β f2 v (eY (x.l.map fun x=>(x.2,x.1)) rr):=hr2.mono (fun _ h=>h) (fun _ _=>rfl) fun i lo hlo=>aiM mM mN hlo;have mH:=EN hf;obtain⟨β',qM,a1,a2,a3,a4,a5,a6,a7⟩:=Cn (iL o) adg E5.1 (fun z hz=>h.dom _ (mH z hz));have wM:=h.CJ hd;have:=h.aaV (a':=a.put o.dst v) (t':=cT S.t (put o (imp (iL o) (eY (x.l.map fun x=>(x.2,x.1)) rr)).1 (x.l.map (·.1)) []).dA) mM mN dg (RC Fe) (RE Fe) q1 cc eN iF (fun k b hb hm=>Gc k b hb (p2.2 b (E5.2 b hm))) (fun b hb=>Gd b (hb.imp (fun hb=>p2.2 b (E5.2 b hb)) id)) (fun b hb=>⟨(mO b hb).1,(mO b hb).2.1,fun hm=>(mO b hb).2.2.1 (E5.2 b hm),(mO b hb).2.2.2⟩) (vQ hb).1 (fun z hz bh e=>(ahE z hz bh e).imp fun k hk=>⟨hk.1,hk.2.mono p3 (fun _ _=>rfl) (fun _ _ h=>h)⟩) a1 a2 a4 a5 a6 mH (fun z hz=>by obtain⟨q,e⟩:=a7 z hz;rw[e];exact wM q) (by rw[th];exact h.n) (put_defers ..) (fun F' hI wz t=> ?_);·{have e:bk S.h ((imp (iL o) (eY (x.l.map fun x=>(x.2,x.1)) rr)).2++(j3 S.h x.back++x.gone.map fun i=>(i,none)))=bk S.h ((imp (iL o) (eY (x.l.map fun x=>(x.2,x.1)) rr)).2++(x.back++x.gone.map fun i=>(i,none))):=by{have g1:∀b∈x.back,bk S.h (x.gone.map fun i=>(i,none)) b.1=S.h b.1:=fun b hb=>by{have hb':b.1∈x.l.map (·.1):=by{rw[←(vQ hb0).1];exact List.mem_map.2 ⟨b,hb,rfl⟩};rcases fV S.h (x.gone.map fun i=>(i,none)) b.1 with⟨y,hy,e1,_⟩|⟨_,e2⟩;·{obtain⟨j,hj,rfl⟩:=List.mem_map.1 hy;have e1:j=b.1:=e1;exact absurd hb' (e1▸dg j hj)};·exact e2};have g2:(x.back.map (·.1)).Nodup:=by{rw[(vQ hb0).1];exact mM};rw[xQ,xQ,xQ,xQ,Tz g1 g2]};have e2:S.app (put o (imp (iL o) (eY (x.l.map fun x=>(x.2,x.1)) rr)).1 (x.l.map (·.1)) ((imp (iL o) (eY (x.l.map fun x=>(x.2,x.1)) rr)).2++(j3 S.h x.back++x.gone.map fun i=>(i,none))))=⟨S.n,cT S.t (put o (imp (iL o) (eY (x.l.map fun x=>(x.2,x.1)) rr)).1 (x.l.map (·.1)) []).dA,bk S.h ((imp (iL o) (eY (x.l.map fun x=>(x.2,x.1)) rr)).2++(x.back++x.gone.map fun i=>(i,none)))⟩:=by{rw[←e];rfl};rw[e2];exact this};·cases bA:o.dst with|none=>(refine .inl ⟨by simp[Act.put], ?_⟩;simp[put,bA,cT])|some d=>have hd':d<a.tmps.size:=by{rw[h.n];simpa[cA,put,bA]using hd};rw[tg a d t v hd'];by_cases ht:t=d;·{subst ht;rw[if_pos rfl];refine .inr ?_;have:=a3.mono (w':=w') wz (fun _ _=>rfl) (fun _ _ h=>h);simpa[put,bA,cT,ak]using this};·rw[if_neg ht];refine .inl ⟨rfl, ?_⟩;simp[put,bA,cT,ak,ht]};unfold Oper.wp;rw[ZE ho hc lJ];rcases sO with⟨fn,code,k1,k2,dL⟩|⟨v,w',k1,k2⟩;·{rw[u6 hN k1 k2];simp only[Oper.upon];refine dL.mono fun e' w' hh=> ?_;obtain⟨v,rfl,hr⟩:=Dx e' w' hh;exact hr};·rw[k1];obtain⟨v',e,hr⟩:=Dx _ w' k2;simp only[Ending.returned.injEq]at e;subst e;exact hr};·cases he
end
end Go.Ab
