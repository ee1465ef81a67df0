import Derived.Test.YtbbhbdlljfffdaaGreatDoorAbTake
import Derived.MapKept
import Derived.Test.YtbbhbdlljfffdaaGreatDoorAbWeak
open Array renaming toList_modify→H1
open Bool renaming and_eq_true→Hc
open List renaming mem_cons_of_mem→Ha,mem_cons_self→Hb,map_cons→Hd,mem_append_left→Hk,nodup_nil→Hm,mem_append_right→Hn,mem_singleton→H2,flatMap_cons→H3
open Option renaming bind_eq_some_iff→Do,map_eq_some_iff→GT,isNone_iff_eq_none→H0
open Option.some renaming injEq→AC
open Prod.mk renaming injEq→GE
set_option linter.all false
namespace Go.Ab
open Go
def kX(e:MapEntry):List U:=[.val e.key, .val e.val]
section
variable{P:Program}{w:World}{kt et t:TypeId}{kind:TypeDesc}{kv nr z:Value}
theorem run_checkKey{b:Bool}(hk:P.underlying kt=some kind)(hs:LI kind=true):(Instr.checkKey b 10000 kt kv).run P w= .ok () w:=by show(Instr.checkKey b (9999+1) kt kv).run P w=_;unfold Instr.checkKey;rw[Sem.run_bind,eO (C:={P:=P,cA:=fun _=>none,ext:=fun _=>none,cv:=fun _=>[],eD:=fun _=>[],live:=fun _ _=>[],gX:=fun _ _=>[]}) hk,Result.andThen_ok];cases kind<;>first|(cases hs;done)|rfl
theorem ON:∀{es:List MapEntry}{r:Option Value}(i:Nat),oF kind kv (es.map kX)=some r→∃j,Instr.findNow kind kv es i=some (r.map fun v=>(j,v))|[],r,i,h=>by{simp only[List.map_nil,oF,AC]at h;subst h;exact⟨0,rfl⟩}|e::es,r,i,h=>by simp only[Hd,kX,oF]at h;unfold Instr.findNow;split at h;·{rename_i hs;simp only[AC]at h;subst h;exact⟨i,by rw[hs];rfl⟩};·{rename_i hs;obtain⟨j,hj⟩:=ON (i+1) h;exact⟨j,by rw[hs];exact hj⟩};·cases h
theorem Nu:∀{a b:ByteArray},(a==b)=true→a=b|⟨x⟩,⟨y⟩,h=>by have h':(x==y)=true:=h;rw[eq_of_beq h']
theorem Nv(a:ByteArray):(a==a)=true:=by cases a with|mk x=>show(x==x)=true;simp
theorem SO{b:Nat}{es:Array MapEntry}{clock:Nat}(hb:w.heap[b]? =some (.map es clock)):(getObj b).run P w= .ok (.map es clock) w:=by simp[getObj,Sem.run,hb]
theorem SS{b:Nat}{es:Array MapEntry}{clock:Nat}(o:Obj)(hb:w.heap[b]? =some (.map es clock)):(setObj b o).run P w= .ok () (jm w b o):=by simp[setObj,Sem.run,hb,jm]
theorem aih{k e:Value}(h:Instr.sameNow kind k e=some true):Instr.sameBits 10000 e k=true:=by unfold Instr.sameNow at h;split at h;·{split at h;·{rename_i a k' b hk;simp only[AC]at h;show(_&&_)=true;have:=eq_of_beq h;subst hk this;simp};·cases h};·{simp only[AC]at h;have:=Nu h;subst this;exact Nv _};·{simp only[AC]at h;have:=eq_of_beq h;subst this;show(_==_)=true;simp};·cases h
theorem Sf:∀{es:List MapEntry}{bn:Rows}(i:Nat),w9 kind kv nr (es.map kX)=some bn→(∃j v,∃hj:j<es.length,Instr.findNow kind kv es i=some (some (i+j,v))∧Instr.sameNow kind kv es[j].key=some true∧bn=(es.modify j fun e=>{e with key:=kv,val:=nr}).map kX)∨(Instr.findNow kind kv es i=some none∧bn=es.map kX++[[.val kv, .val nr]])|[],bn,i,h=>by{simp only[List.map_nil,w9,AC]at h;subst h;exact .inr ⟨rfl,rfl⟩}|e::es,bn,i,h=>by simp only[Hd,kX,w9]at h;unfold Instr.findNow;split at h;·{rename_i hs;simp only[AC]at h;subst h;exact .inl ⟨0,e.val,by simp,by rw[hs];rfl,hs,by simp[kX]⟩};·{rename_i hs;obtain⟨y,hy,rfl⟩:=Option.map_eq_some_iff.1 h;rw[hs];rcases Sf (i+1) hy with⟨j,v,hj,h1,h2,rfl⟩|⟨h1,rfl⟩;·{refine .inl ⟨j+1,v,by simpa using hj, ?_,by simpa using h2,by simp[kX]⟩;rw[show i+(j+1)=i+1+j by omega];exact h1};·exact .inr ⟨h1,by simp[kX]⟩};·cases h
end
section
variable{C:aG}{E:Env}{w:World}{S:ah}{a:Act}{β:Id→Option Loc}{F:Id→List Nat}
variable{next:Act→World→Prop}{Q:Exit→Act→World→Prop}
theorem aii{t:TypeId}{z:Value}(h:LD C t=some z):(∀w:World,(zeroValue t).run C.P w= .ok z w)∧eB z=true:=by unfold LD at h;split at h;·{rename_i v hv;split at h;·{rename_i hs;simp only[AC]at h;subst h;refine⟨fun w=> ?_,hs⟩;simp only[Do]at hv;obtain⟨i,hi,hz⟩:=hv;simp[zeroValue,typeInfo,hi,hz]};·cases h};·cases h
theorem QY{t:TypeId}{kind:TypeDesc}{z:Value}(h:zk C t=some (kind,z)):∃kt et,C.P.underlying t=some (.map kt et)∧C.P.underlying kt=some kind∧LI kind=true∧(∀w:World,(zeroValue et).run C.P w= .ok z w)∧eB z=true:=by unfold zk at h;split at h;·{rename_i kt et hu;split at h;·{rename_i kind' z' hk hz;split at h;·{rename_i hs;simp only[AC,GE]at h;obtain⟨rfl,rfl⟩:=h;obtain⟨h1,h2⟩:=aii hz;exact⟨kt,et,hu,hk,hs,h1,h2⟩};·cases h};·cases h};·cases h
theorem aaj{w:World}{b:Nat}{es es':Array MapEntry}{c c':Nat}(h:w.heap[b]? =some (.map es c))(x:Addr):(jm w b (.map es' c')).frozen? x=w.frozen? x:=by have hb:=lt_of_heap h;unfold World.frozen? ;rw[zS hb];by_cases hx:x.block=b;·{rw[if_pos hx,hx,h]};·rw[if_neg hx]
theorem agj(h:aN C E w S a β F){o:Oper}{t:TypeId}{r:Option Operand}(ho:o.op= .makeMap t r){e:bq}(he:r8 C S o t r=some e)(hd:cF S e)(hn:∀a' w',bx C E (S.app e) a' w'→next a' w'):o.wp C.P a w next Q:=by unfold r8 at he;split at he;·{rename_i d hm bz;split at he;·{rename_i hc;simp only[Hc,H0]at hc;obtain⟨rfl,hf⟩:=hc;simp only[AC]at he;subst he;have hfr:S.h [d]=none:=hf;have hd':d<S.n:=by{simpa[cF,put,bz]using hd};refine kA (v:= .map (some w.heap.size)) (w':=w.alloc (.map #[] 0)) ?_ (hn _ _ ?_);·{simp only[execOp,ho];refine nj ?_;rfl};·have e1:S.app (put o (.mr [d]) [] [([d],some [])])=⟨S.n,ak S.t d (.mr [d]),ak S.h [d] (some (some []))⟩:=by{simp[ah.app,put,bz,cW,bp]};rw[e1];have hold:∀b,b<w.heap.size→(w.alloc (.map #[] 0)).heap[b]? =w.heap[b]? :=fun b hb=>heap_alloc_old _ _ _ hb;have hnew:(w.alloc (.map #[] 0)).heap[w.heap.size]? =some (.map #[] 0):=heap_alloc_new _ _;refine h.FA bz (kill:=[d]) (l:= .map w.heap.size) (bn:=[]) (G:=[w.heap.size]) hfr (.inl rfl) (by simp[ak]) (fun i hi _=>by simp[ak,hi]) (fun hk=>absurd rfl hk) (by simp) rfl rfl (fun x=> ?_) (fun b hb _=>hold b hb) (tq hold) (by simp) (fun b hb=> ?_) (fun I' β' _ _ hb=> ?_) (fun I' β' hb=> .mr hb) hd';·{by_cases hx:x.block=w.heap.size;·{have e2:w.heap[x.block]? =none:=by{rw[hx];simp};simp only[World.frozen?,hx,hnew];simp};·rw[World.frozen?_alloc_old _ _ _ hx]};·{obtain rfl:=List.mem_singleton.1 hb;exact .inr ⟨Nat.le_refl _,by simp⟩};·exact .inr (.inl ⟨_,hb,rfl, #[],0,hnew,rfl,fun e he=>by simp at he⟩)};·cases he};·cases he
theorem aeG(h:aN C E w S a β F){x:U}{v:Value}{rows:Rows}{ids:List Id}(hx:R w (aA E w F) β [] v x)(hr:wV S.h x=some (rows,ids)):(v= .map none∧rows=[])∨∃b,v= .map (some b)∧mH w b rows:=by unfold wV at hr;split at hr;·{rename_i id;split at hr;·{rename_i bn hid;simp only[AC,GE]at hr;obtain⟨rfl,rfl⟩:=hr;obtain⟨_,b,hb,rfl⟩:=hx.Cx;rcases h.obj id _ hid with⟨h1,_⟩|⟨b2,h1,_,hm⟩|⟨_,_,_,_,_,_,h1,_⟩;·{rw[h1]at hb;cases hb};·{rw[h1]at hb;cases hb;exact .inr ⟨_,rfl,hm⟩};·rw[h1]at hb;cases hb};·cases hr};·{simp only[AC,GE]at hr;obtain⟨rfl,rfl⟩:=hr;obtain⟨_,b,rfl,_,hm⟩:=hx.adK;exact .inr ⟨b,rfl,hm⟩};·{simp only[AC,GE]at hr;obtain⟨rfl,rfl⟩:=hr;obtain⟨_,rfl⟩:=hx.gd;exact .inl ⟨rfl,rfl⟩};·cases hr
theorem OO{kind:TypeDesc}{kv v:Value}:∀{es:List MapEntry},(∀e∈es,eB e.key=true∧eB e.val=true)→oF kind kv (es.map kX)=some (some v)→eB v=true|[],_,h=>by{simp[oF]at h}|e::es,hs,h=>by simp only[Hd,kX,oF]at h;split at h;·{simp only[AC]at h;subst h;exact(hs e (Hb ..)).2};·{exact OO (fun e he=>hs e (Ha _ he)) h};·cases h
theorem agf(h:aN C E w S a β F){o:Oper}{t:TypeId}{x k:Operand}{ok:Bool}(ho:o.op= .lookup t x k ok){e:bq}(he:pM C S o t (un true (S.get C x)) (un true (S.get C k)) ok=some e)(hd:cF S e)(hn:∀a' w',bx C E (S.app e) a' w'→next a' w'):o.wp C.P a w next Q:=by have hx:=h.dO x;have hk:=h.dO k;generalize un true (S.get C x)=xv at*;generalize un true (S.get C k)=kx at*;have hex:execOp a.eval o=(do pure (Next.value (←Instr.lookup t (a.eval x) (a.eval k) ok))):=by{simp[execOp,ho]};unfold pM at he;split at he;·{rename_i kind z rows ids kv hm hr;obtain⟨r,hf,rfl⟩:=Option.map_eq_some_iff.1 he;obtain⟨kt,et,hu,hkt,hs,hz,hzs⟩:=QY hm;obtain⟨_,hkv⟩:=hk.gd;have hK:∀es:Array MapEntry,oF kind kv (es.toList.map kX)=some r→(do Instr.checkKey es.isEmpty 10000 kt (a.eval k)let y←Instr.findKey kt (a.eval k) es.toList match y with|some (_,v)=>do let x←pure (v,true)pure (if ok=true then Value.tuple #[x.1,Value.bool x.2]else x.1)|none=>do let z←zeroValue et let x←pure (z,false)pure (if ok=true then Value.tuple #[x.1,Value.bool x.2]else x.1):Sem Value).run C.P w= .ok (if ok then .tuple #[r.getD z, .bool r.isSome]else r.getD z) w:=by{intro es hf;obtain⟨j,hj⟩:=ON 0 hf;rw[Sem.run_bind,run_checkKey hkt hs,Result.andThen_ok];have BB:(Instr.findKey kt (a.eval k) es.toList).run C.P w= .ok (r.map fun v=>(j,v)) w:=by{unfold Instr.findKey;rw[Sem.run_bind,eO hkt,Result.andThen_ok,hkv,hj];rfl};rw[Sem.run_bind,BB,Result.andThen_ok];cases r with|some v=>(rfl)|none=>simp only[Option.map_none,Option.getD_none,Option.isSome_none];rw[Sem.run_bind,hz w,Result.andThen_ok];rfl};have hrun:(Instr.lookup t (a.eval x) (a.eval k) ok).run C.P w= .ok (if ok then .tuple #[r.getD z, .bool r.isSome]else r.getD z) w∧eB (r.getD z)=true:=by{unfold Instr.lookup;rw[Sem.run_bind,eO hu,Result.andThen_ok];rcases aeG h hx hr with⟨hv,rfl⟩|⟨b,hv,es,clock,hb,rfl,hsc⟩;·{refine⟨?_, ?_⟩;·{rw[hv];exact hK #[] hf};·simp only[oF,Option.some.injEq]at hf;subst hf;exact hzs};·refine⟨?_, ?_⟩;·{rw[hv];simp only;rw[Sem.run_bind,SO hb,Result.andThen_ok];exact hK es hf};·cases r with|none=>(exact hzs)|some v=>exact OO hsc hf};obtain⟨hrun,Qb⟩:=hrun;refine ga h hd hex hrun ?_ hn;cases ok with|false=>(exact .val Qb)|true=>exact .aS (.cons (f1:=[]) (f2:=[]) (.val Qb) (.cons (f1:=[]) (f2:=[]) (.val rfl) .nil))};·cases he
theorem RD(h:aN C E w S a β F){o:Oper}{t:TypeId}{x k v:Operand}(ho:o.op= .mapUpdate t x k v∨o.op= .insert t x k v){e:bq}
  (he:pN C S o t (un true (S.get C x)) (un true (S.get C k)) (un true (S.get C v))=some e)(hd:cF S e)(hn:∀a' w',bx C E (S.app e) a' w'→next a' w'):o.wp C.P a w next Q:=by
 have hx:=h.dO x
 have hk:=h.dO k
 have hv:=h.dO v
 generalize un true (S.get C x)=xv at*
 generalize un true (S.get C k)=kx at*
 generalize un true (S.get C v)=vx at*
 have hex:execOp a.eval o=(do Instr.mapUpdate t (a.eval x) (a.eval k) (a.eval v);pure Next.skip):=by rcases ho with ho|ho<;>simp[execOp,ho]
 unfold pN at he
 split at he
 ·rename_i kind z id kv nr hm
  split at he
  ·rename_i rows hid
   split at he
   ·rename_i hc
    simp only[Hc,H0]at hc
    obtain⟨⟨gN,Qg⟩,bz⟩:=hc
    obtain⟨bn,hp,rfl⟩:=Option.map_eq_some_iff.1 he
    obtain⟨kt,et,hu,hkt,hs,_,_⟩:=QY hm
    obtain⟨_,hkv⟩:=hk.gd
    obtain⟨_,adp⟩:=hv.gd
    obtain⟨_,b,bH,wD⟩:=hx.Cx
    have BP:=h.obj id rows hid
    obtain⟨hF,es,clock,hb,rfl,hsc⟩:F id=[b]∧mH w b rows:=by
     rcases BP with⟨h1,_⟩|⟨b2,h1,h2,hm⟩|⟨_,_,_,_,_,_,h1,_⟩
     ·rw[h1]at bH;cases bH
     ·rw[h1]at bH;cases bH;exact⟨h2,hm⟩
     ·rw[h1]at bH;cases bH
    have mh:=lt_of_heap hb
    have key:∃es':Array MapEntry,∃c':Nat,(Instr.mapUpdate t (a.eval x) (a.eval k) (a.eval v)).run C.P w= .ok () (jm w b (.map es' c'))∧bn=es'.toList.map kX∧∀e∈es'.toList,eB e.key=true∧eB e.val=true:=by
     have pre:∀{r:Option (Nat×Value)},Instr.findNow kind kv es.toList 0=some r→(Instr.mapUpdate t (a.eval x) (a.eval k) (a.eval v)).run C.P w=(match r with
       |some (i,_)=>(do
        let key←Instr.keyThatStays (((es[i]?).map MapEntry.key).getD kv) kv
        setObj b (.map (es.modify i fun e=>{e with key,val:=nr}) clock):Sem Unit)
       |none=>setObj b (.map (es.push {key:=kv,val:=nr,born:=clock}) (clock+1))).run C.P w:=by
      intro r hr
      unfold Instr.mapUpdate
      rw[Sem.run_bind,eO hu,Result.andThen_ok]
      simp only[wD,hkv,adp]
      rw[Sem.run_bind,SO hb,Result.andThen_ok]
      simp only
      rw[Sem.run_bind,run_checkKey hkt hs,Result.andThen_ok,Sem.run_bind]
      have BB:(Instr.findKey kt kv es.toList).run C.P w= .ok r w:=by
       unfold Instr.findKey
       rw[Sem.run_bind,eO hkt,Result.andThen_ok,hr]
       rfl
      rw[BB,Result.andThen_ok]
      cases r with
      |none=>rfl
      |some y=>rfl
     rcases Sf (kind:=kind) (kv:=kv) (nr:=nr) 0 hp with⟨j,v0,hj,h1,h2,rfl⟩|⟨h1,rfl⟩
     ·have hj':j<es.size:=by simpa using hj
      refine⟨es.modify j fun e=>{e with key:=kv,val:=nr},clock, ?_,by simp[H1],fun e he=> ?_⟩
      ·rw[pre h1]
       simp only[Nat.zero_add]
       have e1:((es[j]?).map MapEntry.key).getD kv=es.toList[j].key:=by simp[hj']
       rw[e1,Sem.run_bind]
       have e2:(Instr.keyThatStays es.toList[j].key kv).run C.P w= .ok kv w:=by
        unfold Instr.keyThatStays
        rw[if_pos (aih h2)];rfl
       rw[e2,Result.andThen_ok,SS _ hb]
      ·rw[H1]at he
       obtain⟨i,hi,rfl⟩:=List.getElem_of_mem he
       rw[List.getElem_modify]
       split
       ·exact⟨gN,Qg⟩
       ·exact hsc _ (List.getElem_mem _)
     ·refine⟨es.push {key:=kv,val:=nr,born:=clock},clock+1, ?_,by simp[kX],fun e he=> ?_⟩
      ·rw[pre h1]
       simp only
       rw[SS _ hb]
      ·simp only[Array.toList_push,List.mem_append,H2]at he
       rcases he with he|rfl
       ·exact hsc e he
       ·exact⟨gN,Qg⟩
    obtain⟨es',c',hrun,rfl,adf⟩:=key
    have lO:∀k,(jm w b (.map es' c')).heap[k]? =if k=b then some (.map es' c')else w.heap[k]? :=zS mh
    refine Mn (w':=jm w b (.map es' c')) (by rw[hex];exact SV hrun) (hn _ _ ⟨β,F, ?_⟩)
    have e1:S.app (put o .br [id] [(id,some (es'.toList.map kX))])=⟨S.n,S.t,ak S.h id (some (some (es'.toList.map kX)))⟩:=by simp[ah.app,put,bz,cW,bp]
    have e2:a.put o.dst undef=a:=by rw[bz];rfl
    rw[e1,e2]
    refine h.step (hok:=fun k r2 hk hr2=>by
     by_cases e:k=id
     ·subst e;exact⟨_,by assumption⟩
     ·exact⟨r2,by simpa[ak,e]using hr2⟩) (·=id) h.n (by simp[jm]) rfl rfl (fun x=>aaj hb x) (fun bb _ eX=> ?_) (fun _ _ h=>h) (fun i bb eX=> .inl ⟨i,eX⟩) (fun i hi=>⟨rfl,by simp[ak,hi]⟩) (fun hI i hi eV hr2=> ?_) (fun i hi hno=> ?_) (fun i _=>h.nd i) (fun i j bb _ h1 h2=>h.cY i j bb h1 h2) (fun i hi=> ?_) (fun _ t=> .inl ⟨rfl,rfl⟩) (hdf:=rfl) (fu:= ?_)
    ·rw[lO,if_neg]
     intro e;subst e
     exact eX id rfl (by rw[hF];exact List.mem_singleton.2 rfl)
    ·subst hi
     simp only[ak,if_true,AC]at hr2
     subst hr2
     exact .inr (.inl ⟨b,bH,hF,es',c',by rw[lO,if_pos rfl],rfl,adf⟩)
    ·subst hi
     exact absurd (by simp[ak]) (hno (es'.toList.map kX))
    ·refine h.dom i ?_
     by_cases PR:i=id
     ·subst PR;simp[ak]at hi
     ·simpa[ak,PR]using hi
    ·intro bb n hB
     obtain⟨c2,e2,kj,hn2⟩:=hB
     refine⟨c2,e2, ?_,hn2⟩
     rw[lO,if_neg]
     ·exact kj
     ·intro e;subst e;rw[hb]at kj;cases kj
   ·cases he
  ·cases he
 ·cases he
end
end Go.Ab
namespace Go.Ab
open Go
theorem Ih{g:Id→List Nat}:∀{l:List Id},(l.flatMap g).Nodup→∀{i j:Id}{b:Nat},i∈l→j∈l→b∈g i→b∈g j→i=j|[],_,i,_,_,h,_,_,_=>by{cases h}|x::l,hn,i,j,b,hi,hj,hb,hb'=>by simp only[H3]at hn;obtain⟨_,h2,h3⟩:=List.nodup_append.1 hn;rcases List.mem_cons.1 hi with OD|hi2<;>rcases List.mem_cons.1 hj with ej|hj2;·{rw[OD,ej]};·{exact absurd rfl (h3 b (OD▸hb) b (List.mem_flatMap.2 ⟨j,hj2,hb'⟩))};·{exact absurd rfl (h3 b (ej▸hb') b (List.mem_flatMap.2 ⟨i,hi2,hb⟩))};·exact Ih h2 hi2 hj2 hb hb'
theorem OX{g:Id→List Nat}{l:List Id}(hn:(l.flatMap g).Nodup){i:Id}(hi:i∈l):(g i).Nodup:=by induction l with|nil=>(cases hi)|cons x l ih=>simp only[H3]at hn;rcases List.mem_cons.1 hi with rfl|hi;·{exact(List.nodup_append.1 hn).1};·exact ih (List.nodup_append.1 hn).2.1 hi
theorem ae2{l:List (Id×Id)}(hn:(l.map (·.2)).Nodup){k:Id}(h:k∈l.map (·.2)):∃o,fI l k=some o:=by obtain⟨x,hx,rfl⟩:=List.mem_map.1 h;exact⟨x.1,nX hn hx⟩
theorem SB{l:List (Id×Id)}(hn:(l.map (·.2)).Nodup){rows bn:Rows}(h:lX l rows=some bn):j7 (fI l) bn rows:=by unfold lX at h;split at h;·{rename_i hf;simp only[AC]at h;subst h;exact .of_flat hf};·exact Lm hn h
section
variable{C:aG}{E:Env}{w:World}{S:ah}{a:Act}{β:Id→Option Loc}{F:Id→List Nat}
variable{next:Act→World→Prop}{Q:Exit→Act→World→Prop}
theorem Rw(h:aN C E w S a β F){l:List (Id×Id)}(hn:(l.map (·.2)).Nodup)(gN:(l.map (·.1)).Nodup):∀{r:List (Id×Id)}{obs gone},ir S.h l r=some (obs,gone)→(∀x∈r,x∈l)→(r.map (·.1)).Nodup→∃hl,ux obs=some hl∧hl.map (·.1)=r.map (·.2)∧∃(g:Id→List Nat)(rest:List Nat),(∀o k,(o,k)∈r→∀rows,(k,rows)∈hl→dJ w (aA E w F) (fun i=>(fI l i).bind β) k rows (g o))∧((r.map (·.1)).flatMap g++rest).Perm ((r.map (·.1)).flatMap F++gone.flatMap F)|[],obs,gone,ho,_,_=>by{simp only[ir,AC,GE]at ho;obtain⟨rfl,rfl⟩:=ho;exact⟨[],rfl,rfl,fun _=>[],[],(fun _ _ h=>by cases h),by simp⟩}|(o,k)::r,obs,gone,ho,hl,hr=>by simp only[ir]at ho;split at ho;·{rename_i rows hrows;simp only[Do,GT,GE]at ho;obtain⟨x,hx,bn,ac8,⟨CD,gone'⟩,hy,rfl,rfl⟩:=ho;obtain⟨hl',e1,e2,g,rest,g1,g2⟩:=Rw h hn gN hy (fun x hx=>hl x (Ha _ hx)) (List.nodup_cons.1 hr).2;have hkeep:∀i lo,sF l i=true→β i=some lo→β i=some lo:=fun _ _ _ h=>h;obtain⟨go,ro,k1,k2⟩:=(h.obj o rows hrows).closed h.obj hkeep hx (fun _ h=>h);have hm:fI l k=some o:=nX hn (hl (o,k) (Hb ..));have ep:=k1.lW hm (SB hn ac8);have hno:o∉r.map (·.1):=(List.nodup_cons.1 hr).1;refine⟨(k,bn)::hl',by simp[ux,e1],by simp[e2],fun i=>if i=o then go else g i,ro++rest, ?_, ?_⟩;·{intro o2 k' hm2 eV PZ;rcases List.mem_cons.1 hm2 with p2|cg;·{simp only[GE]at p2;obtain⟨rfl,rfl⟩:=p2;rcases List.mem_cons.1 PZ with p3|cS;·{simp only[GE,true_and]at p3;subst p3;simpa using ep};·exfalso;have:k'∈r.map (·.2):=by{rw[←e2];exact List.mem_map.2 ⟨_,cS,rfl⟩};obtain⟨⟨Rh,JZ⟩,h3,cc⟩:=List.mem_map.1 this;have h4:=nX hn (hl _ (List.mem_cons_of_mem _ h3));have vE:JZ=k':=cc;rw[vE,hm]at h4;simp only[Option.some.injEq]at h4;exact hno (h4▸List.mem_map.2 ⟨_,h3,rfl⟩)};·have hne:o2≠o:=fun e=>hno (e▸List.mem_map.2 ⟨_,cg,rfl⟩);simp only[if_neg hne];rcases List.mem_cons.1 PZ with p3|cS;·{exfalso;simp only[GE]at p3;have h4:=nX hn (hl _ (Ha _ cg));rw[p3.1,hm]at h4;simp only[AC]at h4;exact hne h4.symm};·exact g1 o2 k' cg eV cS};·have e:(r.map (·.1)).flatMap (fun i=>if i=o then go else g i)=(r.map (·.1)).flatMap g:=by{rw[List.flatMap_def,List.flatMap_def];congr 1;refine List.map_congr_left fun i hi=> ?_;have:i≠o:=fun e=>hno (e▸hi);simp[this]};simp only[List.map_cons,List.flatMap_cons,if_true,e,List.flatMap_append];have:=ry k2 g2;rw[List.perm_iff_count]at this⊢;intro z;have:=this z;simp only[List.count_append]at this⊢;omega};·cases ho
theorem aaI(h:aN C E w S a β F){l:List (Id×Id)}{obs:List U}{gone:List Id}{args:List U}{vs:List Value}(ha:av w (aA E w F) β [] vs args)(ho:ir S.h l l=some (obs,gone))(mu:(l.map (·.1)).Nodup)(mw:(l.map (·.2)).Nodup)(FD:gone.Nodup)(dg:∀i∈gone,i∉l.map (·.1)):∃hl G,ux obs=some hl∧hl.map (·.1)=l.map (·.2)∧DK C w (aA E w F) (fun i=>(fI l i).bind β) G hl vs (args.map (eZ l))∧(∀k b,b∈G k→∃i,(i∈l.map (·.1)∨i∈gone)∧b∈F i):=by obtain⟨hl,e1,e2,g,rest,g1,g2⟩:=Rw h mw mu ho (fun _ h=>h) mu;have hall:((l.map (·.1))++gone).Nodup:=List.nodup_append.2 ⟨mu,FD,fun x hx y hy e=>dg y hy (e▸hx)⟩;have hnd:((l.map (·.1)).flatMap g).Nodup:=by{have h1:=h.Ii hall;rw[List.flatMap_append]at h1;exact(List.nodup_append.1 (g2.nodup_iff.2 h1)).1};have hmem:∀i b,i∈l.map (·.1)→b∈g i→∃j,(j∈l.map (·.1)∨j∈gone)∧b∈F j:=fun i b hi hb=>by{have h1:b∈(l.map (·.1)).flatMap F++gone.flatMap F:=g2.mem_iff.1 (Hk _ (List.mem_flatMap.2 ⟨i,hi,hb⟩));rcases List.mem_append.1 h1 with h1|h1;·{obtain⟨j,hj,hb⟩:=List.mem_flatMap.1 h1;exact⟨j, .inl hj,hb⟩};·obtain⟨j,hj,hb⟩:=List.mem_flatMap.1 h1;exact⟨j, .inr hj,hb⟩};let G:Id→List Nat:=fun k=>match fI l k with|some o=>g o|none=>[];have eu:∀k b,b∈G k→∃o,fI l k=some o∧o∈l.map (·.1)∧b∈g o:=fun k b hb=>by{simp only[G]at hb;cases ho:fI l k with|none=>(rw[ho]at hb;cases hb)|some o=>rw[ho]at hb;exact⟨o,rfl,List.mem_map.2 ⟨_,oV ho,rfl⟩,hb⟩};have abf:∀b,aA E w F b→∀k,b∉G k:=fun b hb k hk=>by{obtain⟨o,_,h2,h3⟩:=eu k b hk;obtain⟨j,_,h4⟩:=hmem o b h2 h3;exact hb.2.2 j h4};refine⟨hl,G,e1,e2,{args:= ?_,obj:= ?_,out:= ?_,nd:= ?_,cY:= ?_,lt:= ?_,i0:=fun b hb=>⟨hb.2.1,abf b hb⟩,cA:=fun g cs hg=>(h.cA g cs hg).oP rfl fun _ h=>h}, ?_⟩;·{have go:∀{as:List U}{vs:List Value},av w (aA E w F) β [] vs as→av w (aA E w F) (fun i=>(fI l i).bind β) [] vs (as.map (eZ l)):=fun{as}=>by{induction as with|nil=>(intro vs h;obtain⟨_,rfl⟩:=h.fJ;exact .nil)|cons x as ih=>intro vs h;obtain⟨f1,f2,v,vs',e,rfl,h1,h2⟩:=h.cons_inv;have e':=List.append_eq_nil_iff.1 e.symm;obtain⟨rfl,rfl⟩:=e';exact R.cons (f1:=[]) (f2:=[]) (h1.lW (Lj mw x) rfl) (ih h2)};exact go ha};·{intro k rows hk;obtain⟨o,ho⟩:=ae2 mw (show k∈l.map (·.2)by rw[←e2];exact List.mem_map.2 ⟨_,hk,rfl⟩);have:=g1 o k (oV ho) rows hk;simpa only[G,ho]using this};·{intro k hk;rw[e2]at hk;have:fI l k=none:=by{cases hx:fI l k with|none=>(rfl)|some o=>exact absurd (List.mem_map.2 ⟨_,oV hx,rfl⟩) hk};simp[G,this]};·{intro k;simp only[G];cases ho:fI l k with|none=>(exact Hm)|some o=>exact OX hnd (List.mem_map.2 ⟨_,oV ho,rfl⟩)};·{intro i j b hi hj;obtain⟨o,cc,h3,h4⟩:=eu i b hi;obtain⟨o',fX,h5,h6⟩:=eu j b hj;have:=Ih hnd h3 h5 h4 h6;subst this;exact Io mu (oV cc) (oV fX)};·{intro k b hb;obtain⟨o,_,h2,h3⟩:=eu k b hb;obtain⟨j,_,h4⟩:=hmem o b h2 h3;exact(h.lt j b h4).1};·intro k b hb;obtain⟨o,_,h2,h3⟩:=eu k b hb;obtain⟨j,h4,h5⟩:=hmem o b h2 h3;exact⟨j,h4,h5⟩
theorem R.ahK{I:Nat→Prop}{m:Id→Option Id}{f:List Nat}{v:Value}{a b:U}(h:R w I β f v b)(hr:rM m a b):∃f2,(f2=f∨f2=[])∧R w I (fun i=>(m i).bind β) f2 v a:=by cases hr with|cell hc=>(exact⟨f, .inl rfl,h.Ll hc⟩)|agg hl=>(obtain⟨vs,rfl,h⟩:=h.ov;exact⟨f, .inl rfl,av.lW hl h⟩)|aS hl=>(obtain⟨vs,rfl,hu⟩:=h.Af;exact⟨f, .inl rfl, .aS (av.lW hl hu)⟩)|fn h1 h2=>(obtain⟨rfl,vs,cs,rfl,k1,k2⟩:=h.oG;exact⟨[], .inl rfl, .fn (av.lW h1 k1) (av.lW h2 k2)⟩)|br=>exact⟨[], .inr rfl, .br⟩
theorem vr{l':List (Id×Id)}:∀{r:List (Id×Id)}{outs:List U}{back:List (Id×Option Rows)},iE l' r outs=some back→back.map (·.1)=r.map (·.1)∧∀x∈back,∀bn,x.2=some bn→∃k rows,(x.1,k)∈r∧U.bl k rows∈outs∧lX l' rows=some bn|[],[],back,h=>by{simp only[iE,AC]at h;subst h;exact⟨rfl,fun x hx=>by cases hx⟩}|[],a::outs,back,h=>by{simp[iE]at h}|(o,k)::r,[],back,h=>by{simp[iE]at h}|(o,k)::r,a::outs,back,h=>by cases a with|bl k' rows=>(simp only[iE]at h;split at h;·{rename_i e;subst e;simp only[Do,GT]at h;obtain⟨bn,h1,y,h2,rfl⟩:=h;obtain⟨i1,i2⟩:=vr h2;refine⟨by simp[i1],fun x hx eV e=> ?_⟩;rcases List.mem_cons.1 hx with rfl|hx;·{simp only[AC]at e;subst e;exact⟨_,rows,Hb ..,Hb ..,h1⟩};·obtain⟨k2,r2,m1,m2,m3⟩:=i2 x hx eV e;exact⟨k2,r2,Ha _ m1,Ha _ m2,m3⟩};·cases h)|br=>(simp only[iE,GT]at h;obtain⟨y,h2,rfl⟩:=h;obtain⟨i1,i2⟩:=vr h2;refine⟨by simp[i1],fun x hx eV e=> ?_⟩;rcases List.mem_cons.1 hx with rfl|hx;·{cases e};·obtain⟨k2,r2,m1,m2,m3⟩:=i2 x hx eV e;exact⟨k2,r2,Ha _ m1,Ha _ m2,m3⟩)|_=>simp[iE]at h
theorem Rt{L:Id→Option (Option Rows)}{l:List (Id×Id)}:∀{r:List (Id×Id)}{x},ir L l r=some x→∀i∈r.map (·.1),∃rows,L i=some (some rows)|[],_,_,i,hi=>by{cases hi}|(o,k)::r,x,h,i,hi=>by simp only[ir]at h;split at h;·{rename_i rows hrows;simp only[Do,GT]at h;obtain⟨_,_,_,_,y,hy,_⟩:=h;rcases List.mem_cons.1 hi with rfl|hi;·{exact⟨rows,hrows⟩};·exact Rt hy i hi};·cases h
theorem ahJ{l:List (Id×Id)}{i:Id}(h:i∈l.map (·.1)):∃k,fR l i=some k:=by induction l with|nil=>(cases h)|cons x l ih=>obtain⟨o,k⟩:=x;simp only[fR];split;·{exact⟨k,rfl⟩};·rename_i hne;rcases List.mem_cons.1 h with e|h;·{exact absurd e.symm hne};·exact ih h
open Classical in theorem aN.aaN(h:aN C E w S a β F){l:List (Id×Id)}{gone:List Id}{back news:List (Id×Option Rows)}{G G' qx:Id→List Nat}{fr:List Nat}{I':Nat→Prop}{w':World}{β':Id→Option Loc}{a':Act}{t':Nat→U}(mu:(l.map (·.1)).Nodup)(mw:(l.map (·.2)).Nodup)(dg:∀i∈gone,i∉l.map (·.1))(live:∀i∈l.map (·.1),∃rows,S.h i=some (some rows))(aaF:∀i∈gone,∃rows,S.h i=some (some rows))(pV:∀k b,b∈G k→∃i,(i∈l.map (·.1)∨i∈gone)∧b∈F i)(hk:Kept w w' fun b=>∃k,b∈G k)(mz:∀k,(G' k).Nodup)(xd:∀i j b,b∈G' i→b∈G' j→i=j)(Sl:∀k b,b∈G' k→b∉fr)(F8:∀b,(b∈fr∨∃k,b∈G' k)→b<w'.heap.size∧((∃k,b∈G k)∨w.heap.size≤b))(ahA:∀b,I' b→(aA E w F b∨(∃k,b∈G k)∨w.heap.size≤b)∧b<w'.heap.size∧b∉fr∧∀k,b∉G' k)(PG:back.map (·.1)=l.map (·.1))(kg:∀x∈back,∀bn,x.2=some bn→∃k,(x.1,k)∈l∧dJ w' I' β x.1 bn (G' k))(i1:∀i lo,β i=some lo→β' i=some lo)(i2:∀i,(∀x∈news,x.1≠i)→β' i=β i∧qx i=[])(i3:∀x∈news,∃rows,x.2=some rows∧dJ w' I' β' x.1 rows (qx x.1))(i4:∀i,(qx i).Nodup∧∀b∈qx i,b∈fr)(i5:∀i j b,b∈qx i→b∈qx j→i=j)(mj:∀x∈news,S.h x.1=none)(wj:∀x∈news,¬E.K x.1)(hn:a'.tmps.size=S.n)(hdf:a'.defers=a.defers)(BW:∀F',(∀b,aA E w F b→aA E w' F' b)→(∀b,I' b→aA E w' F' b)→∀t,(a'.tmps.getD t undef=a.tmps.getD t undef∧t' t=S.t t)∨R w' (aA E w' F') β' [] (a'.tmps.getD t undef) (t' t)):bx C E ⟨S.n,t',bp S.h (news++(back++gone.map fun i=>(i,none)))⟩ a' w':=by let hp:=bp S.h (news++(back++gone.map fun i=>(i,none)));let dB:Id→List Nat:=fun i=>if(∃rows,hp i=some (some rows))then(if i∈l.map (·.1)then(match fR l i with|some k=>G' k|none=>[])else F i++qx i)else[];have E7:∀x∈news,x.1∉l.map (·.1):=fun x hx hm=>by{obtain⟨rows,e⟩:=live _ hm;rw[mj x hx]at e;cases e};have P1:∀x∈news,x.1∉gone:=fun x hx hm=>by{obtain⟨rows,e⟩:=aaF _ hm;rw[mj x hx]at e;cases e};have mh:∀x∈back,x.1∈l.map (·.1):=fun x hx=>by{rw[←PG];exact List.mem_map.2 ⟨x,hx,rfl⟩};have qW:∀i,(∃x∈news,x.1=i∧hp i=some x.2)∨((∀x∈news,x.1≠i)∧∃x∈back,x.1=i∧hp i=some x.2)∨((∀x∈news,x.1≠i)∧i∉l.map (·.1)∧i∈gone∧hp i=some none)∨((∀x∈news,x.1≠i)∧i∉l.map (·.1)∧i∉gone∧hp i=S.h i):=fun i=>by{rcases fS S.h (news++(back++gone.map fun i=>(i,none))) i with⟨x,hx,e1,e2⟩|⟨h1,h2⟩;·{by_cases sv:∃y∈news,y.1=i;·{obtain⟨y,hy,Ev⟩:=sv;rcases List.mem_append.1 hx with hx|hx;·{exact .inl ⟨x,hx,e1,e2⟩};·exfalso;rcases List.mem_append.1 hx with hx|hx;·{exact E7 y hy (by rw[Ev,←e1];exact mh x hx)};·obtain⟨j,hj,rfl⟩:=List.mem_map.1 hx;exact P1 y hy (by rw[Ev,←e1];exact hj)};·have Jn:∀x∈news,x.1≠i:=fun y hy e=>sv ⟨y,hy,e⟩;rcases List.mem_append.1 hx with hx|hx;·{exact absurd e1 (Jn x hx)};·rcases List.mem_append.1 hx with hx|hx;·{exact .inr (.inl ⟨Jn,x,hx,e1,e2⟩)};·obtain⟨j,hj,rfl⟩:=List.mem_map.1 hx;have Zg:j=i:=e1;subst Zg;exact .inr (.inr (.inl ⟨Jn,dg j hj,hj,e2⟩))};·refine .inr (.inr (.inr ⟨fun x hx=>h1 x (Hk _ hx),fun hm=> ?_,fun hm=> ?_,h2⟩));·{rw[←PG]at hm;obtain⟨x,hx,e⟩:=List.mem_map.1 hm;exact h1 x (Hn _ (Hk _ hx)) e};·exact h1 (i,none) (Hn _ (Hn _ (List.mem_map.2 ⟨i,hm,rfl⟩))) rfl};have DG:∀i b,b∈dB i→(∃k,b∈G' k∧fR l i=some k∧i∈l.map (·.1))∨(i∉l.map (·.1)∧i∉gone∧b∈F i)∨(i∉l.map (·.1)∧(∃x∈news,x.1=i)∧b∈qx i):=fun i b hb=>by{simp only[dB]at hb;split at hb;·{rename_i hal;split at hb;·{rename_i BH;cases hr:fR l i with|none=>(rw[hr]at hb;cases hb)|some k=>rw[hr]at hb;exact .inl ⟨k,hb,rfl,BH⟩};·rename_i BH;rcases List.mem_append.1 hb with hb|hb;·{refine .inr (.inl ⟨BH,fun hg=> ?_,hb⟩);obtain⟨rows,hal⟩:=hal;rcases qW i with⟨x,hx,e,_⟩|⟨_,x,hx,e,_⟩|⟨_,_,_,e⟩|⟨_,_,e,_⟩;·{exact P1 x hx (e▸hg)};·{exact BH (e▸mh x hx)};·{rw[e]at hal;cases hal};·exact e hg};·refine .inr (.inr ⟨BH, ?_,hb⟩);by_cases sv:∃x∈news,x.1=i;·{exact sv};·rw[(i2 i fun x hx e=>sv ⟨x,hx,e⟩).2]at hb;cases hb};·cases hb};have Bp:∀b,I' b→aA E w' dB b:=fun b hb=>by{obtain⟨k1,k2,ep,gO⟩:=ahA b hb;refine⟨?_,k2,fun i hm=> ?_⟩;·{rcases k1 with k1|⟨k,k1⟩|k1;·{exact k1.1};·{obtain⟨i,_,hi⟩:=pV k b k1;exact(h.lt i b hi).2.elim (fun h=> .inr (.inl h)) (fun h=> .inr (.inr h))};·exact .inr (.inr (Nat.le_trans h.kept.size k1))};·rcases DG i b hm with⟨k,hg,_⟩|⟨n1,n2,hf⟩|⟨_,_,hg⟩;·{exact gO k hg};·{rcases k1 with k1|⟨k,k1⟩|k1;·{exact k1.2.2 i hf};·{obtain⟨j,hj,hf'⟩:=pV k b k1;have:=h.cY i j b hf hf';subst this;exact hj.elim n1 n2};·have:=(h.lt i b hf).1;omega};·exact ep ((i4 i).2 b hg)};refine⟨β',dB, ?_⟩;have acT:∀i,¬(i∈l.map (·.1)∨i∈gone∨∃x∈news,x.1=i)→dB i=F i∧hp i=S.h i:=fun i hi=>by{have n1:i∉l.map (·.1):=fun e=>hi (.inl e);have n2:i∉gone:=fun e=>hi (.inr (.inl e));have mq:∀x∈news,x.1≠i:=fun x hx e=>hi (.inr (.inr ⟨x,hx,e⟩));have e:hp i=S.h i:=by{rcases qW i with⟨x,hx,e,_⟩|⟨_,x,hx,e,_⟩|⟨_,_,e,_⟩|⟨_,_,_,e⟩;·{exact absurd e (mq x hx)};·{exact absurd (e▸mh x hx) n1};·{exact absurd e n2};·exact e};refine⟨?_,e⟩;simp only[dB];split;·{rw[(i2 i mq).2,List.append_nil]};·rename_i hal;exact(h.dead i fun rows e'=>hal ⟨rows,by rw[e];exact e'⟩).symm};refine h.zX (fun i=>i∈l.map (·.1)∨i∈gone∨∃x∈news,x.1=i) hn hk.size hk.os hk.out hk.eD ?_ i1 ?_ acT ?_ ?_ ?_ ?_ ?_ ?_ (hdf:=hdf) (fu:=hk.mB) (hok:=jJ.of rfl fun x hx hne=> ?_);·{intro b hb hno;refine hk.blk b hb fun⟨k,hm⟩=> ?_;obtain⟨i,hi,hf⟩:=pV k b hm;exact hno i (hi.elim .inl fun h=> .inr (.inl h)) hf};·{intro i b hb;have Tr:∀{b:Nat},b<w'.heap.size∧((∃k,b∈G k)∨w.heap.size≤b)→(∃i,b∈F i)∨(w.heap.size≤b∧b<w'.heap.size):=fun⟨h1,h2⟩=>by{rcases h2 with⟨k,h2⟩|h2;·{obtain⟨i,_,hi⟩:=pV k _ h2;exact .inl ⟨i,hi⟩};·exact .inr ⟨h2,h1⟩};rcases DG i b hb with⟨k,hg,_⟩|⟨_,_,hf⟩|⟨_,_,hg⟩;·{exact Tr (F8 b (.inr ⟨k,hg⟩))};·{exact .inl ⟨i,hf⟩};·exact Tr (F8 b (.inl ((i4 i).2 b hg)))};·{intro hI i _ rows hr;have hr':hp i=some (some rows):=hr;have hal:∃rows,hp i=some (some rows):=⟨rows,hr'⟩;rcases qW i with⟨x,hx,e,e2⟩|⟨sv,x,hx,e,e2⟩|⟨_,_,_,e⟩|⟨mq,n1,n2,e⟩;·{subst e;obtain⟨eV,cc,h3⟩:=i3 x hx;rw[e2,cc]at hr';simp only[AC]at hr';subst hr';have:dB x.1=qx x.1:=by{simp only[dB];rw[if_pos hal,if_neg (E7 x hx),h.dead x.1 (by rw[mj x hx];simp),List.nil_append]};rw[this];exact h3.mono Bp (fun _ _=>rfl) (fun _ _ h=>h)};·{subst e;rw[e2]at hr';simp only[AC]at hr';obtain⟨k,mo,BP⟩:=kg x hx rows hr';have:dB x.1=G' k:=by{simp only[dB];rw[if_pos hal,if_pos (mh x hx)];obtain⟨k',hk'⟩:=ahJ (mh x hx);rw[hk',Io mu mo (zO hk')]};rw[this];exact BP.mono Bp (fun _ _=>rfl) i1};·{rw[e]at hr';cases hr'};·exfalso;rename_i jf;rcases jf with jf|jf|⟨x,hx,jf⟩;·{exact n1 jf};·{exact n2 jf};·exact mq x hx jf};·{intro i _ hno;simp only[dB];rw[if_neg];rintro⟨rows,e⟩;exact hno rows e};·{intro i _;simp only[dB];split;·{split;·{cases fR l i with|none=>(exact Hm)|some k=>exact mz k};·by_cases sv:∃x∈news,x.1=i;·{obtain⟨x,hx,rfl⟩:=sv;rw[h.dead x.1 (by rw[mj x hx];simp),List.nil_append];exact(i4 _).1};·rw[(i2 i fun x hx e=>sv ⟨x,hx,e⟩).2,List.append_nil];exact h.nd i};·exact Hm};·{intro i j b _ hi hj;have PD:∀{i j k:Id}{b:Nat},b∈G' k→j∉l.map (·.1)→j∉gone→b∈F j→False:=fun{i j k b}hg n1 n2 hf=>by{rcases(F8 b (.inr ⟨k,hg⟩)).2 with⟨k2,hk2⟩|hge;·{obtain⟨q,hq,I7⟩:=pV k2 b hk2;have:=h.cY j q b hf I7;subst this;exact hq.elim n1 n2};·have:=(h.lt j b hf).1;omega};have PM:∀{j:Id}{b:Nat},b∈fr→j∉l.map (·.1)→j∉gone→b∈F j→False:=fun{j b}hg n1 n2 hf=>by{rcases(F8 b (.inl hg)).2 with⟨k2,hk2⟩|hge;·{obtain⟨q,hq,I7⟩:=pV k2 b hk2;have:=h.cY j q b hf I7;subst this;exact hq.elim n1 n2};·have:=(h.lt j b hf).1;omega};rcases DG i b hi with⟨k,hg,Jt,_⟩|⟨n1,n2,hf⟩|⟨_,_,hg⟩<;>rcases DG j b hj with⟨k',hg',ac9,_⟩|⟨Q7,Q8,hf'⟩|⟨_,_,hg'⟩;·{have:=xd k k' b hg hg';subst this;have e1:=nX mw (zO Jt);have e2:=nX mw (zO ac9);rw[e1]at e2;exact Option.some.inj e2};·{exact(PD (i:=i) hg Q7 Q8 hf').elim};·{exact absurd ((i4 j).2 b hg') (Sl k b hg)};·{exact(PD (i:=j) hg' n1 n2 hf).elim};·{exact h.cY i j b hf hf'};·{exact(PM ((i4 j).2 b hg') n1 n2 hf).elim};·{exact absurd ((i4 i).2 b hg) (Sl k' b hg')};·{exact(PM ((i4 i).2 b hg) Q7 Q8 hf').elim};·exact i5 i j b hg hg'};·{intro i hi;have hi':hp i=none:=hi;rcases qW i with⟨x,hx,_,e⟩|⟨_,x,hx,_,e⟩|⟨_,_,_,e⟩|⟨mq,_,_,e⟩;·{rw[e]at hi';cases hi'};·{rw[e]at hi';cases hi'};·{rw[e]at hi';cases hi'};·rw[(i2 i mq).1];exact h.dom i (by rw[←e];exact hi')};·{intro hI;exact BW dB hI Bp};·rcases List.mem_append.1 hx with hx|hx;·{exact .inl (wj x hx)};·rcases List.mem_append.1 hx with hx|hx;·{exact .inr (live _ (mh x hx))};·obtain⟨i,_,rfl⟩:=List.mem_map.1 hx;exact absurd rfl hne
theorem As.val{w':World}{I':Nat→Prop}{fr:List Nat}{e:Ending}{r:U}(h:As w' I' β fr e r)(hr:y8 r=false):∃v,e= .returned v∧R w' I' β fr v r:=by cases r<;>first|exact h|cases hr
theorem Yk{L:Id→Option (Option Rows)}:∀(n:Nat){a:U}{x},pk L n a=some x→∀i∈x.2,∃rows,L i=some (some rows):=by
 intro n
 induction n with
 |zero=>intro a x h;simp[pk]at h
 |succ n ih=>
  have Ik:∀{cs:List U}{x},dM (pk L n) cs=some x→∀i∈x.2,∃rows,L i=some (some rows):=fun{cs}=>by
   induction cs with
   |nil=>intro x h i hi;simp[dM]at h;subst h;cases hi
   |cons c cs wG=>
    intro x h i hi
    simp only[dM,Do,GT]at h
    obtain⟨y,hy,z,hz,rfl⟩:=h
    rcases List.mem_append.1 hi with hi|hi
    ·exact ih hy i hi
    ·exact wG hz i hi
  have K8:∀{cs:List U}{x},gR (pk L n) cs=some x→∀i∈x.2,∃rows,L i=some (some rows):=fun h i hi=>by
   unfold gR at h
   split at h
   ·simp only[AC]at h;subst h;cases hi
   ·exact Ik h i hi
  have foldr:∀{cs:Rows}{x},dN (gR (pk L n)) cs=some x→∀i∈x.2,∃rows,L i=some (some rows):=fun{cs}=>by
   induction cs with
   |nil=>intro x h i hi;simp[dN]at h;subst h;cases hi
   |cons c cs wG=>
    intro x h i hi
    simp only[dN,Do,GT]at h
    obtain⟨y,hy,z,hz,rfl⟩:=h
    rcases List.mem_append.1 hi with hi|hi
    ·exact K8 hy i hi
    ·exact wG hz i hi
  have ahe:∀{cs:Rows}{x},lz (pk L n) cs=some x→∀i∈x.2,∃rows,L i=some (some rows):=fun h i hi=>by
   unfold lz at h
   split at h
   ·simp only[AC]at h;subst h;cases hi
   ·exact foldr h i hi
  intro a x h i hi
  unfold pk at h
  repeat'(first
   |(simp only[reduceCtorEq]at h;done)
   |(simp only[AC]at h;subst h;first|(simp only[H2]at hi;subst hi;exact⟨_,by assumption⟩)|(cases hi;done))
   |(simp only[GT]at h;obtain⟨y,hy,rfl⟩:=h;first|exact K8 hy i hi|(rcases List.mem_cons.1 hi with rfl|hi;exact⟨_,by assumption⟩;first|exact ahe hy i hi|exact K8 hy i hi))
   |split at h)
theorem Rv{L:Id→Option (Option Rows)}{l:List (Id×Id)}:∀{r:List (Id×Id)}{x},ir L l r=some x→∀i∈x.2,∃rows,L i=some (some rows)
 |[],x,h,i,hi=>by simp only[ir,AC]at h;subst h;cases hi
 |(o,k)::r,x,h,i,hi=>by
  simp only[ir]at h
  split at h
  ·simp only[Do,GT]at h
   obtain⟨y,hy,bn,_,z,hz,rfl⟩:=h
   have Yt:∀{a:U}{x},gD L (sF l) a=some x→∀i∈x.2,∃rows,L i=some (some rows):=fun h i hi=>by
    unfold gD at h
    repeat'(first
     |(simp only[reduceCtorEq]at h;done)
     |(simp only[AC]at h;subst h;cases hi)
     |exact Yk _ h i hi
     |split at h)
   have Ik:∀{cs:List U}{x},dM (gD L (sF l)) cs=some x→∀i∈x.2,∃rows,L i=some (some rows):=fun{cs}=>by
    induction cs with
    |nil=>intro x h i hi;simp[dM]at h;subst h;cases hi
    |cons c cs wG=>
     intro x h i hi
     simp only[dM,Do,GT]at h
     obtain⟨y,hy,z,hz,rfl⟩:=h
     rcases List.mem_append.1 hi with hi|hi
     ·exact Yt hy i hi
     ·exact wG hz i hi
   have YH:∀{cs:List U}{x},kV L (sF l) cs=some x→∀i∈x.2,∃rows,L i=some (some rows):=fun h i hi=>by
    unfold kV at h
    split at h
    ·simp only[AC]at h;subst h;cases hi
    ·exact Ik h i hi
   have foldr:∀{cs:Rows}{x},dN (kV L (sF l)) cs=some x→∀i∈x.2,∃rows,L i=some (some rows):=fun{cs}=>by
    induction cs with
    |nil=>intro x h i hi;simp[dN]at h;subst h;cases hi
    |cons c cs wG=>
     intro x h i hi
     simp only[dN,Do,GT]at h
     obtain⟨y,hy,z,hz,rfl⟩:=h
     rcases List.mem_append.1 hi with hi|hi
     ·exact YH hy i hi
     ·exact wG hz i hi
   rcases List.mem_append.1 hi with hi|hi
   ·unfold mN at hy
    split at hy
    ·simp only[AC]at hy;subst hy;cases hi
    ·exact foldr hy i hi
   ·exact Rv hz i hi
  ·cases h
theorem EJ{call:FuncId→List U→Option (U×List U)}{L:Id→Option (Option Rows)}{k:FuncId}{args:List U}{x:xJ}(h:qR call L k args=some x):∃obs outs,ir L x.l x.l=some (obs,x.gone)∧call k (.aS obs::args.map (eZ x.l))=some (x.r,outs)∧iE (x.l.map fun x=>(x.2,x.1)) x.l outs=some x.back∧(x.l.map (·.1)).Nodup∧(x.l.map (·.2)).Nodup∧(∀y∈x.l,jy y.2=true)∧x.gone.Nodup∧(∀i∈x.gone,i∉x.l.map (·.1)):=by unfold qR Bf at h;split at h;·{rename_i obs gone ho;split at h;·{rename_i hc;simp only[Hc,List.all_eq_true]at hc;obtain⟨⟨⟨⟨c1,c2⟩,c3⟩,nA⟩,qF⟩:=hc;split at h;·{rename_i r outs b8;obtain⟨back,hb,rfl⟩:=Option.map_eq_some_iff.1 h;refine⟨obs,outs,ho,b8,hb,zq c1,zq c2,c3,zq nA,fun i hi hm=> ?_⟩;have:=List.all_eq_true.1 qF i hi;simp only[Bool.not_eq_true',List.contains_eq_mem,decide_eq_false_iff_not]at this;exact this hm};·cases h};·cases h};·cases h
theorem Td{l:List (Id×Id)}:(l.map fun x=>(x.2,x.1)).map (·.2)=l.map (·.1):=by simp[Function.comp_def]
def GD(E:Env)(w:World)(β:Id→Option Loc)(F:Id→List Nat)(x:xJ)(e:Ending)(w':World):Prop:=∃(G G':Id→List Nat)(fr:List Nat)(I':Nat→Prop),(∀k b,b∈G k→∃i,(i∈x.l.map (·.1)∨i∈x.gone)∧b∈F i)∧(Kept w w' fun b=>∃k,b∈G k)∧As w' I' (fun i=>(fI x.l i).bind β) fr e x.r∧(∀k,(G' k).Nodup)∧(∀i j b,b∈G' i→b∈G' j→i=j)∧fr.Nodup∧(∀k b,b∈G' k→b∉fr)∧(∀b,(b∈fr∨∃k,b∈G' k)→b<w'.heap.size∧((∃k,b∈G k)∨w.heap.size≤b))∧(∀b,I' b→(aA E w F b∨(∃k,b∈G k)∨w.heap.size≤b)∧b<w'.heap.size∧b∉fr∧∀k,b∉G' k)∧(∀y∈x.back,∀bn,y.2=some bn→∃k,(y.1,k)∈x.l∧dJ w' I' β y.1 bn (G' k))
theorem af6(h:aN C E w S a β F){k:FuncId}{call:FuncId→List U→Option (U×List U)}(dW:∀k as r,call k as=some r→Sound C k as r)(I9:C.gM k=true){args:List U}{vs:List Value}(ha:av w (aA E w F) β [] vs args){x:xJ}(hx:qR call S.h k args=some x):Mt C.P k ⟨vs⟩ w (GD E w β F x):=by obtain⟨obs,outs,ho,b8,hb,mu,mw,hK,FD,dg⟩:=EJ hx;obtain⟨hl,G,e1,e2,hpre,pV⟩:=aaI h ha ho mu mw FD dg;have hs:=(dW _ _ _ b8).2 I9 _ _ hl rfl e1 (by rw[e2];exact mw) (fun y hy=>by have:y.1∈x.l.map (·.2):=by{rw[←e2];exact List.mem_map.2 ⟨y,hy,rfl⟩};obtain⟨z,hz,e⟩:=List.mem_map.1 this;rw[←e];exact hK z hz) w _ _ G vs hpre;have Dq:∀e w',GR w (aA E w F) (fun i=>(fI x.l i).bind β) G (x.r,outs) e w'→GD E w β F x e w':=fun e w' hr=>by{obtain⟨I',G',fr,q1,cg,_,fq,iR,C0,F4,F5,xb⟩:=hr.ex;refine⟨G,G',fr,I',pV,hr.kept,q1,fq,iR,C0,F4,F5,xb,fun y hy bn e=> ?_⟩;obtain⟨k',rows,m1,m2,m3⟩:=(vr hb).2 y hy bn e;have FC:((x.l.map fun x=>(x.2,x.1)).map (·.2)).Nodup:=by{rw[Td];exact mu};have hm:fI (x.l.map fun x=>(x.2,x.1)) y.1=some k':=nX FC (List.mem_map.2 ⟨_,m1,rfl⟩);have:=(cg k' rows m2).lW hm (SB FC m3);refine⟨k',m1,this.mono (fun _ h=>h) (fun _ _=>rfl) fun i lo hlo=> ?_⟩;simp only[Option.bind_eq_some_iff]at hlo;obtain⟨j,hj,i',hi',hlo⟩:=hlo;obtain⟨z,hz,e⟩:=List.mem_map.1 (oV hj);simp only[Prod.mk.injEq]at e;have:=nX mw hz;rw[e.1,hi']at this;simp only[Option.some.injEq]at this;rw[this,e.2]at hlo;exact hlo};rcases hs with⟨fn,c,k1,k2,ep⟩|⟨v,w',k1,k2⟩;·{exact .inl ⟨fn,c,k1,k2,ep.mono Dq⟩};·exact .inr ⟨v,w',k1,Dq _ _ k2⟩
theorem aiD{l:List (Id×Id)}(mu:(l.map (·.1)).Nodup)(mw:(l.map (·.2)).Nodup){i:Id}{lo:Loc}(h:((fI (l.map fun x=>(x.2,x.1)) i).bind fun i=>(fI l i).bind β)=some lo):β i=some lo:=by simp only[Do]at h;obtain⟨j,hj,i',hi',hlo⟩:=h;obtain⟨z,hz,e⟩:=List.mem_map.1 (oV hj);simp only[GE]at e;have:=nX mw hz;rw[e.1,hi']at this;simp only[AC]at this;rw[this,e.2]at hlo;exact hlo
theorem ZA{P:Program}{o:Oper}{c:Call}{cQ:Operand}(ho:o.op= .call c)(hc:c.callee= .value cQ){k:FuncId}{gA ic:List Value}(k9:a.eval cQ= .func (.func k) ⟨gA⟩ ⟨ic⟩):(execOp a.eval o).run P w=(callFunc k ⟨gA++c.args.toList.map a.eval++ic⟩).run P w:=by have e2:((⟨gA⟩:Array Value)++c.args.map a.eval++⟨ic⟩:Array Value)=⟨gA++c.args.toList.map a.eval++ic⟩:=by{apply Array.ext';simp};have cc:resolve a.eval c o.type=(pure {target:= .fn (.func k) ⟨ic⟩,args:=⟨gA⟩++c.args.map a.eval}:Sem Deferred):=by{simp[resolve,hc,k9,Deferred.ofValue]};have fX:execOp a.eval o=(do let d←resolve a.eval c o.type;invoke d.target d.args:Sem Next):=by{simp[execOp,ho]};rw[fX,cc,Sem.run_bind,Sem.run_pure,Result.andThen_ok];simp only[invoke,e2]
theorem aaM{x:U}{y:FuncId×List U×List U}(h:mR C x=some y):x= .fn (.func y.1) y.2.1 y.2.2∧C.gM y.1=true:=by unfold mR at h;split at h;·{split at h;·{rename_i hg;simp only[AC]at h;subst h;exact⟨rfl,hg⟩};·cases h};·cases h
theorem aif{L:Id→Option (Option Rows)}{b:Id×Option Rows}(h:rB L b=true):L b.1=some b.2:=by obtain⟨i,v⟩:=b;unfold rB at h;split at h;·{rename_i h1 h2;simp only[Hc,beq_iff_eq]at h;obtain⟨⟨rfl,rfl⟩,rfl⟩:=h;simp only at h1 h2;rw[h1,h2]};·cases h
theorem Tn{h0 h:Id→Option (Option Rows)}:∀{back:List (Id×Option Rows)},(∀b∈back,h b.1=h0 b.1)→(back.map (·.1)).Nodup→bp h (jQ h0 back)=bp h back|[],_,_=>rfl|(i,v)::back,ha,nd=>by have ih:=Tn (h0:=h0) (h:=h) (back:=back) (fun b hb=>ha b (Ha _ hb)) (List.nodup_cons.1 nd).2;unfold jQ at ih⊢;simp only[List.filter_cons];split;·{simp only[bp,ih]};·rename_i hs;rw[ih];have hs:rB h0 (i,v)=true:=by{simpa using hs};funext j;simp only[bp,ak];split;·{rename_i e;subst e;rcases fS h back j with⟨x,hx,e1,_⟩|⟨_,e2⟩;·{exact absurd (List.mem_map.2 ⟨x,hx,e1⟩) (List.nodup_cons.1 nd).1};·rw[e2,ha (j,v) (Hb ..)];exact aif hs};·rfl
theorem afX(hN:pg C.P)(h:aN C E w S a β F){o:Oper}{c:Call}{cQ:Operand}(ho:o.op= .call c)(hc:c.callee= .value cQ){f:FuncId}{call:FuncId→List U→Option (U×List U)}(dW:∀k as r,call k as=some r→Sound C k as r){y:FuncId×List U×List U}(ef:mR C (un true (S.get C cQ))=some y){e:bq}(he:pG C f call S o y.1 (y.2.1++(c.args.toList.map fun x=>un true (S.get C x))++y.2.2)=some e)(hd:cF S e)(hn:∀a' w',bx C E (S.app e) a' w'→next a' w'):o.wp C.P a w next Q:=by obtain⟨hfn,I9⟩:=aaM ef;have hfo:=h.dO cQ;rw[hfn]at hfo;obtain⟨_,gA,ic,k9,h1,h2⟩:=hfo.oG;have hargs:=av.ofMap h c.args.toList;have hall:av w (aA E w F) β [] (gA++c.args.toList.map a.eval++ic) (y.2.1++(c.args.toList.map fun x=>un true (S.get C x))++y.2.2):=(h1.append hargs).append h2;unfold pG at he;simp only[Do]at he;obtain⟨x,hx,he⟩:=he;split at he;·{cases he};·rename_i hnp;have hnp:y8 x.r=false:=by{simpa using hnp};generalize sw:(if eJ C f o.dst=true then(if flat x.r=true then dG x.r else .br)else x.r)=rr at he;split at he;·{rename_i hf;simp only[AC]at he;subst he;have so:=af6 h dW I9 hall hx;obtain⟨obs,outs,E8,_,hb,mu,mw,_,FD,dg⟩:=EJ hx;have hb0:=hb;have FC:((x.l.map fun x=>(x.2,x.1)).map (·.2)).Nodup:=by{rw[Td];exact mu};have Dq:∀e' w',GD E w β F x e' w'→∃v,e'= .returned v∧next (a.put o.dst v) w':=fun e' w'⟨G,G',fr,I',q1,cg,cS,fq,iR,C0,F4,F5,xb,aht⟩=>by{obtain⟨v,rfl,hv⟩:=cS.val hnp;refine⟨v,rfl,hn _ _ ?_⟩;obtain⟨ot,yx,p1,p2,p3,kN⟩:∃(ot:Nat→Prop)(yx:List Nat),R w' ot (fun i=>(fI x.l i).bind β) yx v rr∧(yx.Nodup∧∀b∈yx,b∈fr)∧(∀b,I' b→ot b)∧(∀b,ot b→(aA E w F b∨(∃k,b∈G k)∨w.heap.size≤b)∧b<w'.heap.size∧b∉yx∧∀k,b∉G' k):=by{by_cases hz:eJ C f o.dst=true;·{rw[if_pos hz]at sw;by_cases hfl:flat x.r=true;·{rw[if_pos hfl]at sw;subst sw;refine⟨fun b=>I' b∨b∈fr,[],((hv.kD hfl bR).dG (fun _ h=> .inl h) (fun _ h=> .inr h)).up,⟨List.nodup_nil,fun b hb=>by cases hb⟩,fun _ h=> .inl h,fun b hb=> ?_⟩;rcases hb with hb|hb;·{obtain⟨k1,k2,_,gO⟩:=xb b hb;exact⟨k1,k2,by simp,gO⟩};·obtain⟨k1,k2⟩:=F5 b (.inl hb);exact⟨k2.elim (fun h=> .inr (.inl h)) (fun h=> .inr (.inr h)),k1,by simp,fun k hk=>F4 k b hk hb⟩};·rw[if_neg hfl]at sw;subst sw;exact⟨I',[], .br,⟨List.nodup_nil,fun b hb=>by cases hb⟩,fun _ h=>h,fun b hb=>⟨(xb b hb).1,(xb b hb).2.1,by simp,(xb b hb).2.2.2⟩⟩};·rw[if_neg hz]at sw;subst sw;exact⟨I',fr,hv,⟨C0,fun _ h=>h⟩,fun _ h=>h,xb⟩};obtain⟨f2,tV,hr2⟩:=p1.ahK (Lj FC rr);have E1:f2.Nodup∧∀b∈f2,b∈yx:=by{rcases tV with rfl|rfl;·{exact⟨p2.1,fun _ h=>h⟩};·exact⟨List.nodup_nil,fun b hb=>by cases hb⟩};have ac5:R w' ot β f2 v (eZ (x.l.map fun x=>(x.2,x.1)) rr):=hr2.mono (fun _ h=>h) (fun _ _=>rfl) fun i lo hlo=>aiD mu mw hlo;have mj:=EH hf;obtain⟨β',qx,a1,a2,a3,a4,a5,a6,a7⟩:=Ca (iF o) ac5 E1.1 (fun z hz=>h.dom _ (mj z hz));have wj:=h.CB hd;have:=h.aaN (a':=a.put o.dst v) (t':=cW S.t (put o (imp (iF o) (eZ (x.l.map fun x=>(x.2,x.1)) rr)).1 (x.l.map (·.1)) []).dz) mu mw dg (Rt E8) (Rv E8) q1 cg fq iR (fun k b hb hm=>F4 k b hb (p2.2 b (E1.2 b hm))) (fun b hb=>F5 b (hb.imp (fun hb=>p2.2 b (E1.2 b hb)) id)) (fun b hb=>⟨(kN b hb).1,(kN b hb).2.1,fun hm=>(kN b hb).2.2.1 (E1.2 b hm),(kN b hb).2.2.2⟩) (vr hb).1 (fun z hz bn e=>(aht z hz bn e).imp fun k hk=>⟨hk.1,hk.2.mono p3 (fun _ _=>rfl) (fun _ _ h=>h)⟩) a1 a2 a4 a5 a6 mj (fun z hz=>by obtain⟨q,e⟩:=a7 z hz;rw[e];exact wj q) (by rw[sP];exact h.n) (put_defers ..) (fun F' hI vT t=> ?_);·{have e:bp S.h ((imp (iF o) (eZ (x.l.map fun x=>(x.2,x.1)) rr)).2++(jQ S.h x.back++x.gone.map fun i=>(i,none)))=bp S.h ((imp (iF o) (eZ (x.l.map fun x=>(x.2,x.1)) rr)).2++(x.back++x.gone.map fun i=>(i,none))):=by{have g1:∀b∈x.back,bp S.h (x.gone.map fun i=>(i,none)) b.1=S.h b.1:=fun b hb=>by{have hb':b.1∈x.l.map (·.1):=by{rw[←(vr hb0).1];exact List.mem_map.2 ⟨b,hb,rfl⟩};rcases fS S.h (x.gone.map fun i=>(i,none)) b.1 with⟨y,hy,e1,_⟩|⟨_,e2⟩;·{obtain⟨j,hj,rfl⟩:=List.mem_map.1 hy;have e1:j=b.1:=e1;exact absurd hb' (e1▸dg j hj)};·exact e2};have g2:(x.back.map (·.1)).Nodup:=by{rw[(vr hb0).1];exact mu};rw[xC,xC,xC,xC,Tn g1 g2]};have e2:S.app (put o (imp (iF o) (eZ (x.l.map fun x=>(x.2,x.1)) rr)).1 (x.l.map (·.1)) ((imp (iF o) (eZ (x.l.map fun x=>(x.2,x.1)) rr)).2++(jQ S.h x.back++x.gone.map fun i=>(i,none))))=⟨S.n,cW S.t (put o (imp (iF o) (eZ (x.l.map fun x=>(x.2,x.1)) rr)).1 (x.l.map (·.1)) []).dz,bp S.h ((imp (iF o) (eZ (x.l.map fun x=>(x.2,x.1)) rr)).2++(x.back++x.gone.map fun i=>(i,none)))⟩:=by{rw[←e];rfl};rw[e2];exact this};·cases bz:o.dst with|none=>(refine .inl ⟨by simp[Act.put], ?_⟩;simp[put,bz,cW])|some d=>have hd':d<a.tmps.size:=by{rw[h.n];simpa[cF,put,bz]using hd};rw[sO a d t v hd'];by_cases ht:t=d;·{subst ht;rw[if_pos rfl];refine .inr ?_;have:=a3.mono (w':=w') vT (fun _ _=>rfl) (fun _ _ h=>h);simpa[put,bz,cW,ak]using this};·rw[if_neg ht];refine .inl ⟨rfl, ?_⟩;simp[put,bz,cW,ak,ht]};unfold Oper.wp;rw[ZA ho hc k9];rcases so with⟨fn,code,k1,k2,ep⟩|⟨v,w',k1,k2⟩;·{rw[uK hN k1 k2];simp only[Oper.upon];refine ep.mono fun e' w' hh=> ?_;obtain⟨v,rfl,hr⟩:=Dq e' w' hh;exact hr};·rw[k1];obtain⟨v',e,hr⟩:=Dq _ w' k2;simp only[Ending.returned.injEq]at e;subst e;exact hr};·cases he
end
end Go.Ab
