import Derived.Test.YtmboghefgckkpaaGreatAbCode
import Derived.Laws.Sem
import Derived.RangeFuncLeaves
namespace Go.Ab
open Go
def Dz(tmps:Array Value)(r:ResultVar):Sem Value:=match r with| .tmp t=>pure (tmps.getD t undef)| .cell a t=>do loadVar t (←asAddr (tmps.getD a undef))
section
variable{C:aU}{E:Env}{w:World}{S:an}{a:Act}{β:Id→Option Loc}{F:Id→List Nat}
variable{f:FuncId}{call:FuncId→List aa→Option (aa×List aa)}
theorem O1(h:aV C E w S a β F){c7:Id→Option Loc}{p:aa→Option (aa×List Id)}(hp:Eg w (aQ E w F) β c7 F p):∀{l:List ResultVar}{x},nC C S p l=some x→∃vs fp rest,(l.mapM (Dz a.tmps)).run C.P w= .ok vs w∧aH w (aQ E w F) c7 fp vs x.1∧(fp++rest).Perm (x.2.flatMap F)|[],x,hx=>by{simp[nC]at hx;subst hx;exact⟨[],[],[],rfl, .nil,by simp⟩}|r::l,x,hx=>by simp only[nC,Option.bind_eq_some_iff,Option.map_eq_some_iff]at hx;obtain⟨y,hy,z,hz,rfl⟩:=hx;obtain⟨v,mq,r1,e1,g1,g2⟩:=amb h hp hy;obtain⟨vs,j6,r2,e2,g3,g4⟩:=O1 h hp hz;refine⟨v::vs,mq++j6,r1++r2, ?_, .cons g1 g3, ?_⟩;·{rw[List.mapM_cons,Sem.run_bind];have:(Dz a.tmps r).run C.P w= .ok v w:=by{cases r<;>exact e1};rw[this,Result.andThen_ok,Sem.run_bind,e2,Result.andThen_ok];rfl};·have:=ur (f1:=[]) (f2:=[]) (by simpa using g2) (by simpa using g4);simpa[List.flatMap_append]using this
theorem Wm(C:aU)(S:an):∀l:List ResultVar,lE C S l=nC C S (pk S.h 9) l|[]=>rfl|r::l=>by simp only[lE,nC,ama,Wm C S l]
theorem amc(h:aV C E w S a β F){l:List ResultVar}{x}(hx:lE C S l=some x):∃vs fp rest,(l.mapM (Dz a.tmps)).run C.P w= .ok vs w∧aH w (aQ E w F) cv fp vs x.1∧(fp++rest).Perm (x.2.flatMap F):=O1 h (xJ h.obj 9) (by rw[←Wm];exact hx)
theorem acY{L:Id→Option (Option Rows)}{I:Nat→Prop}{c7:Id→Option Loc}{keep:Id→Bool}(hL:∀id rows,L id=some (some rows)→eu w I β id rows (F id))(hk:∀i l,keep i=true→β i=some l→c7 i=some l):Eg w I β c7 F (oF L keep):=fun a x h f v hr=>by unfold oF at h;split at h;·{obtain⟨y,hy,rfl⟩:=Option.map_eq_some_iff.1 h;obtain⟨vs,rfl,h1⟩:=hr.qL;obtain⟨_,fp,rest,g1,g2⟩:=L1 (L0 hL hk) hy h1;exact⟨fp,rest,g1,g2⟩};·exact L0 hL hk _ _ h _ _ hr
theorem Wn{fn:Func}{tmps:Array Value}{vs:List Value}{P:Program}(h:(fn.results.toList.mapM (Dz tmps)).run P w= .ok vs w):(results fn tmps).run P w= .ok (match(generalizing:=false)vs with|[v]=>v|_=> .tuple ⟨vs⟩) w:=by have e:results fn tmps=(do let vs←fn.results.mapM (Dz tmps);pure (if h:vs.size=1 then vs[0]else .tuple vs):Sem Value):=by{unfold results;congr 1};rw[e,Array.mapM_eq_mapM_toList,Sem.run_bind];have:(List.toArray<$>fn.results.toList.mapM (Dz tmps):Sem (Array Value)).run P w= .ok ⟨vs⟩ w:=by{rw[map_eq_pure_bind,Sem.run_bind,h,Result.andThen_ok];rfl};rw[this,Result.andThen_ok];match vs with|[]=>(rfl)|[v]=>(rfl)|v::u::vs=>simp
theorem VI{I:Nat→Prop}{c7:Id→Option Loc}{fp:List Nat}{vs:List Value}{rs:List aa}(g1:aH w I c7 fp vs rs):R w I c7 fp (match(generalizing:=false)vs with|[v]=>v|_=> .tuple ⟨vs⟩) (match(generalizing:=false)rs with|[r]=>r|_=> .bG rs):=by have hl:=g1.length;match rs,vs,g1,hl with|[],[],g1,_=>(exact .bG g1)|[r],[v],g1,_=>(obtain⟨f1,f2,v',vs',rfl,e,k1,k2⟩:=aH.cons_inv g1;simp only[List.cons.injEq]at e;obtain⟨rfl,rfl⟩:=e;obtain⟨rfl,_⟩:=k2.gv;simpa using k1)|r::r'::rs,v::v'::vs,g1,_=>(exact .bG g1)|[],v::vs,_,hl=>(simp at hl)|[r],[],_,hl=>(simp at hl)|[r],v::v'::vs,_,hl=>(simp at hl)|r::r'::rs,[],_,hl=>(simp at hl)|r::r'::rs,[v],_,hl=>simp at hl
theorem SA(h:aV C E w S a β F){fn:Func}{cK:List Nat}{args:List aa}{r:aa×List aa}(hx:finish C fn cK args S=some r):
  ∃v,(results fn a.tmps).run C.P w= .ok v w∧∃(I':Nat→Prop)(fr:List Nat),aH w I' cv fr (v::cK.map (a.tmps.getD · undef)) (r.1::r.2)∧fr.Nodup∧(∀b∈fr,b<w.heap.size∧(E.fG b∨E.w0.heap.size≤b))∧
   (∀b,I' b→(E.dx b∨E.fG b∨E.w0.heap.size≤b)∧b<w.heap.size∧b∉fr):=by
 unfold finish at hx
 split at hx
 ·rename_i rs i1 outs i2 hr ho
  split at hx
  ·rename_i ct
   simp only[Option.some.injEq]at hx;subst hx
   obtain⟨vs,fp,rest,e1,g1,g2⟩:=amc h hr
   obtain⟨j6,KP,g3,g4⟩:=OI h ho
   have hall:((fp++j6)++(rest++KP)).Perm ((i1++i2).flatMap F):=by
    have :=ur (f1:=[]) (f2:=[]) (by simpa using g2) (by simpa using g4)
    simpa[List.flatMap_append]using this
   have hmem:∀b∈fp++j6,∃id,b∈F id:=fun b hb=>by
    obtain⟨id,_,hid⟩:=List.mem_flatMap.1 (CA hall hb)
    exact⟨id,hid⟩
   refine⟨_,Wn e1,aQ E w F,fp++j6, .cons (VI g1) g3,KC hall (Fj h (Cr ct)),fun b hb=> ?_,fun b hb=>⟨hb.1,hb.2.1,fun hm=> ?_⟩⟩
   ·obtain⟨id,hid⟩:=hmem b hb
    exact h.lt id b hid
   ·obtain⟨id,hid⟩:=hmem b hm
    exact hb.2.2 id hid
  ·cases hx
 ·cases hx
theorem OA(h:aV C E w S a β F){keep:Id→Bool}{c7:Id→Option Loc}(hk:∀i l,keep i=true→β i=some l→c7 i=some l):∀{ks:List Id}{x},mO S.h keep ks=some x→ks.Nodup→(∀k∈ks,nZ (S.h k)=true→keep k=true)→∃(g:Id→List Nat)(rest:List Nat),(∀k rows,aa.cz k rows∈x.1→(k∈ks∧nZ (S.h k)=true)∧eu w (aQ E w F) c7 k rows (g k))∧(∀k∈ks,nZ (S.h k)=true→∃rows,aa.cz k rows∈x.1)∧((ks.filter fun k=>nZ (S.h k)).flatMap g++rest).Perm ((ks.filter fun k=>nZ (S.h k)).flatMap F++x.2.flatMap F)|[],x,hx,_,_=>by{simp only[mO,Option.some.injEq]at hx;subst hx;exact⟨fun _=>[],[],(fun _ _ h=>by cases h),(fun _ h=>by cases h),by simp⟩}|k::ks,x,hx,hn,jt=>by obtain⟨hno,hn⟩:=List.nodup_cons.1 hn;unfold mO at hx;split at hx;·{rename_i rows cy;simp only[Option.bind_eq_some_iff,Option.map_eq_some_iff]at hx;obtain⟨y,hy,z,hz,rfl⟩:=hx;have hka:nZ (S.h k)=true:=by{rw[cy];rfl};obtain⟨g,rest,g1,g3,g2⟩:=OA h hk hz hn fun k hk=>jt k (List.mem_cons_of_mem _ hk);obtain⟨go,ro,k1,k2⟩:=(h.obj k rows cy).closed h.obj hk hy (fun l=>hk k l (jt k (List.mem_cons_self ..) hka));refine⟨fun i=>if i=k then go else g i,ro++rest, ?_, ?_, ?_⟩;·{intro k' bB hm;rcases List.mem_cons.1 hm with e|hm;·{simp only[aa.cz.injEq]at e;obtain⟨rfl,rfl⟩:=e;exact⟨⟨List.mem_cons_self ..,hka⟩,by simpa using k1⟩};·obtain⟨⟨m1,m2⟩,lS⟩:=g1 k' bB hm;have hne:k'≠k:=fun e=>hno (e▸m1);exact⟨⟨List.mem_cons_of_mem _ m1,m2⟩,by simpa[hne]using lS⟩};·{intro k' hk' ha;rcases List.mem_cons.1 hk' with rfl|hk';·{exact⟨_,List.mem_cons_self ..⟩};·obtain⟨r,hr⟩:=g3 k' hk' ha;exact⟨r,List.mem_cons_of_mem _ hr⟩};·have e:((ks.filter fun k=>nZ (S.h k)).flatMap fun i=>if i=k then go else g i)=(ks.filter fun k=>nZ (S.h k)).flatMap g:=by{rw[List.flatMap_def,List.flatMap_def];congr 1;refine List.map_congr_left fun i hi=> ?_;have:i≠k:=fun e=>hno (e▸(List.mem_filter.1 hi).1);simp[this]};rw[List.filter_cons_of_pos (by simpa using hka)];simp only[List.flatMap_cons,if_true,e,List.flatMap_append];have:=ur k2 g2;rw[List.perm_iff_count]at this⊢;intro z;have:=this z;simp only[List.count_append]at this⊢;omega};·rename_i B3;have hka:nZ (S.h k)=false:=by{cases hh:S.h k with|none=>(rfl)|some o=>cases o with|none=>(rfl)|some r=>exact absurd hh (B3 r)};obtain⟨z,hz,rfl⟩:=Option.map_eq_some_iff.1 hx;obtain⟨g,rest,g1,g3,g2⟩:=OA h hk hz hn fun k hk=>jt k (List.mem_cons_of_mem _ hk);refine⟨g,rest, ?_, ?_, ?_⟩;·{intro k' bB hm;rcases List.mem_cons.1 hm with e|hm;·{cases e};·obtain⟨⟨m1,m2⟩,lS⟩:=g1 k' bB hm;exact⟨⟨List.mem_cons_of_mem _ m1,m2⟩,lS⟩};·{intro k' hk' ha;rcases List.mem_cons.1 hk' with rfl|hk';·{rw[hka]at ha;cases ha};·obtain⟨r,hr⟩:=g3 k' hk' ha;exact⟨r,List.mem_cons_of_mem _ hr⟩};·rw[List.filter_cons_of_neg (by simp[hka])];exact g2
theorem aV.kill(h:aV C E w S a β F)(ids:List Id):aV C E w (sJ ids S) a β (fun i=>if i∈ids then[]else F i):=by let F':Id→List Nat:=fun i=>if i∈ids then[]else F i;have hsub:∀i b,b∈F' i→b∈F i:=fun i b hb=>by{by_cases e:i∈ids;·{simp[F',e]at hb};·simpa[F',e]using hb};have hI:∀b,aQ E w F b→aQ E w F' b:=fun b hb=>⟨hb.1,hb.2.1,fun i hm=>hb.2.2 i (hsub i b hm)⟩;have g6:∀{β':Id→Option Loc}{f:List Nat}{v:Value}{x:aa},R w (aQ E w F) β' f v x→R w (aQ E w F') β' f v x:=fun hr=>hr.mono hI (fun _ _=>rfl) (fun _ _ h=>h);have qZ:∀i rows,bD S.h (ids.map fun i=>(i,none)) i=some (some rows)→i∉ids∧S.h i=some (some rows):=fun i rows hr=>by{rcases gy S.h (ids.map fun i=>(i,none)) i with⟨x,hx,e1,e2⟩|⟨h1,h2⟩;·{obtain⟨j,hj,rfl⟩:=List.mem_map.1 hx;rw[e2]at hr;cases hr};·refine⟨fun hm=>h1 (i,none) (List.mem_map.2 ⟨i,hm,rfl⟩) rfl, ?_⟩;rw[h2]at hr;exact hr};have hnone:∀i,bD S.h (ids.map fun i=>(i,none)) i=none→S.h i=none:=fun i hr=>by{rcases gy S.h (ids.map fun i=>(i,none)) i with⟨x,hx,e1,e2⟩|⟨h1,h2⟩;·{rw[e2]at hr;cases hr};·rw[h2]at hr;exact hr};have jt:∀i rows,i∉ids→S.h i=some (some rows)→bD S.h (ids.map fun i=>(i,none)) i=some (some rows):=fun i rows hni hr=>by{rcases gy S.h (ids.map fun i=>(i,none)) i with⟨x,hx,e1,e2⟩|⟨h1,h2⟩;·{obtain⟨j,hj,rfl⟩:=List.mem_map.1 hx;exact absurd (show i∈ids from e1▸hj) hni};·rw[h2];exact hr};exact{n:=h.n,df:=h.df.mono (fun b hb=>⟨hI b hb.1,hb.2⟩) (fun _ _=>rfl),slot:=fun t=>g6 (h.slot t),obj:=fun i r hr=>by obtain⟨e,hr'⟩:=qZ i r hr;have:=(h.obj i r hr').mono (w':=w) (I':=aQ E w F') (β':=β) hI (fun _ _=>rfl) (fun _ _ h=>h);simpa[F',e]using this,dead:=fun i hi'=>by by_cases e:i∈ids;·{simp[e]};·simp only[if_neg e];exact h.dead i fun r hr=>hi' r (jt i r e hr),nd:=fun i=>by by_cases e:i∈ids;·{simp[e]};·simpa[e]using h.nd i,dK:=fun i j b hb hb'=>h.dK i j b (hsub i b hb) (hsub j b hb'),dom:=fun i hi'=>h.dom i (hnone i hi'),lt:=fun i b hb=>h.lt i b (hsub i b hb),kept:=h.kept,cP:=fun g cs hg=>g6 (h.cP g cs hg),ns:=h.ns,kb:=fun k r hk hr=>h.kb k r hk (qZ k r hr).2}
theorem aeg(h:aV C E w S a β F){fn:Func}{ks:List Id}{r:aa×List aa}(hks:ks.Nodup)(hK:∀k∈ks,E.K k)(hx:yR C fn ks S=some r):∃v,(results fn a.tmps).run C.P w= .ok v w∧∃(G':Id→List Nat)(fr:List Nat),R w (aQ E w F) E.Ce fr v r.1∧(∀k rows,aa.cz k rows∈r.2→eu w (aQ E w F) E.Ce k rows (G' k))∧(∀k,(∀rows,aa.cz k rows∉r.2)→G' k=[])∧(∀k,(G' k).Nodup)∧(∀i j b,b∈G' i→b∈G' j→i=j)∧fr.Nodup∧(∀k b,b∈G' k→b∉fr)∧(∀b,(b∈fr∨∃k,b∈G' k)→∃id,b∈F id):=by unfold yR at hx;simp only at hx;split at hx;·{rename_i rs i1 outs i2 hr ho;split at hx;·{rename_i ct;simp only[Option.some.injEq]at hx;subst hx;have hkeep:∀i l,(ks.filter fun k=>nZ (S.h k)).contains i=true→β i=some l→E.Ce i=some l:=fun i l hi hb=>by{simp only[List.contains_eq_mem,decide_eq_true_eq,List.mem_filter]at hi;cases hh:S.h i with|none=>(rw[hh]at hi;cases hi.2)|some o=>cases o with|none=>(rw[hh]at hi;cases hi.2)|some rows=>rw[←h.kb i rows (hK i hi.1) hh];exact hb};obtain⟨vs,fp,rest,e1,g1,g2⟩:=O1 h (acY h.obj hkeep) hr;obtain⟨g,KP,q1,cO,bW⟩:=OA h hkeep ho hks fun k hk ha=>by{simp only[List.contains_eq_mem,decide_eq_true_eq];exact List.mem_filter.2 ⟨hk,ha⟩};let al:=ks.filter fun k=>nZ (S.h k);have hall:((al.flatMap g++fp)++(KP++rest)).Perm ((al++(i1++i2)).flatMap F):=by{have bW:(al.flatMap g++KP).Perm (al.flatMap F++i2.flatMap F):=bW;rw[List.perm_iff_count]at g2 bW⊢;intro z;have k1:=g2 z;have k2:=bW z;simp only[List.flatMap_append,List.count_append]at k1 k2⊢;omega};have qd:(al.flatMap g++fp).Nodup:=KC hall (Fj h (Cr ct));obtain⟨n1,n2,lV⟩:=List.nodup_append.1 qd;have hmem:∀b∈al.flatMap g++fp,∃id,b∈F id:=fun b hb=>by{obtain⟨id,_,hid⟩:=List.mem_flatMap.1 (CA hall hb);exact⟨id,hid⟩};have ec:∀k b,b∈(if k∈al then g k else[])→k∈al∧b∈g k:=fun k b hb=>by{split at hb;·{exact⟨by assumption,hb⟩};·cases hb};refine⟨_,Wn e1,fun k=>if k∈al then g k else[],fp,VI g1,fun k rows hm=> ?_,fun k hm=> ?_,fun k=> ?_,fun i j b hi hj=> ?_,n2,fun k b hb hf=> ?_,fun b hb=> ?_⟩;·{obtain⟨⟨m1,m2⟩,lS⟩:=q1 k rows hm;have:k∈al:=List.mem_filter.2 ⟨m1,m2⟩;simpa[this]using lS};·{dsimp only;split;·{rename_i hk;obtain⟨m1,m2⟩:=List.mem_filter.1 hk;obtain⟨rows,hr⟩:=cO k m1 m2;exact absurd hr (hm rows)};·rfl};·{dsimp only;split;·{rename_i hk;exact SI n1 hk};·exact List.nodup_nil};·{obtain⟨a1,a2⟩:=ec i b hi;obtain⟨b1,b2⟩:=ec j b hj;exact Mk n1 a1 b1 a2 b2};·{obtain⟨a1,a2⟩:=ec k b hb;exact lV b (List.mem_flatMap.2 ⟨k,a1,a2⟩) b hf rfl};·refine hmem b (List.mem_append.2 ?_);rcases hb with hb|⟨k,hb⟩;·{exact .inr hb};·obtain⟨a1,a2⟩:=ec k b hb;exact .inl (List.mem_flatMap.2 ⟨k,a1,a2⟩)};·cases hx};·cases hx
theorem Of{fn:Func}{T:World→Value→Prop}{tmps:Array Value}(JN:E.ds=[])(hm:E.w0.heap.size≤E.m)(cG:∀w a β F,aV C E w S a β F→a.tmps=tmps→∃v,(results fn tmps).run C.P w= .ok v w∧T w v){R:Ending→World→Prop}(h:aV C E w S a β F)(ht:a.tmps=tmps){ds:List Deferred}(hds:a.defers=ds)(hR:∀w' v,Kept E.w0 w' E.fG→(results fn tmps).run C.P w'= .ok v w'→T w' v→R (.returned v) w'):LeavesInM Fence.wide 0 C.P fn tmps R ds .returning w:=by induction ds generalizing w a with|nil=>(obtain⟨v,e1,h1⟩:=cG w a β F h ht;exact⟨v,e1,hR w v h.kept e1 h1⟩)|cons d ds ih=>obtain⟨mY,e1,e2,bV⟩:=h.df;rw[hds,JN,List.append_nil]at e1;cases mY with|nil=>(cases e1)|cons D mY=>simp only[List.map_cons,List.cons.injEq]at e1;obtain⟨rfl,rfl⟩:=e1;obtain⟨hD,hI,hle⟩:=bV D (List.mem_cons_self ..);have ct:=List.nodup_cons.1 e2;refine⟨by simp, .inl ⟨D,_,rfl,run_takeDeferred hD, ?_⟩⟩;refine ih (a:=⟨a.tmps,mY.map GB⟩) (h.GS hD rfl (Nat.le_trans hm hle) rfl ⟨mY,by simp[JN],ct.2,fun D' S9=> ?_⟩) ht rfl;have hne:D'≠D:=fun e=>ct.1 (e▸S9);obtain⟨k1,k2⟩:=bV D' (List.mem_cons_of_mem _ S9);exact⟨(World.putObj_heap_other hne).trans k1,k2⟩
theorem aiW{fn:Func}{cK:List Nat}{args:List aa}{r:aa×List aa}(hx:finish C fn cK args S=some r)(hm:E.w0.heap.size≤E.m){R:Ending→World→Prop}(h:aV C E w S a β F){ds:List Deferred}(hds:a.defers=ds)
  (hR:∀w' v,Kept E.w0 w' E.fG→(results fn a.tmps).run C.P w'= .ok v w'→(∃(I':Nat→Prop)(fr:List Nat),aH w' I' cv fr (v::cK.map (a.tmps.getD · undef)) (r.1::r.2)∧fr.Nodup∧(∀b∈fr,b<w'.heap.size∧(E.fG b∨E.w0.heap.size≤b))∧
   (∀b,I' b→(E.dx b∨E.fG b∨E.w0.heap.size≤b)∧b<w'.heap.size∧b∉fr))→R (.returned v) w')(JN:E.ds=[]:=by rfl):LeavesInM Fence.wide 0 C.P fn a.tmps R ds .returning w:=
 Of (T:=fun w' v=>∃(I':Nat→Prop)(fr:List Nat),aH w' I' cv fr (v::cK.map (a.tmps.getD · undef)) (r.1::r.2)∧fr.Nodup∧(∀b∈fr,b<w'.heap.size∧(E.fG b∨E.w0.heap.size≤b))∧
   (∀b,I' b→(E.dx b∨E.fG b∨E.w0.heap.size≤b)∧b<w'.heap.size∧b∉fr)) JN hm (fun w2 a2 c7 eL mB ht=>by rw[←ht];exact SA mB hx) h rfl hds hR
def wK(w:World)(dx:Nat→Prop)(β:Id→Option Loc)(G:Id→List Nat):Env:={w0:=w,fG:=fun b=>∃k,b∈G k,dx:=dx,m:=w.heap.size,le:=Nat.le_refl _,K:=fun i=>ki i=true,Ce:=β,Cf:=fun _ h=>h}
theorem aH.getD{I:Nat→Prop}:∀{as:List aa}{vs:List Value},aH w I β [] vs as→∀t,R w I β [] (vs.getD t undef) (as.getD t .bH)|[],vs,h,t=>by{obtain⟨_,rfl⟩:=h.gv;exact .bH}|a::as,vs,h,t=>by obtain⟨f1,f2,v,vs',e,rfl,h1,h2⟩:=h.cons_inv;obtain⟨rfl,rfl⟩:=List.append_eq_nil_iff.1 e.symm;cases t with|zero=>(exact h1)|succ t=>exact aH.getD h2 t
theorem US:∀{hl:List (Id×Rows)}{k:Id}{rows:Rows},kR hl k=some (some rows)→(k,rows)∈hl|[],_,_,h=>by{cases h}|(i,r)::hl,k,rows,h=>by simp only[kR,aC]at h;split at h;·{simp only[Option.some.injEq]at h;subst h;have:k=i:=by{assumption};subst this;exact List.mem_cons_self .. };·exact List.mem_cons_of_mem _ (US h)
theorem Om:∀{hl:List (Id×Rows)}{k:Id},(∀rows,kR hl k≠some (some rows))→k∉hl.map (·.1)|[],_,_=>by{simp}|(i,r)::hl,k,h=>by simp only[List.map_cons,List.mem_cons,not_or];by_cases e:k=i;·{exact absurd (by simp[kR,aC,e]) (h r)};·exact⟨e,Om fun rows he=>h rows (by simpa[kR,aC,e]using he)⟩
theorem Iw.enter{dx:Nat→Prop}{G:Id→List Nat}{hl:List (Id×Rows)}{vs:List Value}{as:List aa}{n:Nat}(h:Iw C w dx β G hl vs as)(hn:as.length≤n)(hk:n≤kj):aV C (wK w dx β G) w (HP n as hl) {tmps:=⟨vs⟩++Array.replicate (n-(⟨vs⟩:Array Value).size) undef,defers:=[]} β G:=by have hvl:=h.args.length;have hI:∀b,dx b→aQ (wK w dx β G) w G b:=fun b hb=>⟨.inl hb,(h.i0 b hb).1,(h.i0 b hb).2⟩;have hnone:∀k,(HP n as hl).h k=none→k∉hl.map (·.1):=fun k hk=>Om fun rows he=>by{have:kR hl k=none:=hk;rw[this]at he;cases he};refine{n:= ?_,df:=jX.nil,slot:=fun t=> ?_,obj:=fun id rows hr=> ?_,dead:=fun id hd=>(h.out id (Om hd)).2,nd:=h.nd,dK:=h.dK,dom:=fun id hi=>(h.out id (hnone id hi)).1,lt:=fun id b hb=>⟨h.lt id b hb, .inl ⟨id,hb⟩⟩,kept:=Kept.refl w _,cP:=fun g cs hg=>(h.cP g cs hg).up.mono hI (fun _ _=>rfl) (fun _ _ h=>h),ns:=fun t ht q hq=> ?_,kb:=fun _ _ _ _=>rfl};·{show(⟨vs⟩++Array.replicate (n-(⟨vs⟩:Array Value).size) undef:Array Value).size=n;simp[hvl];omega};·{have e:(⟨vs⟩++Array.replicate (n-(⟨vs⟩:Array Value).size) undef:Array Value).getD t undef=vs.getD t undef:=by{rw[Array.getD_eq_getD_getElem?,List.getD_eq_getElem?_getD];rcases Nat.lt_or_ge t vs.length with hj|hj;·{rw[Array.getElem?_append_left (by simpa using hj)];simp};·rw[Array.getElem?_append_right (by simpa using hj),List.getElem?_eq_none hj,Array.getElem?_replicate];split<;>rfl};show R w _ β [] ((⟨vs⟩++Array.replicate (n-(⟨vs⟩:Array Value).size) undef:Array Value).getD t undef) (as.getD t .bH);rw[e];exact(aH.getD h.args t).mono hI (fun _ _=>rfl) (fun _ _ h=>h)};·{exact(h.obj id rows (US hr)).mono hI (fun _ _=>rfl) (fun _ _ h=>h)};·have h1:ki (q++[t])=true:=hq;rw[NY,beq_iff_eq]at h1;have h2:t<n:=ht;omega
structure Good(C:aU):Prop where
 count:lJ C
 wide:C.P.follows .mixedOrders=true
 live:∀f i,gj (C.live f i)
 cut:uQ C
 free:∀(f:FuncId)(fn:Func)(c:Code),C.ext f=none→C.P.funcs[f]? =some fn→fn.body=some c→ql C f c=true
 ext:∀f g args r,C.ext f=some g→g args=some r→Sound C f args r
 iter:∀k it,C.iter k=some it→tc C k it:=by intro k it h;cases h
theorem akp(bA:lJ C)(hw:C.P.follows .mixedOrders=true)(hl:∀f i,gj (C.live f i))(lf:uQ C)(w6:∀k it,C.iter k=some it→tc C k it)(eY:∀k as r,call k as=some r→Sound C k as r){cN:uV}(nX:Ba cN){fn:Func}{c:Code}(hf:C.P.funcs[f]? =some fn)(hb:fn.body=some c)(o1:jO C f c=true)(o2:okW (C.cK f) c=true){args:List aa}{r:aa×List aa}(h:Jg C call cN f fn c args=some r):Ev C f args r:=by intro obs as hl' hargs ahy ct ag4 w dx β G vs hp;subst hargs;simp only[Jg,ahy]at h;split at h;(case isFalse=>cases h);rename_i hlen;obtain⟨⟨x,S'⟩,h1,h2⟩:=Option.bind_eq_some_iff.1 h;obtain⟨k3,h0,h1⟩:=Option.bind_eq_some_iff.1 h1;refine .inl ⟨fn,c,hf,hb, ?_⟩;refine(callsIn_wide (n:=0)).1 (callsIn_of_wp_marks hf hb trivial ?_);have hK:∀k∈hl'.map (·.1),(wK w dx β G).K k:=fun k hk=>by{obtain⟨x,hx,rfl⟩:=List.mem_map.1 hk;exact ag4 x hx};have cG:∀a' w',yR C fn (hl'.map (·.1)) (sJ (C.wJ f) S')=some r→bO C (wK w dx β G) S' a' w'→LeavesInM Fence.wide 0 C.P fn a'.tmps (Ls w dx β G r) a'.defers .returning w':=by{rintro a' w' hx⟨β',fG,hS⟩;replace hS:=hS.kill (C.wJ f);refine Of (T:=fun w' v=>∃(F:Id→List Nat)(G':Id→List Nat)(fr:List Nat),R w' (aQ (wK w dx β G) w' F) β fr v r.1∧(∀k rows,aa.cz k rows∈r.2→eu w' (aQ (wK w dx β G) w' F) β k rows (G' k))∧(∀k,(∀rows,aa.cz k rows∉r.2)→G' k=[])∧(∀k,(G' k).Nodup)∧(∀i j b,b∈G' i→b∈G' j→i=j)∧fr.Nodup∧(∀k b,b∈G' k→b∉fr)∧(∀b,(b∈fr∨∃k,b∈G' k)→∃id,b∈F id)∧∀id b,b∈F id→b<w'.heap.size∧((∃k,b∈G k)∨w.heap.size≤b)) rfl (Nat.le_refl _) (fun w2 a2 c7 eL mB ht=> ?_) hS rfl rfl fun w2 v hk2 e1⟨eL,G',fr,g1,g2,g3,g4,fV,gQ,Mx,Ft,afa⟩=> ?_;·{rw[←ht];obtain⟨v,e,G',fr,g1,g2,g3,g4,fV,gQ,Mx,Ft⟩:=aeg mB ct hK hx;exact⟨v,e,eL,G',fr,g1,g2,g3,g4,fV,gQ,Mx,Ft,fun id b hb=>mB.lt id b hb⟩};·refine⟨hk2,aQ (wK w dx β G) w2 eL,G',fr, ?_,g2,g3,g4,fV,gQ,Mx,fun b hb=> ?_,fun b hb=>⟨hb.1,hb.2.1,fun hm=> ?_,fun k hm=> ?_⟩⟩;·{unfold Ej;split;·{rename_i u hu;rw[hu]at g1;cases g1};·exact⟨v,rfl,g1⟩};·{obtain⟨id,hid⟩:=Ft b hb;exact afa id b hid};·{obtain⟨id,hid⟩:=Ft b (.inl hm);exact hb.2.2 id hid};·obtain⟨id,hid⟩:=Ft b (.inr ⟨k,hm⟩);exact hb.2.2 id hid};refine OG bA hw hl lf eY w6 nX c none (wK w dx β G) (C.cK f) (fun j=>(⟨vs⟩++Array.replicate (fn.ntmps-(⟨vs⟩:Array Value).size) undef:Array Value).getD j undef) _ x S' _ _ _ (.inl rfl) o1 o2 h1 (bO.n8 ⟨β,G,hp.enter hlen.1 hlen.2⟩ h0) (fun j _=>rfl) fun a' w' hx hk=> ?_;cases x with|normal=>(exact cG a' w' h2 hx)|ret=>(exact cG a' w' h2 hx)|_=>simp at h2
theorem Vx(bA:lJ C)(hw:C.P.follows .mixedOrders=true)(hl:∀f i,gj (C.live f i))(lf:uQ C)(w6:∀k it,C.iter k=some it→tc C k it)(agS:∀g args r,C.ext f=some g→g args=some r→Sound C f args r)
  (hfree:∀(fn:Func)(c:Code),C.ext f=none→C.P.funcs[f]? =some fn→fn.body=some c→ql C f c=true)(eY:∀k as r,call k as=some r→Sound C k as r){cN:uV}(nX:Ba cN){args:List aa}{r:aa×List aa}(h:wM C call cN f args=some r):Sound C f args r:=by
 unfold wM at h
 split at h
 ·rename_i g hg;exact agS g args r hg h
 ·rename_i agR
  split at h
  ·rename_i fn hf
   split at h
   ·rename_i c hb
    have B5:=hfree fn c agR hf hb
    unfold ql at B5
    rw[Bool.and_eq_true]at B5
    split at h
    ·rename_i ey
     exact Ev.sound (akp bA hw hl lf w6 eY nX hf hb B5.1 B5.2 h) ey
    rename_i ey
    have ey:C.dy f=false:=by simpa using ey
    refine Ew.sound ?_ ey
    split at h
    ·rename_i hlen
     obtain⟨⟨x,S'⟩,h1,h2⟩:=Option.bind_eq_some_iff.1 h
     intro w dx fp vs hargs ct hI gF FK
     refine .inl ⟨fn,c,hf,hb, ?_⟩
     refine(callsIn_wide (n:=0)).1 (callsIn_of_wp_marks hf hb trivial ?_)
     have hvl:=hargs.length
     have mC:(List.range args.length).map ((⟨vs⟩++Array.replicate (fn.ntmps-(⟨vs⟩:Array Value).size) undef:Array Value).getD · undef)=vs:=by
      apply List.ext_getElem?
      intro k
      rw[List.getElem?_map]
      rcases Nat.lt_or_ge k args.length with hk|hk
      ·rw[List.getElem?_range hk]
       simp only[Option.map_some]
       rw[Array.getD_eq_getD_getElem?,Array.getElem?_append_left (by simpa[hvl]using hk)]
       have :k<vs.length:=by omega
       simp[this]
      ·rw[List.getElem?_eq_none (by simpa using hk),List.getElem?_eq_none (by omega)]
       rfl
     let E:Env:={w0:=w,fG:=(·∈fp),dx:=dx,m:=w.heap.size,le:=Nat.le_refl _}
     have BR:bO C E (aG fn.ntmps (List.range args.length) args) {tmps:=⟨vs⟩++Array.replicate (fn.ntmps-(⟨vs⟩:Array Value).size) undef,defers:=[]} w:=by
      refine aV.enter (I:=dx) (f:=fp) ?_ (jX.nil (d0:=[])) ?_ List.nodup_range ct (fun b hb=>⟨.inl hb,hI b hb⟩) (fun b hb=>⟨gF b hb, .inl hb⟩) (Kept.refl w _) FK (fun _ _ _ h=>h) (fun _ _ _ h=>h)
      ·simp[hvl];omega
      ·rw[mC];exact hargs
     have cG:∀a' w',finish C fn (C.cK f) args S'=some r→bO C E S' a' w'→uS (C.cK f) (fun j=>vs.getD j undef) a'→LeavesInM Fence.wide 0 C.P fn a'.tmps (fun e w'=>∃v,e= .returned v∧yo w fp dx (uk (C.cK f) vs) r v w') a'.defers .returning w':=by
      rintro a' w' hx⟨β,F,hS⟩hk
      refine Of (T:=fun w' v=>∃(I':Nat→Prop)(fr:List Nat),aH w' I' cv fr (v::(C.cK f).map (a'.tmps.getD · undef)) (r.1::r.2)∧fr.Nodup∧(∀b∈fr,b<w'.heap.size∧(b∈fp∨w.heap.size≤b))∧
       (∀b,I' b→(dx b∨b∈fp∨w.heap.size≤b)∧b<w'.heap.size∧b∉fr)) rfl (Nat.le_refl _) (fun w2 a2 c7 eL mB ht=>by rw[←ht];exact SA mB hx) hS rfl rfl fun w2 v hk2 e1⟨I',fr,g1,g2,g3,g4⟩=> ?_
      have e2:(C.cK f).map (a'.tmps.getD · undef)=uk (C.cK f) vs:=List.map_congr_left fun j hj=>hk j hj
      rw[e2]at g1
      exact⟨v,rfl,hk2,I',fr,g1,g2,g3,g4⟩
     refine OG bA hw hl lf eY w6 nX c none E (C.cK f) (fun j=>vs.getD j undef) _ x S' _ _ _ (.inl rfl) B5.1 B5.2 h1 BR (fun j _=> ?_) fun a' w' hx hk=> ?_
     ·show(⟨vs⟩++Array.replicate (fn.ntmps-(⟨vs⟩:Array Value).size) undef:Array Value).getD j undef=vs.getD j undef
      rw[Array.getD_eq_getD_getElem?,List.getD_eq_getElem?_getD]
      rcases Nat.lt_or_ge j vs.length with hj|hj
      ·rw[Array.getElem?_append_left (by simpa using hj)];simp
      ·rw[Array.getElem?_append_right (by simpa using hj),List.getElem?_eq_none hj,Array.getElem?_replicate]
       split<;>rfl
     cases x with
     |normal=>exact cG a' w' h2 hx hk
     |ret=>exact cG a' w' h2 hx hk
     |_=>simp at h2
    ·cases h
   ·cases h
  ·cases h
/-! ### Loops without end of fuel -/
theorem aj8(ec:Good C)(eY:∀k as r,call k as=some r→Sound C k as r){cN:uV}(nX:Ba cN){args:List aa}{r:aa×List aa}(h:wM C call cN f args=some r):Sound C f args r:=Vx ec.count ec.wide ec.live ec.cut ec.iter (ec.ext f) (ec.free f) eY nX h
theorem Mh{α:Type}{g:α→Option (Exit×an)}{rn:an→Option α}:∀{m:Nat}{cr:α}{x:Exit×an}(k:Nat),iZ g rn m cr=some x→iZ g rn (m+k) cr=some x|0,_,_,_,h=>by{simp[iZ]at h}|m+1,cr,x,k,h=>by rw[Nat.add_right_comm];simp only[iZ,Option.bind_eq_some_iff]at h⊢;obtain⟨y,h1,h2⟩:=h;refine⟨y,h1, ?_⟩;obtain⟨e,cg⟩:=y;cases e with|normal=>(simp only[Option.bind_eq_some_iff]at h2⊢;obtain⟨t,h3,h4⟩:=h2;exact⟨t,h3,Mh k h4⟩)|_=>exact h2
theorem ad8{α:Type}{g:α→Option (Exit×an)}{rn:an→Option α}{m m':Nat}{cr:α}{x y:Exit×an}(h1:iZ g rn m cr=some x)(h2:iZ g rn m' cr=some y):x=y:=by have e1:=Mh m' h1;have e2:=Mh m h2;rw[Nat.add_comm]at e2;rw[e1]at e2;exact Option.some.inj e2
open Classical in noncomputable def lz(α:Type)(g:α→Option (Exit×an))(rn:an→Option α)(cr:α):Option (Exit×an):=if h:∃x m,iZ g rn m cr=some x then some (Classical.choose h)else none
theorem Oh{α:Type}{g:α→Option (Exit×an)}{rn:an→Option α}{m:Nat}{cr:α}{x:Exit×an}(h:iZ g rn m cr=some x):lz α g rn cr=some x:=by unfold lz;have hx:∃x m,iZ g rn m cr=some x:=⟨x,m,h⟩;rw[dif_pos hx];obtain⟨m',h'⟩:=Classical.choose_spec hx;rw[ad8 h' h]
theorem Cm:Ba lz:=fun _ g rn cr x h=>by unfold lz at h;split at h;·{rename_i hx;simp only[Option.some.injEq]at h;subst h;exact Classical.choose_spec hx};·cases h
theorem UN{α:Type}(g:α→Option (Exit×an))(rn:an→Option α)(cr:α):lz α g rn cr=(g cr).bind fun x=>match x.1 with| .normal=>(rn x.2).bind (lz α g rn)|_=>some x:=by apply Option.ext;intro x;constructor;·{intro h;obtain⟨m,h⟩:=Cm _ _ _ _ _ h;cases m with|zero=>(simp[iZ]at h)|succ m=>simp only[iZ,Option.bind_eq_some_iff]at h⊢;obtain⟨y,h1,h2⟩:=h;refine⟨y,h1, ?_⟩;obtain⟨e,cg⟩:=y;cases e with|normal=>(simp only[Option.bind_eq_some_iff]at h2⊢;obtain⟨t,h3,h4⟩:=h2;exact⟨t,h3,Oh h4⟩)|_=>exact h2};·intro h;simp only[Option.bind_eq_some_iff]at h;obtain⟨y,h1,h2⟩:=h;obtain⟨e,cg⟩:=y;cases e with|normal=>(simp only[Option.bind_eq_some_iff]at h2;obtain⟨t,h3,h4⟩:=h2;obtain⟨m,h4⟩:=Cm _ _ _ _ _ h4;refine Oh (m:=m+1) ?_;simp only[iZ,h1,Option.bind_some,h3,h4])|_=>refine Oh (m:=1) ?_;simp only[iZ,h1,Option.bind_some];exact h2
noncomputable def den(C:aU):Nat→FuncId→List aa→Option (aa×List aa)|0,_,_=>none|n+1,f,args=>wM C (den C n) lz f args
theorem Vy(ec:Good C):∀(n:Nat)(f:FuncId)(args:List aa)(r:aa×List aa),den C n f args=some r→Sound C f args r|0,_,_,_,h=>by{simp[den]at h}|n+1,f,args,r,h=>aj8 ec (Vy ec n) Cm h
end
end Go.Ab
