import Derived.Test.YtbikcahlonfnmaaGreatAbCode
import Derived.Laws.Sem
import Derived.RangeFuncLeaves
namespace Go.Ab
open Go
def CD(tmps:Array Value)(r:ResultVar):Sem Value:=match r with| .tmp t=>pure (tmps.getD t undef)| .cell a t=>do loadVar t (←asAddr (tmps.getD a undef))
section
variable{C:aO}{E:Env}{w:World}{S:ak}{a:Act}{β:Id→Option Loc}{F:Id→List Nat}
variable{f:FuncId}{call:FuncId→List aa→Option (aa×List aa)}
theorem NZ(h:aR C E w S a β F){cQ:Id→Option Loc}{p:aa→Option (aa×List Id)}(hp:Df w (aK E w F) β cQ F p):∀{l:List ResultVar}{x},mw C S p l=some x→∃vs fp rest,(l.mapM (CD a.tmps)).run C.P w= .ok vs w∧aG w (aK E w F) cQ fp vs x.1∧(fp++rest).Perm (x.2.flatMap F)|[],x,hx=>by{simp[mw]at hx;subst hx;exact⟨[],[],[],rfl, .nil,by simp⟩}|r::l,x,hx=>by simp only[mw,Option.bind_eq_some_iff,Option.map_eq_some_iff]at hx;obtain⟨y,hy,z,hz,rfl⟩:=hx;obtain⟨v,k9,r1,e1,g1,g2⟩:=ajE h hp hy;obtain⟨vs,jf,r2,e2,g3,g4⟩:=NZ h hp hz;refine⟨v::vs,k9++jf,r1++r2, ?_, .cons g1 g3, ?_⟩;·{rw[List.mapM_cons,Sem.run_bind];have:(CD a.tmps r).run C.P w= .ok v w:=by{cases r<;>exact e1};rw[this,Result.andThen_ok,Sem.run_bind,e2,Result.andThen_ok];rfl};·have:=sK (f1:=[]) (f2:=[]) (by simpa using g2) (by simpa using g4);simpa[List.flatMap_append]using this
theorem U0(C:aO)(S:ak):∀l:List ResultVar,kq C S l=mw C S (pk S.h 9) l|[]=>rfl|r::l=>by simp only[kq,mw,ajD,U0 C S l]
theorem ajF(h:aR C E w S a β F){l:List ResultVar}{x}(hx:kq C S l=some x):∃vs fp rest,(l.mapM (CD a.tmps)).run C.P w= .ok vs w∧aG w (aK E w F) cc fp vs x.1∧(fp++rest).Perm (x.2.flatMap F):=NZ h (v7 h.obj 9) (by rw[←U0];exact hx)
theorem aaK{L:Id→Option (Option Rows)}{I:Nat→Prop}{cQ:Id→Option Loc}{keep:Id→Bool}(hL:∀id rows,L id=some (some rows)→dU w I β id rows (F id))(hk:∀i l,keep i=true→β i=some l→cQ i=some l):Df w I β cQ F (ot L keep):=fun a x h f v hr=>by unfold ot at h;split at h;·{obtain⟨y,hy,rfl⟩:=Option.map_eq_some_iff.1 h;obtain⟨vs,rfl,h1⟩:=hr.pG;obtain⟨_,fp,rest,g1,g2⟩:=KS (KR hL hk) hy h1;exact⟨fp,rest,g1,g2⟩};·exact KR hL hk _ _ h _ _ hr
theorem U1{fn:Func}{tmps:Array Value}{vs:List Value}{P:Program}(h:(fn.results.toList.mapM (CD tmps)).run P w= .ok vs w):(results fn tmps).run P w= .ok (match(generalizing:=false)vs with|[v]=>v|_=> .tuple ⟨vs⟩) w:=by have e:results fn tmps=(do let vs←fn.results.mapM (CD tmps);pure (if h:vs.size=1 then vs[0]else .tuple vs):Sem Value):=by{unfold results;congr 1};rw[e,Array.mapM_eq_mapM_toList,Sem.run_bind];have:(List.toArray<$>fn.results.toList.mapM (CD tmps):Sem (Array Value)).run P w= .ok ⟨vs⟩ w:=by{rw[map_eq_pure_bind,Sem.run_bind,h,Result.andThen_ok];rfl};rw[this,Result.andThen_ok];match vs with|[]=>(rfl)|[v]=>(rfl)|v::u::vs=>simp
theorem Ug{I:Nat→Prop}{cQ:Id→Option Loc}{fp:List Nat}{vs:List Value}{rs:List aa}(g1:aG w I cQ fp vs rs):R w I cQ fp (match(generalizing:=false)vs with|[v]=>v|_=> .tuple ⟨vs⟩) (match(generalizing:=false)rs with|[r]=>r|_=> .bL rs):=by have hl:=g1.length;match rs,vs,g1,hl with|[],[],g1,_=>(exact .bL g1)|[r],[v],g1,_=>(obtain⟨f1,f2,v',vs',rfl,e,k1,k2⟩:=aG.cons_inv g1;simp only[List.cons.injEq]at e;obtain⟨rfl,rfl⟩:=e;obtain⟨rfl,_⟩:=k2.fO;simpa using k1)|r::r'::rs,v::v'::vs,g1,_=>(exact .bL g1)|[],v::vs,_,hl=>(simp at hl)|[r],[],_,hl=>(simp at hl)|[r],v::v'::vs,_,hl=>(simp at hl)|r::r'::rs,[],_,hl=>(simp at hl)|r::r'::rs,[v],_,hl=>simp at hl
theorem Q6 (h : aR C E w S a β F) {fn : Func} {cw : List Nat} {args : List aa} {r : aa × List aa} (hx : finish C fn cw args S = some r) :
    ∃ v, (results fn a.tmps).run C.P w = .ok v w ∧ ∃ (I' : Nat → Prop) (fr : List Nat), aG w I' cc fr (v :: cw.map (a.tmps.getD · undef)) (r.1 :: r.2) ∧ fr.Nodup ∧ (∀ b ∈ fr, b < w.heap.size ∧ (E.fc b ∨ E.w0.heap.size ≤ b)) ∧
      (∀ b, I' b → (E.c5 b ∨ E.fc b ∨ E.w0.heap.size ≤ b) ∧ b < w.heap.size ∧ b ∉ fr) := by
  unfold finish at hx
  split at hx
  · rename_i rs i1 outs i2 hr ho
    split at hx
    · rename_i cm
      simp only [Option.some.injEq] at hx; subst hx
      obtain ⟨vs, fp, rest, e1, g1, g2⟩ := ajF h hr
      obtain ⟨jf, JH, g3, g4⟩ := NJ h ho
      have hall : ((fp ++ jf) ++ (rest ++ JH)).Perm ((i1 ++ i2).flatMap F) := by
        have := sK (f1 := []) (f2 := []) (by simpa using g2) (by simpa using g4)
        simpa [List.flatMap_append] using this
      have hmem : ∀ b ∈ fp ++ jf, ∃ id, b ∈ F id := fun b hb => by
        obtain ⟨id, _, hid⟩ := List.mem_flatMap.1 (B0 hall hb)
        exact ⟨id, hid⟩
      refine ⟨_, U1 e1, aK E w F, fp ++ jf, .cons (Ug g1) g3, Js hall (D7 h (BR cm)), fun b hb => ?_, fun b hb => ⟨hb.1, hb.2.1, fun hm => ?_⟩⟩
      · obtain ⟨id, hid⟩ := hmem b hb
        exact h.lt id b hid
      · obtain ⟨id, hid⟩ := hmem b hm
        exact hb.2.2 id hid
    · cases hx
  · cases hx
theorem NA(h:aR C E w S a β F){keep:Id→Bool}{cQ:Id→Option Loc}(hk:∀i l,keep i=true→β i=some l→cQ i=some l):∀{ks:List Id}{x},lF S.h keep ks=some x→ks.Nodup→(∀k∈ks,mY (S.h k)=true→keep k=true)→∃(g:Id→List Nat)(rest:List Nat),(∀k rows,aa.dL k rows∈x.1→(k∈ks∧mY (S.h k)=true)∧dU w (aK E w F) cQ k rows (g k))∧(∀k∈ks,mY (S.h k)=true→∃rows,aa.dL k rows∈x.1)∧((ks.filter fun k=>mY (S.h k)).flatMap g++rest).Perm ((ks.filter fun k=>mY (S.h k)).flatMap F++x.2.flatMap F)|[],x,hx,_,_=>by{simp only[lF,Option.some.injEq]at hx;subst hx;exact⟨fun _=>[],[],(fun _ _ h=>by cases h),(fun _ h=>by cases h),by simp⟩}|k::ks,x,hx,hn,iz=>by obtain⟨hno,hn⟩:=List.nodup_cons.1 hn;unfold lF at hx;split at hx;·{rename_i rows cp;simp only[Option.bind_eq_some_iff,Option.map_eq_some_iff]at hx;obtain⟨y,hy,z,hz,rfl⟩:=hx;have hka:mY (S.h k)=true:=by{rw[cp];rfl};obtain⟨g,rest,g1,g3,g2⟩:=NA h hk hz hn fun k hk=>iz k (List.mem_cons_of_mem _ hk);obtain⟨go,ro,k1,k2⟩:=(h.obj k rows cp).closed h.obj hk hy (fun l=>hk k l (iz k (List.mem_cons_self ..) hka));refine⟨fun i=>if i=k then go else g i,ro++rest, ?_, ?_, ?_⟩;·{intro k' br hm;rcases List.mem_cons.1 hm with e|hm;·{simp only[aa.dL.injEq]at e;obtain⟨rfl,rfl⟩:=e;exact⟨⟨List.mem_cons_self ..,hka⟩,by simpa using k1⟩};·obtain⟨⟨m1,m2⟩,kL⟩:=g1 k' br hm;have hne:k'≠k:=fun e=>hno (e▸m1);exact⟨⟨List.mem_cons_of_mem _ m1,m2⟩,by simpa[hne]using kL⟩};·{intro k' hk' ha;rcases List.mem_cons.1 hk' with rfl|hk';·{exact⟨_,List.mem_cons_self ..⟩};·obtain⟨r,hr⟩:=g3 k' hk' ha;exact⟨r,List.mem_cons_of_mem _ hr⟩};·have e:((ks.filter fun k=>mY (S.h k)).flatMap fun i=>if i=k then go else g i)=(ks.filter fun k=>mY (S.h k)).flatMap g:=by{rw[List.flatMap_def,List.flatMap_def];congr 1;refine List.map_congr_left fun i hi=> ?_;have:i≠k:=fun e=>hno (e▸(List.mem_filter.1 hi).1);simp[this]};rw[List.filter_cons_of_pos (by simpa using hka)];simp only[List.flatMap_cons,if_true,e,List.flatMap_append];have:=sK k2 g2;rw[List.perm_iff_count]at this⊢;intro z;have:=this z;simp only[List.count_append]at this⊢;omega};·rename_i Bs;have hka:mY (S.h k)=false:=by{cases hh:S.h k with|none=>(rfl)|some o=>cases o with|none=>(rfl)|some r=>exact absurd hh (Bs r)};obtain⟨z,hz,rfl⟩:=Option.map_eq_some_iff.1 hx;obtain⟨g,rest,g1,g3,g2⟩:=NA h hk hz hn fun k hk=>iz k (List.mem_cons_of_mem _ hk);refine⟨g,rest, ?_, ?_, ?_⟩;·{intro k' br hm;rcases List.mem_cons.1 hm with e|hm;·{cases e};·obtain⟨⟨m1,m2⟩,kL⟩:=g1 k' br hm;exact⟨⟨List.mem_cons_of_mem _ m1,m2⟩,kL⟩};·{intro k' hk' ha;rcases List.mem_cons.1 hk' with rfl|hk';·{rw[hka]at ha;cases ha};·obtain⟨r,hr⟩:=g3 k' hk' ha;exact⟨r,List.mem_cons_of_mem _ hr⟩};·rw[List.filter_cons_of_neg (by simp[hka])];exact g2
theorem aR.kill(h:aR C E w S a β F)(ids:List Id):aR C E w (ry ids S) a β (fun i=>if i∈ids then[]else F i):=by let F':Id→List Nat:=fun i=>if i∈ids then[]else F i;have hsub:∀i b,b∈F' i→b∈F i:=fun i b hb=>by{by_cases e:i∈ids;·{simp[F',e]at hb};·simpa[F',e]using hb};have hI:∀b,aK E w F b→aK E w F' b:=fun b hb=>⟨hb.1,hb.2.1,fun i hm=>hb.2.2 i (hsub i b hm)⟩;have gu:∀{β':Id→Option Loc}{f:List Nat}{v:Value}{x:aa},R w (aK E w F) β' f v x→R w (aK E w F') β' f v x:=fun hr=>hr.mono hI (fun _ _=>rfl) (fun _ _ h=>h);have pY:∀i rows,bw S.h (ids.map fun i=>(i,none)) i=some (some rows)→i∉ids∧S.h i=some (some rows):=fun i rows hr=>by{rcases fU S.h (ids.map fun i=>(i,none)) i with⟨x,hx,e1,e2⟩|⟨h1,h2⟩;·{obtain⟨j,hj,rfl⟩:=List.mem_map.1 hx;rw[e2]at hr;cases hr};·refine⟨fun hm=>h1 (i,none) (List.mem_map.2 ⟨i,hm,rfl⟩) rfl, ?_⟩;rw[h2]at hr;exact hr};have hnone:∀i,bw S.h (ids.map fun i=>(i,none)) i=none→S.h i=none:=fun i hr=>by{rcases fU S.h (ids.map fun i=>(i,none)) i with⟨x,hx,e1,e2⟩|⟨h1,h2⟩;·{rw[e2]at hr;cases hr};·rw[h2]at hr;exact hr};have iz:∀i rows,i∉ids→S.h i=some (some rows)→bw S.h (ids.map fun i=>(i,none)) i=some (some rows):=fun i rows hni hr=>by{rcases fU S.h (ids.map fun i=>(i,none)) i with⟨x,hx,e1,e2⟩|⟨h1,h2⟩;·{obtain⟨j,hj,rfl⟩:=List.mem_map.1 hx;exact absurd (show i∈ids from e1▸hj) hni};·rw[h2];exact hr};exact{n:=h.n,df:=h.df.mono (fun b hb=>⟨hI b hb.1,hb.2⟩) (fun _ _=>rfl),slot:=fun t=>gu (h.slot t),obj:=fun i r hr=>by obtain⟨e,hr'⟩:=pY i r hr;have:=(h.obj i r hr').mono (w':=w) (I':=aK E w F') (β':=β) hI (fun _ _=>rfl) (fun _ _ h=>h);simpa[F',e]using this,dead:=fun i hi'=>by by_cases e:i∈ids;·{simp[e]};·simp only[if_neg e];exact h.dead i fun r hr=>hi' r (iz i r e hr),nd:=fun i=>by by_cases e:i∈ids;·{simp[e]};·simpa[e]using h.nd i,dx:=fun i j b hb hb'=>h.dx i j b (hsub i b hb) (hsub j b hb'),dom:=fun i hi'=>h.dom i (hnone i hi'),lt:=fun i b hb=>h.lt i b (hsub i b hb),kept:=h.kept,cC:=fun g cs hg=>gu (h.cC g cs hg),ns:=h.ns,kb:=fun k r hk hr=>h.kb k r hk (pY k r hr).2}
theorem ab1(h:aR C E w S a β F){fn:Func}{ks:List Id}{r:aa×List aa}(hks:ks.Nodup)(hK:∀k∈ks,E.K k)(hx:xX C fn ks S=some r):∃v,(results fn a.tmps).run C.P w= .ok v w∧∃(G':Id→List Nat)(fr:List Nat),R w (aK E w F) E.BE fr v r.1∧(∀k rows,aa.dL k rows∈r.2→dU w (aK E w F) E.BE k rows (G' k))∧(∀k,(∀rows,aa.dL k rows∉r.2)→G' k=[])∧(∀k,(G' k).Nodup)∧(∀i j b,b∈G' i→b∈G' j→i=j)∧fr.Nodup∧(∀k b,b∈G' k→b∉fr)∧(∀b,(b∈fr∨∃k,b∈G' k)→∃id,b∈F id):=by unfold xX at hx;simp only at hx;split at hx;·{rename_i rs i1 outs i2 hr ho;split at hx;·{rename_i cm;simp only[Option.some.injEq]at hx;subst hx;have hkeep:∀i l,(ks.filter fun k=>mY (S.h k)).contains i=true→β i=some l→E.BE i=some l:=fun i l hi hb=>by{simp only[List.contains_eq_mem,decide_eq_true_eq,List.mem_filter]at hi;cases hh:S.h i with|none=>(rw[hh]at hi;cases hi.2)|some o=>cases o with|none=>(rw[hh]at hi;cases hi.2)|some rows=>rw[←h.kb i rows (hK i hi.1) hh];exact hb};obtain⟨vs,fp,rest,e1,g1,g2⟩:=NZ h (aaK h.obj hkeep) hr;obtain⟨g,JH,q1,cP,cn⟩:=NA h hkeep ho hks fun k hk ha=>by{simp only[List.contains_eq_mem,decide_eq_true_eq];exact List.mem_filter.2 ⟨hk,ha⟩};let al:=ks.filter fun k=>mY (S.h k);have hall:((al.flatMap g++fp)++(JH++rest)).Perm ((al++(i1++i2)).flatMap F):=by{have cn:(al.flatMap g++JH).Perm (al.flatMap F++i2.flatMap F):=cn;rw[List.perm_iff_count]at g2 cn⊢;intro z;have k1:=g2 z;have k2:=cn z;simp only[List.flatMap_append,List.count_append]at k1 k2⊢;omega};have oN:(al.flatMap g++fp).Nodup:=Js hall (D7 h (BR cm));obtain⟨n1,n2,oT⟩:=List.nodup_append.1 oN;have hmem:∀b∈al.flatMap g++fp,∃id,b∈F id:=fun b hb=>by{obtain⟨id,_,hid⟩:=List.mem_flatMap.1 (B0 hall hb);exact⟨id,hid⟩};have dJ:∀k b,b∈(if k∈al then g k else[])→k∈al∧b∈g k:=fun k b hb=>by{split at hb;·{exact⟨by assumption,hb⟩};·cases hb};refine⟨_,U1 e1,fun k=>if k∈al then g k else[],fp,Ug g1,fun k rows hm=> ?_,fun k hm=> ?_,fun k=> ?_,fun i j b hi hj=> ?_,n2,fun k b hb hf=> ?_,fun b hb=> ?_⟩;·{obtain⟨⟨m1,m2⟩,kL⟩:=q1 k rows hm;have:k∈al:=List.mem_filter.2 ⟨m1,m2⟩;simpa[this]using kL};·{dsimp only;split;·{rename_i hk;obtain⟨m1,m2⟩:=List.mem_filter.1 hk;obtain⟨rows,hr⟩:=cP k m1 m2;exact absurd hr (hm rows)};·rfl};·{dsimp only;split;·{rename_i hk;exact Re n1 hk};·exact List.nodup_nil};·{obtain⟨a1,a2⟩:=dJ i b hi;obtain⟨b1,b2⟩:=dJ j b hj;exact Li n1 a1 b1 a2 b2};·{obtain⟨a1,a2⟩:=dJ k b hb;exact oT b (List.mem_flatMap.2 ⟨k,a1,a2⟩) b hf rfl};·refine hmem b (List.mem_append.2 ?_);rcases hb with hb|⟨k,hb⟩;·{exact .inr hb};·obtain⟨a1,a2⟩:=dJ k b hb;exact .inl (List.mem_flatMap.2 ⟨k,a1,a2⟩)};·cases hx};·cases hx
theorem Nf{fn:Func}{T:World→Value→Prop}{tmps:Array Value}(Iy:E.ds=[])(hm:E.w0.heap.size≤E.m)(cD:∀w a β F,aR C E w S a β F→a.tmps=tmps→∃v,(results fn tmps).run C.P w= .ok v w∧T w v){R:Ending→World→Prop}(h:aR C E w S a β F)(ht:a.tmps=tmps){ds:List Deferred}(hds:a.defers=ds)(hR:∀w' v,Kept E.w0 w' E.fc→(results fn tmps).run C.P w'= .ok v w'→T w' v→R (.returned v) w'):LeavesInM Fence.wide 0 C.P fn tmps R ds .returning w:=by induction ds generalizing w a with|nil=>(obtain⟨v,e1,h1⟩:=cD w a β F h ht;exact⟨v,e1,hR w v h.kept e1 h1⟩)|cons d ds ih=>obtain⟨lO,e1,e2,bN⟩:=h.df;rw[hds,Iy,List.append_nil]at e1;cases lO with|nil=>(cases e1)|cons D lO=>simp only[List.map_cons,List.cons.injEq]at e1;obtain⟨rfl,rfl⟩:=e1;obtain⟨hD,hI,hle⟩:=bN D (List.mem_cons_self ..);have cm:=List.nodup_cons.1 e2;refine⟨by simp, .inl ⟨D,_,rfl,run_takeDeferred hD, ?_⟩⟩;refine ih (a:=⟨a.tmps,lO.map Fz⟩) (h.FO hD rfl (Nat.le_trans hm hle) rfl ⟨lO,by simp[Iy],cm.2,fun D' RJ=> ?_⟩) ht rfl;have hne:D'≠D:=fun e=>cm.1 (e▸RJ);obtain⟨k1,k2⟩:=bN D' (List.mem_cons_of_mem _ RJ);exact⟨(World.putObj_heap_other hne).trans k1,k2⟩
theorem agp {fn : Func} {cw : List Nat} {args : List aa} {r : aa × List aa} (hx : finish C fn cw args S = some r) (hm : E.w0.heap.size ≤ E.m) {R : Ending → World → Prop} (h : aR C E w S a β F) {ds : List Deferred} (hds : a.defers = ds)
    (hR : ∀ w' v, Kept E.w0 w' E.fc → (results fn a.tmps).run C.P w' = .ok v w' → (∃ (I' : Nat → Prop) (fr : List Nat), aG w' I' cc fr (v :: cw.map (a.tmps.getD · undef)) (r.1 :: r.2) ∧ fr.Nodup ∧ (∀ b ∈ fr, b < w'.heap.size ∧ (E.fc b ∨ E.w0.heap.size ≤ b)) ∧
      (∀ b, I' b → (E.c5 b ∨ E.fc b ∨ E.w0.heap.size ≤ b) ∧ b < w'.heap.size ∧ b ∉ fr)) → R (.returned v) w') (Iy : E.ds = [] := by rfl) : LeavesInM Fence.wide 0 C.P fn a.tmps R ds .returning w :=
  Nf (T := fun w' v => ∃ (I' : Nat → Prop) (fr : List Nat), aG w' I' cc fr (v :: cw.map (a.tmps.getD · undef)) (r.1 :: r.2) ∧ fr.Nodup ∧ (∀ b ∈ fr, b < w'.heap.size ∧ (E.fc b ∨ E.w0.heap.size ≤ b)) ∧
      (∀ b, I' b → (E.c5 b ∨ E.fc b ∨ E.w0.heap.size ≤ b) ∧ b < w'.heap.size ∧ b ∉ fr)) Iy hm (fun w2 a2 cQ er lg ht => by rw [← ht]; exact Q6 lg hx) h rfl hds hR
def va(w:World)(c5:Nat→Prop)(β:Id→Option Loc)(G:Id→List Nat):Env:={w0:=w,fc:=fun b=>∃k,b∈G k,c5:=c5,m:=w.heap.size,le:=Nat.le_refl _,K:=fun i=>jl i=true,BE:=β,BF:=fun _ h=>h}
theorem aG.getD{I:Nat→Prop}:∀{as:List aa}{vs:List Value},aG w I β [] vs as→∀t,R w I β [] (vs.getD t undef) (as.getD t .bz)|[],vs,h,t=>by{obtain⟨_,rfl⟩:=h.fO;exact .bz}|a::as,vs,h,t=>by obtain⟨f1,f2,v,vs',e,rfl,h1,h2⟩:=h.cons_inv;obtain⟨rfl,rfl⟩:=List.append_eq_nil_iff.1 e.symm;cases t with|zero=>(exact h1)|succ t=>exact aG.getD h2 t
theorem Tu:∀{hl:List (Id×Rows)}{k:Id}{rows:Rows},jW hl k=some (some rows)→(k,rows)∈hl|[],_,_,h=>by{cases h}|(i,r)::hl,k,rows,h=>by simp only[jW,av]at h;split at h;·{simp only[Option.some.injEq]at h;subst h;have:k=i:=by{assumption};subst this;exact List.mem_cons_self .. };·exact List.mem_cons_of_mem _ (Tu h)
theorem Nn:∀{hl:List (Id×Rows)}{k:Id},(∀rows,jW hl k≠some (some rows))→k∉hl.map (·.1)|[],_,_=>by{simp}|(i,r)::hl,k,h=>by simp only[List.map_cons,List.mem_cons,not_or];by_cases e:k=i;·{exact absurd (by simp[jW,av,e]) (h r)};·exact⟨e,Nn fun rows he=>h rows (by simpa[jW,av,e]using he)⟩
theorem G6.enter{c5:Nat→Prop}{G:Id→List Nat}{hl:List (Id×Rows)}{vs:List Value}{as:List aa}{n:Nat}(h:G6 C w c5 β G hl vs as)(hn:as.length≤n)(hk:n≤jm):aR C (va w c5 β G) w (GB n as hl) {tmps:=⟨vs⟩++Array.replicate (n-(⟨vs⟩:Array Value).size) undef,defers:=[]} β G:=by have hvl:=h.args.length;have hI:∀b,c5 b→aK (va w c5 β G) w G b:=fun b hb=>⟨.inl hb,(h.i0 b hb).1,(h.i0 b hb).2⟩;have hnone:∀k,(GB n as hl).h k=none→k∉hl.map (·.1):=fun k hk=>Nn fun rows he=>by{have:jW hl k=none:=hk;rw[this]at he;cases he};refine{n:= ?_,df:=iZ.nil,slot:=fun t=> ?_,obj:=fun id rows hr=> ?_,dead:=fun id hd=>(h.out id (Nn hd)).2,nd:=h.nd,dx:=h.dx,dom:=fun id hi=>(h.out id (hnone id hi)).1,lt:=fun id b hb=>⟨h.lt id b hb, .inl ⟨id,hb⟩⟩,kept:=Kept.refl w _,cC:=fun g cs hg=>(h.cC g cs hg).up.mono hI (fun _ _=>rfl) (fun _ _ h=>h),ns:=fun t ht q hq=> ?_,kb:=fun _ _ _ _=>rfl};·{show(⟨vs⟩++Array.replicate (n-(⟨vs⟩:Array Value).size) undef:Array Value).size=n;simp[hvl];omega};·{have e:(⟨vs⟩++Array.replicate (n-(⟨vs⟩:Array Value).size) undef:Array Value).getD t undef=vs.getD t undef:=by{rw[Array.getD_eq_getD_getElem?,List.getD_eq_getElem?_getD];rcases Nat.lt_or_ge t vs.length with hj|hj;·{rw[Array.getElem?_append_left (by simpa using hj)];simp};·rw[Array.getElem?_append_right (by simpa using hj),List.getElem?_eq_none hj,Array.getElem?_replicate];split<;>rfl};show R w _ β [] ((⟨vs⟩++Array.replicate (n-(⟨vs⟩:Array Value).size) undef:Array Value).getD t undef) (as.getD t .bz);rw[e];exact(aG.getD h.args t).mono hI (fun _ _=>rfl) (fun _ _ h=>h)};·{exact(h.obj id rows (Tu hr)).mono hI (fun _ _=>rfl) (fun _ _ h=>h)};·have h1:jl (q++[t])=true:=hq;rw[MW,beq_iff_eq]at h1;have h2:t<n:=ht;omega
structure Good (C : aO) : Prop where
  count : kD C
  wide : C.P.follows .mixedOrders = true
  live : ∀ f i, fL (C.live f i)
  cut : s6 C
  free : ∀ (f : FuncId) (fn : Func) (c : Code), C.ext f = none → C.P.funcs[f]? = some fn → fn.body = some c → oV C f c = true
  ext : ∀ f g args r, C.ext f = some g → g args = some r → Sound C f args r
  iter : ∀ k it, C.iter k = some it → rX C k it := by intro k it h; cases h
theorem ahY(bI:kD C)(hw:C.P.follows .mixedOrders=true)(hl:∀f i,fL (C.live f i))(ki:s6 C)(vu:∀k it,C.iter k=some it→rX C k it)(eI:∀k as r,call k as=some r→Sound C k as r){cz:ta}(mW:As cz){fn:Func}{c:Code}(hf:C.P.funcs[f]? =some fn)(hb:fn.body=some c)(o1:iT C f c=true)(o2:okW (C.cw f) c=true){args:List aa}{r:aa×List aa}(h:HS C call cz f fn c args=some r):Ds C f args r:=by intro obs as hl' hargs ae0 cm aex w c5 β G vs hp;subst hargs;simp only[HS,ae0]at h;split at h;(case isFalse=>cases h);rename_i hlen;obtain⟨⟨x,S'⟩,h1,h2⟩:=Option.bind_eq_some_iff.1 h;obtain⟨gO,h0,h1⟩:=Option.bind_eq_some_iff.1 h1;refine .inl ⟨fn,c,hf,hb, ?_⟩;refine(callsIn_wide (n:=0)).1 (callsIn_of_wp_marks hf hb trivial ?_);have hK:∀k∈hl'.map (·.1),(va w c5 β G).K k:=fun k hk=>by{obtain⟨x,hx,rfl⟩:=List.mem_map.1 hk;exact aex x hx};have cD:∀a' w',xX C fn (hl'.map (·.1)) (ry (C.u9 f) S')=some r→bG C (va w c5 β G) S' a' w'→LeavesInM Fence.wide 0 C.P fn a'.tmps (Kl w c5 β G r) a'.defers .returning w':=by{rintro a' w' hx⟨β',fc,hS⟩;replace hS:=hS.kill (C.u9 f);refine Nf (T:=fun w' v=>∃(F:Id→List Nat)(G':Id→List Nat)(fr:List Nat),R w' (aK (va w c5 β G) w' F) β fr v r.1∧(∀k rows,aa.dL k rows∈r.2→dU w' (aK (va w c5 β G) w' F) β k rows (G' k))∧(∀k,(∀rows,aa.dL k rows∉r.2)→G' k=[])∧(∀k,(G' k).Nodup)∧(∀i j b,b∈G' i→b∈G' j→i=j)∧fr.Nodup∧(∀k b,b∈G' k→b∉fr)∧(∀b,(b∈fr∨∃k,b∈G' k)→∃id,b∈F id)∧∀id b,b∈F id→b<w'.heap.size∧((∃k,b∈G k)∨w.heap.size≤b)) rfl (Nat.le_refl _) (fun w2 a2 cQ er lg ht=> ?_) hS rfl rfl fun w2 v hk2 e1⟨er,G',fr,g1,g2,g3,g4,fB,gh,Lu,Eg,ac5⟩=> ?_;·{rw[←ht];obtain⟨v,e,G',fr,g1,g2,g3,g4,fB,gh,Lu,Eg⟩:=ab1 lg cm hK hx;exact⟨v,e,er,G',fr,g1,g2,g3,g4,fB,gh,Lu,Eg,fun id b hb=>lg.lt id b hb⟩};·refine⟨hk2,aK (va w c5 β G) w2 er,G',fr, ?_,g2,g3,g4,fB,gh,Lu,fun b hb=> ?_,fun b hb=>⟨hb.1,hb.2.1,fun hm=> ?_,fun k hm=> ?_⟩⟩;·{unfold Di;split;·{rename_i u hu;rw[hu]at g1;cases g1};·exact⟨v,rfl,g1⟩};·{obtain⟨id,hid⟩:=Eg b hb;exact ac5 id b hid};·{obtain⟨id,hid⟩:=Eg b (.inl hm);exact hb.2.2 id hid};·obtain⟨id,hid⟩:=Eg b (.inr ⟨k,hm⟩);exact hb.2.2 id hid};refine NH bI hw hl ki eI vu mW c none (va w c5 β G) (C.cw f) (fun j=>(⟨vs⟩++Array.replicate (fn.ntmps-(⟨vs⟩:Array Value).size) undef:Array Value).getD j undef) _ x S' _ _ _ (.inl rfl) o1 o2 h1 (bG.m8 ⟨β,G,hp.enter hlen.1 hlen.2⟩ h0) (fun j _=>rfl) fun a' w' hx hk=> ?_;cases x with|normal=>(exact cD a' w' h2 hx)|ret=>(exact cD a' w' h2 hx)|_=>simp at h2
theorem T5 (bI : kD C) (hw : C.P.follows .mixedOrders = true) (hl : ∀ f i, fL (C.live f i)) (ki : s6 C) (vu : ∀ k it, C.iter k = some it → rX C k it) (ael : ∀ g args r, C.ext f = some g → g args = some r → Sound C f args r)
    (hfree : ∀ (fn : Func) (c : Code), C.ext f = none → C.P.funcs[f]? = some fn → fn.body = some c → oV C f c = true) (eI : ∀ k as r, call k as = some r → Sound C k as r) {cz : ta} (mW : As cz) {args : List aa} {r : aa × List aa} (h : vc C call cz f args = some r) : Sound C f args r := by
  unfold vc at h
  split at h
  · rename_i g hg; exact ael g args r hg h
  · rename_i aek
    split at h
    · rename_i fn hf
      split at h
      · rename_i c hb
        have Bu := hfree fn c aek hf hb
        unfold oV at Bu
        rw [Bool.and_eq_true] at Bu
        split at h
        · rename_i dX
          exact Ds.sound (ahY bI hw hl ki vu eI mW hf hb Bu.1 Bu.2 h) dX
        rename_i dX
        have dX : C.c6 f = false := by simpa using dX
        refine Dt.sound ?_ dX
        split at h
        · rename_i hlen
          obtain ⟨⟨x, S'⟩, h1, h2⟩ := Option.bind_eq_some_iff.1 h
          intro w c5 fp vs hargs cm hI fZ EF
          refine .inl ⟨fn, c, hf, hb, ?_⟩
          refine (callsIn_wide (n := 0)).1 (callsIn_of_wp_marks hf hb trivial ?_)
          have hvl := hargs.length
          have lp : (List.range args.length).map ((⟨vs⟩ ++ Array.replicate (fn.ntmps - (⟨vs⟩ : Array Value).size) undef : Array Value).getD · undef) = vs := by
            apply List.ext_getElem?
            intro k
            rw [List.getElem?_map]
            rcases Nat.lt_or_ge k args.length with hk | hk
            · rw [List.getElem?_range hk]
              simp only [Option.map_some]
              rw [Array.getD_eq_getD_getElem?, Array.getElem?_append_left (by simpa [hvl] using hk)]
              have : k < vs.length := by omega
              simp [this]
            · rw [List.getElem?_eq_none (by simpa using hk), List.getElem?_eq_none (by omega)]
              rfl
          let E : Env := { w0 := w, fc := (· ∈ fp), c5 := c5, m := w.heap.size, le := Nat.le_refl _ }
          have Bg : bG C E (aH fn.ntmps (List.range args.length) args) { tmps := ⟨vs⟩ ++ Array.replicate (fn.ntmps - (⟨vs⟩ : Array Value).size) undef, defers := [] } w := by
            refine aR.enter (I := c5) (f := fp) ?_ (iZ.nil (d0 := [])) ?_ List.nodup_range cm (fun b hb => ⟨.inl hb, hI b hb⟩) (fun b hb => ⟨fZ b hb, .inl hb⟩) (Kept.refl w _) EF (fun _ _ _ h => h) (fun _ _ _ h => h)
            · simp [hvl]; omega
            · rw [lp]; exact hargs
          have cD : ∀ a' w', finish C fn (C.cw f) args S' = some r → bG C E S' a' w' → s8 (C.cw f) (fun j => vs.getD j undef) a' → LeavesInM Fence.wide 0 C.P fn a'.tmps (fun e w' => ∃ v, e = .returned v ∧ xp w fp c5 (sF (C.cw f) vs) r v w') a'.defers .returning w' := by
            rintro a' w' hx ⟨β, F, hS⟩ hk
            refine Nf (T := fun w' v => ∃ (I' : Nat → Prop) (fr : List Nat), aG w' I' cc fr (v :: (C.cw f).map (a'.tmps.getD · undef)) (r.1 :: r.2) ∧ fr.Nodup ∧ (∀ b ∈ fr, b < w'.heap.size ∧ (b ∈ fp ∨ w.heap.size ≤ b)) ∧
              (∀ b, I' b → (c5 b ∨ b ∈ fp ∨ w.heap.size ≤ b) ∧ b < w'.heap.size ∧ b ∉ fr)) rfl (Nat.le_refl _) (fun w2 a2 cQ er lg ht => by rw [← ht]; exact Q6 lg hx) hS rfl rfl fun w2 v hk2 e1 ⟨I', fr, g1, g2, g3, g4⟩ => ?_
            have e2 : (C.cw f).map (a'.tmps.getD · undef) = sF (C.cw f) vs := List.map_congr_left fun j hj => hk j hj
            rw [e2] at g1
            exact ⟨v, rfl, hk2, I', fr, g1, g2, g3, g4⟩
          refine NH bI hw hl ki eI vu mW c none E (C.cw f) (fun j => vs.getD j undef) _ x S' _ _ _ (.inl rfl) Bu.1 Bu.2 h1 Bg (fun j _ => ?_) fun a' w' hx hk => ?_
          · show (⟨vs⟩ ++ Array.replicate (fn.ntmps - (⟨vs⟩ : Array Value).size) undef : Array Value).getD j undef = vs.getD j undef
            rw [Array.getD_eq_getD_getElem?, List.getD_eq_getElem?_getD]
            rcases Nat.lt_or_ge j vs.length with hj | hj
            · rw [Array.getElem?_append_left (by simpa using hj)]; simp
            · rw [Array.getElem?_append_right (by simpa using hj), List.getElem?_eq_none hj, Array.getElem?_replicate]
              split <;> rfl
          cases x with
          | normal => exact cD a' w' h2 hx hk
          | ret => exact cD a' w' h2 hx hk
          | _ => simp at h2
        · cases h
      · cases h
    · cases h
/-! ### Loops without end of fuel -/
theorem ahH(dJ:Good C)(eI:∀k as r,call k as=some r→Sound C k as r){cz:ta}(mW:As cz){args:List aa}{r:aa×List aa}(h:vc C call cz f args=some r):Sound C f args r:=T5 dJ.count dJ.wide dJ.live dJ.cut dJ.iter (dJ.ext f) (dJ.free f) eI mW h
theorem Ld{α:Type}{g:α→Option (Exit×ak)}{rn:ak→Option α}:∀{m:Nat}{cg:α}{x:Exit×ak}(k:Nat),hH g rn m cg=some x→hH g rn (m+k) cg=some x|0,_,_,_,h=>by{simp[hH]at h}|m+1,cg,x,k,h=>by rw[Nat.add_right_comm];simp only[hH,Option.bind_eq_some_iff]at h⊢;obtain⟨y,h1,h2⟩:=h;refine⟨y,h1, ?_⟩;obtain⟨e,bY⟩:=y;cases e with|normal=>(simp only[Option.bind_eq_some_iff]at h2⊢;obtain⟨t,h3,h4⟩:=h2;exact⟨t,h3,Ld k h4⟩)|_=>exact h2
theorem abS{α:Type}{g:α→Option (Exit×ak)}{rn:ak→Option α}{m m':Nat}{cg:α}{x y:Exit×ak}(h1:hH g rn m cg=some x)(h2:hH g rn m' cg=some y):x=y:=by have e1:=Ld m' h1;have e2:=Ld m h2;rw[Nat.add_comm]at e2;rw[e1]at e2;exact Option.some.inj e2
open Classical in noncomputable def kk(α:Type)(g:α→Option (Exit×ak))(rn:ak→Option α)(cg:α):Option (Exit×ak):=if h:∃x m,hH g rn m cg=some x then some (Classical.choose h)else none
theorem Ni{α:Type}{g:α→Option (Exit×ak)}{rn:ak→Option α}{m:Nat}{cg:α}{x:Exit×ak}(h:hH g rn m cg=some x):kk α g rn cg=some x:=by unfold kk;have hx:∃x m,hH g rn m cg=some x:=⟨x,m,h⟩;rw[dif_pos hx];obtain⟨m',h'⟩:=Classical.choose_spec hx;rw[abS h' h]
theorem BM:As kk:=fun _ g rn cg x h=>by unfold kk at h;split at h;·{rename_i hx;simp only[Option.some.injEq]at h;subst h;exact Classical.choose_spec hx};·cases h
theorem Tp{α:Type}(g:α→Option (Exit×ak))(rn:ak→Option α)(cg:α):kk α g rn cg=(g cg).bind fun x=>match x.1 with| .normal=>(rn x.2).bind (kk α g rn)|_=>some x:=by apply Option.ext;intro x;constructor;·{intro h;obtain⟨m,h⟩:=BM _ _ _ _ _ h;cases m with|zero=>(simp[hH]at h)|succ m=>simp only[hH,Option.bind_eq_some_iff]at h⊢;obtain⟨y,h1,h2⟩:=h;refine⟨y,h1, ?_⟩;obtain⟨e,bY⟩:=y;cases e with|normal=>(simp only[Option.bind_eq_some_iff]at h2⊢;obtain⟨t,h3,h4⟩:=h2;exact⟨t,h3,Ni h4⟩)|_=>exact h2};·intro h;simp only[Option.bind_eq_some_iff]at h;obtain⟨y,h1,h2⟩:=h;obtain⟨e,bY⟩:=y;cases e with|normal=>(simp only[Option.bind_eq_some_iff]at h2;obtain⟨t,h3,h4⟩:=h2;obtain⟨m,h4⟩:=BM _ _ _ _ _ h4;refine Ni (m:=m+1) ?_;simp only[hH,h1,Option.bind_some,h3,h4])|_=>refine Ni (m:=1) ?_;simp only[hH,h1,Option.bind_some];exact h2
noncomputable def den(C:aO):Nat→FuncId→List aa→Option (aa×List aa)|0,_,_=>none|n+1,f,args=>vc C (den C n) kk f args
theorem T6(dJ:Good C):∀(n:Nat)(f:FuncId)(args:List aa)(r:aa×List aa),den C n f args=some r→Sound C f args r|0,_,_,_,h=>by{simp[den]at h}|n+1,f,args,r,h=>ahH dJ (T6 dJ n) BM h
end
end Go.Ab
