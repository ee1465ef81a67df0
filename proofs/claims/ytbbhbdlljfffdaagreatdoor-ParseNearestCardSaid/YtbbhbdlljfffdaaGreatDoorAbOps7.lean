import Derived.Test.YtbbhbdlljfffdaaGreatDoorAbOps6
import Derived.Deep.AppendSrc
open Bool renaming and_eq_true→GE
open List renaming length_append→Ha,nodup_nil→Hc,mem_cons_self→H1,all_cons→H3,getElem?_eq_none→H4,flatten_append→H5,append_nil→IH,drop_zero→If
open Nat renaming le_refl→Hb,mul_le_mul_right→Hd,le_trans→Hk,add_mul→Hm,zero_add→Hn,lt_or_ge→H0,add_le_add_left→Ix
open Option renaming bind_eq_some_iff→H2
open Option.some renaming injEq→GT
set_option linter.all false
namespace Go.Ab
open Go
section
variable{C:aB}{E:Env}{w:World}{S:ah}{a:Act}{β:Id→Option Loc}{F:Id→List Nat}
variable{next:Act→World→Prop}{Q:Exit→Act→World→Prop}
theorem aC.K2(h:aC C E w S a β F)(t:Nat){x:U}(hx:R w (av E w F) β [] (a.tmps.getD t undef) x):aC C E w ⟨S.n,ai S.t t x,S.h⟩ a β F:=by refine h.step (fun _=>False) h.n (Hb _) rfl rfl (fun _=>rfl) (fun _ _ _=>rfl) (fun _ _ h=>h) (fun id b hb=> .inl ⟨id,hb⟩) (fun _ _=>⟨rfl,rfl⟩) (fun _ _ h=>h.elim) (fun _ h=>h.elim) (fun _ h=>h.elim) (fun _ _ _ h=>h.elim) h.dom ?_;intro _ u;by_cases hu:u=t;·{subst hu;exact .inr (by simpa[ai]using hx)};·exact .inl ⟨rfl,by simp[ai,hu]⟩
theorem WK(h:aC C E w S a β F){o:Oper}{f:FuncId}{t:TypeId}{ao x:Operand}(ho:o.op= .store t ao x){e:aT}(he:k4 C f S true o t ao (un true (S.get C ao)) (un true (S.get C x))=some e)(hd:bT S e)(hn:∀a' w',aW C E (S.app e) a' w'→next a' w'):o.wp C.P a w next Q:=by have ha:=h.cZ ao;have hx:=h.cZ x;generalize zi:un true (S.get C ao)=Zh at*;generalize un true (S.get C x)=xv at*;unfold k4 at he;split at he;·{rename_i b n hb hs;split at he;·{rename_i id row off cs hcs;split at he;·{cases he};·rename_i Cb;have Cb:cs.length=n:=by{simpa using Cb};split at he;·{rename_i rows hid;simp only[Option.bind_eq_some_iff]at he;obtain⟨r,hr,he⟩:=he;split at he;·{rename_i hfit;obtain⟨_,fy,p,sz,m,bf,hv⟩:=ha.lp;obtain⟨us,qg,lf,hpl⟩:=yN hx hcs;have CN:=lf.length;obtain⟨w',hrun,hS,hfz⟩:=h.stored hid bf hr hfit Cb lf hpl;have hst:(execOp a.eval o).run C.P w= .ok .skip w':=by{simp only[execOp,ho];refine KW ?_;have hsz:(a.eval x).cells.size=n:=by{rw[qg];simp;omega};simp only[Instr.storeAt,hv,Instr.sureAddr];rw[Sem.run_bind,Sem.run_pure,Result.andThen_ok];unfold storeVar;rw[Sem.run_bind,lC hs,Result.andThen_ok];simp only[hsz,ne_eq,not_true_eq_false,if_false];rw[qg];exact hrun};split at he;·{rename_i ta oM;split at he;·{rename_i gJ;simp only[Bool.and_eq_true,decide_eq_true_eq]at gJ;obtain⟨⟨⟨⟨⟨⟨c1,c2⟩,c3⟩,s0⟩,vg⟩,_⟩,O9⟩:=gJ;simp at he;subst he;have aY:o.dst=none:=by{simpa using O9};rcases hfz ([]:Rows)with hfz|hfz;·{obtain⟨F',jc,hI,bx,hl⟩:=hfz c3 s0 c1 c2;refine Ft hst (hn _ _ ⟨β,F', ?_⟩);have hao:ao= .tmp ta:=by{unfold rj at oM;split at oM;·{split at oM;·{simp at oM;rw[oM]};·cases oM};·cases oM};have TL:a.tmps.getD ta undef= .pointer (some ⟨fy,p+row*sz+off,none⟩):=by{rw[←hv,hao];rfl};have:=jc.K2 ta (x:= .aL (iN cs)) (by rw[TL];exact .aL hI bx (aj.kG (aj.nz hl) vg));simpa[ah.app,cv,aQ,Act.put,aY]using this};·subst hfz;simp at hr};·cases he};·split at he;·{rename_i hdn;simp at he;subst he;have aY:o.dst=none:=by{simpa using hdn};obtain⟨F',jc⟩:=hS;refine Ft hst (hn _ _ ⟨β,F', ?_⟩);simpa[ah.app,put,cv,Act.put,aY]using jc};·cases he};·cases he};·cases he};·cases he};·cases he
/-! ### append -/
theorem KL(h:aC C E w S a β F){v:Value}{x:U}{xs:Rows}{ids:List Id}{sz:Nat}(hx:R w (av E w F) β [] v x)(hr:rowsOf S.h x=some (xs,ids))(hsz:∀r∈xs,r.length=sz):∃ba n cap vs f,v= .slice ba n cap∧n=xs.length∧aj w (av E w F) β f vs xs.flatten∧vs.length=n*sz∧(n=0∨∃b o,ba=some ⟨b,o,none⟩∧eu w b o vs):=by unfold rowsOf at hr;split at hr;·{simp at hr;obtain⟨rfl,rfl⟩:=hr;rcases hx.xS.2 with⟨ba,cap,rfl,hv⟩|⟨b,o,sz',cap,vs,_,_,bx,hl,_,hv⟩;·{exact⟨ba,0,cap,[],[],hv,rfl, .nil,by simp, .inl rfl⟩};·exact⟨_,_,cap,vs,[],hv,rfl,R.up hl,by rw[hl.length,iZ hsz], .inr ⟨b,o,rfl,bx⟩⟩};·{simp at hr;obtain⟨rfl,rfl⟩:=hr;obtain⟨_,ba,hv⟩:=hx.sA;exact⟨ba,0,0,[],[],hv,rfl, .nil,by simp, .inl rfl⟩};·{rename_i id off len;split at hr;·{rename_i rows hid;split at hr;·{rename_i hle;simp at hr;obtain⟨rfl,rfl⟩:=hr;rcases hx.j9.2 with⟨ba,l,rfl,hv,_⟩|⟨b,o,sz',m,cap,bf,hfit,hlc,hv⟩;·{exact⟨ba,0,0,[],[],hv,by simp,by simpa using R.nil,by simp, .inl rfl⟩};·rcases Nat.eq_zero_or_pos len with h0|h0;·{subst h0;exact⟨_,0,cap,[],[],hv,by simp,by simpa using R.nil,by simp, .inl rfl⟩};·obtain⟨vs,bW,fj,_,⟨hne,hrows⟩,_,bx,hl⟩:=(h.obj id rows hid).at bf;have oL:sz'=sz:=by{have hlt:off<rows.length:=by{omega};have hm:rows[off]∈(rows.drop off).take len:=by{rw[List.mem_iff_getElem?];exact⟨0,by rw[List.getElem?_take_of_lt h0,List.getElem?_drop];simp⟩};have hm2:rows[off]∈rows:=List.getElem_mem hlt;rw[←hrows _ hm2,hsz _ hm]};subst oL;have hfl:=iZ hrows;have e1:((rows.drop off).take len).flatten=(rows.flatten.drop (off*sz')).take (len*sz'):=by{have:=y7 (l:=off) (r:=off+len) hrows;rw[List.take_drop,this,List.take_drop,Nat.add_mul]};have Cs:off*sz'+len*sz'≤rows.flatten.length:=by{rw[hfl,←Nat.add_mul];exact Nat.mul_le_mul_right _ hle};obtain⟨f1,f2,f3,e0,_,h2,_⟩:=hl.jo (off*sz') (len*sz') Cs;rw[←e1]at h2;have hlen:=h2.length;refine⟨_,len,cap,_,f2,hv,by simp;omega,h2, ?_, .inr ⟨b,o+off*sz',rfl,(bx.drop _).take _⟩⟩;rw[hlen,iZ hsz];congr 1;simp;omega};·cases hr};·cases hr};·cases hr
theorem Yv{t e':TypeId}{sz n cap:Nat}{ba:Option Addr}{vs:List Value}(hk:C.P.underlying t=some (.slice e'))(hl:vs.length=n*sz)(hc:n=0∨∃b o,ba=some ⟨b,o,none⟩∧eu w b o vs)(hp:∀u∈vs,mq u=true):Src C.P sz t (.slice ba n cap) n vs w:=by have h1:∀u∈vs,u.oneCell'=true:=fun u hu=>by{have:=hp u hu;cases u<;>simp_all[mq,Value.oneCell']};rcases hc with rfl|⟨b,o,rfl,bx⟩;·{have:vs=[]:=List.length_eq_zero_iff.1 (by simpa using hl);subst this;have hz:∀w':World,(Builtin.firstCells sz 0 (.slice ba 0 cap)).run C.P w'= .ok #[] w':=fun w'=>by{cases ba with|none=>(exact run_firstCells_none w' _ _ _ _)|some p=>simp[Builtin.firstCells,loadCells,loadCellsFrom]};exact⟨.inl ⟨e',hk⟩,fun _=>rfl,hz w,hz w.drew,by simp,h1⟩};·exact Src.ofSlice w hk ⟨b,o,none⟩ n cap vs hl (fun j u hj=>by rw[jw];exact bx j u hj) h1
theorem J9{I:Nat→Prop}{as:List U}:∀{f:List Nat}{vs:List Value},aj w I β f vs as→as.all U.cell=true→f=[]∧∀u∈vs,mq u=true:=by induction as with|nil=>(intro f vs h _;obtain⟨rfl,rfl⟩:=h.eJ;exact⟨rfl,fun u hu=>by cases hu⟩)|cons c as ih=>intro f vs h hc;simp only[H3,GE]at hc;obtain⟨f1,f2,v,vs',rfl,rfl,h1,h2⟩:=aj.cons_inv h;obtain⟨e2,p2⟩:=ih h2 hc.2;refine⟨by rw[h1.vC hc.1,e2];rfl,fun u hu=> ?_⟩;cases hu with|head=>(obtain⟨p1,p3,_⟩:=h1.plain hc.1;cases v<;>simp_all[mq])|tail _ hm=>exact p2 u hm
theorem KI{rows:Rows}(h:nZ rows=true):rows.flatten.all U.cell=true:=by rw[List.all_eq_true];intro c hc;obtain⟨r,hr,hm⟩:=List.mem_flatten.1 hc;exact List.all_eq_true.1 (List.all_eq_true.1 h r hr) c hm
theorem Rp{w:World}(c:Array Value)(e:TypeId)(x:Addr):(w.alloc (.cells c e)).frozen? x=w.frozen? x:=by have hnew:(w.alloc (.cells c e)).heap[w.heap.size]? =some (.cells c e):=heap_alloc_new _ _;by_cases hx:x.block=w.heap.size;·{have e2:w.heap[x.block]? =none:=by{rw[hx];simp};simp only[World.frozen?,hx,hnew];simp};·rw[World.frozen?_alloc_old _ _ _ hx]
theorem aC.zO(h:aC C E w S a β F){o:Oper}{d:Nat}(aY:o.dst=some d){kill:Id}(hfresh:S.h [d]=none)(Cq:kill=[d]∨∃rows,S.h kill=some (some rows)){w':World}{h':Id→Option (Option Rows)}{aV:Rows}{G:List Nat}{l:Loc}{v:Value}{x:U}(j3:h' [d]=some (some aV))(j4:∀i,i≠[d]→i≠kill→h' i=S.h i)(l8:kill≠[d]→h' kill=some none)(hsz:w.heap.size≤w'.heap.size)(hos:w'.os=w.os)(hout:w'.output=w.output)(p9:∀y,w'.frozen? y=w.frozen? y)(hw:∀b,b<w.heap.size→b∉F kill→w'.heap[b]? =w.heap[b]?)(eB:∀b n,eU w b n→eU w' b n)(eH:G.Nodup)(mU:∀b∈G,b∈F kill∨(w.heap.size≤b∧b<w'.heap.size))(SI:∀(I':Nat→Prop)(β':Id→Option Loc),(∀b,av E w F b→I' b)→(∀i l,β i=some l→β' i=some l)→β' [d]=some l→cW w' I' β' [d] aV G)(hx:∀(I':Nat→Prop)(β':Id→Option Loc),β' [d]=some l→R w' I' β' [] v x)(hd:d<S.n):aW C E ⟨S.n,ai S.t d x,h'⟩ (a.put o.dst v) w':=by have wJ:β [d]=none:=h.dom _ hfresh;have nL:F [d]=[]:=h.dead _ (by rw[hfresh];simp);let F':Id→List Nat:=fun i=>if i=[d]then G else if i=kill then[]else F i;have ze:F' [d]=G:=by{simp[F']};have vL:kill≠[d]→F' kill=[]:=fun hk=>by{simp[F',hk]};have BT:∀i,i≠[d]→i≠kill→F' i=F i:=fun i h1 h2=>by{simp[F',h1,h2]};have bf:∀i l',β i=some l'→ai β [d] (some l) i=some l':=fun i l' hl=>by{by_cases hi:i=[d];·{subst hi;rw[wJ]at hl;cases hl};·simpa[ai,hi]using hl};refine⟨ai β [d] (some l),F', ?_⟩;refine h.step (fun i=>i=[d]∨i=kill) (by rw[oV];exact h.n) hsz hos hout p9 (fun b hb hk=>hw b hb (hk kill (.inr rfl))) bf ?_ ?_ ?_ ?_ ?_ ?_ ?_ ?_ (eB:=eB) (hok:=fun k rows hk hr=>by by_cases h1:k=[d];·{subst h1;exact absurd hk (h.ns d hd [])};·by_cases h2:k=kill;·{subst h2;simp only at hr;rw[l8 h1]at hr;cases hr};·exact⟨rows,by rw[←j4 k h1 h2];exact hr⟩);·{intro i b hb;by_cases h1:i=[d];·{subst h1;rw[ze]at hb;rcases mU b hb with hm|hm;·{exact .inl ⟨kill,hm⟩};·exact .inr hm};·by_cases h2:i=kill;·{subst h2;rw[vL h1]at hb;cases hb};·rw[BT i h1 h2]at hb;exact .inl ⟨i,hb⟩};·{intro i hi;have h1:i≠[d]:=fun e=>hi (.inl e);have h2:i≠kill:=fun e=>hi (.inr e);exact⟨BT i h1 h2,j4 i h1 h2⟩};·{intro hI i hi dY hr;by_cases h1:i=[d];·{subst h1;have hr':h' [d]=some (some dY):=hr;rw[j3]at hr';simp at hr';subst hr';rw[ze];exact SI _ _ hI bf (by simp[ai])};·have h2:i=kill:=hi.resolve_left h1;subst h2;have hr':h' i=some (some dY):=hr;rw[l8 h1]at hr';simp at hr'};·{intro i hi hno;by_cases h1:i=[d];·{subst h1;exact absurd j3 (hno _)};·have h2:i=kill:=hi.resolve_left h1;subst h2;exact vL h1};·{intro i hi;by_cases h1:i=[d];·{subst h1;rw[ze];exact eH};·have h2:i=kill:=hi.resolve_left h1;subst h2;rw[vL h1];exact Hc};·{intro i j b hi ir jD;have aux:∀j,j≠[d]→b∈F' j→b∈G→False:=fun j hj jD SS=>by{by_cases h2:j=kill;·{subst h2;rw[vL hj]at jD;cases jD};·rw[BT j hj h2]at jD;rcases mU b SS with hm|hm;·{exact h2 (h.ct j kill b jD hm)};·have:=(h.lt j b jD).1;omega};by_cases h1:i=[d];·{subst h1;by_cases h2:j=[d];·{exact h2.symm};·rw[ze]at ir;exact(aux j h2 jD ir).elim};·have h2:i=kill:=hi.resolve_left h1;subst h2;rw[vL h1]at ir;cases ir};·{intro i hi;have hi':h' i=none:=hi;by_cases h1:i=[d];·{subst h1;rw[j3]at hi';cases hi'};·by_cases h2:i=kill;·{subst h2;rw[l8 h1]at hi';cases hi'};·rw[j4 i h1 h2]at hi';simp[ai,h1,h.dom i hi']};·intro _ u;rw[aY,oU a d u v (by rw[h.n];exact hd)];by_cases hu:u=d;·{subst hu;rw[AC rfl];exact .inr (by simpa[ai]using hx _ (ai β [u] (some l)) (by simp[ai]))};·rw[Do hu];exact .inl ⟨rfl,by simp[ai,hu]⟩
theorem aC.drew(h:aC C E w S a β F):aC C E w.drew S a β F:=h.step (fun _=>False) h.n (Hb _) rfl rfl (fun _=>rfl) (fun _ _ _=>rfl) (fun _ _ h=>h) (fun id b hb=> .inl ⟨id,hb⟩) (fun _ _=>⟨rfl,rfl⟩) (fun _ _ h=>h.elim) (fun _ h=>h.elim) (fun _ h=>h.elim) (fun _ _ _ h=>h.elim) h.dom (fun _ _=> .inl ⟨rfl,rfl⟩)
structure qK(P:Program)(w:World)(t t2 ty el:TypeId)(i:TypeInfo)(cD:Value)(yv:Value)(cX:Nat)(vy:List Value):Prop where
 idle:cX=0→∀eM,(Builtin.append_ #[t,t2] ty #[.slice eM 0 0,yv]).run P w= .ok (.slice eM 0 0) w
 room:∀b p len cap w',len+cX≤cap→(storeCells ⟨b,p+len*i.size,none⟩ vy).run P w= .ok () w'→(Builtin.append_ #[t,t2] ty #[.slice (some ⟨b,p,none⟩) len cap,yv]).run P w= .ok (.slice (some ⟨b,p,none⟩) (len+cX) cap) w'
 grow:∀(eM:Option Addr)(n cap:Nat)(vs:List Value),(Builtin.firstCells i.size n (.slice eM n cap)).run P w.drew= .ok vs.toArray w.drew→cap<n+cX→((n+cX:Nat):Int)≤9223372036854775807→Builtin.nextslicecap (n+cX) cap*i.bytes≤281474976710656→
  (Builtin.append_ #[t,t2] ty #[.slice eM n cap,yv]).run P w= .ok (.slice (some ⟨w.heap.size,0,none⟩) (n+cX) (grownCap w (n+cX) cap el)) (w.drew.alloc (.cells ((vs++vy).toArray++Builtin.zeroCells cD.cells (grownCap w (n+cX) cap el-(n+cX))) el))
theorem Gk(h:aC C E w S a β F){o:Oper}{t t2 el:TypeId}{d:Nat}{i:TypeInfo}{cD yv:Value}{x:Operand}{xv:U}{xs ys:Rows}{i1 i2:List Id}{vy:List Value}{cX:Nat}{e:aT}
  (aY:o.dst=some d)(qh:cD.cells.size=i.size)(hby:i.bytes≤4096)(wg:xs.length+ys.length≤me)(hfr:(S.h [d]).isNone=true)(r0:∀r∈ys,r.length=i.size)
  (hx:R w (av E w F) β [] (a.eval x) xv)(rY:rowsOf S.h xv=some (xs,i1))(tJ:cX=ys.length)(nQ:aj w (av E w F) β [] vy ys.flatten)(rW:vy.length=cX*i.size)(tL:∀u∈vy,mq u=true)
  (l7:∀{v:Value}{w':World},(Builtin.append_ #[t,t2] o.type #[a.eval x,yv]).run C.P w= .ok v w'→(execOp a.eval o).run C.P w= .ok (.value v) w')(tw:qK C.P w t t2 o.type el i cD yv cX vy)
  (he:kr S o d i.size xv xs ys i1 i2=some e)(hd:bT S e)(hn:∀a' w',aW C E (S.app e) a' w'→next a' w'):o.wp C.P a w next Q:=by
 unfold kr at he
 have grow:∀(kill:Id)(h':Id→Option (Option Rows))(eM:Option Addr)(n cap:Nat)(vs:List Value)(f:List Nat),a.eval x= .slice eM n cap→n=xs.length→cap<n+cX→vs.length=n*i.size→(n=0∨∃b o,eM=some ⟨b,o,none⟩∧eu w b o vs)→
   aj w (av E w F) β f vs xs.flatten→(∀r∈xs,r.length=i.size)→f.Nodup→(∀b∈f,b∈F kill)→(kill=[d]∨∃rows,S.h kill=some (some rows))→
   h' [d]=some (some (xs++ys))→(∀j,j≠[d]→j≠kill→h' j=S.h j)→(kill≠[d]→h' kill=some none)→e={cO:=[(d, .rs [d] 0 (xs.length+ys.length))],rd:=i1++i2,wr:=e.wr}→(S.app e).h=h'→o.wp C.P a w next Q:=by
  intro kill h' eM n cap vs f hv hn' hgrow hvl bx hl wF hfn zq hk j3 j4 l8 hee Cl
  have hold:(Builtin.firstCells i.size n (.slice eM n cap)).run C.P w.drew= .ok vs.toArray w.drew:=by
   rcases bx with h0|⟨b',o',rfl,bx⟩
   ·subst h0
    have :vs=[]:=List.length_eq_zero_iff.1 (by simpa using hvl)
    subst this
    cases eM with
    |none=>exact run_firstCells_none w.drew _ _ _ _
    |some p=>simp[Builtin.firstCells,loadCells,loadCellsFrom]
   ·exact run_firstCells_some w.drew i.size n ⟨b',o',none⟩ n cap vs hvl (fun j u hj=>by rw[jw];exact bx j u hj)
  have wj:n+cX≤4294967296:=by unfold me at wg;omega
  have ei:(n+cX)*i.bytes≤140737488355328:=Hk (Nat.mul_le_mul wj hby) (by decide)
  have hrun:=(congrArg (fun z=>(Builtin.append_ #[t,t2] o.type #[z,yv]).run C.P w) hv).trans (tw.grow eM n cap vs hold hgrow (by omega) (growslice_fits hgrow ei))
  refine iF (l7 hrun) (hn _ _ ?_)
  generalize hcells:(vs++vy).toArray++Builtin.zeroCells cD.cells (grownCap w (n+cX) cap el-(n+cX))=lK
  have hcap:n+cX≤grownCap w (n+cX) cap el:=by unfold grownCap Question.cut;simp
  have BX:=h.drew
  have hlen:(vs++vy).length=(n+cX)*i.size:=by rw[Ha,hvl,rW,Hm]
  have BS:lK.size=(n+cX)*i.size+(grownCap w (n+cX) cap el-(n+cX))*cD.cells.size:=by
   rw[←hcells,Array.size_append,List.size_toArray,hlen];simp[Builtin.zeroCells]
  have hne:xs++ys≠[]:=fun e0=>by
   have h0:=congrArg List.length e0
   rw[Ha]at h0
   simp only[List.length_nil]at h0
   omega
  have hall:∀r∈xs++ys,r.length=i.size:=fun r hr=>(List.mem_append.1 hr).elim (wF r) (r0 r)
  have hnew:(w.drew.alloc (.cells lK el)).heap[w.heap.size]? =some (.cells lK el):=heap_alloc_new _ _
  have hold':∀b,b<w.heap.size→(w.drew.alloc (.cells lK el)).heap[b]? =w.heap[b]? :=fun b hb=>heap_alloc_old _ _ _ hb
  have hmul:(n+cX)*i.size+(grownCap w (n+cX) cap el-(n+cX))*i.size=grownCap w (n+cX) cap el*i.size:=by rw[←Hm];congr 1;omega
  rw[qh,hmul]at BS
  have wh:=h.zO (w':=w.drew.alloc (.cells lK el)) (h':=h') (aV:=xs++ys) (G:=w.heap.size::f) (l:= .blk w.heap.size 0 i.size lK.size)
   (v:= .slice (some ⟨w.heap.size,0,none⟩) (n+cX) (grownCap w (n+cX) cap el)) (x:= .rs [d] 0 (xs.length+ys.length)) aY (kB hfr) hk j3 j4 l8 (by simp) rfl rfl (fun y=>by rw[Rp];rfl)
   (fun b hb _=>hold' b hb) (pK hold') (List.nodup_cons.2 ⟨fun hm=>by
    rcases hk with hk|⟨rows,hk⟩
    ·have :=zq _ hm
     rw[hk,h.dead [d] (by rw[kB hfr];simp)]at this;cases this
    ·exact absurd (h.lt kill _ (zq _ hm)).1 (Nat.lt_irrefl _),hfn⟩) (fun b hb=>by
    cases hb with
    |head=>exact .inr ⟨Hb _,by simp⟩
    |tail _ hm=>exact .inl (zq b hm)) (fun I' β' hI bf hd'=> .inr (.inr ⟨w.heap.size,0,i.size,lK.size,vs++vy,f,hd',rfl,⟨lK,el,hnew,rfl⟩,⟨hne,hall⟩,by rw[BS,Hn];exact Hd _ (by rw[Ha];omega), ?_, ?_⟩)) ?_ ?_
  ·have e1:S.app e=⟨S.n,ai S.t d (.rs [d] 0 (xs.length+ys.length)),h'⟩:=by
    rw[←Cl,hee];rfl
   rw[e1];exact wh
  ·intro k u hu
   rw[Hn,cell_of_row _ _ _ lK el (0,0) hnew,←hcells]
   have hlt:k<(vs++vy).length:=by
    rcases H0 k (vs++vy).length with h'|h'
    ·exact h'
    ·rw[H4 h']at hu;cases hu
   rw[Array.getElem?_append_left (by simpa using hlt)]
   simpa using hu
  ·rw[H5]
   have l1:=hl.mono (w':=w.drew.alloc (.cells lK el)) (β':=β') hI (fun b hb=>hold' b (hb.elim (fun hb=>hb.2.1) fun hb=>by
    have hm:=zq b hb
    rcases hk with hk|⟨rows,hk⟩
    ·rw[hk,h.dead [d] (by rw[kB hfr];simp)]at hm;cases hm
    ·exact(h.lt kill b hm).1)) bf
   have l2:=nQ.mono (w':=w.drew.alloc (.cells lK el)) (β':=β') hI (fun b hb=>hold' b (hb.elim (fun hb=>hb.2.1) fun hb=>by cases hb)) bf
   have :=aj.append l1 l2
   rwa[IH]at this
  ·intro I' β' hd'
   have :=R.rs (w:=w.drew.alloc (.cells lK el)) (I:=I') (off:=0) (len:=n+cX) (cap:=grownCap w (n+cX) cap el) hd' (by rw[BS];simp) hcap
   rw[show xs.length+ys.length=n+cX by omega]
   simpa using this
  ·have :bT S e:=hd
   rw[hee]at this
   simpa[bT]using this
 have idle:∀(kill:Id)(h':Id→Option (Option Rows))(eM:Option Addr),a.eval x= .slice eM 0 0→xs=[]→ys=[]→(kill=[d]∨∃rows,S.h kill=some (some rows))→
   h' [d]=some (some (xs++ys))→(∀j,j≠[d]→j≠kill→h' j=S.h j)→(kill≠[d]→h' kill=some none)→e={cO:=[(d, .rs [d] 0 (xs.length+ys.length))],rd:=i1++i2,wr:=e.wr}→(S.app e).h=h'→o.wp C.P a w next Q:=by
  intro kill h' eM hv hx0 hy0 hk j3 j4 l8 hee Cl
  subst hx0 hy0
  have hn0:cX=0:=by simpa using tJ
  have hrun:(Builtin.append_ #[t,t2] o.type #[a.eval x,yv]).run C.P w= .ok (.slice eM 0 0) w:=by rw[hv];exact tw.idle hn0 eM
  refine iF (l7 hrun) (hn _ _ ?_)
  have wh:=h.zO (w':=w) (h':=h') (aV:=[]) (G:=[]) (l:= .nil) (v:= .slice eM 0 0) (x:= .rs [d] 0 0) aY (kB hfr) hk j3 j4 l8 (Hb _) rfl rfl (fun _=>rfl) (fun _ _ _=>rfl) (fun _ _ h=>h)
   Hc (fun b hb=>by cases hb) (fun I' β' _ _ hd'=> .inl ⟨hd',rfl,rfl⟩) (fun I' β' hd'=> .ga hd' rfl) (by
    have :bT S e:=hd
    rw[hee]at this
    simpa[bT]using this)
  have e1:S.app e=⟨S.n,ai S.t d (.rs [d] 0 0),h'⟩:=by
   rw[←Cl,hee];rfl
  rw[e1];exact wh
 split at he
 ·rename_i id off len
  split at he
  ·rename_i rows hid
   split at he
   ·rename_i jZ
    simp only[GE,Bool.or_eq_true,decide_eq_true_eq]at jZ
    obtain⟨⟨hrows,hoff⟩,vU⟩:=jZ
    have hrows:=qU hrows
    subst hoff
    simp at he
    have TB:[d]≠id:=fun e0=>by rw[←e0,kB hfr]at hid;cases hid
    have j3:(S.app e).h [d]=some (some (xs++ys)):=by rw[←he];simp[ah.app,put,aY,aQ,ai,TB]
    have j4:∀j,j≠[d]→j≠id→(S.app e).h j=S.h j:=fun j h1 h2=>by rw[←he];simp[ah.app,put,aY,aQ,ai,h1,h2]
    have l8:id≠[d]→(S.app e).h id=some none:=fun _=>by rw[←he];simp[ah.app,put,aY,aQ,ai]
    have hee:e={cO:=[(d, .rs [d] 0 (xs.length+ys.length))],rd:=i1++i2,wr:=e.wr}:=by rw[←he];simp[put,aY]
    have wE:=rY
    simp only[rowsOf,hid]at wE
    split at wE
    ·rename_i hle
     simp only[If,GT,Prod.mk.injEq]at wE
     obtain⟨hxs,_⟩:=wE
     have wF:∀r∈xs,r.length=i.size:=fun r hr=>hrows r (by rw[←hxs]at hr;exact List.mem_of_mem_take hr)
     have hxl:xs.length=len:=by rw[←hxs];simp;omega
     rcases hx.j9.2 with⟨eM,l,qb,hv,_⟩|⟨b,p,sz',m,cap,bf,hfit,hlc,hv⟩
     ·have CP:xs=[]:=List.length_eq_zero_iff.1 (by omega)
      by_cases hy0:ys=[]
      ·exact idle id _ eM hv CP hy0 (.inr ⟨rows,hid⟩) j3 j4 l8 hee rfl
      ·have :0<ys.length:=List.length_pos_iff.2 hy0
       exact grow id _ eM 0 0 [] [] hv (by rw[CP];rfl) (by omega) (by simp) (.inl rfl) (by rw[CP];exact .nil) wF Hc (fun b hb=>by cases hb) (.inr ⟨rows,hid⟩) j3 j4 l8 hee rfl
     ·obtain⟨vs,bW,fj,hB,⟨hne,mX⟩,TT,bx,hl⟩:=(h.obj id rows hid).at bf
      have oL:sz'=i.size:=by
       obtain⟨dK,tM⟩:=List.exists_mem_of_ne_nil _ hne
       rw[←mX dK tM,hrows dK tM]
      subst oL
      have hfl:=iZ hrows
      have Cs:len*i.size≤rows.flatten.length:=by rw[hfl];exact Hd _ (by omega)
      obtain⟨f1,f2,f3,e0,_,l2,_⟩:=hl.jo 0 (len*i.size) (by omega)
      simp only[If]at l2
      have exs:xs.flatten=rows.flatten.take (len*i.size):=by
       have :=y7 (l:=0) (r:=len) hrows
       simpa[hxs]using this
      rw[←exs]at l2
      have hnd:=h.nd id
      rw[fj,e0]at hnd
      have kF:=(List.nodup_cons.1 hnd).2
      have nN:=(List.nodup_cons.1 hnd).1
      have p8:f2.Nodup:=(List.nodup_append.1 (List.nodup_append.1 kF).2.1).1
      have Ij:∀b'∈f2,b'∈F id:=fun b' hb'=>by
       rw[fj,e0]
       exact List.mem_cons_of_mem _ (List.mem_append.2 (.inr (List.mem_append.2 (.inl hb'))))
      have wD:(vs.take (len*i.size)).length=len*i.size:=by rw[l2.length,exs,List.length_take,Nat.min_eq_left Cs]
      simp only[Nat.zero_mul,Nat.add_zero,Hn]at hfit hv
      rcases H0 cap (len+cX)with hg|hg
      ·exact grow id _ _ len cap (vs.take (len*i.size)) f2 hv hxl.symm hg wD (.inr ⟨b,p,rfl,bx.take _⟩) l2 wF p8 Ij (.inr ⟨rows,hid⟩) j3 j4 l8 hee rfl
      ·
       obtain⟨nE,ce,p0,hcm⟩:=hB
       have l5:=lt_of_heap p0
       have hroom:p+len*i.size+vy.length≤nE.size:=by
        rw[rW,hcm,Nat.add_assoc,←Hm]
        exact Hk (Ix (Hd _ hg) _) hfit
       have hst:=KV C.P b (p+len*i.size) ce vy 0 w nE p0 (by omega) tL
       rw[Nat.add_zero]at hst
       generalize hw':gB w b (.cells (over nE (p+len*i.size) vy) ce (0,0))=w' at hst
       have jF:∀k,w'.heap[k]? =if k=b then some (.cells (over nE (p+len*i.size) vy) ce (0,0))else w.heap[k]? :=fun k=>by rw[←hw'];exact uI l5 k
       have hnew:w'.heap[b]? =some (.cells (over nE (p+len*i.size) vy) ce (0,0)):=by rw[jF,AC rfl]
       have hrun:(Builtin.append_ #[t,t2] o.type #[a.eval x,yv]).run C.P w= .ok (.slice (some ⟨b,p,none⟩) (len+cX) cap) w':=by rw[hv];exact tw.room b p len cap w' hg hst
       refine iF (l7 hrun) (hn _ _ ?_)
       by_cases Iu:xs++ys=[]
       ·rw[Iu]at vU
        simp at vU
        exact absurd vU hne
       have wh:=h.zO (w':=w') (h':=(S.app e).h) (aV:=xs++ys) (G:=b::f2) (l:= .blk b p i.size m)
        (v:= .slice (some ⟨b,p,none⟩) (len+cX) cap) (x:= .rs [d] 0 (xs.length+ys.length)) aY (kB hfr) (.inr ⟨rows,hid⟩) j3 j4 l8 (by rw[←hw'];simp[gB]) (by rw[←hw'];rfl) (by rw[←hw'];rfl)
        (fun y=>by
         simp only[World.frozen?,jF]
         by_cases hy:y.block=b
         ·rw[AC hy,hy,p0]
         ·rw[Do hy])
        (fun b' _ hb'=>by rw[jF,Do (fun e1=>hb' (by rw[fj,e1];exact H1 ..))])
        (fun k n hB=>by
         by_cases hk:k=b
         ·subst hk
          obtain⟨c2,e2,jZ,hn2⟩:=hB
          rw[p0]at jZ
          simp only[GT,Obj.cells.injEq]at jZ
          obtain⟨rfl,_⟩:=jZ
          exact⟨_,_,hnew,by rw[z6 _ _ _ hroom];exact hn2⟩
         ·exact hB.mono (by rw[jF,Do hk]))
        (List.nodup_cons.2 ⟨fun hm=>nN (List.mem_append.2 (.inr (List.mem_append.2 (.inl hm)))),p8⟩)
        (fun b' hb'=> .inl (by
         cases hb' with
         |head=>rw[fj];exact H1 ..
         |tail _ hm=>exact Ij b' hm))
        (fun I' β' hI gu hd'=> .inr (.inr ⟨b,p,i.size,m,vs.take (len*i.size)++vy,f2,hd',rfl,⟨_,_,hnew,by rw[z6 _ _ _ hroom];exact hcm⟩,⟨Iu,fun r hr=>(List.mem_append.1 hr).elim (wF r) (r0 r)⟩, ?_, ?_, ?_⟩)) ?_ ?_
       ·have e1:S.app e=⟨S.n,ai S.t d (.rs [d] 0 (xs.length+ys.length)),(S.app e).h⟩:=by
         conv=>lhs;rw[hee]
         rfl
        rw[e1];exact wh
       ·rw[Ha]
        exact Hk (Ix (Hd _ (by omega)) _) hfit
       ·intro k u hu
        rw[cell_of_row _ _ _ _ _ _ hnew,sn _ _ _ _ hroom]
        by_cases h1:k<len*i.size
        ·rw[Do (by omega)]
         rw[List.getElem?_append_left (by omega),List.getElem?_take_of_lt h1]at hu
         have :=bx k u hu
         rwa[cell_of_row _ _ _ _ _ _ p0]at this
        ·rw[List.getElem?_append_right (by omega),wD]at hu
         have hk2:k-len*i.size<vy.length:=by
          rcases H0 (k-len*i.size) vy.length with h'|h'
          ·exact h'
          ·rw[H4 h']at hu;cases hu
         rw[AC (by omega),show p+k-(p+len*i.size)=k-len*i.size by omega]
         exact hu
       ·rw[H5]
        have hk2:∀b',av E w F b'∨b'∈f2→w'.heap[b']? =w.heap[b']? :=fun b' hb'=>by
         rw[jF,Do]
         intro e1;subst e1
         rcases hb' with hb'|hb'
         ·exact hb'.2.2 id (by rw[fj];exact H1 ..)
         ·exact nN (List.mem_append.2 (.inr (List.mem_append.2 (.inl hb'))))
        have nT:=l2.mono (w':=w') (β':=β') hI hk2 gu
        have I3:=nQ.mono (w':=w') (β':=β') hI (fun b' hb'=>hk2 b' (hb'.elim .inl fun hb'=>by cases hb')) gu
        have :=aj.append nT I3
        rwa[IH]at this
       ·intro I' β' hd'
        have :=R.rs (w:=w') (I:=I') (off:=0) (len:=xs.length+ys.length) (cap:=cap) hd' (by simpa using hfit) (by omega)
        rw[show len+cX=xs.length+ys.length by omega]
        simpa using this
       ·have :bT S e:=hd
        rw[hee]at this
        simpa[bT]using this
    ·cases wE
   ·cases he
  ·cases he
 ·simp at he
  obtain⟨_,eM,hv⟩:=hx.sA
  simp[rowsOf]at rY
  obtain⟨rfl,rfl⟩:=rY
  have j3:(S.app e).h [d]=some (some ([]++ys)):=by rw[←he];simp[ah.app,put,aY,aQ,ai]
  have j4:∀j,j≠[d]→j≠[d]→(S.app e).h j=S.h j:=fun j h1 _=>by rw[←he];simp[ah.app,put,aY,aQ,ai,h1]
  have hee:e={cO:=[(d, .rs [d] 0 (([]:Rows).length+ys.length))],rd:=[]++i2,wr:=e.wr}:=by rw[←he];simp[put,aY]
  by_cases hy0:ys=[]
  ·exact idle [d] _ eM hv rfl hy0 (.inl rfl) j3 j4 (fun h=>absurd rfl h) hee rfl
  ·have :0<ys.length:=List.length_pos_iff.2 hy0
   exact grow [d] _ eM 0 0 [] [] hv rfl (by omega) (by simp) (.inl rfl) .nil (fun r hr=>by cases hr) Hc (fun b hb=>by cases hb) (.inl rfl) j3 j4 (fun h=>absurd rfl h) hee rfl
 ·cases he
theorem qK.V1{t t2 ty el:TypeId}{i:TypeInfo}{cD yv:Value}{cX:Nat}{vy:List Value}(hu:C.P.underlying t=some (.slice el))(hi:C.P.info? el=some i)(iu:i.zero=some cD)(hsrc:Src C.P i.size t2 yv cX vy w):qK C.P w t t2 ty el i cD yv cX vy where
 idle:=fun hn eM=>by
  subst hn
  have T0:vy=[]:=List.length_eq_zero_iff.1 (by simpa using hsrc.newsLen)
  subst T0
  rcases hsrc.kind with⟨e',hk'⟩|hk'<;>
   (cases eM<;>simp[Builtin.append_,dU hu,dU (C:=C) hk',sizeOf,typeInfo,hi,hsrc.len,hsrc.cells,storeCells])
 room:=fun b p len cap w' hg hst=>by
  rcases hsrc.kind with⟨e',hk'⟩|hk'<;>
   simp[Builtin.append_,dU hu,dU (C:=C) hk',sizeOf,typeInfo,hi,hsrc.len,hsrc.cells,hg,jw,hst]
 grow:=fun eM n cap vs hold hg h63 hfit=>run_append_grow_src (P:=C.P) w t t2 ty el i cD hu hi iu eM n cap vs hold yv cX vy hsrc hg h63 hfit
theorem qK.Y5{t t2 ty el:TypeId}{i:TypeInfo}{cD:Value}{k kk:IntKind}{N:Int}(hu:C.P.underlying t=some (.slice el))(hk:C.P.underlying t2=some (.int k))(hi:C.P.info? el=some i)(iu:i.zero=some cD)(qh:cD.cells.size=i.size)(h0:0<i.size)(hby:i.bytes≤4096)(hN:0≤N∧N≤4294967296):qK C.P w t t2 ty el i cD (.int kk N) N.toNat (Builtin.zeroCells cD.cells N.toNat).toList:=by have hw1:IntKind.i64.wrap N=N:=IntWalk.i64_in N (by omega);have B0:¬(N*(i.bytes:Int)>2^48):=by{have:N*(i.bytes:Int)≤4294967296*4096:=Int.mul_le_mul (by omega) (by omega) (by omega) (by omega);omega};have qb:¬(N<0):=by{omega};have tw:∀w':World,(if N.toNat*i.size=0 then pure #[]else do pure (Builtin.zeroCells (←zeroValue el).cells N.toNat):Sem (Array Value)).run C.P w'= .ok (Builtin.zeroCells cD.cells N.toNat) w':=fun w'=>by{by_cases hz:N.toNat*i.size=0;·{rw[AC hz];have:N.toNat=0:=by{rcases Nat.mul_eq_zero.1 hz with h|h;·{exact h};·omega};rw[this];simp[Builtin.zeroCells]};·rw[Do hz];simp[zeroValue,typeInfo,hi,iu]};have hz2:(underlying t2).run C.P w= .ok (.int k) w:=dU hk;refine⟨fun hn eM=> ?_,fun b p len cap w' hg hst=> ?_,fun eM n cap vs hold hg h63 hfit=> ?_⟩;·{have vP:N=0:=by{omega};subst vP;cases eM<;>simp[Builtin.append_,dU hu,dU (C:=C) hk,sizeOf,typeInfo,hi,asInt,asIntOf,storeCells,hw1,Builtin.zeroCells]};·{have jY:¬(281474976710656<N*(i.bytes:Int)):=by{omega};by_cases hz:N.toNat*i.size=0;·{have hn0:N.toNat=0:=by{rcases Nat.mul_eq_zero.1 hz with h|h;·{exact h};·omega};rw[hn0]at hst hg;have TR:w'=w:=by{simpa[Builtin.zeroCells,storeCells]using hst.symm};subst TR;have vP:N=0:=by{omega};subst vP;simp[Builtin.append_,dU hu,dU (C:=C) hk,sizeOf,typeInfo,hi,asInt,asIntOf,hw1,storeCells];omega};·simp[Builtin.append_,dU hu,dU (C:=C) hk,sizeOf,typeInfo,zeroValue,hi,iu,asInt,asIntOf,hw1,qb,jY,hg,hz,jw,hst]};·have hn:¬(n+N.toNat≤cap):=by{omega};have h63':¬(9223372036854775807<((n:Int)+(N.toNat:Int))):=by{omega};have HS:¬(281474976710656<Builtin.nextslicecap (n+N.toNat) cap*i.bytes):=by{omega};have jY:¬(281474976710656<N*(i.bytes:Int)):=by{omega};have Sk:¬(9223372036854775807<(n:Int)+max N 0):=by{omega};by_cases hz:N.toNat*i.size=0;·{have hn0:N.toNat=0:=by{rcases Nat.mul_eq_zero.1 hz with h|h;·{exact h};·omega};have vP:N=0:=by{omega};subst vP;have hn':¬(n≤cap):=by{simpa using hn};have Si:¬(281474976710656<Builtin.nextslicecap n cap*i.bytes):=by{simpa using HS};have Sl:¬(9223372036854775807<(n:Int)):=by{omega};simp[Builtin.append_,dU hu,dU (C:=C) hk,sizeOf,typeInfo,zeroValue,hi,iu,asInt,asIntOf,hw1,hn',Question.forced,hold,newRow,grownCap,Builtin.zeroCells,Si,Sl]};·simp[Builtin.append_,dU hu,dU (C:=C) hk,sizeOf,typeInfo,zeroValue,hi,iu,asInt,asIntOf,hw1,qb,jY,hn,h63',Sk,HS,Question.forced,hold,newRow,grownCap,hz];congr 2;apply Array.ext';simp[List.append_assoc]
theorem V9(h:aC C E w S a β F){o:Oper}{c:Call}(ho:o.op= .call c)(hb:c.callee= .builtin .append){xv yv:U}{t:TypeId}{k:IntKind}(hargs:(c.args.toList.map fun x=>un true (S.get C x))=[xv,yv])(ht:c.argTypes[0]? =some t)(fA:(c.argTypes[1]?).bind C.P.underlying=some (.int k)){e:aT}(he:sY C S o t xv yv=some e)(hd:bT S e)(hn:∀a' w',aW C E (S.app e) a' w'→next a' w'):o.wp C.P a w next Q:=by match hal:c.args.toList,hargs with|[x,y],hargs=>simp at hargs;obtain⟨rZ,wH⟩:=hargs;have hx:=h.cZ x;have hy:=h.cZ y;rw[rZ]at hx;rw[wH]at hy;simp only[H2]at fA;obtain⟨t2,CK,fA⟩:=fA;unfold sY at he;split at he;·{rename_i el d N hu aY hN;obtain⟨kk,Uc⟩:=oo hy hN;split at he;·{rename_i i z xs i1 hi hz rY;split at he;·{rename_i gJ;simp only[GE,decide_eq_true_eq]at gJ;obtain⟨⟨⟨⟨⟨⟨⟨hNb,hzl⟩,IF⟩,hby⟩,zC⟩,wg⟩,CS⟩,hfr⟩:=gJ;obtain⟨cD,iu,qh⟩:∃cD,i.zero=some cD∧cD.cells.size=i.size:=by{unfold x6 at zC;split at zC;·{rename_i z CR;exact⟨z,CR,by simpa using zC⟩};·cases zC};have Uf:si cD.cells.toList=some z:=by{unfold sG at hz;rw[hi]at hz;simp only[Option.bind_some,iu]at hz;exact hz};have nS:=zU (w:=w) (I:=av E w F) (β:=β) Uf;have oI:=zH cD.cells N.toNat (by omega);have hcells:(Builtin.zeroCells cD.cells N.toNat).toList=(List.replicate N.toNat cD.cells.toList).flatten:=oI;have nQ:aj w (av E w F) β [] (Builtin.zeroCells cD.cells N.toNat).toList (List.replicate N.toNat z).flatten:=by{rw[hcells];exact aj.flatten nS _};have hrc:nZ (List.replicate N.toNat z)=true:=by{unfold nZ;rw[List.all_eq_true];intro r hr;rw[(List.mem_replicate.1 hr).2];exact CS};obtain⟨_,tL⟩:=J9 nQ (KI hrc);refine Gk h aY qh hby (by simpa using wg) hfr (fun r hr=>by rw[(List.mem_replicate.1 hr).2];exact hzl) hx rY (cX:=N.toNat) (by simp) nQ (by simp[Builtin.zeroCells,qh]) tL (el:=el) (t:=t) (t2:=t2) (yv:=a.eval y) (fun hr=> ?_) ?_ he hd hn;·{rw[xP ho hb];refine kN ?_;have e1:c.args.map a.eval= #[a.eval x,a.eval y]:=by{rw[w8 hal];rfl};rw[e1];have e2:∀args,Builtin.append_ c.argTypes o.type args=Builtin.append_ #[t,t2] o.type args:=fun args=>by{unfold Builtin.append_;simp[ht,CK]};show(Builtin.append_ c.argTypes o.type #[a.eval x,a.eval y]).run C.P w=_;rw[e2];exact hr};·rw[Uc];exact qK.Y5 hu fA hi iu qh IF hby hNb};·cases he};·cases he};·cases he
theorem Dy(h:aC C E w S a β F){o:Oper}{c:Call}(ho:o.op= .call c)(hb:c.callee= .builtin .append){e:aT}(he:jA C S o c.argTypes (c.args.toList.map fun x=>un true (S.get C x))=some e)(hd:bT S e)(hn:∀a' w',aW C E (S.app e) a' w'→next a' w'):o.wp C.P a w next Q:=by unfold jA at he;split at he;·{rename_i xv yv t acI hargs ht fA;match hal:c.args.toList,hargs with|[x,y],hargs=>simp at hargs;obtain⟨rZ,wH⟩:=hargs;have hx:=h.cZ x;have hy:=h.cZ y;rw[rZ]at hx;rw[wH]at hy;simp only[H2]at fA;obtain⟨t2,CK,fA⟩:=fA;unfold sX at he;split at he;·{rename_i el d hu aY;split at he;·{rename_i i xs i1 ys i2 hi rY wG;split at he;·{rename_i gJ;simp only[GE,decide_eq_true_eq]at gJ;obtain⟨⟨⟨⟨⟨⟨r0,IF⟩,hby⟩,hz⟩,wg⟩,hrc⟩,hfr⟩:=gJ;have r0:=qU r0;obtain⟨cD,iu,qh⟩:∃cD,i.zero=some cD∧cD.cells.size=i.size:=by{unfold x6 at hz;split at hz;·{rename_i z CR;exact⟨z,CR,by simpa using hz⟩};·cases hz};obtain⟨Gq,cX,yM,vy,Rt,rV,tJ,nQ,rW,zk⟩:=KL h hy wG r0;obtain⟨Ti,tL⟩:=J9 nQ (KI hrc);subst Ti;have hsrc:=Yv (w:=w) (cap:=yM) fA rW zk tL;have zA:∀{v:Value}{w':World},(Builtin.append_ c.argTypes o.type #[a.eval x,a.eval y]).run C.P w= .ok v w'→(execOp a.eval o).run C.P w= .ok (.value v) w':=fun hr=>by{rw[xP ho hb];refine kN ?_;have:c.args.map a.eval= #[a.eval x,a.eval y]:=by{rw[w8 hal];rfl};rw[this];exact hr};have tw:∀args,Builtin.append_ c.argTypes o.type args=Builtin.append_ #[t,t2] o.type args:=fun args=>by{unfold Builtin.append_;simp[ht,CK]};exact Gk h aY qh hby wg hfr r0 hx rY tJ nQ rW tL (el:=el) (t:=t) (t2:=t2) (yv:=a.eval y) (fun hr=>zA (by rw[tw];exact hr)) (qK.V1 hu hi iu (by rw[rV];exact hsrc)) he hd hn};·cases he};·cases he};·cases he};·{rename_i xv yv t k hargs ht fA;exact V9 h ho hb hargs ht fA he hd hn};·cases he
theorem CX:∀{rows:Rows},iw rows=true→dG rows.flatten=true|[],_=>rfl|r::rows,h=>by simp only[iw,H3,GE]at h;have ih:=CX (rows:=rows) (by simpa[iw]using h.2);have:∀{a b:List U},dG a=true→dG b=true→dG (a++b)=true:=by{intro a b ha hb;induction a with|nil=>(exact hb)|cons c a ih2=>simp only[dG,GE,List.cons_append]at ha⊢;exact⟨ha.1,ih2 ha.2⟩};simpa using this h.1 ih
theorem aC.freeze(h:aC C E w S a β F){id:Id}{rows:Rows}{d:Nat}(hid:S.h id=some (some rows))(hi:iw rows=true)(hs:S.t d= .rs id 0 rows.length):∃F',aC C E w ⟨S.n,ai S.t d (.sl rows),ai S.h id (some none)⟩ a β F':=by have rP:=h.obj id rows hid;let F':Id→List Nat:=fun i=>if i=id then[]else F i;have hsub:∀i b,b∈F' i→b∈F i:=fun i b hb=>by{by_cases e:i=id;·{simp[F',e]at hb};·simpa[F',e]using hb};have hI:∀b,av E w F b→av E w F' b:=fun b hb=>⟨hb.1,hb.2.1,fun i hm=>hb.2.2 i (hsub i b hm)⟩;have fk:∀{β':Id→Option Loc}{f:List Nat}{v:Value}{x:U},R w (av E w F) β' f v x→R w (av E w F') β' f v x:=fun hr=>hr.mono hI (fun _ _=>rfl) (fun _ _ h=>h);refine⟨F', ?_⟩;refine{n:=h.n,df:=h.df.mono (fun b hb=>⟨hI b hb.1,hb.2⟩) (fun _ _=>rfl),slot:=fun t=> ?_,obj:=fun i r hr=> ?_,dead:=fun i hi'=> ?_,nd:=fun i=> ?_,ct:=fun i j b hb hb'=>h.ct i j b (hsub i b hb) (hsub j b hb'),dom:=fun i hi'=> ?_,lt:=fun i b hb=>h.lt i b (hsub i b hb),kept:=h.kept,bJ:=fun g cs hg=>fk (h.bJ g cs hg),ns:=h.ns,kb:=fun k r hk hr=>h.kb k r hk (by by_cases e:k=id;·{subst e;simp[ai]at hr};·simpa[ai,e]using hr)};·{by_cases e:t=d;·{subst e;have hv:=h.slot t;rw[hs]at hv;simp only[ai,if_true];obtain⟨_,rU⟩:=hv.j9;clear hv;rcases rU with⟨ad,l,h1,hv,hb⟩|⟨b,o,sz,n,cap,hb,hfit,hle,hv⟩;·{have:rows=[]:=List.length_eq_zero_iff.1 h1;subst this;rw[hv];exact .fc};·rcases rP with⟨h1,_,_⟩|⟨b',h1,_⟩|⟨b',o',sz',n',vs,bW,hb',fj,hB,⟨hne,hrows⟩,Tf,bx,hl⟩;·{rw[h1]at hb;cases hb};·{rw[h1]at hb;cases hb};·rw[hb']at hb;simp only[GT,Loc.blk.injEq]at hb;obtain⟨rfl,rfl,rfl,rfl⟩:=hb;have qb:aj w (av E w F) br bW vs rows.flatten:=R.kG hl (by simpa[eC]using CX hi);have vV:bW=[]:=R.CZ hl (by simpa[eC]using CX hi);subst vV;have mV:b'∈F id:=by{rw[fj];exact List.mem_cons_self .. };have nM:av E w F' b':=⟨(h.lt id b' mV).2.elim (fun h=> .inr (.inl h)) (fun h=> .inr (.inr h)),(h.lt id b' mV).1,fun i hm=>by by_cases e:i=id;·{simp[F',e]at hm};·exact e (h.ct i id b' (hsub i b' hm) mV)⟩;rw[hv,Nat.zero_mul,Nat.add_zero];exact .sl hrows nM bx hle (fk qb)};·simp only[ai,Do e];exact fk (h.slot t)};·{by_cases e:i=id;·{subst e;simp[ai]at hr};·simp only[ai,Do e]at hr;have:=(h.obj i r hr).mono (w':=w) (I':=av E w F') (β':=β) hI (fun _ _=>rfl) (fun _ _ h=>h);simpa[F',e]using this};·{by_cases e:i=id;·{simp[F',e]};·simp only[F',Do e];refine h.dead i fun r hr=>hi' r ?_;simp[ai,e,hr]};·{by_cases e:i=id;·{simp[F',e]};·simpa[F',e]using h.nd i};·by_cases e:i=id;·{subst e;simp[ai]at hi'};·simp only[ai,Do e]at hi';exact h.dom i hi'
theorem AD{α β':Type}[DecidableEq α](f:α→β')(k:α)(u v:β'):ai (ai f k u) k v=ai f k v:=by funext j;by_cases e:j=k<;>simp[ai,e]
theorem YS{α β':Type}[DecidableEq α](f:α→β'){k l:α}(hne:k≠l)(u v:β'):ai (ai f k u) l v=ai (ai f l v) k u:=by funext j;by_cases e:j=k;·{subst e;simp[ai,hne]};·by_cases e2:j=l;·{subst e2;simp[ai,e]};·simp[ai,e,e2]
theorem Qw{o:Oper}{ts:Array TypeId}{xs:List U}{e:aT}(h:jA C S o ts xs=some e):∃d rows rd,o.dst=some d∧S.h [d]=none∧((∃id,(∃r,S.h id=some (some r))∧e=put o (.rs [d] 0 rows.length) rd [(id,none),([d],some rows)])∨e=put o (.rs [d] 0 rows.length) rd [([d],some rows)]):=by have tail:∀{d m:Nat}{x:U}{xs ys:Rows}{i1 i2:List Id},o.dst=some d→(S.h [d]).isNone=true→kr S o d m x xs ys i1 i2=some e→∃d rows rd,o.dst=some d∧S.h [d]=none∧((∃id,(∃r,S.h id=some (some r))∧e=put o (.rs [d] 0 rows.length) rd [(id,none),([d],some rows)])∨e=put o (.rs [d] 0 rows.length) rd [([d],some rows)]):=by{intro d m x xs ys i1 i2 hd hn h;unfold kr at h;split at h;·{split at h;·{rename_i hid;split at h;·{simp only[GT]at h;subst h;exact⟨d,xs++ys,_,hd,kB hn, .inl ⟨_,⟨_,hid⟩,by rw[Ha]⟩⟩};·cases h};·cases h};·{simp only[GT]at h;subst h;exact⟨d,xs++ys,_,hd,kB hn, .inr (by rw[Ha])⟩};·cases h};unfold jA at h;split at h;·{unfold sX at h;split at h;·{rename_i hd;split at h;·{split at h;·{rename_i hc;simp only[GE]at hc;exact tail hd hc.2 h};·cases h};·cases h};·cases h};·{unfold sY at h;split at h;·{rename_i hd _;split at h;·{split at h;·{rename_i hc;simp only[GE]at hc;exact tail hd hc.2 h};·cases h};·cases h};·cases h};·cases h
theorem V8(h:aC C E w S a β F){o:Oper}{f:FuncId}{c:Call}(ho:o.op= .call c)(hb:c.callee= .builtin .append){e:aT}(he:(jA C S o c.argTypes (c.args.toList.map fun x=>un true (S.get C x))).bind (mM C f o)=some e)(hd:bT S e)(hn:∀a' w',aW C E (S.app e) a' w'→next a' w'):o.wp C.P a w next Q:=by simp only[H2]at he;obtain⟨e1,h1,h2⟩:=he;obtain⟨d,rows,rd,aY,hnone,hsh⟩:=Qw h1;unfold mM at h2;split at h2;·{rcases hsh with⟨id,⟨r,hid⟩,rfl⟩|rfl;·{simp only[aY,put]at h2;split at h2;·{rename_i hc;simp only[GT]at h2;subst h2;refine Dy h ho hb h1 (by simpa[bT,put,aY]using hd) fun a' w'⟨β',F',hS⟩=>hn a' w' ?_;have hne:id≠[d]:=fun e=>by{rw[e,hnone]at hid;cases hid};obtain⟨cY,jd⟩:=hS.freeze (id:=[d]) (rows:=rows) (d:=d) (by simp[ah.app,put,aY,aQ,ai,hne.symm]) hc.2 (by simp[ah.app,put,aY,cv,ai]);refine⟨β',cY, ?_⟩;simp only[ah.app,put,aY,cv,aQ]at jd⊢;rw[AD,YS _ hne,AD]at jd;exact jd};·cases h2};·simp only[aY,put]at h2;split at h2;·{rename_i hc;simp only[GT]at h2;subst h2;refine Dy h ho hb h1 (by simpa[bT,put,aY]using hd) fun a' w'⟨β',F',hS⟩=>hn a' w' ?_;obtain⟨cY,jd⟩:=hS.freeze (id:=[d]) (rows:=rows) (d:=d) (by simp[ah.app,put,aY,aQ,ai]) hc.2 (by simp[ah.app,put,aY,cv,ai]);refine⟨β',cY, ?_⟩;simp only[ah.app,put,aY,cv,aQ]at jd⊢;rw[AD,AD]at jd;exact jd};·cases h2};·simp only[GT]at h2;subst h2;exact Dy h ho hb h1 hd hn
end
end Go.Ab
