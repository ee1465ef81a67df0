import Derived.Test.YtbbhbdlljfffdaaGreatDoorAbOps6
import Derived.Deep.AppendSrc
open Bool renaming and_eq_true→GE
open List renaming length_append→Ha,nodup_nil→Hc,mem_cons_self→H1,all_cons→H3,getElem?_eq_none→H4,flatten_append→H5,append_nil→IH,drop_zero→If
open Nat renaming le_refl→Hb,mul_le_mul_right→Hd,le_trans→Hk,add_mul→Hm,zero_add→Hn,lt_or_ge→H0,add_le_add_left→Ix
open Option renaming bind_eq_some_iff→H2
open Option.some renaming injEq→GT
set_option linter.all false
namespace Go.Ab
open Go
section
variable{C:aL}{E:Env}{w:World}{S:ah}{a:Act}{β:Id→Option Loc}{F:Id→List Nat}
variable{next:Act→World→Prop}{Q:Exit→Act→World→Prop}
theorem aP.Uw(h:aP C E w S a β F)(t:Nat){x:U}(hx:R w (aD E w F) β [] (a.tmps.getD t undef) x):aP C E w ⟨S.n,an S.t t x,S.h⟩ a β F:=by refine h.step (fun _=>False) h.n (Hb _) rfl rfl (fun _=>rfl) (fun _ _ _=>rfl) (fun _ _ h=>h) (fun id b hb=> .inl ⟨id,hb⟩) (fun _ _=>⟨rfl,rfl⟩) (fun _ _ h=>h.elim) (fun _ h=>h.elim) (fun _ h=>h.elim) (fun _ _ _ h=>h.elim) h.dom ?_;intro _ u;by_cases hu:u=t;·{subst hu;exact .inr (by simpa[an]using hx)};·exact .inl ⟨rfl,by simp[an,hu]⟩
theorem ah8(h:aP C E w S a β F){o:Oper}{f:FuncId}{t:TypeId}{ao x:Operand}(ho:o.op= .store t ao x){e:bz}(he:ou C f S true o t ao (un true (S.get C ao)) (un true (S.get C x))=some e)(hd:cH S e)(hn:∀a' w',bD C E (S.app e) a' w'→next a' w'):o.wp C.P a w next Q:=by have ha:=h.dY ao;have hx:=h.dY x;generalize F8:un true (S.get C ao)=alw at*;generalize un true (S.get C x)=xv at*;unfold ou at he;split at he;·{rename_i b n hb hs;split at he;·{rename_i id row off cs hcs;split at he;·{cases he};·rename_i JU;have JU:cs.length=n:=by{simpa using JU};split at he;·{rename_i rows hid;simp only[Option.bind_eq_some_iff]at he;obtain⟨r,hr,he⟩:=he;split at he;·{rename_i hfit;obtain⟨_,gT,p,sz,m,bN,hv⟩:=ha.oK;obtain⟨us,uR,oF,hpl⟩:=Fo hx hcs;have CW:=oF.length;obtain⟨w',hrun,hS,hfz⟩:=h.stored hid bN hr hfit JU oF hpl;have hst:(execOp a.eval o).run C.P w= .ok .skip w':=by{simp only[execOp,ho];refine Un ?_;have hsz:(a.eval x).cells.size=n:=by{rw[uR];simp;omega};simp only[Instr.storeAt,hv,Instr.sureAddr];rw[Sem.run_bind,Sem.run_pure,Result.andThen_ok];unfold storeVar;rw[Sem.run_bind,oS hs,Result.andThen_ok];simp only[hsz,ne_eq,not_true_eq_false,if_false];rw[uR];exact hrun};split at he;·{rename_i ta tf;split at he;·{rename_i jT;simp only[Bool.and_eq_true,decide_eq_true_eq]at jT;obtain⟨⟨⟨⟨⟨⟨c1,c2⟩,c3⟩,oe⟩,rA⟩,_⟩,ZG⟩:=jT;simp at he;subst he;have bG:o.dst=none:=by{simpa using ZG};rcases hfz ([]:Rows)with hfz|hfz;·{obtain⟨F',lK,hI,ck,hl⟩:=hfz c3 oe c1 c2;refine Nb hst (hn _ _ ⟨β,F', ?_⟩);have hao:ao= .tmp ta:=by{unfold wU at tf;split at tf;·{split at tf;·{simp at tf;rw[tf]};·cases tf};·cases tf};have aeM:a.tmps.getD ta undef= .pointer (some ⟨gT,p+row*sz+off,none⟩):=by{rw[←hv,hao];rfl};have:=lK.Uw ta (x:= .aA (kH cs)) (by rw[aeM];exact .aA hI ck (av.nR (av.nz hl) rA));simpa[ah.app,c8,bu,Act.put,bG]using this};·subst hfz;simp at hr};·cases he};·split at he;·{rename_i hdn;simp at he;subst he;have bG:o.dst=none:=by{simpa using hdn};obtain⟨F',lK⟩:=hS;refine Nb hst (hn _ _ ⟨β,F', ?_⟩);simpa[ah.app,put,c8,Act.put,bG]using lK};·cases he};·cases he};·cases he};·cases he};·cases he
/-! ### append -/
theorem Uc(h:aP C E w S a β F){v:Value}{x:U}{xs:Rows}{ids:List Id}{sz:Nat}(hx:R w (aD E w F) β [] v x)(hr:rowsOf S.h x=some (xs,ids))(hsz:∀r∈xs,r.length=sz):∃ba n cap vs f,v= .slice ba n cap∧n=xs.length∧av w (aD E w F) β f vs xs.flatten∧vs.length=n*sz∧(n=0∨∃b o,ba=some ⟨b,o,none⟩∧fC w b o vs):=by unfold rowsOf at hr;split at hr;·{simp at hr;obtain⟨rfl,rfl⟩:=hr;rcases hx.Ed.2 with⟨ba,cap,rfl,hv⟩|⟨b,o,sz',cap,vs,_,_,ck,hl,_,hv⟩;·{exact⟨ba,0,cap,[],[],hv,rfl, .nil,by simp, .inl rfl⟩};·exact⟨_,_,cap,vs,[],hv,rfl,R.up hl,by rw[hl.length,lF hsz], .inr ⟨b,o,rfl,ck⟩⟩};·{simp at hr;obtain⟨rfl,rfl⟩:=hr;obtain⟨_,ba,hv⟩:=hx.yu;exact⟨ba,0,0,[],[],hv,rfl, .nil,by simp, .inl rfl⟩};·{rename_i id off len;split at hr;·{rename_i rows hid;split at hr;·{rename_i hle;simp at hr;obtain⟨rfl,rfl⟩:=hr;rcases hx.nj.2 with⟨ba,l,rfl,hv,_⟩|⟨b,o,sz',m,cap,bN,hfit,hlc,hv⟩;·{exact⟨ba,0,0,[],[],hv,by simp,by simpa using R.nil,by simp, .inl rfl⟩};·rcases Nat.eq_zero_or_pos len with h0|h0;·{subst h0;exact⟨_,0,cap,[],[],hv,by simp,by simpa using R.nil,by simp, .inl rfl⟩};·obtain⟨vs,cO,gi,_,⟨hne,hrows⟩,_,ck,hl⟩:=(h.obj id rows hid).at bN;have td:sz'=sz:=by{have hlt:off<rows.length:=by{omega};have hm:rows[off]∈(rows.drop off).take len:=by{rw[List.mem_iff_getElem?];exact⟨0,by rw[List.getElem?_take_of_lt h0,List.getElem?_drop];simp⟩};have hm2:rows[off]∈rows:=List.getElem_mem hlt;rw[←hrows _ hm2,hsz _ hm]};subst td;have hfl:=lF hrows;have e1:((rows.drop off).take len).flatten=(rows.flatten.drop (off*sz')).take (len*sz'):=by{have:=FM (l:=off) (r:=off+len) hrows;rw[List.take_drop,this,List.take_drop,Nat.add_mul]};have Kg:off*sz'+len*sz'≤rows.flatten.length:=by{rw[hfl,←Nat.add_mul];exact Nat.mul_le_mul_right _ hle};obtain⟨f1,f2,f3,e0,_,h2,_⟩:=hl.lW (off*sz') (len*sz') Kg;rw[←e1]at h2;have hlen:=h2.length;refine⟨_,len,cap,_,f2,hv,by simp;omega,h2, ?_, .inr ⟨b,o+off*sz',rfl,(ck.drop _).take _⟩⟩;rw[hlen,lF hsz];congr 1;simp;omega};·cases hr};·cases hr};·cases hr
theorem akl{t e':TypeId}{sz n cap:Nat}{ba:Option Addr}{vs:List Value}(hk:C.P.underlying t=some (.slice e'))(hl:vs.length=n*sz)(hc:n=0∨∃b o,ba=some ⟨b,o,none⟩∧fC w b o vs)(hp:∀u∈vs,p0 u=true):Src C.P sz t (.slice ba n cap) n vs w:=by have h1:∀u∈vs,u.oneCell'=true:=fun u hu=>by{have:=hp u hu;cases u<;>simp_all[p0,Value.oneCell']};rcases hc with rfl|⟨b,o,rfl,ck⟩;·{have:vs=[]:=List.length_eq_zero_iff.1 (by simpa using hl);subst this;have hz:∀w':World,(Builtin.firstCells sz 0 (.slice ba 0 cap)).run C.P w'= .ok #[] w':=fun w'=>by{cases ba with|none=>(exact run_firstCells_none w' _ _ _ _)|some p=>simp[Builtin.firstCells,loadCells,loadCellsFrom]};exact⟨.inl ⟨e',hk⟩,fun _=>rfl,hz w,hz w.drew,by simp,h1⟩};·exact Src.ofSlice w hk ⟨b,o,none⟩ n cap vs hl (fun j u hj=>by rw[l5];exact ck j u hj) h1
theorem Tz{I:Nat→Prop}{as:List U}:∀{f:List Nat}{vs:List Value},av w I β f vs as→as.all U.cell=true→f=[]∧∀u∈vs,p0 u=true:=by induction as with|nil=>(intro f vs h _;obtain⟨rfl,rfl⟩:=h.gj;exact⟨rfl,fun u hu=>by cases hu⟩)|cons c as ih=>intro f vs h hc;simp only[H3,GE]at hc;obtain⟨f1,f2,v,vs',rfl,rfl,h1,h2⟩:=av.cons_inv h;obtain⟨e2,p2⟩:=ih h2 hc.2;refine⟨by rw[h1.Cf hc.1,e2];rfl,fun u hu=> ?_⟩;cases hu with|head=>(obtain⟨p1,p3,_⟩:=h1.plain hc.1;cases v<;>simp_all[p0])|tail _ hm=>exact p2 u hm
theorem T9{rows:Rows}(h:qS rows=true):rows.flatten.all U.cell=true:=by rw[List.all_eq_true];intro c hc;obtain⟨r,hr,hm⟩:=List.mem_flatten.1 hc;exact List.all_eq_true.1 (List.all_eq_true.1 h r hr) c hm
theorem ab8{w:World}(c:Array Value)(e:TypeId)(x:Addr):(w.alloc (.cells c e)).frozen? x=w.frozen? x:=by have hnew:(w.alloc (.cells c e)).heap[w.heap.size]? =some (.cells c e):=heap_alloc_new _ _;by_cases hx:x.block=w.heap.size;·{have e2:w.heap[x.block]? =none:=by{rw[hx];simp};simp only[World.frozen?,hx,hnew];simp};·rw[World.frozen?_alloc_old _ _ _ hx]
theorem aP.GL(h:aP C E w S a β F){o:Oper}{d:Nat}(bG:o.dst=some d){kill:Id}(hfresh:S.h [d]=none)(Ke:kill=[d]∨∃rows,S.h kill=some (some rows)){w':World}{h':Id→Option (Option Rows)}{br:Rows}{G:List Nat}{l:Loc}{v:Value}{x:U}(mW:h' [d]=some (some br))(lO:∀i,i≠[d]→i≠kill→h' i=S.h i)(pO:kill≠[d]→h' kill=some none)(hsz:w.heap.size≤w'.heap.size)(hos:w'.os=w.os)(hout:w'.output=w.output)(uI:∀y,w'.frozen? y=w.frozen? y)(hw:∀b,b<w.heap.size→b∉F kill→w'.heap[b]? =w.heap[b]?)(fL:∀b n,gr w b n→gr w' b n)(dN:G.Nodup)(qx:∀b∈G,b∈F kill∨(w.heap.size≤b∧b<w'.heap.size))(ads:∀(I':Nat→Prop)(β':Id→Option Loc),(∀b,aD E w F b→I' b)→(∀i l,β i=some l→β' i=some l)→β' [d]=some l→dU w' I' β' [d] br G)(hx:∀(I':Nat→Prop)(β':Id→Option Loc),β' [d]=some l→R w' I' β' [] v x)(hd:d<S.n):bD C E ⟨S.n,an S.t d x,h'⟩ (a.put o.dst v) w':=by have C5:β [d]=none:=h.dom _ hfresh;have rQ:F [d]=[]:=h.dead _ (by rw[hfresh];simp);let F':Id→List Nat:=fun i=>if i=[d]then G else if i=kill then[]else F i;have F2:F' [d]=G:=by{simp[F']};have Cq:kill≠[d]→F' kill=[]:=fun hk=>by{simp[F',hk]};have Jx:∀i,i≠[d]→i≠kill→F' i=F i:=fun i h1 h2=>by{simp[F',h1,h2]};have bN:∀i l',β i=some l'→an β [d] (some l) i=some l':=fun i l' hl=>by{by_cases hi:i=[d];·{subst hi;rw[C5]at hl;cases hl};·simpa[an,hi]using hl};refine⟨an β [d] (some l),F', ?_⟩;refine h.step (fun i=>i=[d]∨i=kill) (by rw[tI];exact h.n) hsz hos hout uI (fun b hb hk=>hw b hb (hk kill (.inr rfl))) bN ?_ ?_ ?_ ?_ ?_ ?_ ?_ ?_ (fL:=fL) (hok:=fun k rows hk hr=>by by_cases h1:k=[d];·{subst h1;exact absurd hk (h.ns d hd [])};·by_cases h2:k=kill;·{subst h2;simp only at hr;rw[pO h1]at hr;cases hr};·exact⟨rows,by rw[←lO k h1 h2];exact hr⟩);·{intro i b hb;by_cases h1:i=[d];·{subst h1;rw[F2]at hb;rcases qx b hb with hm|hm;·{exact .inl ⟨kill,hm⟩};·exact .inr hm};·by_cases h2:i=kill;·{subst h2;rw[Cq h1]at hb;cases hb};·rw[Jx i h1 h2]at hb;exact .inl ⟨i,hb⟩};·{intro i hi;have h1:i≠[d]:=fun e=>hi (.inl e);have h2:i≠kill:=fun e=>hi (.inr e);exact⟨Jx i h1 h2,lO i h1 h2⟩};·{intro hI i hi ff hr;by_cases h1:i=[d];·{subst h1;have hr':h' [d]=some (some ff):=hr;rw[mW]at hr';simp at hr';subst hr';rw[F2];exact ads _ _ hI bN (by simp[an])};·have h2:i=kill:=hi.resolve_left h1;subst h2;have hr':h' i=some (some ff):=hr;rw[pO h1]at hr';simp at hr'};·{intro i hi hno;by_cases h1:i=[d];·{subst h1;exact absurd mW (hno _)};·have h2:i=kill:=hi.resolve_left h1;subst h2;exact Cq h1};·{intro i hi;by_cases h1:i=[d];·{subst h1;rw[F2];exact dN};·have h2:i=kill:=hi.resolve_left h1;subst h2;rw[Cq h1];exact Hc};·{intro i j b hi kB me;have aux:∀j,j≠[d]→b∈F' j→b∈G→False:=fun j hj me adG=>by{by_cases h2:j=kill;·{subst h2;rw[Cq hj]at me;cases me};·rw[Jx j hj h2]at me;rcases qx b adG with hm|hm;·{exact h2 (h.dc j kill b me hm)};·have:=(h.lt j b me).1;omega};by_cases h1:i=[d];·{subst h1;by_cases h2:j=[d];·{exact h2.symm};·rw[F2]at kB;exact(aux j h2 me kB).elim};·have h2:i=kill:=hi.resolve_left h1;subst h2;rw[Cq h1]at kB;cases kB};·{intro i hi;have hi':h' i=none:=hi;by_cases h1:i=[d];·{subst h1;rw[mW]at hi';cases hi'};·by_cases h2:i=kill;·{subst h2;rw[pO h1]at hi';cases hi'};·rw[lO i h1 h2]at hi';simp[an,h1,h.dom i hi']};·intro _ u;rw[bG,tH a d u v (by rw[h.n];exact hd)];by_cases hu:u=d;·{subst hu;rw[AC rfl];exact .inr (by simpa[an]using hx _ (an β [u] (some l)) (by simp[an]))};·rw[Do hu];exact .inl ⟨rfl,by simp[an,hu]⟩
theorem aP.drew(h:aP C E w S a β F):aP C E w.drew S a β F:=h.step (fun _=>False) h.n (Hb _) rfl rfl (fun _=>rfl) (fun _ _ _=>rfl) (fun _ _ h=>h) (fun id b hb=> .inl ⟨id,hb⟩) (fun _ _=>⟨rfl,rfl⟩) (fun _ _ h=>h.elim) (fun _ h=>h.elim) (fun _ h=>h.elim) (fun _ _ _ h=>h.elim) h.dom (fun _ _=> .inl ⟨rfl,rfl⟩)
structure vK(P:Program)(w:World)(t t2 ty el:TypeId)(i:TypeInfo)(cX:Value)(yv:Value)(dW:Nat)(vy:List Value):Prop where
 idle:dW=0→∀gh,(Builtin.append_ #[t,t2] ty #[.slice gh 0 0,yv]).run P w= .ok (.slice gh 0 0) w
 room:∀b p len cap w',len+dW≤cap→(storeCells ⟨b,p+len*i.size,none⟩ vy).run P w= .ok () w'→(Builtin.append_ #[t,t2] ty #[.slice (some ⟨b,p,none⟩) len cap,yv]).run P w= .ok (.slice (some ⟨b,p,none⟩) (len+dW) cap) w'
 grow:∀(gh:Option Addr)(n cap:Nat)(vs:List Value),(Builtin.firstCells i.size n (.slice gh n cap)).run P w.drew= .ok vs.toArray w.drew→cap<n+dW→((n+dW:Nat):Int)≤9223372036854775807→Builtin.nextslicecap (n+dW) cap*i.bytes≤281474976710656→
  (Builtin.append_ #[t,t2] ty #[.slice gh n cap,yv]).run P w= .ok (.slice (some ⟨w.heap.size,0,none⟩) (n+dW) (grownCap w (n+dW) cap el)) (w.drew.alloc (.cells ((vs++vy).toArray++Builtin.zeroCells cX.cells (grownCap w (n+dW) cap el-(n+dW))) el))
theorem Oi(h:aP C E w S a β F){o:Oper}{t t2 el:TypeId}{d:Nat}{i:TypeInfo}{cX yv:Value}{x:Operand}{xv:U}{xs ys:Rows}{i1 i2:List Id}{vy:List Value}{dW:Nat}{e:bz}
  (bG:o.dst=some d)(uS:cX.cells.size=i.size)(hby:i.bytes≤4096)(CJ:xs.length+ys.length≤oJ)(hfr:(S.h [d]).isNone=true)(xA:∀r∈ys,r.length=i.size)
  (hx:R w (aD E w F) β [] (a.eval x) xv)(xy:rowsOf S.h xv=some (xs,i1))(z8:dW=ys.length)(rX:av w (aD E w F) β [] vy ys.flatten)(xx:vy.length=dW*i.size)(Ad:∀u∈vy,p0 u=true)
  (pN:∀{v:Value}{w':World},(Builtin.append_ #[t,t2] o.type #[a.eval x,yv]).run C.P w= .ok v w'→(execOp a.eval o).run C.P w= .ok (.value v) w')(rS:vK C.P w t t2 o.type el i cX yv dW vy)
  (he:mL S o d i.size xv xs ys i1 i2=some e)(hd:cH S e)(hn:∀a' w',bD C E (S.app e) a' w'→next a' w'):o.wp C.P a w next Q:=by
 unfold mL at he
 have grow:∀(kill:Id)(h':Id→Option (Option Rows))(gh:Option Addr)(n cap:Nat)(vs:List Value)(f:List Nat),a.eval x= .slice gh n cap→n=xs.length→cap<n+dW→vs.length=n*i.size→(n=0∨∃b o,gh=some ⟨b,o,none⟩∧fC w b o vs)→
   av w (aD E w F) β f vs xs.flatten→(∀r∈xs,r.length=i.size)→f.Nodup→(∀b∈f,b∈F kill)→(kill=[d]∨∃rows,S.h kill=some (some rows))→
   h' [d]=some (some (xs++ys))→(∀j,j≠[d]→j≠kill→h' j=S.h j)→(kill≠[d]→h' kill=some none)→e={dK:=[(d, .rs [d] 0 (xs.length+ys.length))],rd:=i1++i2,wr:=e.wr}→(S.app e).h=h'→o.wp C.P a w next Q:=by
  intro kill h' gh n cap vs f hv hn' hgrow hvl ck hl C1 hfn Gh hk mW lO pO hee J4
  have hold:(Builtin.firstCells i.size n (.slice gh n cap)).run C.P w.drew= .ok vs.toArray w.drew:=by
   rcases ck with h0|⟨b',o',rfl,ck⟩
   ·subst h0
    have :vs=[]:=List.length_eq_zero_iff.1 (by simpa using hvl)
    subst this
    cases gh with
    |none=>exact run_firstCells_none w.drew _ _ _ _
    |some p=>simp[Builtin.firstCells,loadCells,loadCellsFrom]
   ·exact run_firstCells_some w.drew i.size n ⟨b',o',none⟩ n cap vs hvl (fun j u hj=>by rw[l5];exact ck j u hj)
  have z6:n+dW≤4294967296:=by unfold oJ at CJ;omega
  have fm:(n+dW)*i.bytes≤140737488355328:=Hk (Nat.mul_le_mul z6 hby) (by decide)
  have hrun:=(congrArg (fun z=>(Builtin.append_ #[t,t2] o.type #[z,yv]).run C.P w) hv).trans (rS.grow gh n cap vs hold hgrow (by omega) (growslice_fits hgrow fm))
  refine kN (pN hrun) (hn _ _ ?_)
  generalize hcells:(vs++vy).toArray++Builtin.zeroCells cX.cells (grownCap w (n+dW) cap el-(n+dW))=o3
  have hcap:n+dW≤grownCap w (n+dW) cap el:=by unfold grownCap Question.cut;simp
  have JC:=h.drew
  have hlen:(vs++vy).length=(n+dW)*i.size:=by rw[Ha,hvl,xx,Hm]
  have Jw:o3.size=(n+dW)*i.size+(grownCap w (n+dW) cap el-(n+dW))*cX.cells.size:=by
   rw[←hcells,Array.size_append,List.size_toArray,hlen];simp[Builtin.zeroCells]
  have hne:xs++ys≠[]:=fun e0=>by
   have h0:=congrArg List.length e0
   rw[Ha]at h0
   simp only[List.length_nil]at h0
   omega
  have hall:∀r∈xs++ys,r.length=i.size:=fun r hr=>(List.mem_append.1 hr).elim (C1 r) (xA r)
  have hnew:(w.drew.alloc (.cells o3 el)).heap[w.heap.size]? =some (.cells o3 el):=heap_alloc_new _ _
  have hold':∀b,b<w.heap.size→(w.drew.alloc (.cells o3 el)).heap[b]? =w.heap[b]? :=fun b hb=>heap_alloc_old _ _ _ hb
  have hmul:(n+dW)*i.size+(grownCap w (n+dW) cap el-(n+dW))*i.size=grownCap w (n+dW) cap el*i.size:=by rw[←Hm];congr 1;omega
  rw[uS,hmul]at Jw
  have CK:=h.GL (w':=w.drew.alloc (.cells o3 el)) (h':=h') (br:=xs++ys) (G:=w.heap.size::f) (l:= .blk w.heap.size 0 i.size o3.size)
   (v:= .slice (some ⟨w.heap.size,0,none⟩) (n+dW) (grownCap w (n+dW) cap el)) (x:= .rs [d] 0 (xs.length+ys.length)) bG (nH hfr) hk mW lO pO (by simp) rfl rfl (fun y=>by rw[ab8];rfl)
   (fun b hb _=>hold' b hb) (uh hold') (List.nodup_cons.2 ⟨fun hm=>by
    rcases hk with hk|⟨rows,hk⟩
    ·have :=Gh _ hm
     rw[hk,h.dead [d] (by rw[nH hfr];simp)]at this;cases this
    ·exact absurd (h.lt kill _ (Gh _ hm)).1 (Nat.lt_irrefl _),hfn⟩) (fun b hb=>by
    cases hb with
    |head=>exact .inr ⟨Hb _,by simp⟩
    |tail _ hm=>exact .inl (Gh b hm)) (fun I' β' hI bN hd'=> .inr (.inr ⟨w.heap.size,0,i.size,o3.size,vs++vy,f,hd',rfl,⟨o3,el,hnew,rfl⟩,⟨hne,hall⟩,by rw[Jw,Hn];exact Hd _ (by rw[Ha];omega), ?_, ?_⟩)) ?_ ?_
  ·have e1:S.app e=⟨S.n,an S.t d (.rs [d] 0 (xs.length+ys.length)),h'⟩:=by
    rw[←J4,hee];rfl
   rw[e1];exact CK
  ·intro k u hu
   rw[Hn,cell_of_row _ _ _ o3 el (0,0) hnew,←hcells]
   have hlt:k<(vs++vy).length:=by
    rcases H0 k (vs++vy).length with h'|h'
    ·exact h'
    ·rw[H4 h']at hu;cases hu
   rw[Array.getElem?_append_left (by simpa using hlt)]
   simpa using hu
  ·rw[H5]
   have l1:=hl.mono (w':=w.drew.alloc (.cells o3 el)) (β':=β') hI (fun b hb=>hold' b (hb.elim (fun hb=>hb.2.1) fun hb=>by
    have hm:=Gh b hb
    rcases hk with hk|⟨rows,hk⟩
    ·rw[hk,h.dead [d] (by rw[nH hfr];simp)]at hm;cases hm
    ·exact(h.lt kill b hm).1)) bN
   have l2:=rX.mono (w':=w.drew.alloc (.cells o3 el)) (β':=β') hI (fun b hb=>hold' b (hb.elim (fun hb=>hb.2.1) fun hb=>by cases hb)) bN
   have :=av.append l1 l2
   rwa[IH]at this
  ·intro I' β' hd'
   have :=R.rs (w:=w.drew.alloc (.cells o3 el)) (I:=I') (off:=0) (len:=n+dW) (cap:=grownCap w (n+dW) cap el) hd' (by rw[Jw];simp) hcap
   rw[show xs.length+ys.length=n+dW by omega]
   simpa using this
  ·have :cH S e:=hd
   rw[hee]at this
   simpa[cH]using this
 have idle:∀(kill:Id)(h':Id→Option (Option Rows))(gh:Option Addr),a.eval x= .slice gh 0 0→xs=[]→ys=[]→(kill=[d]∨∃rows,S.h kill=some (some rows))→
   h' [d]=some (some (xs++ys))→(∀j,j≠[d]→j≠kill→h' j=S.h j)→(kill≠[d]→h' kill=some none)→e={dK:=[(d, .rs [d] 0 (xs.length+ys.length))],rd:=i1++i2,wr:=e.wr}→(S.app e).h=h'→o.wp C.P a w next Q:=by
  intro kill h' gh hv hx0 hy0 hk mW lO pO hee J4
  subst hx0 hy0
  have hn0:dW=0:=by simpa using z8
  have hrun:(Builtin.append_ #[t,t2] o.type #[a.eval x,yv]).run C.P w= .ok (.slice gh 0 0) w:=by rw[hv];exact rS.idle hn0 gh
  refine kN (pN hrun) (hn _ _ ?_)
  have CK:=h.GL (w':=w) (h':=h') (br:=[]) (G:=[]) (l:= .nil) (v:= .slice gh 0 0) (x:= .rs [d] 0 0) bG (nH hfr) hk mW lO pO (Hb _) rfl rfl (fun _=>rfl) (fun _ _ _=>rfl) (fun _ _ h=>h)
   Hc (fun b hb=>by cases hb) (fun I' β' _ _ hd'=> .inl ⟨hd',rfl,rfl⟩) (fun I' β' hd'=> .iR hd' rfl) (by
    have :cH S e:=hd
    rw[hee]at this
    simpa[cH]using this)
  have e1:S.app e=⟨S.n,an S.t d (.rs [d] 0 0),h'⟩:=by
   rw[←J4,hee];rfl
  rw[e1];exact CK
 split at he
 ·rename_i id off len
  split at he
  ·rename_i rows hid
   split at he
   ·rename_i kC
    simp only[GE,Bool.or_eq_true,decide_eq_true_eq]at kC
    obtain⟨⟨hrows,hoff⟩,CA⟩:=kC
    have hrows:=wg hrows
    subst hoff
    simp at he
    have aeA:[d]≠id:=fun e0=>by rw[←e0,nH hfr]at hid;cases hid
    have mW:(S.app e).h [d]=some (some (xs++ys)):=by rw[←he];simp[ah.app,put,bG,bu,an,aeA]
    have lO:∀j,j≠[d]→j≠id→(S.app e).h j=S.h j:=fun j h1 h2=>by rw[←he];simp[ah.app,put,bG,bu,an,h1,h2]
    have pO:id≠[d]→(S.app e).h id=some none:=fun _=>by rw[←he];simp[ah.app,put,bG,bu,an]
    have hee:e={dK:=[(d, .rs [d] 0 (xs.length+ys.length))],rd:=i1++i2,wr:=e.wr}:=by rw[←he];simp[put,bG]
    have C0:=xy
    simp only[rowsOf,hid]at C0
    split at C0
    ·rename_i hle
     simp only[If,GT,Prod.mk.injEq]at C0
     obtain⟨hxs,_⟩:=C0
     have C1:∀r∈xs,r.length=i.size:=fun r hr=>hrows r (by rw[←hxs]at hr;exact List.mem_of_mem_take hr)
     have hxl:xs.length=len:=by rw[←hxs];simp;omega
     rcases hx.nj.2 with⟨gh,l,rW,hv,_⟩|⟨b,p,sz',m,cap,bN,hfit,hlc,hv⟩
     ·have KA:xs=[]:=List.length_eq_zero_iff.1 (by omega)
      by_cases hy0:ys=[]
      ·exact idle id _ gh hv KA hy0 (.inr ⟨rows,hid⟩) mW lO pO hee rfl
      ·have :0<ys.length:=List.length_pos_iff.2 hy0
       exact grow id _ gh 0 0 [] [] hv (by rw[KA];rfl) (by omega) (by simp) (.inl rfl) (by rw[KA];exact .nil) C1 Hc (fun b hb=>by cases hb) (.inr ⟨rows,hid⟩) mW lO pO hee rfl
     ·obtain⟨vs,cO,gi,hB,⟨hne,qC⟩,aeW,ck,hl⟩:=(h.obj id rows hid).at bN
      have td:sz'=i.size:=by
       obtain⟨eH,uN⟩:=List.exists_mem_of_ne_nil _ hne
       rw[←qC eH uN,hrows eH uN]
      subst td
      have hfl:=lF hrows
      have Kg:len*i.size≤rows.flatten.length:=by rw[hfl];exact Hd _ (by omega)
      obtain⟨f1,f2,f3,e0,_,l2,_⟩:=hl.lW 0 (len*i.size) (by omega)
      simp only[If]at l2
      have exs:xs.flatten=rows.flatten.take (len*i.size):=by
       have :=FM (l:=0) (r:=len) hrows
       simpa[hxs]using this
      rw[←exs]at l2
      have hnd:=h.nd id
      rw[gi,e0]at hnd
      have nP:=(List.nodup_cons.1 hnd).2
      have rT:=(List.nodup_cons.1 hnd).1
      have uH:f2.Nodup:=(List.nodup_append.1 (List.nodup_append.1 nP).2.1).1
      have QW:∀b'∈f2,b'∈F id:=fun b' hb'=>by
       rw[gi,e0]
       exact List.mem_cons_of_mem _ (List.mem_append.2 (.inr (List.mem_append.2 (.inl hb'))))
      have CZ:(vs.take (len*i.size)).length=len*i.size:=by rw[l2.length,exs,List.length_take,Nat.min_eq_left Kg]
      simp only[Nat.zero_mul,Nat.add_zero,Hn]at hfit hv
      rcases H0 cap (len+dW)with hg|hg
      ·exact grow id _ _ len cap (vs.take (len*i.size)) f2 hv hxl.symm hg CZ (.inr ⟨b,p,rfl,ck.take _⟩) l2 C1 uH QW (.inr ⟨rows,hid⟩) mW lO pO hee rfl
      ·
       obtain⟨rD,ce,mg,hcm⟩:=hB
       have mU:=lt_of_heap mg
       have hroom:p+len*i.size+vy.length≤rD.size:=by
        rw[xx,hcm,Nat.add_assoc,←Hm]
        exact Hk (Ix (Hd _ hg) _) hfit
       have hst:=Um C.P b (p+len*i.size) ce vy 0 w rD mg (by omega) Ad
       rw[Nat.add_zero]at hst
       generalize hw':jG w b (.cells (over rD (p+len*i.size) vy) ce (0,0))=w' at hst
       have mj:∀k,w'.heap[k]? =if k=b then some (.cells (over rD (p+len*i.size) vy) ce (0,0))else w.heap[k]? :=fun k=>by rw[←hw'];exact A2 mU k
       have hnew:w'.heap[b]? =some (.cells (over rD (p+len*i.size) vy) ce (0,0)):=by rw[mj,AC rfl]
       have hrun:(Builtin.append_ #[t,t2] o.type #[a.eval x,yv]).run C.P w= .ok (.slice (some ⟨b,p,none⟩) (len+dW) cap) w':=by rw[hv];exact rS.room b p len cap w' hg hst
       refine kN (pN hrun) (hn _ _ ?_)
       by_cases Q8:xs++ys=[]
       ·rw[Q8]at CA
        simp at CA
        exact absurd CA hne
       have CK:=h.GL (w':=w') (h':=(S.app e).h) (br:=xs++ys) (G:=b::f2) (l:= .blk b p i.size m)
        (v:= .slice (some ⟨b,p,none⟩) (len+dW) cap) (x:= .rs [d] 0 (xs.length+ys.length)) bG (nH hfr) (.inr ⟨rows,hid⟩) mW lO pO (by rw[←hw'];simp[jG]) (by rw[←hw'];rfl) (by rw[←hw'];rfl)
        (fun y=>by
         simp only[World.frozen?,mj]
         by_cases hy:y.block=b
         ·rw[AC hy,hy,mg]
         ·rw[Do hy])
        (fun b' _ hb'=>by rw[mj,Do (fun e1=>hb' (by rw[gi,e1];exact H1 ..))])
        (fun k n hB=>by
         by_cases hk:k=b
         ·subst hk
          obtain⟨c2,e2,kC,hn2⟩:=hB
          rw[mg]at kC
          simp only[GT,Obj.cells.injEq]at kC
          obtain⟨rfl,_⟩:=kC
          exact⟨_,_,hnew,by rw[G4 _ _ _ hroom];exact hn2⟩
         ·exact hB.mono (by rw[mj,Do hk]))
        (List.nodup_cons.2 ⟨fun hm=>rT (List.mem_append.2 (.inr (List.mem_append.2 (.inl hm)))),uH⟩)
        (fun b' hb'=> .inl (by
         cases hb' with
         |head=>rw[gi];exact H1 ..
         |tail _ hm=>exact QW b' hm))
        (fun I' β' hI jA hd'=> .inr (.inr ⟨b,p,i.size,m,vs.take (len*i.size)++vy,f2,hd',rfl,⟨_,_,hnew,by rw[G4 _ _ _ hroom];exact hcm⟩,⟨Q8,fun r hr=>(List.mem_append.1 hr).elim (C1 r) (xA r)⟩, ?_, ?_, ?_⟩)) ?_ ?_
       ·have e1:S.app e=⟨S.n,an S.t d (.rs [d] 0 (xs.length+ys.length)),(S.app e).h⟩:=by
         conv=>lhs;rw[hee]
         rfl
        rw[e1];exact CK
       ·rw[Ha]
        exact Hk (Ix (Hd _ (by omega)) _) hfit
       ·intro k u hu
        rw[cell_of_row _ _ _ _ _ _ hnew,xZ _ _ _ _ hroom]
        by_cases h1:k<len*i.size
        ·rw[Do (by omega)]
         rw[List.getElem?_append_left (by omega),List.getElem?_take_of_lt h1]at hu
         have :=ck k u hu
         rwa[cell_of_row _ _ _ _ _ _ mg]at this
        ·rw[List.getElem?_append_right (by omega),CZ]at hu
         have hk2:k-len*i.size<vy.length:=by
          rcases H0 (k-len*i.size) vy.length with h'|h'
          ·exact h'
          ·rw[H4 h']at hu;cases hu
         rw[AC (by omega),show p+k-(p+len*i.size)=k-len*i.size by omega]
         exact hu
       ·rw[H5]
        have hk2:∀b',aD E w F b'∨b'∈f2→w'.heap[b']? =w.heap[b']? :=fun b' hb'=>by
         rw[mj,Do]
         intro e1;subst e1
         rcases hb' with hb'|hb'
         ·exact hb'.2.2 id (by rw[gi];exact H1 ..)
         ·exact rT (List.mem_append.2 (.inr (List.mem_append.2 (.inl hb'))))
        have mq:=l2.mono (w':=w') (β':=β') hI hk2 jA
        have RR:=rX.mono (w':=w') (β':=β') hI (fun b' hb'=>hk2 b' (hb'.elim .inl fun hb'=>by cases hb')) jA
        have :=av.append mq RR
        rwa[IH]at this
       ·intro I' β' hd'
        have :=R.rs (w:=w') (I:=I') (off:=0) (len:=xs.length+ys.length) (cap:=cap) hd' (by simpa using hfit) (by omega)
        rw[show len+dW=xs.length+ys.length by omega]
        simpa using this
       ·have :cH S e:=hd
        rw[hee]at this
        simpa[cH]using this
    ·cases C0
   ·cases he
  ·cases he
 ·simp at he
  obtain⟨_,gh,hv⟩:=hx.yu
  simp[rowsOf]at xy
  obtain⟨rfl,rfl⟩:=xy
  have mW:(S.app e).h [d]=some (some ([]++ys)):=by rw[←he];simp[ah.app,put,bG,bu,an]
  have lO:∀j,j≠[d]→j≠[d]→(S.app e).h j=S.h j:=fun j h1 _=>by rw[←he];simp[ah.app,put,bG,bu,an,h1]
  have hee:e={dK:=[(d, .rs [d] 0 (([]:Rows).length+ys.length))],rd:=[]++i2,wr:=e.wr}:=by rw[←he];simp[put,bG]
  by_cases hy0:ys=[]
  ·exact idle [d] _ gh hv rfl hy0 (.inl rfl) mW lO (fun h=>absurd rfl h) hee rfl
  ·have :0<ys.length:=List.length_pos_iff.2 hy0
   exact grow [d] _ gh 0 0 [] [] hv rfl (by omega) (by simp) (.inl rfl) .nil (fun r hr=>by cases hr) Hc (fun b hb=>by cases hb) (.inl rfl) mW lO (fun h=>absurd rfl h) hee rfl
 ·cases he
theorem vK.aho{t t2 ty el:TypeId}{i:TypeInfo}{cX yv:Value}{dW:Nat}{vy:List Value}(hu:C.P.underlying t=some (.slice el))(hi:C.P.info? el=some i)(kE:i.zero=some cX)(hsrc:Src C.P i.size t2 yv dW vy w):vK C.P w t t2 ty el i cX yv dW vy where
 idle:=fun hn gh=>by
  subst hn
  have ae4:vy=[]:=List.length_eq_zero_iff.1 (by simpa using hsrc.newsLen)
  subst ae4
  rcases hsrc.kind with⟨e',hk'⟩|hk'<;>
   (cases gh<;>simp[Builtin.append_,e8 hu,e8 (C:=C) hk',sizeOf,typeInfo,hi,hsrc.len,hsrc.cells,storeCells])
 room:=fun b p len cap w' hg hst=>by
  rcases hsrc.kind with⟨e',hk'⟩|hk'<;>
   simp[Builtin.append_,e8 hu,e8 (C:=C) hk',sizeOf,typeInfo,hi,hsrc.len,hsrc.cells,hg,l5,hst]
 grow:=fun gh n cap vs hold hg h63 hfit=>run_append_grow_src (P:=C.P) w t t2 ty el i cX hu hi kE gh n cap vs hold yv dW vy hsrc hg h63 hfit
theorem vK.ali{t t2 ty el:TypeId}{i:TypeInfo}{cX:Value}{k kk:IntKind}{N:Int}(hu:C.P.underlying t=some (.slice el))(hk:C.P.underlying t2=some (.int k))(hi:C.P.info? el=some i)(kE:i.zero=some cX)(uS:cX.cells.size=i.size)(h0:0<i.size)(hby:i.bytes≤4096)(hN:0≤N∧N≤4294967296):vK C.P w t t2 ty el i cX (.int kk N) N.toNat (Builtin.zeroCells cX.cells N.toNat).toList:=by have hw1:IntKind.i64.wrap N=N:=IntWalk.i64_in N (by omega);have JG:¬(N*(i.bytes:Int)>2^48):=by{have:N*(i.bytes:Int)≤4294967296*4096:=Int.mul_le_mul (by omega) (by omega) (by omega) (by omega);omega};have rW:¬(N<0):=by{omega};have rS:∀w':World,(if N.toNat*i.size=0 then pure #[]else do pure (Builtin.zeroCells (←zeroValue el).cells N.toNat):Sem (Array Value)).run C.P w'= .ok (Builtin.zeroCells cX.cells N.toNat) w':=fun w'=>by{by_cases hz:N.toNat*i.size=0;·{rw[AC hz];have:N.toNat=0:=by{rcases Nat.mul_eq_zero.1 hz with h|h;·{exact h};·omega};rw[this];simp[Builtin.zeroCells]};·rw[Do hz];simp[zeroValue,typeInfo,hi,kE]};have hz2:(underlying t2).run C.P w= .ok (.int k) w:=e8 hk;refine⟨fun hn gh=> ?_,fun b p len cap w' hg hst=> ?_,fun gh n cap vs hold hg h63 hfit=> ?_⟩;·{have Cu:N=0:=by{omega};subst Cu;cases gh<;>simp[Builtin.append_,e8 hu,e8 (C:=C) hk,sizeOf,typeInfo,hi,asInt,asIntOf,storeCells,hw1,Builtin.zeroCells]};·{have mc:¬(281474976710656<N*(i.bytes:Int)):=by{omega};by_cases hz:N.toNat*i.size=0;·{have hn0:N.toNat=0:=by{rcases Nat.mul_eq_zero.1 hz with h|h;·{exact h};·omega};rw[hn0]at hst hg;have Gu:w'=w:=by{simpa[Builtin.zeroCells,storeCells]using hst.symm};subst Gu;have Cu:N=0:=by{omega};subst Cu;simp[Builtin.append_,e8 hu,e8 (C:=C) hk,sizeOf,typeInfo,hi,asInt,asIntOf,hw1,storeCells];omega};·simp[Builtin.append_,e8 hu,e8 (C:=C) hk,sizeOf,typeInfo,zeroValue,hi,kE,asInt,asIntOf,hw1,rW,mc,hg,hz,l5,hst]};·have hn:¬(n+N.toNat≤cap):=by{omega};have h63':¬(9223372036854775807<((n:Int)+(N.toNat:Int))):=by{omega};have QA:¬(281474976710656<Builtin.nextslicecap (n+N.toNat) cap*i.bytes):=by{omega};have mc:¬(281474976710656<N*(i.bytes:Int)):=by{omega};have ac2:¬(9223372036854775807<(n:Int)+max N 0):=by{omega};by_cases hz:N.toNat*i.size=0;·{have hn0:N.toNat=0:=by{rcases Nat.mul_eq_zero.1 hz with h|h;·{exact h};·omega};have Cu:N=0:=by{omega};subst Cu;have hn':¬(n≤cap):=by{simpa using hn};have ac0:¬(281474976710656<Builtin.nextslicecap n cap*i.bytes):=by{simpa using QA};have ac3:¬(9223372036854775807<(n:Int)):=by{omega};simp[Builtin.append_,e8 hu,e8 (C:=C) hk,sizeOf,typeInfo,zeroValue,hi,kE,asInt,asIntOf,hw1,hn',Question.forced,hold,newRow,grownCap,Builtin.zeroCells,ac0,ac3]};·simp[Builtin.append_,e8 hu,e8 (C:=C) hk,sizeOf,typeInfo,zeroValue,hi,kE,asInt,asIntOf,hw1,rW,mc,hn,h63',ac2,QA,Question.forced,hold,newRow,grownCap,hz];congr 2;apply Array.ext';simp[List.append_assoc]
theorem ahy(h:aP C E w S a β F){o:Oper}{c:Call}(ho:o.op= .call c)(hb:c.callee= .builtin .append){xv yv:U}{t:TypeId}{k:IntKind}(hargs:(c.args.toList.map fun x=>un true (S.get C x))=[xv,yv])(ht:c.argTypes[0]? =some t)(gY:(c.argTypes[1]?).bind C.P.underlying=some (.int k)){e:bz}(he:za C S o t xv yv=some e)(hd:cH S e)(hn:∀a' w',bD C E (S.app e) a' w'→next a' w'):o.wp C.P a w next Q:=by match hal:c.args.toList,hargs with|[x,y],hargs=>simp at hargs;obtain⟨xz,C3⟩:=hargs;have hx:=h.dY x;have hy:=h.dY y;rw[xz]at hx;rw[C3]at hy;simp only[H2]at gY;obtain⟨t2,CV,gY⟩:=gY;unfold za at he;split at he;·{rename_i el d N hu bG hN;obtain⟨kk,afc⟩:=sJ hy hN;split at he;·{rename_i i z xs i1 hi hz xy;split at he;·{rename_i jT;simp only[GE,decide_eq_true_eq]at jT;obtain⟨⟨⟨⟨⟨⟨⟨hNb,hzl⟩,Ro⟩,hby⟩,Gw⟩,CJ⟩,KE⟩,hfr⟩:=jT;obtain⟨cX,kE,uS⟩:∃cX,i.zero=some cX∧cX.cells.size=i.size:=by{unfold EB at Gw;split at Gw;·{rename_i z xB;exact⟨z,xB,by simpa using Gw⟩};·cases Gw};have aff:xX cX.cells.toList=some z:=by{unfold yM at hz;rw[hi]at hz;simp only[Option.bind_some,kE]at hz;exact hz};have r0:=GW (w:=w) (I:=aD E w F) (β:=β) aff;have s6:=GC cX.cells N.toNat (by omega);have hcells:(Builtin.zeroCells cX.cells N.toNat).toList=(List.replicate N.toNat cX.cells.toList).flatten:=s6;have rX:av w (aD E w F) β [] (Builtin.zeroCells cX.cells N.toNat).toList (List.replicate N.toNat z).flatten:=by{rw[hcells];exact av.flatten r0 _};have hrc:qS (List.replicate N.toNat z)=true:=by{unfold qS;rw[List.all_eq_true];intro r hr;rw[(List.mem_replicate.1 hr).2];exact KE};obtain⟨_,Ad⟩:=Tz rX (T9 hrc);refine Oi h bG uS hby (by simpa using CJ) hfr (fun r hr=>by rw[(List.mem_replicate.1 hr).2];exact hzl) hx xy (dW:=N.toNat) (by simp) rX (by simp[Builtin.zeroCells,uS]) Ad (el:=el) (t:=t) (t2:=t2) (yv:=a.eval y) (fun hr=> ?_) ?_ he hd hn;·{rw[D3 ho hb];refine nZ ?_;have e1:c.args.map a.eval= #[a.eval x,a.eval y]:=by{rw[Ds hal];rfl};rw[e1];have e2:∀args,Builtin.append_ c.argTypes o.type args=Builtin.append_ #[t,t2] o.type args:=fun args=>by{unfold Builtin.append_;simp[ht,CV]};show(Builtin.append_ c.argTypes o.type #[a.eval x,a.eval y]).run C.P w=_;rw[e2];exact hr};·rw[afc];exact vK.ali hu gY hi kE uS Ro hby hNb};·cases he};·cases he};·cases he
theorem Lt(h:aP C E w S a β F){o:Oper}{c:Call}(ho:o.op= .call c)(hb:c.callee= .builtin .append){e:bz}(he:l8 C S o c.argTypes (c.args.toList.map fun x=>un true (S.get C x))=some e)(hd:cH S e)(hn:∀a' w',bD C E (S.app e) a' w'→next a' w'):o.wp C.P a w next Q:=by unfold l8 at he;split at he;·{rename_i xv yv t aoX hargs ht gY;match hal:c.args.toList,hargs with|[x,y],hargs=>simp at hargs;obtain⟨xz,C3⟩:=hargs;have hx:=h.dY x;have hy:=h.dY y;rw[xz]at hx;rw[C3]at hy;simp only[H2]at gY;obtain⟨t2,CV,gY⟩:=gY;unfold y9 at he;split at he;·{rename_i el d hu bG;split at he;·{rename_i i xs i1 ys i2 hi xy C2;split at he;·{rename_i jT;simp only[GE,decide_eq_true_eq]at jT;obtain⟨⟨⟨⟨⟨⟨xA,Ro⟩,hby⟩,hz⟩,CJ⟩,hrc⟩,hfr⟩:=jT;have xA:=wg xA;obtain⟨cX,kE,uS⟩:∃cX,i.zero=some cX∧cX.cells.size=i.size:=by{unfold EB at hz;split at hz;·{rename_i z xB;exact⟨z,xB,by simpa using hz⟩};·cases hz};obtain⟨On,dW,Fm,vy,acj,xw,z8,rX,xx,Gc⟩:=Uc h hy C2 xA;obtain⟨ad9,Ad⟩:=Tz rX (T9 hrc);subst ad9;have hsrc:=akl (w:=w) (cap:=Fm) gY xx Gc Ad;have Gt:∀{v:Value}{w':World},(Builtin.append_ c.argTypes o.type #[a.eval x,a.eval y]).run C.P w= .ok v w'→(execOp a.eval o).run C.P w= .ok (.value v) w':=fun hr=>by{rw[D3 ho hb];refine nZ ?_;have:c.args.map a.eval= #[a.eval x,a.eval y]:=by{rw[Ds hal];rfl};rw[this];exact hr};have rS:∀args,Builtin.append_ c.argTypes o.type args=Builtin.append_ #[t,t2] o.type args:=fun args=>by{unfold Builtin.append_;simp[ht,CV]};exact Oi h bG uS hby CJ hfr xA hx xy z8 rX xx Ad (el:=el) (t:=t) (t2:=t2) (yv:=a.eval y) (fun hr=>Gt (by rw[rS];exact hr)) (vK.aho hu hi kE (by rw[xw];exact hsrc)) he hd hn};·cases he};·cases he};·cases he};·{rename_i xv yv t k hargs ht gY;exact ahy h ho hb hargs ht gY he hd hn};·cases he
theorem KL:∀{rows:Rows},iJ rows=true→eu rows.flatten=true|[],_=>rfl|r::rows,h=>by simp only[iJ,H3,GE]at h;have ih:=KL (rows:=rows) (by simpa[iJ]using h.2);have:∀{a b:List U},eu a=true→eu b=true→eu (a++b)=true:=by{intro a b ha hb;induction a with|nil=>(exact hb)|cons c a ih2=>simp only[eu,GE,List.cons_append]at ha⊢;exact⟨ha.1,ih2 ha.2⟩};simpa using this h.1 ih
theorem aP.freeze(h:aP C E w S a β F){id:Id}{rows:Rows}{d:Nat}(hid:S.h id=some (some rows))(hi:iJ rows=true)(hs:S.t d= .rs id 0 rows.length):∃F',aP C E w ⟨S.n,an S.t d (.sl rows),an S.h id (some none)⟩ a β F':=by have xm:=h.obj id rows hid;let F':Id→List Nat:=fun i=>if i=id then[]else F i;have hsub:∀i b,b∈F' i→b∈F i:=fun i b hb=>by{by_cases e:i=id;·{simp[F',e]at hb};·simpa[F',e]using hb};have hI:∀b,aD E w F b→aD E w F' b:=fun b hb=>⟨hb.1,hb.2.1,fun i hm=>hb.2.2 i (hsub i b hm)⟩;have gP:∀{β':Id→Option Loc}{f:List Nat}{v:Value}{x:U},R w (aD E w F) β' f v x→R w (aD E w F') β' f v x:=fun hr=>hr.mono hI (fun _ _=>rfl) (fun _ _ h=>h);refine⟨F', ?_⟩;refine{n:=h.n,df:=h.df.mono (fun b hb=>⟨hI b hb.1,hb.2⟩) (fun _ _=>rfl),slot:=fun t=> ?_,obj:=fun i r hr=> ?_,dead:=fun i hi'=> ?_,nd:=fun i=> ?_,dc:=fun i j b hb hb'=>h.dc i j b (hsub i b hb) (hsub j b hb'),dom:=fun i hi'=> ?_,lt:=fun i b hb=>h.lt i b (hsub i b hb),kept:=h.kept,cD:=fun g cs hg=>gP (h.cD g cs hg),ns:=h.ns,kb:=fun k r hk hr=>h.kb k r hk (by by_cases e:k=id;·{subst e;simp[an]at hr};·simpa[an,e]using hr)};·{by_cases e:t=d;·{subst e;have hv:=h.slot t;rw[hs]at hv;simp only[an,if_true];obtain⟨_,xu⟩:=hv.nj;clear hv;rcases xu with⟨ad,l,h1,hv,hb⟩|⟨b,o,sz,n,cap,hb,hfit,hle,hv⟩;·{have:rows=[]:=List.length_eq_zero_iff.1 h1;subst this;rw[hv];exact .gK};·rcases xm with⟨h1,_,_⟩|⟨b',h1,_⟩|⟨b',o',sz',n',vs,cO,hb',gi,hB,⟨hne,hrows⟩,ad5,ck,hl⟩;·{rw[h1]at hb;cases hb};·{rw[h1]at hb;cases hb};·rw[hb']at hb;simp only[GT,Loc.blk.injEq]at hb;obtain⟨rfl,rfl,rfl,rfl⟩:=hb;have rW:av w (aD E w F) b8 cO vs rows.flatten:=R.nR hl (by simpa[fA]using KL hi);have zV:cO=[]:=R.KN hl (by simpa[fA]using KL hi);subst zV;have qz:b'∈F id:=by{rw[gi];exact List.mem_cons_self .. };have rR:aD E w F' b':=⟨(h.lt id b' qz).2.elim (fun h=> .inr (.inl h)) (fun h=> .inr (.inr h)),(h.lt id b' qz).1,fun i hm=>by by_cases e:i=id;·{simp[F',e]at hm};·exact e (h.dc i id b' (hsub i b' hm) qz)⟩;rw[hv,Nat.zero_mul,Nat.add_zero];exact .sl hrows rR ck hle (gP rW)};·simp only[an,Do e];exact gP (h.slot t)};·{by_cases e:i=id;·{subst e;simp[an]at hr};·simp only[an,Do e]at hr;have:=(h.obj i r hr).mono (w':=w) (I':=aD E w F') (β':=β) hI (fun _ _=>rfl) (fun _ _ h=>h);simpa[F',e]using this};·{by_cases e:i=id;·{simp[F',e]};·simp only[F',Do e];refine h.dead i fun r hr=>hi' r ?_;simp[an,e,hr]};·{by_cases e:i=id;·{simp[F',e]};·simpa[F',e]using h.nd i};·by_cases e:i=id;·{subst e;simp[an]at hi'};·simp only[an,Do e]at hi';exact h.dom i hi'
theorem HG{α β':Type}[DecidableEq α](f:α→β')(k:α)(u v:β'):an (an f k u) k v=an f k v:=by funext j;by_cases e:j=k<;>simp[an,e]
theorem ak1{α β':Type}[DecidableEq α](f:α→β'){k l:α}(hne:k≠l)(u v:β'):an (an f k u) l v=an (an f l v) k u:=by funext j;by_cases e:j=k;·{subst e;simp[an,hne]};·by_cases e2:j=l;·{subst e2;simp[an,e]};·simp[an,e,e2]
theorem abf{o:Oper}{ts:Array TypeId}{xs:List U}{e:bz}(h:l8 C S o ts xs=some e):∃d rows rd,o.dst=some d∧S.h [d]=none∧((∃id,(∃r,S.h id=some (some r))∧e=put o (.rs [d] 0 rows.length) rd [(id,none),([d],some rows)])∨e=put o (.rs [d] 0 rows.length) rd [([d],some rows)]):=by have tail:∀{d m:Nat}{x:U}{xs ys:Rows}{i1 i2:List Id},o.dst=some d→(S.h [d]).isNone=true→mL S o d m x xs ys i1 i2=some e→∃d rows rd,o.dst=some d∧S.h [d]=none∧((∃id,(∃r,S.h id=some (some r))∧e=put o (.rs [d] 0 rows.length) rd [(id,none),([d],some rows)])∨e=put o (.rs [d] 0 rows.length) rd [([d],some rows)]):=by{intro d m x xs ys i1 i2 hd hn h;unfold mL at h;split at h;·{split at h;·{rename_i hid;split at h;·{simp only[GT]at h;subst h;exact⟨d,xs++ys,_,hd,nH hn, .inl ⟨_,⟨_,hid⟩,by rw[Ha]⟩⟩};·cases h};·cases h};·{simp only[GT]at h;subst h;exact⟨d,xs++ys,_,hd,nH hn, .inr (by rw[Ha])⟩};·cases h};unfold l8 at h;split at h;·{unfold y9 at h;split at h;·{rename_i hd;split at h;·{split at h;·{rename_i hc;simp only[GE]at hc;exact tail hd hc.2 h};·cases h};·cases h};·cases h};·{unfold za at h;split at h;·{rename_i hd _;split at h;·{split at h;·{rename_i hc;simp only[GE]at hc;exact tail hd hc.2 h};·cases h};·cases h};·cases h};·cases h
theorem ahx(h:aP C E w S a β F){o:Oper}{f:FuncId}{c:Call}(ho:o.op= .call c)(hb:c.callee= .builtin .append){e:bz}(he:(l8 C S o c.argTypes (c.args.toList.map fun x=>un true (S.get C x))).bind (qs C f o)=some e)(hd:cH S e)(hn:∀a' w',bD C E (S.app e) a' w'→next a' w'):o.wp C.P a w next Q:=by simp only[H2]at he;obtain⟨e1,h1,h2⟩:=he;obtain⟨d,rows,rd,bG,hnone,hsh⟩:=abf h1;unfold qs at h2;split at h2;·{rcases hsh with⟨id,⟨r,hid⟩,rfl⟩|rfl;·{simp only[bG,put]at h2;split at h2;·{rename_i hc;simp only[GT]at h2;subst h2;refine Lt h ho hb h1 (by simpa[cH,put,bG]using hd) fun a' w'⟨β',F',hS⟩=>hn a' w' ?_;have hne:id≠[d]:=fun e=>by{rw[e,hnone]at hid;cases hid};obtain⟨dL,lM⟩:=hS.freeze (id:=[d]) (rows:=rows) (d:=d) (by simp[ah.app,put,bG,bu,an,hne.symm]) hc.2 (by simp[ah.app,put,bG,c8,an]);refine⟨β',dL, ?_⟩;simp only[ah.app,put,bG,c8,bu]at lM⊢;rw[HG,ak1 _ hne,HG]at lM;exact lM};·cases h2};·simp only[bG,put]at h2;split at h2;·{rename_i hc;simp only[GT]at h2;subst h2;refine Lt h ho hb h1 (by simpa[cH,put,bG]using hd) fun a' w'⟨β',F',hS⟩=>hn a' w' ?_;obtain⟨dL,lM⟩:=hS.freeze (id:=[d]) (rows:=rows) (d:=d) (by simp[ah.app,put,bG,bu,an]) hc.2 (by simp[ah.app,put,bG,c8,an]);refine⟨β',dL, ?_⟩;simp only[ah.app,put,bG,c8,bu]at lM⊢;rw[HG,HG]at lM;exact lM};·cases h2};·simp only[GT]at h2;subst h2;exact Lt h ho hb h1 hd hn
end
end Go.Ab
