import Derived.Test.YtbbhbdlljfffdaaGreatDoorAbOps6
import Derived.Deep.AppendSrc
open Bool renaming and_eq_true→AC
open List renaming length_append→GE,nodup_nil→Ha,mem_cons_self→Hn,all_cons→H1,getElem?_eq_none→H2,flatten_append→H3,append_nil→H4,drop_zero→H5
open Nat renaming le_refl→GT,mul_le_mul_right→Hb,le_trans→Hc,add_mul→Hd,zero_add→Hk,lt_or_ge→Hm,add_le_add_left→IH
open Option renaming bind_eq_some_iff→H0
open Option.some renaming injEq→Do
set_option linter.all false
namespace Go.Ab
open Go
section
variable{C:aF}{E:Env}{w:World}{S:ah}{a:Act}{β:Id→Option Loc}{F:Id→List Nat}
variable{next:Act→World→Prop}{Q:Exit→Act→World→Prop}
theorem aL.Tf(h:aL C E w S a β F)(t:Nat){x:U}(hx:R w (az E w F) β [] (a.tmps.getD t undef) x):aL C E w ⟨S.n,ak S.t t x,S.h⟩ a β F:=by refine h.step (fun _=>False) h.n (GT _) rfl rfl (fun _=>rfl) (fun _ _ _=>rfl) (fun _ _ h=>h) (fun id b hb=> .inl ⟨id,hb⟩) (fun _ _=>⟨rfl,rfl⟩) (fun _ _ h=>h.elim) (fun _ h=>h.elim) (fun _ h=>h.elim) (fun _ _ _ h=>h.elim) h.dom ?_;intro _ u;by_cases hu:u=t;·{subst hu;exact .inr (by simpa[ak]using hx)};·exact .inl ⟨rfl,by simp[ak,hu]⟩
theorem agx(h:aL C E w S a β F){o:Oper}{f:FuncId}{t:TypeId}{ao x:Operand}(ho:o.op= .store t ao x){e:bn}(he:nR C f S true o t ao (un true (S.get C ao)) (un true (S.get C x))=some e)(hd:cA S e)(hn:∀a' w',bu C E (S.app e) a' w'→next a' w'):o.wp C.P a w next Q:=by have ha:=h.dP ao;have hx:=h.dP x;generalize EY:un true (S.get C ao)=ajU at*;generalize un true (S.get C x)=xv at*;unfold nR at he;split at he;·{rename_i b n hb hs;split at he;·{rename_i id row off cs hcs;split at he;·{cases he};·rename_i I1;have I1:cs.length=n:=by{simpa using I1};split at he;·{rename_i rows hid;simp only[Option.bind_eq_some_iff]at he;obtain⟨r,hr,he⟩:=he;split at he;·{rename_i hfit;obtain⟨_,gK,p,sz,m,bG,hv⟩:=ha.ob;obtain⟨us,uz,n5,hpl⟩:=El hx hcs;have B8:=n5.length;obtain⟨w',hrun,hS,hfz⟩:=h.stored hid bG hr hfit I1 n5 hpl;have hst:(execOp a.eval o).run C.P w= .ok .skip w':=by{simp only[execOp,ho];refine S5 ?_;have hsz:(a.eval x).cells.size=n:=by{rw[uz];simp;omega};simp only[Instr.storeAt,hv,Instr.sureAddr];rw[Sem.run_bind,Sem.run_pure,Result.andThen_ok];unfold storeVar;rw[Sem.run_bind,ou hs,Result.andThen_ok];simp only[hsz,ne_eq,not_true_eq_false,if_false];rw[uz];exact hrun};split at he;·{rename_i ta sV;split at he;·{rename_i jH;simp only[Bool.and_eq_true,decide_eq_true_eq]at jH;obtain⟨⟨⟨⟨⟨⟨c1,c2⟩,c3⟩,nN⟩,qU⟩,_⟩,X2⟩:=jH;simp at he;subst he;have bA:o.dst=none:=by{simpa using X2};rcases hfz ([]:Rows)with hfz|hfz;·{obtain⟨F',lG,hI,bZ,hl⟩:=hfz c3 nN c1 c2;refine Mq hst (hn _ _ ⟨β,F', ?_⟩);have hao:ao= .tmp ta:=by{unfold wk at sV;split at sV;·{split at sV;·{simp at sV;rw[sV]};·cases sV};·cases sV};have adh:a.tmps.getD ta undef= .pointer (some ⟨gK,p+row*sz+off,none⟩):=by{rw[←hv,hao];rfl};have:=lG.Tf ta (x:= .aI (kZ cs)) (by rw[adh];exact .aI hI bZ (av.nv (av.nz hl) qU));simpa[ah.app,cT,bk,Act.put,bA]using this};·subst hfz;simp at hr};·cases he};·split at he;·{rename_i hdn;simp at he;subst he;have bA:o.dst=none:=by{simpa using hdn};obtain⟨F',lG⟩:=hS;refine Mq hst (hn _ _ ⟨β,F', ?_⟩);simpa[ah.app,put,cT,Act.put,bA]using lG};·cases he};·cases he};·cases he};·cases he};·cases he
/-! ### append -/
theorem SU(h:aL C E w S a β F){v:Value}{x:U}{xs:Rows}{ids:List Id}{sz:Nat}(hx:R w (az E w F) β [] v x)(hr:rowsOf S.h x=some (xs,ids))(hsz:∀r∈xs,r.length=sz):∃ba n cap vs f,v= .slice ba n cap∧n=xs.length∧av w (az E w F) β f vs xs.flatten∧vs.length=n*sz∧(n=0∨∃b o,ba=some ⟨b,o,none⟩∧e6 w b o vs):=by unfold rowsOf at hr;split at hr;·{simp at hr;obtain⟨rfl,rfl⟩:=hr;rcases hx.Dl.2 with⟨ba,cap,rfl,hv⟩|⟨b,o,sz',cap,vs,_,_,bZ,hl,_,hv⟩;·{exact⟨ba,0,cap,[],[],hv,rfl, .nil,by simp, .inl rfl⟩};·exact⟨_,_,cap,vs,[],hv,rfl,R.up hl,by rw[hl.length,lC hsz], .inr ⟨b,o,rfl,bZ⟩⟩};·{simp at hr;obtain⟨rfl,rfl⟩:=hr;obtain⟨_,ba,hv⟩:=hx.xI;exact⟨ba,0,0,[],[],hv,rfl, .nil,by simp, .inl rfl⟩};·{rename_i id off len;split at hr;·{rename_i rows hid;split at hr;·{rename_i hle;simp at hr;obtain⟨rfl,rfl⟩:=hr;rcases hx.mQ.2 with⟨ba,l,rfl,hv,_⟩|⟨b,o,sz',m,cap,bG,hfit,hlc,hv⟩;·{exact⟨ba,0,0,[],[],hv,by simp,by simpa using R.nil,by simp, .inl rfl⟩};·rcases Nat.eq_zero_or_pos len with h0|h0;·{subst h0;exact⟨_,0,cap,[],[],hv,by simp,by simpa using R.nil,by simp, .inl rfl⟩};·obtain⟨vs,cD,fJ,_,⟨hne,hrows⟩,_,bZ,hl⟩:=(h.obj id rows hid).at bG;have sU:sz'=sz:=by{have hlt:off<rows.length:=by{omega};have hm:rows[off]∈(rows.drop off).take len:=by{rw[List.mem_iff_getElem?];exact⟨0,by rw[List.getElem?_take_of_lt h0,List.getElem?_drop];simp⟩};have hm2:rows[off]∈rows:=List.getElem_mem hlt;rw[←hrows _ hm2,hsz _ hm]};subst sU;have hfl:=lC hrows;have e1:((rows.drop off).take len).flatten=(rows.flatten.drop (off*sz')).take (len*sz'):=by{have:=EG (l:=off) (r:=off+len) hrows;rw[List.take_drop,this,List.take_drop,Nat.add_mul]};have Jr:off*sz'+len*sz'≤rows.flatten.length:=by{rw[hfl,←Nat.add_mul];exact Nat.mul_le_mul_right _ hle};obtain⟨f1,f2,f3,e0,_,h2,_⟩:=hl.lR (off*sz') (len*sz') Jr;rw[←e1]at h2;have hlen:=h2.length;refine⟨_,len,cap,_,f2,hv,by simp;omega,h2, ?_, .inr ⟨b,o+off*sz',rfl,(bZ.drop _).take _⟩⟩;rw[hlen,lC hsz];congr 1;simp;omega};·cases hr};·cases hr};·cases hr
theorem aiI{t e':TypeId}{sz n cap:Nat}{ba:Option Addr}{vs:List Value}(hk:C.P.underlying t=some (.slice e'))(hl:vs.length=n*sz)(hc:n=0∨∃b o,ba=some ⟨b,o,none⟩∧e6 w b o vs)(hp:∀u∈vs,pE u=true):Src C.P sz t (.slice ba n cap) n vs w:=by have h1:∀u∈vs,u.oneCell'=true:=fun u hu=>by{have:=hp u hu;cases u<;>simp_all[pE,Value.oneCell']};rcases hc with rfl|⟨b,o,rfl,bZ⟩;·{have:vs=[]:=List.length_eq_zero_iff.1 (by simpa using hl);subst this;have hz:∀w':World,(Builtin.firstCells sz 0 (.slice ba 0 cap)).run C.P w'= .ok #[] w':=fun w'=>by{cases ba with|none=>(exact run_firstCells_none w' _ _ _ _)|some p=>simp[Builtin.firstCells,loadCells,loadCellsFrom]};exact⟨.inl ⟨e',hk⟩,fun _=>rfl,hz w,hz w.drew,by simp,h1⟩};·exact Src.ofSlice w hk ⟨b,o,none⟩ n cap vs hl (fun j u hj=>by rw[lT];exact bZ j u hj) h1
theorem Sf{I:Nat→Prop}{as:List U}:∀{f:List Nat}{vs:List Value},av w I β f vs as→as.all U.cell=true→f=[]∧∀u∈vs,pE u=true:=by induction as with|nil=>(intro f vs h _;obtain⟨rfl,rfl⟩:=h.fR;exact⟨rfl,fun u hu=>by cases hu⟩)|cons c as ih=>intro f vs h hc;simp only[H1,AC]at hc;obtain⟨f1,f2,v,vs',rfl,rfl,h1,h2⟩:=av.cons_inv h;obtain⟨e2,p2⟩:=ih h2 hc.2;refine⟨by rw[h1.Bn hc.1,e2];rfl,fun u hu=> ?_⟩;cases hu with|head=>(obtain⟨p1,p3,_⟩:=h1.plain hc.1;cases v<;>simp_all[pE])|tail _ hm=>exact p2 u hm
theorem SQ{rows:Rows}(h:qz rows=true):rows.flatten.all U.cell=true:=by rw[List.all_eq_true];intro c hc;obtain⟨r,hr,hm⟩:=List.mem_flatten.1 hc;exact List.all_eq_true.1 (List.all_eq_true.1 h r hr) c hm
theorem aap{w:World}(c:Array Value)(e:TypeId)(x:Addr):(w.alloc (.cells c e)).frozen? x=w.frozen? x:=by have hnew:(w.alloc (.cells c e)).heap[w.heap.size]? =some (.cells c e):=heap_alloc_new _ _;by_cases hx:x.block=w.heap.size;·{have e2:w.heap[x.block]? =none:=by{rw[hx];simp};simp only[World.frozen?,hx,hnew];simp};·rw[World.frozen?_alloc_old _ _ _ hx]
theorem aL.FD(h:aL C E w S a β F){o:Oper}{d:Nat}(bA:o.dst=some d){kill:Id}(hfresh:S.h [d]=none)(Jp:kill=[d]∨∃rows,S.h kill=some (some rows)){w':World}{h':Id→Option (Option Rows)}{bh:Rows}{G:List Nat}{l:Loc}{v:Value}{x:U}(mI:h' [d]=some (some bh))(lK:∀i,i≠[d]→i≠kill→h' i=S.h i)(o3:kill≠[d]→h' kill=some none)(hsz:w.heap.size≤w'.heap.size)(hos:w'.os=w.os)(hout:w'.output=w.output)(um:∀y,w'.frozen? y=w.frozen? y)(hw:∀b,b<w.heap.size→b∉F kill→w'.heap[b]? =w.heap[b]?)(fu:∀b n,fZ w b n→fZ w' b n)(en:G.Nodup)(qf:∀b∈G,b∈F kill∨(w.heap.size≤b∧b<w'.heap.size))(abI:∀(I':Nat→Prop)(β':Id→Option Loc),(∀b,az E w F b→I' b)→(∀i l,β i=some l→β' i=some l)→β' [d]=some l→dK w' I' β' [d] bh G)(hx:∀(I':Nat→Prop)(β':Id→Option Loc),β' [d]=some l→R w' I' β' [] v x)(hd:d<S.n):bu C E ⟨S.n,ak S.t d x,h'⟩ (a.put o.dst v) w':=by have Cj:β [d]=none:=h.dom _ hfresh;have ri:F [d]=[]:=h.dead _ (by rw[hfresh];simp);let F':Id→List Nat:=fun i=>if i=[d]then G else if i=kill then[]else F i;have ET:F' [d]=G:=by{simp[F']};have By:kill≠[d]→F' kill=[]:=fun hk=>by{simp[F',hk]};have IA:∀i,i≠[d]→i≠kill→F' i=F i:=fun i h1 h2=>by{simp[F',h1,h2]};have bG:∀i l',β i=some l'→ak β [d] (some l) i=some l':=fun i l' hl=>by{by_cases hi:i=[d];·{subst hi;rw[Cj]at hl;cases hl};·simpa[ak,hi]using hl};refine⟨ak β [d] (some l),F', ?_⟩;refine h.step (fun i=>i=[d]∨i=kill) (by rw[th];exact h.n) hsz hos hout um (fun b hb hk=>hw b hb (hk kill (.inr rfl))) bG ?_ ?_ ?_ ?_ ?_ ?_ ?_ ?_ (fu:=fu) (hok:=fun k rows hk hr=>by by_cases h1:k=[d];·{subst h1;exact absurd hk (h.ns d hd [])};·by_cases h2:k=kill;·{subst h2;simp only at hr;rw[o3 h1]at hr;cases hr};·exact⟨rows,by rw[←lK k h1 h2];exact hr⟩);·{intro i b hb;by_cases h1:i=[d];·{subst h1;rw[ET]at hb;rcases qf b hb with hm|hm;·{exact .inl ⟨kill,hm⟩};·exact .inr hm};·by_cases h2:i=kill;·{subst h2;rw[By h1]at hb;cases hb};·rw[IA i h1 h2]at hb;exact .inl ⟨i,hb⟩};·{intro i hi;have h1:i≠[d]:=fun e=>hi (.inl e);have h2:i≠kill:=fun e=>hi (.inr e);exact⟨IA i h1 h2,lK i h1 h2⟩};·{intro hI i hi eU hr;by_cases h1:i=[d];·{subst h1;have hr':h' [d]=some (some eU):=hr;rw[mI]at hr';simp at hr';subst hr';rw[ET];exact abI _ _ hI bG (by simp[ak])};·have h2:i=kill:=hi.resolve_left h1;subst h2;have hr':h' i=some (some eU):=hr;rw[o3 h1]at hr';simp at hr'};·{intro i hi hno;by_cases h1:i=[d];·{subst h1;exact absurd mI (hno _)};·have h2:i=kill:=hi.resolve_left h1;subst h2;exact By h1};·{intro i hi;by_cases h1:i=[d];·{subst h1;rw[ET];exact en};·have h2:i=kill:=hi.resolve_left h1;subst h2;rw[By h1];exact Ha};·{intro i j b hi kB lZ;have aux:∀j,j≠[d]→b∈F' j→b∈G→False:=fun j hj lZ abZ=>by{by_cases h2:j=kill;·{subst h2;rw[By hj]at lZ;cases lZ};·rw[IA j hj h2]at lZ;rcases qf b abZ with hm|hm;·{exact h2 (h.cV j kill b lZ hm)};·have:=(h.lt j b lZ).1;omega};by_cases h1:i=[d];·{subst h1;by_cases h2:j=[d];·{exact h2.symm};·rw[ET]at kB;exact(aux j h2 lZ kB).elim};·have h2:i=kill:=hi.resolve_left h1;subst h2;rw[By h1]at kB;cases kB};·{intro i hi;have hi':h' i=none:=hi;by_cases h1:i=[d];·{subst h1;rw[mI]at hi';cases hi'};·by_cases h2:i=kill;·{subst h2;rw[o3 h1]at hi';cases hi'};·rw[lK i h1 h2]at hi';simp[ak,h1,h.dom i hi']};·intro _ u;rw[bA,tg a d u v (by rw[h.n];exact hd)];by_cases hu:u=d;·{subst hu;rw[if_pos rfl];exact .inr (by simpa[ak]using hx _ (ak β [u] (some l)) (by simp[ak]))};·rw[if_neg hu];exact .inl ⟨rfl,by simp[ak,hu]⟩
theorem aL.drew(h:aL C E w S a β F):aL C E w.drew S a β F:=h.step (fun _=>False) h.n (GT _) rfl rfl (fun _=>rfl) (fun _ _ _=>rfl) (fun _ _ h=>h) (fun id b hb=> .inl ⟨id,hb⟩) (fun _ _=>⟨rfl,rfl⟩) (fun _ _ h=>h.elim) (fun _ h=>h.elim) (fun _ h=>h.elim) (fun _ _ _ h=>h.elim) h.dom (fun _ _=> .inl ⟨rfl,rfl⟩)
structure vq(P:Program)(w:World)(t t2 ty el:TypeId)(i:TypeInfo)(cQ:Value)(yv:Value)(dM:Nat)(vy:List Value):Prop where
 idle:dM=0→∀fP,(Builtin.append_ #[t,t2] ty #[.slice fP 0 0,yv]).run P w= .ok (.slice fP 0 0) w
 room:∀b p len cap w',len+dM≤cap→(storeCells ⟨b,p+len*i.size,none⟩ vy).run P w= .ok () w'→(Builtin.append_ #[t,t2] ty #[.slice (some ⟨b,p,none⟩) len cap,yv]).run P w= .ok (.slice (some ⟨b,p,none⟩) (len+dM) cap) w'
 grow:∀(fP:Option Addr)(n cap:Nat)(vs:List Value),(Builtin.firstCells i.size n (.slice fP n cap)).run P w.drew= .ok vs.toArray w.drew→cap<n+dM→((n+dM:Nat):Int)≤9223372036854775807→Builtin.nextslicecap (n+dM) cap*i.bytes≤281474976710656→
  (Builtin.append_ #[t,t2] ty #[.slice fP n cap,yv]).run P w= .ok (.slice (some ⟨w.heap.size,0,none⟩) (n+dM) (grownCap w (n+dM) cap el)) (w.drew.alloc (.cells ((vs++vy).toArray++Builtin.zeroCells cQ.cells (grownCap w (n+dM) cap el-(n+dM))) el))
theorem Nr(h:aL C E w S a β F){o:Oper}{t t2 el:TypeId}{d:Nat}{i:TypeInfo}{cQ yv:Value}{x:Operand}{xv:U}{xs ys:Rows}{i1 i2:List Id}{vy:List Value}{dM:Nat}{e:bn}
  (bA:o.dst=some d)(uA:cQ.cells.size=i.size)(hby:i.bytes≤4096)(BV:xs.length+ys.length≤oa)(hfr:(S.h [d]).isNone=true)(wW:∀r∈ys,r.length=i.size)
  (hx:R w (az E w F) β [] (a.eval x) xv)(wU:rowsOf S.h xv=some (xs,i1))(zc:dM=ys.length)(rA:av w (az E w F) β [] vy ys.flatten)(wT:vy.length=dM*i.size)(zf:∀u∈vy,pE u=true)
  (oZ:∀{v:Value}{w':World},(Builtin.append_ #[t,t2] o.type #[a.eval x,yv]).run C.P w= .ok v w'→(execOp a.eval o).run C.P w= .ok (.value v) w')(ru:vq C.P w t t2 o.type el i cQ yv dM vy)
  (he:mA S o d i.size xv xs ys i1 i2=some e)(hd:cA S e)(hn:∀a' w',bu C E (S.app e) a' w'→next a' w'):o.wp C.P a w next Q:=by
 unfold mA at he
 have grow:∀(kill:Id)(h':Id→Option (Option Rows))(fP:Option Addr)(n cap:Nat)(vs:List Value)(f:List Nat),a.eval x= .slice fP n cap→n=xs.length→cap<n+dM→vs.length=n*i.size→(n=0∨∃b o,fP=some ⟨b,o,none⟩∧e6 w b o vs)→
   av w (az E w F) β f vs xs.flatten→(∀r∈xs,r.length=i.size)→f.Nodup→(∀b∈f,b∈F kill)→(kill=[d]∨∃rows,S.h kill=some (some rows))→
   h' [d]=some (some (xs++ys))→(∀j,j≠[d]→j≠kill→h' j=S.h j)→(kill≠[d]→h' kill=some none)→e={dA:=[(d, .rs [d] 0 (xs.length+ys.length))],rd:=i1++i2,wr:=e.wr}→(S.app e).h=h'→o.wp C.P a w next Q:=by
  intro kill h' fP n cap vs f hv hn' hgrow hvl bZ hl Ce hfn E6 hk mI lK o3 hee Je
  have hold:(Builtin.firstCells i.size n (.slice fP n cap)).run C.P w.drew= .ok vs.toArray w.drew:=by
   rcases bZ with h0|⟨b',o',rfl,bZ⟩
   ·subst h0
    have :vs=[]:=List.length_eq_zero_iff.1 (by simpa using hvl)
    subst this
    cases fP with
    |none=>exact run_firstCells_none w.drew _ _ _ _
    |some p=>simp[Builtin.firstCells,loadCells,loadCellsFrom]
   ·exact run_firstCells_some w.drew i.size n ⟨b',o',none⟩ n cap vs hvl (fun j u hj=>by rw[lT];exact bZ j u hj)
  have za:n+dM≤4294967296:=by unfold oa at BV;omega
  have eW:(n+dM)*i.bytes≤140737488355328:=Hc (Nat.mul_le_mul za hby) (by decide)
  have hrun:=(congrArg (fun z=>(Builtin.append_ #[t,t2] o.type #[z,yv]).run C.P w) hv).trans (ru.grow fP n cap vs hold hgrow (by omega) (growslice_fits hgrow eW))
  refine kK (oZ hrun) (hn _ _ ?_)
  generalize hcells:(vs++vy).toArray++Builtin.zeroCells cQ.cells (grownCap w (n+dM) cap el-(n+dM))=oE
  have hcap:n+dM≤grownCap w (n+dM) cap el:=by unfold grownCap Question.cut;simp
  have II:=h.drew
  have hlen:(vs++vy).length=(n+dM)*i.size:=by rw[GE,hvl,wT,Hd]
  have Iz:oE.size=(n+dM)*i.size+(grownCap w (n+dM) cap el-(n+dM))*cQ.cells.size:=by
   rw[←hcells,Array.size_append,List.size_toArray,hlen];simp[Builtin.zeroCells]
  have hne:xs++ys≠[]:=fun e0=>by
   have h0:=congrArg List.length e0
   rw[GE]at h0
   simp only[List.length_nil]at h0
   omega
  have hall:∀r∈xs++ys,r.length=i.size:=fun r hr=>(List.mem_append.1 hr).elim (Ce r) (wW r)
  have hnew:(w.drew.alloc (.cells oE el)).heap[w.heap.size]? =some (.cells oE el):=heap_alloc_new _ _
  have hold':∀b,b<w.heap.size→(w.drew.alloc (.cells oE el)).heap[b]? =w.heap[b]? :=fun b hb=>heap_alloc_old _ _ _ hb
  have hmul:(n+dM)*i.size+(grownCap w (n+dM) cap el-(n+dM))*i.size=grownCap w (n+dM) cap el*i.size:=by rw[←Hd];congr 1;omega
  rw[uA,hmul]at Iz
  have BW:=h.FD (w':=w.drew.alloc (.cells oE el)) (h':=h') (bh:=xs++ys) (G:=w.heap.size::f) (l:= .blk w.heap.size 0 i.size oE.size)
   (v:= .slice (some ⟨w.heap.size,0,none⟩) (n+dM) (grownCap w (n+dM) cap el)) (x:= .rs [d] 0 (xs.length+ys.length)) bA (nj hfr) hk mI lK o3 (by simp) rfl rfl (fun y=>by rw[aap];rfl)
   (fun b hb _=>hold' b hb) (tM hold') (List.nodup_cons.2 ⟨fun hm=>by
    rcases hk with hk|⟨rows,hk⟩
    ·have :=E6 _ hm
     rw[hk,h.dead [d] (by rw[nj hfr];simp)]at this;cases this
    ·exact absurd (h.lt kill _ (E6 _ hm)).1 (Nat.lt_irrefl _),hfn⟩) (fun b hb=>by
    cases hb with
    |head=>exact .inr ⟨GT _,by simp⟩
    |tail _ hm=>exact .inl (E6 b hm)) (fun I' β' hI bG hd'=> .inr (.inr ⟨w.heap.size,0,i.size,oE.size,vs++vy,f,hd',rfl,⟨oE,el,hnew,rfl⟩,⟨hne,hall⟩,by rw[Iz,Hk];exact Hb _ (by rw[GE];omega), ?_, ?_⟩)) ?_ ?_
  ·have e1:S.app e=⟨S.n,ak S.t d (.rs [d] 0 (xs.length+ys.length)),h'⟩:=by
    rw[←Je,hee];rfl
   rw[e1];exact BW
  ·intro k u hu
   rw[Hk,cell_of_row _ _ _ oE el (0,0) hnew,←hcells]
   have hlt:k<(vs++vy).length:=by
    rcases Hm k (vs++vy).length with h'|h'
    ·exact h'
    ·rw[H2 h']at hu;cases hu
   rw[Array.getElem?_append_left (by simpa using hlt)]
   simpa using hu
  ·rw[H3]
   have l1:=hl.mono (w':=w.drew.alloc (.cells oE el)) (β':=β') hI (fun b hb=>hold' b (hb.elim (fun hb=>hb.2.1) fun hb=>by
    have hm:=E6 b hb
    rcases hk with hk|⟨rows,hk⟩
    ·rw[hk,h.dead [d] (by rw[nj hfr];simp)]at hm;cases hm
    ·exact(h.lt kill b hm).1)) bG
   have l2:=rA.mono (w':=w.drew.alloc (.cells oE el)) (β':=β') hI (fun b hb=>hold' b (hb.elim (fun hb=>hb.2.1) fun hb=>by cases hb)) bG
   have :=av.append l1 l2
   rwa[H4]at this
  ·intro I' β' hd'
   have :=R.rs (w:=w.drew.alloc (.cells oE el)) (I:=I') (off:=0) (len:=n+dM) (cap:=grownCap w (n+dM) cap el) hd' (by rw[Iz];simp) hcap
   rw[show xs.length+ys.length=n+dM by omega]
   simpa using this
  ·have :cA S e:=hd
   rw[hee]at this
   simpa[cA]using this
 have idle:∀(kill:Id)(h':Id→Option (Option Rows))(fP:Option Addr),a.eval x= .slice fP 0 0→xs=[]→ys=[]→(kill=[d]∨∃rows,S.h kill=some (some rows))→
   h' [d]=some (some (xs++ys))→(∀j,j≠[d]→j≠kill→h' j=S.h j)→(kill≠[d]→h' kill=some none)→e={dA:=[(d, .rs [d] 0 (xs.length+ys.length))],rd:=i1++i2,wr:=e.wr}→(S.app e).h=h'→o.wp C.P a w next Q:=by
  intro kill h' fP hv hx0 hy0 hk mI lK o3 hee Je
  subst hx0 hy0
  have hn0:dM=0:=by simpa using zc
  have hrun:(Builtin.append_ #[t,t2] o.type #[a.eval x,yv]).run C.P w= .ok (.slice fP 0 0) w:=by rw[hv];exact ru.idle hn0 fP
  refine kK (oZ hrun) (hn _ _ ?_)
  have BW:=h.FD (w':=w) (h':=h') (bh:=[]) (G:=[]) (l:= .nil) (v:= .slice fP 0 0) (x:= .rs [d] 0 0) bA (nj hfr) hk mI lK o3 (GT _) rfl rfl (fun _=>rfl) (fun _ _ _=>rfl) (fun _ _ h=>h)
   Ha (fun b hb=>by cases hb) (fun I' β' _ _ hd'=> .inl ⟨hd',rfl,rfl⟩) (fun I' β' hd'=> .iG hd' rfl) (by
    have :cA S e:=hd
    rw[hee]at this
    simpa[cA]using this)
  have e1:S.app e=⟨S.n,ak S.t d (.rs [d] 0 0),h'⟩:=by
   rw[←Je,hee];rfl
  rw[e1];exact BW
 split at he
 ·rename_i id off len
  split at he
  ·rename_i rows hid
   split at he
   ·rename_i jl
    simp only[AC,Bool.or_eq_true,decide_eq_true_eq]at jl
    obtain⟨⟨hrows,hoff⟩,BK⟩:=jl
    have hrows:=vL hrows
    subst hoff
    simp at he
    have ac1:[d]≠id:=fun e0=>by rw[←e0,nj hfr]at hid;cases hid
    have mI:(S.app e).h [d]=some (some (xs++ys)):=by rw[←he];simp[ah.app,put,bA,bk,ak,ac1]
    have lK:∀j,j≠[d]→j≠id→(S.app e).h j=S.h j:=fun j h1 h2=>by rw[←he];simp[ah.app,put,bA,bk,ak,h1,h2]
    have o3:id≠[d]→(S.app e).h id=some none:=fun _=>by rw[←he];simp[ah.app,put,bA,bk,ak]
    have hee:e={dA:=[(d, .rs [d] 0 (xs.length+ys.length))],rd:=i1++i2,wr:=e.wr}:=by rw[←he];simp[put,bA]
    have Cd:=wU
    simp only[rowsOf,hid]at Cd
    split at Cd
    ·rename_i hle
     simp only[H5,Do,Prod.mk.injEq]at Cd
     obtain⟨hxs,_⟩:=Cd
     have Ce:∀r∈xs,r.length=i.size:=fun r hr=>hrows r (by rw[←hxs]at hr;exact List.mem_of_mem_take hr)
     have hxl:xs.length=len:=by rw[←hxs];simp;omega
     rcases hx.mQ.2 with⟨fP,l,uo,hv,_⟩|⟨b,p,sz',m,cap,bG,hfit,hlc,hv⟩
     ·have JN:xs=[]:=List.length_eq_zero_iff.1 (by omega)
      by_cases hy0:ys=[]
      ·exact idle id _ fP hv JN hy0 (.inr ⟨rows,hid⟩) mI lK o3 hee rfl
      ·have :0<ys.length:=List.length_pos_iff.2 hy0
       exact grow id _ fP 0 0 [] [] hv (by rw[JN];rfl) (by omega) (by simp) (.inl rfl) (by rw[JN];exact .nil) Ce Ha (fun b hb=>by cases hb) (.inr ⟨rows,hid⟩) mI lK o3 hee rfl
     ·obtain⟨vs,cD,fJ,hB,⟨hne,ql⟩,adp,bZ,hl⟩:=(h.obj id rows hid).at bG
      have sU:sz'=i.size:=by
       obtain⟨eB,rD⟩:=List.exists_mem_of_ne_nil _ hne
       rw[←ql eB rD,hrows eB rD]
      subst sU
      have hfl:=lC hrows
      have Jr:len*i.size≤rows.flatten.length:=by rw[hfl];exact Hb _ (by omega)
      obtain⟨f1,f2,f3,e0,_,l2,_⟩:=hl.lR 0 (len*i.size) (by omega)
      simp only[H5]at l2
      have exs:xs.flatten=rows.flatten.take (len*i.size):=by
       have :=EG (l:=0) (r:=len) hrows
       simpa[hxs]using this
      rw[←exs]at l2
      have hnd:=h.nd id
      rw[fJ,e0]at hnd
      have nu:=(List.nodup_cons.1 hnd).2
      have qh:=(List.nodup_cons.1 hnd).1
      have uk:f2.Nodup:=(List.nodup_append.1 (List.nodup_append.1 nu).2.1).1
      have PT:∀b'∈f2,b'∈F id:=fun b' hb'=>by
       rw[fJ,e0]
       exact List.mem_cons_of_mem _ (List.mem_append.2 (.inr (List.mem_append.2 (.inl hb'))))
      have Cb:(vs.take (len*i.size)).length=len*i.size:=by rw[l2.length,exs,List.length_take,Nat.min_eq_left Jr]
      simp only[Nat.zero_mul,Nat.add_zero,Hk]at hfit hv
      rcases Hm cap (len+dM)with hg|hg
      ·exact grow id _ _ len cap (vs.take (len*i.size)) f2 hv hxl.symm hg Cb (.inr ⟨b,p,rfl,bZ.take _⟩) l2 Ce uk PT (.inr ⟨rows,hid⟩) mI lK o3 hee rfl
      ·
       obtain⟨qZ,ce,kR,hcm⟩:=hB
       have mG:=lt_of_heap kR
       have hroom:p+len*i.size+vy.length≤qZ.size:=by
        rw[wT,hcm,Nat.add_assoc,←Hd]
        exact Hc (IH (Hb _ hg) _) hfit
       have hst:=S4 C.P b (p+len*i.size) ce vy 0 w qZ kR (by omega) zf
       rw[Nat.add_zero]at hst
       generalize hw':jw w b (.cells (over qZ (p+len*i.size) vy) ce (0,0))=w' at hst
       have l7:∀k,w'.heap[k]? =if k=b then some (.cells (over qZ (p+len*i.size) vy) ce (0,0))else w.heap[k]? :=fun k=>by rw[←hw'];exact Ah mG k
       have hnew:w'.heap[b]? =some (.cells (over qZ (p+len*i.size) vy) ce (0,0)):=by rw[l7,if_pos rfl]
       have hrun:(Builtin.append_ #[t,t2] o.type #[a.eval x,yv]).run C.P w= .ok (.slice (some ⟨b,p,none⟩) (len+dM) cap) w':=by rw[hv];exact ru.room b p len cap w' hg hst
       refine kK (oZ hrun) (hn _ _ ?_)
       by_cases P5:xs++ys=[]
       ·rw[P5]at BK
        simp at BK
        exact absurd BK hne
       have BW:=h.FD (w':=w') (h':=(S.app e).h) (bh:=xs++ys) (G:=b::f2) (l:= .blk b p i.size m)
        (v:= .slice (some ⟨b,p,none⟩) (len+dM) cap) (x:= .rs [d] 0 (xs.length+ys.length)) bA (nj hfr) (.inr ⟨rows,hid⟩) mI lK o3 (by rw[←hw'];simp[jw]) (by rw[←hw'];rfl) (by rw[←hw'];rfl)
        (fun y=>by
         simp only[World.frozen?,l7]
         by_cases hy:y.block=b
         ·rw[if_pos hy,hy,kR]
         ·rw[if_neg hy])
        (fun b' _ hb'=>by rw[l7,if_neg (fun e1=>hb' (by rw[fJ,e1];exact Hn ..))])
        (fun k n hB=>by
         by_cases hk:k=b
         ·subst hk
          obtain⟨c2,e2,jl,hn2⟩:=hB
          rw[kR]at jl
          simp only[Do,Obj.cells.injEq]at jl
          obtain⟨rfl,_⟩:=jl
          exact⟨_,_,hnew,by rw[F0 _ _ _ hroom];exact hn2⟩
         ·exact hB.mono (by rw[l7,if_neg hk]))
        (List.nodup_cons.2 ⟨fun hm=>qh (List.mem_append.2 (.inr (List.mem_append.2 (.inl hm)))),uk⟩)
        (fun b' hb'=> .inl (by
         cases hb' with
         |head=>rw[fJ];exact Hn ..
         |tail _ hm=>exact PT b' hm))
        (fun I' β' hI jo hd'=> .inr (.inr ⟨b,p,i.size,m,vs.take (len*i.size)++vy,f2,hd',rfl,⟨_,_,hnew,by rw[F0 _ _ _ hroom];exact hcm⟩,⟨P5,fun r hr=>(List.mem_append.1 hr).elim (Ce r) (wW r)⟩, ?_, ?_, ?_⟩)) ?_ ?_
       ·have e1:S.app e=⟨S.n,ak S.t d (.rs [d] 0 (xs.length+ys.length)),(S.app e).h⟩:=by
         conv=>lhs;rw[hee]
         rfl
        rw[e1];exact BW
       ·rw[GE]
        exact Hc (IH (Hb _ (by omega)) _) hfit
       ·intro k u hu
        rw[cell_of_row _ _ _ _ _ _ hnew,xu _ _ _ _ hroom]
        by_cases h1:k<len*i.size
        ·rw[if_neg (by omega)]
         rw[List.getElem?_append_left (by omega),List.getElem?_take_of_lt h1]at hu
         have :=bZ k u hu
         rwa[cell_of_row _ _ _ _ _ _ kR]at this
        ·rw[List.getElem?_append_right (by omega),Cb]at hu
         have hk2:k-len*i.size<vy.length:=by
          rcases Hm (k-len*i.size) vy.length with h'|h'
          ·exact h'
          ·rw[H2 h']at hu;cases hu
         rw[if_pos (by omega),show p+k-(p+len*i.size)=k-len*i.size by omega]
         exact hu
       ·rw[H3]
        have hk2:∀b',az E w F b'∨b'∈f2→w'.heap[b']? =w.heap[b']? :=fun b' hb'=>by
         rw[l7,if_neg]
         intro e1;subst e1
         rcases hb' with hb'|hb'
         ·exact hb'.2.2 id (by rw[fJ];exact Hn ..)
         ·exact qh (List.mem_append.2 (.inr (List.mem_append.2 (.inl hb'))))
        have rG:=l2.mono (w':=w') (β':=β') hI hk2 jo
        have QS:=rA.mono (w':=w') (β':=β') hI (fun b' hb'=>hk2 b' (hb'.elim .inl fun hb'=>by cases hb')) jo
        have :=av.append rG QS
        rwa[H4]at this
       ·intro I' β' hd'
        have :=R.rs (w:=w') (I:=I') (off:=0) (len:=xs.length+ys.length) (cap:=cap) hd' (by simpa using hfit) (by omega)
        rw[show len+dM=xs.length+ys.length by omega]
        simpa using this
       ·have :cA S e:=hd
        rw[hee]at this
        simpa[cA]using this
    ·cases Cd
   ·cases he
  ·cases he
 ·simp at he
  obtain⟨_,fP,hv⟩:=hx.xI
  simp[rowsOf]at wU
  obtain⟨rfl,rfl⟩:=wU
  have mI:(S.app e).h [d]=some (some ([]++ys)):=by rw[←he];simp[ah.app,put,bA,bk,ak]
  have lK:∀j,j≠[d]→j≠[d]→(S.app e).h j=S.h j:=fun j h1 _=>by rw[←he];simp[ah.app,put,bA,bk,ak,h1]
  have hee:e={dA:=[(d, .rs [d] 0 (([]:Rows).length+ys.length))],rd:=[]++i2,wr:=e.wr}:=by rw[←he];simp[put,bA]
  by_cases hy0:ys=[]
  ·exact idle [d] _ fP hv rfl hy0 (.inl rfl) mI lK (fun h=>absurd rfl h) hee rfl
  ·have :0<ys.length:=List.length_pos_iff.2 hy0
   exact grow [d] _ fP 0 0 [] [] hv rfl (by omega) (by simp) (.inl rfl) .nil (fun r hr=>by cases hr) Ha (fun b hb=>by cases hb) (.inl rfl) mI lK (fun h=>absurd rfl h) hee rfl
 ·cases he
theorem vq.afN{t t2 ty el:TypeId}{i:TypeInfo}{cQ yv:Value}{dM:Nat}{vy:List Value}(hu:C.P.underlying t=some (.slice el))(hi:C.P.info? el=some i)(kC:i.zero=some cQ)(hsrc:Src C.P i.size t2 yv dM vy w):vq C.P w t t2 ty el i cQ yv dM vy where
 idle:=fun hn fP=>by
  subst hn
  have adw:vy=[]:=List.length_eq_zero_iff.1 (by simpa using hsrc.newsLen)
  subst adw
  rcases hsrc.kind with⟨e',hk'⟩|hk'<;>
   (cases fP<;>simp[Builtin.append_,eO hu,eO (C:=C) hk',sizeOf,typeInfo,hi,hsrc.len,hsrc.cells,storeCells])
 room:=fun b p len cap w' hg hst=>by
  rcases hsrc.kind with⟨e',hk'⟩|hk'<;>
   simp[Builtin.append_,eO hu,eO (C:=C) hk',sizeOf,typeInfo,hi,hsrc.len,hsrc.cells,hg,lT,hst]
 grow:=fun fP n cap vs hold hg h63 hfit=>run_append_grow_src (P:=C.P) w t t2 ty el i cQ hu hi kC fP n cap vs hold yv dM vy hsrc hg h63 hfit
theorem vq.ajL{t t2 ty el:TypeId}{i:TypeInfo}{cQ:Value}{k kk:IntKind}{N:Int}(hu:C.P.underlying t=some (.slice el))(hk:C.P.underlying t2=some (.int k))(hi:C.P.info? el=some i)(kC:i.zero=some cQ)(uA:cQ.cells.size=i.size)(h0:0<i.size)(hby:i.bytes≤4096)(hN:0≤N∧N≤4294967296):vq C.P w t t2 ty el i cQ (.int kk N) N.toNat (Builtin.zeroCells cQ.cells N.toNat).toList:=by have hw1:IntKind.i64.wrap N=N:=IntWalk.i64_in N (by omega);have IM:¬(N*(i.bytes:Int)>2^48):=by{have:N*(i.bytes:Int)≤4294967296*4096:=Int.mul_le_mul (by omega) (by omega) (by omega) (by omega);omega};have uo:¬(N<0):=by{omega};have ru:∀w':World,(if N.toNat*i.size=0 then pure #[]else do pure (Builtin.zeroCells (←zeroValue el).cells N.toNat):Sem (Array Value)).run C.P w'= .ok (Builtin.zeroCells cQ.cells N.toNat) w':=fun w'=>by{by_cases hz:N.toNat*i.size=0;·{rw[if_pos hz];have:N.toNat=0:=by{rcases Nat.mul_eq_zero.1 hz with h|h;·{exact h};·omega};rw[this];simp[Builtin.zeroCells]};·rw[if_neg hz];simp[zeroValue,typeInfo,hi,kC]};have hz2:(underlying t2).run C.P w= .ok (.int k) w:=eO hk;refine⟨fun hn fP=> ?_,fun b p len cap w' hg hst=> ?_,fun fP n cap vs hold hg h63 hfit=> ?_⟩;·{have BC:N=0:=by{omega};subst BC;cases fP<;>simp[Builtin.append_,eO hu,eO (C:=C) hk,sizeOf,typeInfo,hi,asInt,asIntOf,storeCells,hw1,Builtin.zeroCells]};·{have lY:¬(281474976710656<N*(i.bytes:Int)):=by{omega};by_cases hz:N.toNat*i.size=0;·{have hn0:N.toNat=0:=by{rcases Nat.mul_eq_zero.1 hz with h|h;·{exact h};·omega};rw[hn0]at hst hg;have Fk:w'=w:=by{simpa[Builtin.zeroCells,storeCells]using hst.symm};subst Fk;have BC:N=0:=by{omega};subst BC;simp[Builtin.append_,eO hu,eO (C:=C) hk,sizeOf,typeInfo,hi,asInt,asIntOf,hw1,storeCells];omega};·simp[Builtin.append_,eO hu,eO (C:=C) hk,sizeOf,typeInfo,zeroValue,hi,kC,asInt,asIntOf,hw1,uo,lY,hg,hz,lT,hst]};·have hn:¬(n+N.toNat≤cap):=by{omega};have h63':¬(9223372036854775807<((n:Int)+(N.toNat:Int))):=by{omega};have Pu:¬(281474976710656<Builtin.nextslicecap (n+N.toNat) cap*i.bytes):=by{omega};have lY:¬(281474976710656<N*(i.bytes:Int)):=by{omega};have abh:¬(9223372036854775807<(n:Int)+max N 0):=by{omega};by_cases hz:N.toNat*i.size=0;·{have hn0:N.toNat=0:=by{rcases Nat.mul_eq_zero.1 hz with h|h;·{exact h};·omega};have BC:N=0:=by{omega};subst BC;have hn':¬(n≤cap):=by{simpa using hn};have abf:¬(281474976710656<Builtin.nextslicecap n cap*i.bytes):=by{simpa using Pu};have abi:¬(9223372036854775807<(n:Int)):=by{omega};simp[Builtin.append_,eO hu,eO (C:=C) hk,sizeOf,typeInfo,zeroValue,hi,kC,asInt,asIntOf,hw1,hn',Question.forced,hold,newRow,grownCap,Builtin.zeroCells,abf,abi]};·simp[Builtin.append_,eO hu,eO (C:=C) hk,sizeOf,typeInfo,zeroValue,hi,kC,asInt,asIntOf,hw1,uo,lY,hn,h63',abh,Pu,Question.forced,hold,newRow,grownCap,hz];congr 2;apply Array.ext';simp[List.append_assoc]
theorem afW(h:aL C E w S a β F){o:Oper}{c:Call}(ho:o.op= .call c)(hb:c.callee= .builtin .append){xv yv:U}{t:TypeId}{k:IntKind}(hargs:(c.args.toList.map fun x=>un true (S.get C x))=[xv,yv])(ht:c.argTypes[0]? =some t)(gM:(c.argTypes[1]?).bind C.P.underlying=some (.int k)){e:bn}(he:ym C S o t xv yv=some e)(hd:cA S e)(hn:∀a' w',bu C E (S.app e) a' w'→next a' w'):o.wp C.P a w next Q:=by match hal:c.args.toList,hargs with|[x,y],hargs=>simp at hargs;obtain⟨wV,Ch⟩:=hargs;have hx:=h.dP x;have hy:=h.dP y;rw[wV]at hx;rw[Ch]at hy;simp only[H0]at gM;obtain⟨t2,B7,gM⟩:=gM;unfold ym at he;split at he;·{rename_i el d N hu bA hN;obtain⟨kk,adF⟩:=sj hy hN;split at he;·{rename_i i z xs i1 hi hz wU;split at he;·{rename_i jH;simp only[AC,decide_eq_true_eq]at jH;obtain⟨⟨⟨⟨⟨⟨⟨hNb,hzl⟩,Qi⟩,hby⟩,Fo⟩,BV⟩,JQ⟩,hfr⟩:=jH;obtain⟨cQ,kC,uA⟩:∃cQ,i.zero=some cQ∧cQ.cells.size=i.size:=by{unfold DD at Fo;split at Fo;·{rename_i z wX;exact⟨z,wX,by simpa using Fo⟩};·cases Fo};have adI:xp cQ.cells.toList=some z:=by{unfold xU at hz;rw[hi]at hz;simp only[Option.bind_some,kC]at hz;exact hz};have n6:=FR (w:=w) (I:=az E w F) (β:=β) adI;have sQ:=Fv cQ.cells N.toNat (by omega);have hcells:(Builtin.zeroCells cQ.cells N.toNat).toList=(List.replicate N.toNat cQ.cells.toList).flatten:=sQ;have rA:av w (az E w F) β [] (Builtin.zeroCells cQ.cells N.toNat).toList (List.replicate N.toNat z).flatten:=by{rw[hcells];exact av.flatten n6 _};have hrc:qz (List.replicate N.toNat z)=true:=by{unfold qz;rw[List.all_eq_true];intro r hr;rw[(List.mem_replicate.1 hr).2];exact JQ};obtain⟨_,zf⟩:=Sf rA (SQ hrc);refine Nr h bA uA hby (by simpa using BV) hfr (fun r hr=>by rw[(List.mem_replicate.1 hr).2];exact hzl) hx wU (dM:=N.toNat) (by simp) rA (by simp[Builtin.zeroCells,uA]) zf (el:=el) (t:=t) (t2:=t2) (yv:=a.eval y) (fun hr=> ?_) ?_ he hd hn;·{rw[Db ho hb];refine nC ?_;have e1:c.args.map a.eval= #[a.eval x,a.eval y]:=by{rw[CD hal];rfl};rw[e1];have e2:∀args,Builtin.append_ c.argTypes o.type args=Builtin.append_ #[t,t2] o.type args:=fun args=>by{unfold Builtin.append_;simp[ht,B7]};show(Builtin.append_ c.argTypes o.type #[a.eval x,a.eval y]).run C.P w=_;rw[e2];exact hr};·rw[adF];exact vq.ajL hu gM hi kC uA Qi hby hNb};·cases he};·cases he};·cases he
theorem KH(h:aL C E w S a β F){o:Oper}{c:Call}(ho:o.op= .call c)(hb:c.callee= .builtin .append){e:bn}(he:lV C S o c.argTypes (c.args.toList.map fun x=>un true (S.get C x))=some e)(hd:cA S e)(hn:∀a' w',bu C E (S.app e) a' w'→next a' w'):o.wp C.P a w next Q:=by unfold lV at he;split at he;·{rename_i xv yv t anq hargs ht gM;match hal:c.args.toList,hargs with|[x,y],hargs=>simp at hargs;obtain⟨wV,Ch⟩:=hargs;have hx:=h.dP x;have hy:=h.dP y;rw[wV]at hx;rw[Ch]at hy;simp only[H0]at gM;obtain⟨t2,B7,gM⟩:=gM;unfold yl at he;split at he;·{rename_i el d hu bA;split at he;·{rename_i i xs i1 ys i2 hi wU Cg;split at he;·{rename_i jH;simp only[AC,decide_eq_true_eq]at jH;obtain⟨⟨⟨⟨⟨⟨wW,Qi⟩,hby⟩,hz⟩,BV⟩,hrc⟩,hfr⟩:=jH;have wW:=vL wW;obtain⟨cQ,kC,uA⟩:∃cQ,i.zero=some cQ∧cQ.cells.size=i.size:=by{unfold DD at hz;split at hz;·{rename_i z wX;exact⟨z,wX,by simpa using hz⟩};·cases hz};obtain⟨Nx,dM,Ek,vy,aax,wS,zc,rA,wT,E1⟩:=SU h hy Cg wW;obtain⟨acy,zf⟩:=Sf rA (SQ hrc);subst acy;have hsrc:=aiI (w:=w) (cap:=Ek) gM wT E1 zf;have Fi:∀{v:Value}{w':World},(Builtin.append_ c.argTypes o.type #[a.eval x,a.eval y]).run C.P w= .ok v w'→(execOp a.eval o).run C.P w= .ok (.value v) w':=fun hr=>by{rw[Db ho hb];refine nC ?_;have:c.args.map a.eval= #[a.eval x,a.eval y]:=by{rw[CD hal];rfl};rw[this];exact hr};have ru:∀args,Builtin.append_ c.argTypes o.type args=Builtin.append_ #[t,t2] o.type args:=fun args=>by{unfold Builtin.append_;simp[ht,B7]};exact Nr h bA uA hby BV hfr wW hx wU zc rA wT zf (el:=el) (t:=t) (t2:=t2) (yv:=a.eval y) (fun hr=>Fi (by rw[ru];exact hr)) (vq.afN hu hi kC (by rw[wS];exact hsrc)) he hd hn};·cases he};·cases he};·cases he};·{rename_i xv yv t k hargs ht gM;exact afW h ho hb hargs ht gM he hd hn};·cases he
theorem JW:∀{rows:Rows},iQ rows=true→ew rows.flatten=true|[],_=>rfl|r::rows,h=>by simp only[iQ,H1,AC]at h;have ih:=JW (rows:=rows) (by simpa[iQ]using h.2);have:∀{a b:List U},ew a=true→ew b=true→ew (a++b)=true:=by{intro a b ha hb;induction a with|nil=>(exact hb)|cons c a ih2=>simp only[ew,AC,List.cons_append]at ha⊢;exact⟨ha.1,ih2 ha.2⟩};simpa using this h.1 ih
theorem aL.freeze(h:aL C E w S a β F){id:Id}{rows:Rows}{d:Nat}(hid:S.h id=some (some rows))(hi:iQ rows=true)(hs:S.t d= .rs id 0 rows.length):∃F',aL C E w ⟨S.n,ak S.t d (.sl rows),ak S.h id (some none)⟩ a β F':=by have wN:=h.obj id rows hid;let F':Id→List Nat:=fun i=>if i=id then[]else F i;have hsub:∀i b,b∈F' i→b∈F i:=fun i b hb=>by{by_cases e:i=id;·{simp[F',e]at hb};·simpa[F',e]using hb};have hI:∀b,az E w F b→az E w F' b:=fun b hb=>⟨hb.1,hb.2.1,fun i hm=>hb.2.2 i (hsub i b hm)⟩;have gD:∀{β':Id→Option Loc}{f:List Nat}{v:Value}{x:U},R w (az E w F) β' f v x→R w (az E w F') β' f v x:=fun hr=>hr.mono hI (fun _ _=>rfl) (fun _ _ h=>h);refine⟨F', ?_⟩;refine{n:=h.n,df:=h.df.mono (fun b hb=>⟨hI b hb.1,hb.2⟩) (fun _ _=>rfl),slot:=fun t=> ?_,obj:=fun i r hr=> ?_,dead:=fun i hi'=> ?_,nd:=fun i=> ?_,cV:=fun i j b hb hb'=>h.cV i j b (hsub i b hb) (hsub j b hb'),dom:=fun i hi'=> ?_,lt:=fun i b hb=>h.lt i b (hsub i b hb),kept:=h.kept,cw:=fun g cs hg=>gD (h.cw g cs hg),ns:=h.ns,kb:=fun k r hk hr=>h.kb k r hk (by by_cases e:k=id;·{subst e;simp[ak]at hr};·simpa[ak,e]using hr)};·{by_cases e:t=d;·{subst e;have hv:=h.slot t;rw[hs]at hv;simp only[ak,if_true];obtain⟨_,wR⟩:=hv.mQ;clear hv;rcases wR with⟨ad,l,h1,hv,hb⟩|⟨b,o,sz,n,cap,hb,hfit,hle,hv⟩;·{have:rows=[]:=List.length_eq_zero_iff.1 h1;subst this;rw[hv];exact .gy};·rcases wN with⟨h1,_,_⟩|⟨b',h1,_⟩|⟨b',o',sz',n',vs,cD,hb',fJ,hB,⟨hne,hrows⟩,acs,bZ,hl⟩;·{rw[h1]at hb;cases hb};·{rw[h1]at hb;cases hb};·rw[hb']at hb;simp only[Do,Loc.blk.injEq]at hb;obtain⟨rfl,rfl,rfl,rfl⟩:=hb;have uo:av w (az E w F) bS cD vs rows.flatten:=R.nv hl (by simpa[ff]using JW hi);have BL:cD=[]:=R.JY hl (by simpa[ff]using JW hi);subst BL;have qg:b'∈F id:=by{rw[fJ];exact List.mem_cons_self .. };have rj:az E w F' b':=⟨(h.lt id b' qg).2.elim (fun h=> .inr (.inl h)) (fun h=> .inr (.inr h)),(h.lt id b' qg).1,fun i hm=>by by_cases e:i=id;·{simp[F',e]at hm};·exact e (h.cV i id b' (hsub i b' hm) qg)⟩;rw[hv,Nat.zero_mul,Nat.add_zero];exact .sl hrows rj bZ hle (gD uo)};·simp only[ak,if_neg e];exact gD (h.slot t)};·{by_cases e:i=id;·{subst e;simp[ak]at hr};·simp only[ak,if_neg e]at hr;have:=(h.obj i r hr).mono (w':=w) (I':=az E w F') (β':=β) hI (fun _ _=>rfl) (fun _ _ h=>h);simpa[F',e]using this};·{by_cases e:i=id;·{simp[F',e]};·simp only[F',if_neg e];refine h.dead i fun r hr=>hi' r ?_;simp[ak,e,hr]};·{by_cases e:i=id;·{simp[F',e]};·simpa[F',e]using h.nd i};·by_cases e:i=id;·{subst e;simp[ak]at hi'};·simp only[ak,if_neg e]at hi';exact h.dom i hi'
theorem GA{α β':Type}[DecidableEq α](f:α→β')(k:α)(u v:β'):ak (ak f k u) k v=ak f k v:=by funext j;by_cases e:j=k<;>simp[ak,e]
theorem ajw{α β':Type}[DecidableEq α](f:α→β'){k l:α}(hne:k≠l)(u v:β'):ak (ak f k u) l v=ak (ak f l v) k u:=by funext j;by_cases e:j=k;·{subst e;simp[ak,hne]};·by_cases e2:j=l;·{subst e2;simp[ak,e]};·simp[ak,e,e2]
theorem Zx{o:Oper}{ts:Array TypeId}{xs:List U}{e:bn}(h:lV C S o ts xs=some e):∃d rows rd,o.dst=some d∧S.h [d]=none∧((∃id,(∃r,S.h id=some (some r))∧e=put o (.rs [d] 0 rows.length) rd [(id,none),([d],some rows)])∨e=put o (.rs [d] 0 rows.length) rd [([d],some rows)]):=by have tail:∀{d m:Nat}{x:U}{xs ys:Rows}{i1 i2:List Id},o.dst=some d→(S.h [d]).isNone=true→mA S o d m x xs ys i1 i2=some e→∃d rows rd,o.dst=some d∧S.h [d]=none∧((∃id,(∃r,S.h id=some (some r))∧e=put o (.rs [d] 0 rows.length) rd [(id,none),([d],some rows)])∨e=put o (.rs [d] 0 rows.length) rd [([d],some rows)]):=by{intro d m x xs ys i1 i2 hd hn h;unfold mA at h;split at h;·{split at h;·{rename_i hid;split at h;·{simp only[Do]at h;subst h;exact⟨d,xs++ys,_,hd,nj hn, .inl ⟨_,⟨_,hid⟩,by rw[GE]⟩⟩};·cases h};·cases h};·{simp only[Do]at h;subst h;exact⟨d,xs++ys,_,hd,nj hn, .inr (by rw[GE])⟩};·cases h};unfold lV at h;split at h;·{unfold yl at h;split at h;·{rename_i hd;split at h;·{split at h;·{rename_i hc;simp only[AC]at hc;exact tail hd hc.2 h};·cases h};·cases h};·cases h};·{unfold ym at h;split at h;·{rename_i hd _;split at h;·{split at h;·{rename_i hc;simp only[AC]at hc;exact tail hd hc.2 h};·cases h};·cases h};·cases h};·cases h
theorem afV(h:aL C E w S a β F){o:Oper}{f:FuncId}{c:Call}(ho:o.op= .call c)(hb:c.callee= .builtin .append){e:bn}(he:(lV C S o c.argTypes (c.args.toList.map fun x=>un true (S.get C x))).bind (qb C f o)=some e)(hd:cA S e)(hn:∀a' w',bu C E (S.app e) a' w'→next a' w'):o.wp C.P a w next Q:=by simp only[H0]at he;obtain⟨e1,h1,h2⟩:=he;obtain⟨d,rows,rd,bA,hnone,hsh⟩:=Zx h1;unfold qb at h2;split at h2;·{rcases hsh with⟨id,⟨r,hid⟩,rfl⟩|rfl;·{simp only[bA,put]at h2;split at h2;·{rename_i hc;simp only[Do]at h2;subst h2;refine KH h ho hb h1 (by simpa[cA,put,bA]using hd) fun a' w'⟨β',F',hS⟩=>hn a' w' ?_;have hne:id≠[d]:=fun e=>by{rw[e,hnone]at hid;cases hid};obtain⟨dB,lH⟩:=hS.freeze (id:=[d]) (rows:=rows) (d:=d) (by simp[ah.app,put,bA,bk,ak,hne.symm]) hc.2 (by simp[ah.app,put,bA,cT,ak]);refine⟨β',dB, ?_⟩;simp only[ah.app,put,bA,cT,bk]at lH⊢;rw[GA,ajw _ hne,GA]at lH;exact lH};·cases h2};·simp only[bA,put]at h2;split at h2;·{rename_i hc;simp only[Do]at h2;subst h2;refine KH h ho hb h1 (by simpa[cA,put,bA]using hd) fun a' w'⟨β',F',hS⟩=>hn a' w' ?_;obtain⟨dB,lH⟩:=hS.freeze (id:=[d]) (rows:=rows) (d:=d) (by simp[ah.app,put,bA,bk,ak]) hc.2 (by simp[ah.app,put,bA,cT,ak]);refine⟨β',dB, ?_⟩;simp only[ah.app,put,bA,cT,bk]at lH⊢;rw[GA,GA]at lH;exact lH};·cases h2};·simp only[Do]at h2;subst h2;exact KH h ho hb h1 hd hn
end
end Go.Ab
