import Derived.Test.YtbbhbdlljfffdaaGreatDoorAbOps6
import Derived.Deep.AppendSrc
open Bool renaming and_eq_true→AC
open List renaming length_append→GE,nodup_nil→Ha,mem_cons_self→Hn,all_cons→H1,getElem?_eq_none→H2,flatten_append→H3,append_nil→H4,drop_zero→H5
open Nat renaming le_refl→GT,mul_le_mul_right→Hb,le_trans→Hc,add_mul→Hd,zero_add→Hk,lt_or_ge→Hm,add_le_add_left→IH
open Option renaming bind_eq_some_iff→H0
open Option.some renaming injEq→Do
set_option linter.all false
namespace Go.Ab
open Go
section
variable{C:aG}{E:Env}{w:World}{S:ah}{a:Act}{β:Id→Option Loc}{F:Id→List Nat}
variable{next:Act→World→Prop}{Q:Exit→Act→World→Prop}
theorem aN.S5(h:aN C E w S a β F)(t:Nat){x:U}(hx:R w (aA E w F) β [] (a.tmps.getD t undef) x):aN C E w ⟨S.n,ak S.t t x,S.h⟩ a β F:=by refine h.step (fun _=>False) h.n (GT _) rfl rfl (fun _=>rfl) (fun _ _ _=>rfl) (fun _ _ h=>h) (fun id b hb=> .inl ⟨id,hb⟩) (fun _ _=>⟨rfl,rfl⟩) (fun _ _ h=>h.elim) (fun _ h=>h.elim) (fun _ h=>h.elim) (fun _ _ _ h=>h.elim) h.dom ?_;intro _ u;by_cases hu:u=t;·{subst hu;exact .inr (by simpa[ak]using hx)};·exact .inl ⟨rfl,by simp[ak,hu]⟩
theorem agp(h:aN C E w S a β F){o:Oper}{f:FuncId}{t:TypeId}{ao x:Operand}(ho:o.op= .store t ao x){e:bq}(he:nE C f S true o t ao (un true (S.get C ao)) (un true (S.get C x))=some e)(hd:cF S e)(hn:∀a' w',bx C E (S.app e) a' w'→next a' w'):o.wp C.P a w next Q:=by have ha:=h.dO ao;have hx:=h.dO x;generalize ET:un true (S.get C ao)=ajL at*;generalize un true (S.get C x)=xv at*;unfold nE at he;split at he;·{rename_i b n hb hs;split at he;·{rename_i id row off cs hcs;split at he;·{cases he};·rename_i I1;have I1:cs.length=n:=by{simpa using I1};split at he;·{rename_i rows hid;simp only[Option.bind_eq_some_iff]at he;obtain⟨r,hr,he⟩:=he;split at he;·{rename_i hfit;obtain⟨_,gC,p,sz,m,bH,hv⟩:=ha.nW;obtain⟨us,uf,nR,hpl⟩:=Eh hx hcs;have BY:=nR.length;obtain⟨w',hrun,hS,hfz⟩:=h.stored hid bH hr hfit I1 nR hpl;have hst:(execOp a.eval o).run C.P w= .ok .skip w':=by{simp only[execOp,ho];refine SV ?_;have hsz:(a.eval x).cells.size=n:=by{rw[uf];simp;omega};simp only[Instr.storeAt,hv,Instr.sureAddr];rw[Sem.run_bind,Sem.run_pure,Result.andThen_ok];unfold storeVar;rw[Sem.run_bind,n8 hs,Result.andThen_ok];simp only[hsz,ne_eq,not_true_eq_false,if_false];rw[uf];exact hrun};split at he;·{rename_i ta sA;split at he;·{rename_i jx;simp only[Bool.and_eq_true,decide_eq_true_eq]at jx;obtain⟨⟨⟨⟨⟨⟨c1,c2⟩,c3⟩,nA⟩,qF⟩,_⟩,X3⟩:=jx;simp at he;subst he;have bz:o.dst=none:=by{simpa using X3};rcases hfz ([]:Rows)with hfz|hfz;·{obtain⟨F',k7,hI,b8,hl⟩:=hfz c3 nA c1 c2;refine Mn hst (hn _ _ ⟨β,F', ?_⟩);have hao:ao= .tmp ta:=by{unfold vL at sA;split at sA;·{split at sA;·{simp at sA;rw[sA]};·cases sA};·cases sA};have ac6:a.tmps.getD ta undef= .pointer (some ⟨gC,p+row*sz+off,none⟩):=by{rw[←hv,hao];rfl};have:=k7.S5 ta (x:= .aD (kK cs)) (by rw[ac6];exact .aD hI b8 (av.mW (av.nz hl) qF));simpa[ah.app,cW,bp,Act.put,bz]using this};·subst hfz;simp at hr};·cases he};·split at he;·{rename_i hdn;simp at he;subst he;have bz:o.dst=none:=by{simpa using hdn};obtain⟨F',k7⟩:=hS;refine Mn hst (hn _ _ ⟨β,F', ?_⟩);simpa[ah.app,put,cW,Act.put,bz]using k7};·cases he};·cases he};·cases he};·cases he};·cases he
/-! ### append -/
theorem SJ(h:aN C E w S a β F){v:Value}{x:U}{xs:Rows}{ids:List Id}{sz:Nat}(hx:R w (aA E w F) β [] v x)(hr:rowsOf S.h x=some (xs,ids))(hsz:∀r∈xs,r.length=sz):∃ba n cap vs f,v= .slice ba n cap∧n=xs.length∧av w (aA E w F) β f vs xs.flatten∧vs.length=n*sz∧(n=0∨∃b o,ba=some ⟨b,o,none⟩∧fe w b o vs):=by unfold rowsOf at hr;split at hr;·{simp at hr;obtain⟨rfl,rfl⟩:=hr;rcases hx.De.2 with⟨ba,cap,rfl,hv⟩|⟨b,o,sz',cap,vs,_,_,b8,hl,_,hv⟩;·{exact⟨ba,0,cap,[],[],hv,rfl, .nil,by simp, .inl rfl⟩};·exact⟨_,_,cap,vs,[],hv,rfl,R.up hl,by rw[hl.length,kZ hsz], .inr ⟨b,o,rfl,b8⟩⟩};·{simp at hr;obtain⟨rfl,rfl⟩:=hr;obtain⟨_,ba,hv⟩:=hx.xm;exact⟨ba,0,0,[],[],hv,rfl, .nil,by simp, .inl rfl⟩};·{rename_i id off len;split at hr;·{rename_i rows hid;split at hr;·{rename_i hle;simp at hr;obtain⟨rfl,rfl⟩:=hr;rcases hx.mA.2 with⟨ba,l,rfl,hv,_⟩|⟨b,o,sz',m,cap,bH,hfit,hlc,hv⟩;·{exact⟨ba,0,0,[],[],hv,by simp,by simpa using R.nil,by simp, .inl rfl⟩};·rcases Nat.eq_zero_or_pos len with h0|h0;·{subst h0;exact⟨_,0,cap,[],[],hv,by simp,by simpa using R.nil,by simp, .inl rfl⟩};·obtain⟨vs,cI,fN,_,⟨hne,hrows⟩,_,b8,hl⟩:=(h.obj id rows hid).at bH;have sy:sz'=sz:=by{have hlt:off<rows.length:=by{omega};have hm:rows[off]∈(rows.drop off).take len:=by{rw[List.mem_iff_getElem?];exact⟨0,by rw[List.getElem?_take_of_lt h0,List.getElem?_drop];simp⟩};have hm2:rows[off]∈rows:=List.getElem_mem hlt;rw[←hrows _ hm2,hsz _ hm]};subst sy;have hfl:=kZ hrows;have e1:((rows.drop off).take len).flatten=(rows.flatten.drop (off*sz')).take (len*sz'):=by{have:=EA (l:=off) (r:=off+len) hrows;rw[List.take_drop,this,List.take_drop,Nat.add_mul]};have Jj:off*sz'+len*sz'≤rows.flatten.length:=by{rw[hfl,←Nat.add_mul];exact Nat.mul_le_mul_right _ hle};obtain⟨f1,f2,f3,e0,_,h2,_⟩:=hl.lC (off*sz') (len*sz') Jj;rw[←e1]at h2;have hlen:=h2.length;refine⟨_,len,cap,_,f2,hv,by simp;omega,h2, ?_, .inr ⟨b,o+off*sz',rfl,(b8.drop _).take _⟩⟩;rw[hlen,kZ hsz];congr 1;simp;omega};·cases hr};·cases hr};·cases hr
theorem aiA{t e':TypeId}{sz n cap:Nat}{ba:Option Addr}{vs:List Value}(hk:C.P.underlying t=some (.slice e'))(hl:vs.length=n*sz)(hc:n=0∨∃b o,ba=some ⟨b,o,none⟩∧fe w b o vs)(hp:∀u∈vs,oX u=true):Src C.P sz t (.slice ba n cap) n vs w:=by have h1:∀u∈vs,u.oneCell'=true:=fun u hu=>by{have:=hp u hu;cases u<;>simp_all[oX,Value.oneCell']};rcases hc with rfl|⟨b,o,rfl,b8⟩;·{have:vs=[]:=List.length_eq_zero_iff.1 (by simpa using hl);subst this;have hz:∀w':World,(Builtin.firstCells sz 0 (.slice ba 0 cap)).run C.P w'= .ok #[] w':=fun w'=>by{cases ba with|none=>(exact run_firstCells_none w' _ _ _ _)|some p=>simp[Builtin.firstCells,loadCells,loadCellsFrom]};exact⟨.inl ⟨e',hk⟩,fun _=>rfl,hz w,hz w.drew,by simp,h1⟩};·exact Src.ofSlice w hk ⟨b,o,none⟩ n cap vs hl (fun j u hj=>by rw[lF];exact b8 j u hj) h1
theorem R6{I:Nat→Prop}{as:List U}:∀{f:List Nat}{vs:List Value},av w I β f vs as→as.all U.cell=true→f=[]∧∀u∈vs,oX u=true:=by induction as with|nil=>(intro f vs h _;obtain⟨rfl,rfl⟩:=h.fJ;exact⟨rfl,fun u hu=>by cases hu⟩)|cons c as ih=>intro f vs h hc;simp only[H1,AC]at hc;obtain⟨f1,f2,v,vs',rfl,rfl,h1,h2⟩:=av.cons_inv h;obtain⟨e2,p2⟩:=ih h2 hc.2;refine⟨by rw[h1.A9 hc.1,e2];rfl,fun u hu=> ?_⟩;cases hu with|head=>(obtain⟨p1,p3,_⟩:=h1.plain hc.1;cases v<;>simp_all[oX])|tail _ hm=>exact p2 u hm
theorem SG{rows:Rows}(h:qj rows=true):rows.flatten.all U.cell=true:=by rw[List.all_eq_true];intro c hc;obtain⟨r,hr,hm⟩:=List.mem_flatten.1 hc;exact List.all_eq_true.1 (List.all_eq_true.1 h r hr) c hm
theorem aak{w:World}(c:Array Value)(e:TypeId)(x:Addr):(w.alloc (.cells c e)).frozen? x=w.frozen? x:=by have hnew:(w.alloc (.cells c e)).heap[w.heap.size]? =some (.cells c e):=heap_alloc_new _ _;by_cases hx:x.block=w.heap.size;·{have e2:w.heap[x.block]? =none:=by{rw[hx];simp};simp only[World.frozen?,hx,hnew];simp};·rw[World.frozen?_alloc_old _ _ _ hx]
theorem aN.FA(h:aN C E w S a β F){o:Oper}{d:Nat}(bz:o.dst=some d){kill:Id}(hfresh:S.h [d]=none)(Jh:kill=[d]∨∃rows,S.h kill=some (some rows)){w':World}{h':Id→Option (Option Rows)}{bn:Rows}{G:List Nat}{l:Loc}{v:Value}{x:U}(mm:h' [d]=some (some bn))(ld:∀i,i≠[d]→i≠kill→h' i=S.h i)(oL:kill≠[d]→h' kill=some none)(hsz:w.heap.size≤w'.heap.size)(hos:w'.os=w.os)(hout:w'.output=w.output)(tW:∀y,w'.frozen? y=w.frozen? y)(hw:∀b,b<w.heap.size→b∉F kill→w'.heap[b]? =w.heap[b]?)(fu:∀b n,fV w b n→fV w' b n)(eu:G.Nodup)(pV:∀b∈G,b∈F kill∨(w.heap.size≤b∧b<w'.heap.size))(abx:∀(I':Nat→Prop)(β':Id→Option Loc),(∀b,aA E w F b→I' b)→(∀i l,β i=some l→β' i=some l)→β' [d]=some l→dJ w' I' β' [d] bn G)(hx:∀(I':Nat→Prop)(β':Id→Option Loc),β' [d]=some l→R w' I' β' [] v x)(hd:d<S.n):bx C E ⟨S.n,ak S.t d x,h'⟩ (a.put o.dst v) w':=by have B7:β [d]=none:=h.dom _ hfresh;have qT:F [d]=[]:=h.dead _ (by rw[hfresh];simp);let F':Id→List Nat:=fun i=>if i=[d]then G else if i=kill then[]else F i;have EM:F' [d]=G:=by{simp[F']};have Bn:kill≠[d]→F' kill=[]:=fun hk=>by{simp[F',hk]};have IB:∀i,i≠[d]→i≠kill→F' i=F i:=fun i h1 h2=>by{simp[F',h1,h2]};have bH:∀i l',β i=some l'→ak β [d] (some l) i=some l':=fun i l' hl=>by{by_cases hi:i=[d];·{subst hi;rw[B7]at hl;cases hl};·simpa[ak,hi]using hl};refine⟨ak β [d] (some l),F', ?_⟩;refine h.step (fun i=>i=[d]∨i=kill) (by rw[sP];exact h.n) hsz hos hout tW (fun b hb hk=>hw b hb (hk kill (.inr rfl))) bH ?_ ?_ ?_ ?_ ?_ ?_ ?_ ?_ (fu:=fu) (hok:=fun k rows hk hr=>by by_cases h1:k=[d];·{subst h1;exact absurd hk (h.ns d hd [])};·by_cases h2:k=kill;·{subst h2;simp only at hr;rw[oL h1]at hr;cases hr};·exact⟨rows,by rw[←ld k h1 h2];exact hr⟩);·{intro i b hb;by_cases h1:i=[d];·{subst h1;rw[EM]at hb;rcases pV b hb with hm|hm;·{exact .inl ⟨kill,hm⟩};·exact .inr hm};·by_cases h2:i=kill;·{subst h2;rw[Bn h1]at hb;cases hb};·rw[IB i h1 h2]at hb;exact .inl ⟨i,hb⟩};·{intro i hi;have h1:i≠[d]:=fun e=>hi (.inl e);have h2:i≠kill:=fun e=>hi (.inr e);exact⟨IB i h1 h2,ld i h1 h2⟩};·{intro hI i hi eV hr;by_cases h1:i=[d];·{subst h1;have hr':h' [d]=some (some eV):=hr;rw[mm]at hr';simp at hr';subst hr';rw[EM];exact abx _ _ hI bH (by simp[ak])};·have h2:i=kill:=hi.resolve_left h1;subst h2;have hr':h' i=some (some eV):=hr;rw[oL h1]at hr';simp at hr'};·{intro i hi hno;by_cases h1:i=[d];·{subst h1;exact absurd mm (hno _)};·have h2:i=kill:=hi.resolve_left h1;subst h2;exact Bn h1};·{intro i hi;by_cases h1:i=[d];·{subst h1;rw[EM];exact eu};·have h2:i=kill:=hi.resolve_left h1;subst h2;rw[Bn h1];exact Ha};·{intro i j b hi ki lK;have aux:∀j,j≠[d]→b∈F' j→b∈G→False:=fun j hj lK abL=>by{by_cases h2:j=kill;·{subst h2;rw[Bn hj]at lK;cases lK};·rw[IB j hj h2]at lK;rcases pV b abL with hm|hm;·{exact h2 (h.cY j kill b lK hm)};·have:=(h.lt j b lK).1;omega};by_cases h1:i=[d];·{subst h1;by_cases h2:j=[d];·{exact h2.symm};·rw[EM]at ki;exact(aux j h2 lK ki).elim};·have h2:i=kill:=hi.resolve_left h1;subst h2;rw[Bn h1]at ki;cases ki};·{intro i hi;have hi':h' i=none:=hi;by_cases h1:i=[d];·{subst h1;rw[mm]at hi';cases hi'};·by_cases h2:i=kill;·{subst h2;rw[oL h1]at hi';cases hi'};·rw[ld i h1 h2]at hi';simp[ak,h1,h.dom i hi']};·intro _ u;rw[bz,sO a d u v (by rw[h.n];exact hd)];by_cases hu:u=d;·{subst hu;rw[if_pos rfl];exact .inr (by simpa[ak]using hx _ (ak β [u] (some l)) (by simp[ak]))};·rw[if_neg hu];exact .inl ⟨rfl,by simp[ak,hu]⟩
theorem aN.drew(h:aN C E w S a β F):aN C E w.drew S a β F:=h.step (fun _=>False) h.n (GT _) rfl rfl (fun _=>rfl) (fun _ _ _=>rfl) (fun _ _ h=>h) (fun id b hb=> .inl ⟨id,hb⟩) (fun _ _=>⟨rfl,rfl⟩) (fun _ _ h=>h.elim) (fun _ h=>h.elim) (fun _ h=>h.elim) (fun _ _ _ h=>h.elim) h.dom (fun _ _=> .inl ⟨rfl,rfl⟩)
structure uX(P:Program)(w:World)(t t2 ty el:TypeId)(i:TypeInfo)(cT:Value)(yv:Value)(dK:Nat)(vy:List Value):Prop where
 idle:dK=0→∀fM,(Builtin.append_ #[t,t2] ty #[.slice fM 0 0,yv]).run P w= .ok (.slice fM 0 0) w
 room:∀b p len cap w',len+dK≤cap→(storeCells ⟨b,p+len*i.size,none⟩ vy).run P w= .ok () w'→(Builtin.append_ #[t,t2] ty #[.slice (some ⟨b,p,none⟩) len cap,yv]).run P w= .ok (.slice (some ⟨b,p,none⟩) (len+dK) cap) w'
 grow:∀(fM:Option Addr)(n cap:Nat)(vs:List Value),(Builtin.firstCells i.size n (.slice fM n cap)).run P w.drew= .ok vs.toArray w.drew→cap<n+dK→((n+dK:Nat):Int)≤9223372036854775807→Builtin.nextslicecap (n+dK) cap*i.bytes≤281474976710656→
  (Builtin.append_ #[t,t2] ty #[.slice fM n cap,yv]).run P w= .ok (.slice (some ⟨w.heap.size,0,none⟩) (n+dK) (grownCap w (n+dK) cap el)) (w.drew.alloc (.cells ((vs++vy).toArray++Builtin.zeroCells cT.cells (grownCap w (n+dK) cap el-(n+dK))) el))
theorem Nq(h:aN C E w S a β F){o:Oper}{t t2 el:TypeId}{d:Nat}{i:TypeInfo}{cT yv:Value}{x:Operand}{xv:U}{xs ys:Rows}{i1 i2:List Id}{vy:List Value}{dK:Nat}{e:bq}
  (bz:o.dst=some d)(ug:cT.cells.size=i.size)(hby:i.bytes≤4096)(BL:xs.length+ys.length≤nV)(hfr:(S.h [d]).isNone=true)(wE:∀r∈ys,r.length=i.size)
  (hx:R w (aA E w F) β [] (a.eval x) xv)(wC:rowsOf S.h xv=some (xs,i1))(yS:dK=ys.length)(qY:av w (aA E w F) β [] vy ys.flatten)(wB:vy.length=dK*i.size)(yV:∀u∈vy,oX u=true)
  (oK:∀{v:Value}{w':World},(Builtin.append_ #[t,t2] o.type #[a.eval x,yv]).run C.P w= .ok v w'→(execOp a.eval o).run C.P w= .ok (.value v) w')(tQ:uX C.P w t t2 o.type el i cT yv dK vy)
  (he:l8 S o d i.size xv xs ys i1 i2=some e)(hd:cF S e)(hn:∀a' w',bx C E (S.app e) a' w'→next a' w'):o.wp C.P a w next Q:=by
 unfold l8 at he
 have grow:∀(kill:Id)(h':Id→Option (Option Rows))(fM:Option Addr)(n cap:Nat)(vs:List Value)(f:List Nat),a.eval x= .slice fM n cap→n=xs.length→cap<n+dK→vs.length=n*i.size→(n=0∨∃b o,fM=some ⟨b,o,none⟩∧fe w b o vs)→
   av w (aA E w F) β f vs xs.flatten→(∀r∈xs,r.length=i.size)→f.Nodup→(∀b∈f,b∈F kill)→(kill=[d]∨∃rows,S.h kill=some (some rows))→
   h' [d]=some (some (xs++ys))→(∀j,j≠[d]→j≠kill→h' j=S.h j)→(kill≠[d]→h' kill=some none)→e={dz:=[(d, .rs [d] 0 (xs.length+ys.length))],rd:=i1++i2,wr:=e.wr}→(S.app e).h=h'→o.wp C.P a w next Q:=by
  intro kill h' fM n cap vs f hv hn' hgrow hvl b8 hl B3 hfn E2 hk mm ld oL hee Ja
  have hold:(Builtin.firstCells i.size n (.slice fM n cap)).run C.P w.drew= .ok vs.toArray w.drew:=by
   rcases b8 with h0|⟨b',o',rfl,b8⟩
   ·subst h0
    have :vs=[]:=List.length_eq_zero_iff.1 (by simpa using hvl)
    subst this
    cases fM with
    |none=>exact run_firstCells_none w.drew _ _ _ _
    |some p=>simp[Builtin.firstCells,loadCells,loadCellsFrom]
   ·exact run_firstCells_some w.drew i.size n ⟨b',o',none⟩ n cap vs hvl (fun j u hj=>by rw[lF];exact b8 j u hj)
  have yQ:n+dK≤4294967296:=by unfold nV at BL;omega
  have eX:(n+dK)*i.bytes≤140737488355328:=Hc (Nat.mul_le_mul yQ hby) (by decide)
  have hrun:=(congrArg (fun z=>(Builtin.append_ #[t,t2] o.type #[z,yv]).run C.P w) hv).trans (tQ.grow fM n cap vs hold hgrow (by omega) (growslice_fits hgrow eX))
  refine kA (oK hrun) (hn _ _ ?_)
  generalize hcells:(vs++vy).toArray++Builtin.zeroCells cT.cells (grownCap w (n+dK) cap el-(n+dK))=om
  have hcap:n+dK≤grownCap w (n+dK) cap el:=by unfold grownCap Question.cut;simp
  have IG:=h.drew
  have hlen:(vs++vy).length=(n+dK)*i.size:=by rw[GE,hvl,wB,Hd]
  have IA:om.size=(n+dK)*i.size+(grownCap w (n+dK) cap el-(n+dK))*cT.cells.size:=by
   rw[←hcells,Array.size_append,List.size_toArray,hlen];simp[Builtin.zeroCells]
  have hne:xs++ys≠[]:=fun e0=>by
   have h0:=congrArg List.length e0
   rw[GE]at h0
   simp only[List.length_nil]at h0
   omega
  have hall:∀r∈xs++ys,r.length=i.size:=fun r hr=>(List.mem_append.1 hr).elim (B3 r) (wE r)
  have hnew:(w.drew.alloc (.cells om el)).heap[w.heap.size]? =some (.cells om el):=heap_alloc_new _ _
  have hold':∀b,b<w.heap.size→(w.drew.alloc (.cells om el)).heap[b]? =w.heap[b]? :=fun b hb=>heap_alloc_old _ _ _ hb
  have hmul:(n+dK)*i.size+(grownCap w (n+dK) cap el-(n+dK))*i.size=grownCap w (n+dK) cap el*i.size:=by rw[←Hd];congr 1;omega
  rw[ug,hmul]at IA
  have BM:=h.FA (w':=w.drew.alloc (.cells om el)) (h':=h') (bn:=xs++ys) (G:=w.heap.size::f) (l:= .blk w.heap.size 0 i.size om.size)
   (v:= .slice (some ⟨w.heap.size,0,none⟩) (n+dK) (grownCap w (n+dK) cap el)) (x:= .rs [d] 0 (xs.length+ys.length)) bz (mP hfr) hk mm ld oL (by simp) rfl rfl (fun y=>by rw[aak];rfl)
   (fun b hb _=>hold' b hb) (tq hold') (List.nodup_cons.2 ⟨fun hm=>by
    rcases hk with hk|⟨rows,hk⟩
    ·have :=E2 _ hm
     rw[hk,h.dead [d] (by rw[mP hfr];simp)]at this;cases this
    ·exact absurd (h.lt kill _ (E2 _ hm)).1 (Nat.lt_irrefl _),hfn⟩) (fun b hb=>by
    cases hb with
    |head=>exact .inr ⟨GT _,by simp⟩
    |tail _ hm=>exact .inl (E2 b hm)) (fun I' β' hI bH hd'=> .inr (.inr ⟨w.heap.size,0,i.size,om.size,vs++vy,f,hd',rfl,⟨om,el,hnew,rfl⟩,⟨hne,hall⟩,by rw[IA,Hk];exact Hb _ (by rw[GE];omega), ?_, ?_⟩)) ?_ ?_
  ·have e1:S.app e=⟨S.n,ak S.t d (.rs [d] 0 (xs.length+ys.length)),h'⟩:=by
    rw[←Ja,hee];rfl
   rw[e1];exact BM
  ·intro k u hu
   rw[Hk,cell_of_row _ _ _ om el (0,0) hnew,←hcells]
   have hlt:k<(vs++vy).length:=by
    rcases Hm k (vs++vy).length with h'|h'
    ·exact h'
    ·rw[H2 h']at hu;cases hu
   rw[Array.getElem?_append_left (by simpa using hlt)]
   simpa using hu
  ·rw[H3]
   have l1:=hl.mono (w':=w.drew.alloc (.cells om el)) (β':=β') hI (fun b hb=>hold' b (hb.elim (fun hb=>hb.2.1) fun hb=>by
    have hm:=E2 b hb
    rcases hk with hk|⟨rows,hk⟩
    ·rw[hk,h.dead [d] (by rw[mP hfr];simp)]at hm;cases hm
    ·exact(h.lt kill b hm).1)) bH
   have l2:=qY.mono (w':=w.drew.alloc (.cells om el)) (β':=β') hI (fun b hb=>hold' b (hb.elim (fun hb=>hb.2.1) fun hb=>by cases hb)) bH
   have :=av.append l1 l2
   rwa[H4]at this
  ·intro I' β' hd'
   have :=R.rs (w:=w.drew.alloc (.cells om el)) (I:=I') (off:=0) (len:=n+dK) (cap:=grownCap w (n+dK) cap el) hd' (by rw[IA];simp) hcap
   rw[show xs.length+ys.length=n+dK by omega]
   simpa using this
  ·have :cF S e:=hd
   rw[hee]at this
   simpa[cF]using this
 have idle:∀(kill:Id)(h':Id→Option (Option Rows))(fM:Option Addr),a.eval x= .slice fM 0 0→xs=[]→ys=[]→(kill=[d]∨∃rows,S.h kill=some (some rows))→
   h' [d]=some (some (xs++ys))→(∀j,j≠[d]→j≠kill→h' j=S.h j)→(kill≠[d]→h' kill=some none)→e={dz:=[(d, .rs [d] 0 (xs.length+ys.length))],rd:=i1++i2,wr:=e.wr}→(S.app e).h=h'→o.wp C.P a w next Q:=by
  intro kill h' fM hv hx0 hy0 hk mm ld oL hee Ja
  subst hx0 hy0
  have hn0:dK=0:=by simpa using yS
  have hrun:(Builtin.append_ #[t,t2] o.type #[a.eval x,yv]).run C.P w= .ok (.slice fM 0 0) w:=by rw[hv];exact tQ.idle hn0 fM
  refine kA (oK hrun) (hn _ _ ?_)
  have BM:=h.FA (w':=w) (h':=h') (bn:=[]) (G:=[]) (l:= .nil) (v:= .slice fM 0 0) (x:= .rs [d] 0 0) bz (mP hfr) hk mm ld oL (GT _) rfl rfl (fun _=>rfl) (fun _ _ _=>rfl) (fun _ _ h=>h)
   Ha (fun b hb=>by cases hb) (fun I' β' _ _ hd'=> .inl ⟨hd',rfl,rfl⟩) (fun I' β' hd'=> .iu hd' rfl) (by
    have :cF S e:=hd
    rw[hee]at this
    simpa[cF]using this)
  have e1:S.app e=⟨S.n,ak S.t d (.rs [d] 0 0),h'⟩:=by
   rw[←Ja,hee];rfl
  rw[e1];exact BM
 split at he
 ·rename_i id off len
  split at he
  ·rename_i rows hid
   split at he
   ·rename_i kj
    simp only[AC,Bool.or_eq_true,decide_eq_true_eq]at kj
    obtain⟨⟨hrows,hoff⟩,Bz⟩:=kj
    have hrows:=vl hrows
    subst hoff
    simp at he
    have acQ:[d]≠id:=fun e0=>by rw[←e0,mP hfr]at hid;cases hid
    have mm:(S.app e).h [d]=some (some (xs++ys)):=by rw[←he];simp[ah.app,put,bz,bp,ak,acQ]
    have ld:∀j,j≠[d]→j≠id→(S.app e).h j=S.h j:=fun j h1 h2=>by rw[←he];simp[ah.app,put,bz,bp,ak,h1,h2]
    have oL:id≠[d]→(S.app e).h id=some none:=fun _=>by rw[←he];simp[ah.app,put,bz,bp,ak]
    have hee:e={dz:=[(d, .rs [d] 0 (xs.length+ys.length))],rd:=i1++i2,wr:=e.wr}:=by rw[←he];simp[put,bz]
    have B2:=wC
    simp only[rowsOf,hid]at B2
    split at B2
    ·rename_i hle
     simp only[H5,Do,Prod.mk.injEq]at B2
     obtain⟨hxs,_⟩:=B2
     have B3:∀r∈xs,r.length=i.size:=fun r hr=>hrows r (by rw[←hxs]at hr;exact List.mem_of_mem_take hr)
     have hxl:xs.length=len:=by rw[←hxs];simp;omega
     rcases hx.mA.2 with⟨fM,l,tX,hv,_⟩|⟨b,p,sz',m,cap,bH,hfit,hlc,hv⟩
     ·have JE:xs=[]:=List.length_eq_zero_iff.1 (by omega)
      by_cases hy0:ys=[]
      ·exact idle id _ fM hv JE hy0 (.inr ⟨rows,hid⟩) mm ld oL hee rfl
      ·have :0<ys.length:=List.length_pos_iff.2 hy0
       exact grow id _ fM 0 0 [] [] hv (by rw[JE];rfl) (by omega) (by simp) (.inl rfl) (by rw[JE];exact .nil) B3 Ha (fun b hb=>by cases hb) (.inr ⟨rows,hid⟩) mm ld oL hee rfl
     ·obtain⟨vs,cI,fN,hB,⟨hne,p6⟩,adj,b8,hl⟩:=(h.obj id rows hid).at bH
      have sy:sz'=i.size:=by
       obtain⟨dX,q2⟩:=List.exists_mem_of_ne_nil _ hne
       rw[←p6 dX q2,hrows dX q2]
      subst sy
      have hfl:=kZ hrows
      have Jj:len*i.size≤rows.flatten.length:=by rw[hfl];exact Hb _ (by omega)
      obtain⟨f1,f2,f3,e0,_,l2,_⟩:=hl.lC 0 (len*i.size) (by omega)
      simp only[H5]at l2
      have exs:xs.flatten=rows.flatten.take (len*i.size):=by
       have :=EA (l:=0) (r:=len) hrows
       simpa[hxs]using this
      rw[←exs]at l2
      have hnd:=h.nd id
      rw[fN,e0]at hnd
      have mU:=(List.nodup_cons.1 hnd).2
      have qV:=(List.nodup_cons.1 hnd).1
      have tV:f2.Nodup:=(List.nodup_append.1 (List.nodup_append.1 mU).2.1).1
      have PL:∀b'∈f2,b'∈F id:=fun b' hb'=>by
       rw[fN,e0]
       exact List.mem_cons_of_mem _ (List.mem_append.2 (.inr (List.mem_append.2 (.inl hb'))))
      have B1:(vs.take (len*i.size)).length=len*i.size:=by rw[l2.length,exs,List.length_take,Nat.min_eq_left Jj]
      simp only[Nat.zero_mul,Nat.add_zero,Hk]at hfit hv
      rcases Hm cap (len+dK)with hg|hg
      ·exact grow id _ _ len cap (vs.take (len*i.size)) f2 hv hxl.symm hg B1 (.inr ⟨b,p,rfl,b8.take _⟩) l2 B3 tV PL (.inr ⟨rows,hid⟩) mm ld oL hee rfl
      ·
       obtain⟨qK,ce,lM,hcm⟩:=hB
       have mh:=lt_of_heap lM
       have hroom:p+len*i.size+vy.length≤qK.size:=by
        rw[wB,hcm,Nat.add_assoc,←Hd]
        exact Hc (IH (Hb _ hg) _) hfit
       have hst:=SU C.P b (p+len*i.size) ce vy 0 w qK lM (by omega) yV
       rw[Nat.add_zero]at hst
       generalize hw':jm w b (.cells (over qK (p+len*i.size) vy) ce (0,0))=w' at hst
       have lO:∀k,w'.heap[k]? =if k=b then some (.cells (over qK (p+len*i.size) vy) ce (0,0))else w.heap[k]? :=fun k=>by rw[←hw'];exact zS mh k
       have hnew:w'.heap[b]? =some (.cells (over qK (p+len*i.size) vy) ce (0,0)):=by rw[lO,if_pos rfl]
       have hrun:(Builtin.append_ #[t,t2] o.type #[a.eval x,yv]).run C.P w= .ok (.slice (some ⟨b,p,none⟩) (len+dK) cap) w':=by rw[hv];exact tQ.room b p len cap w' hg hst
       refine kA (oK hrun) (hn _ _ ?_)
       by_cases P0:xs++ys=[]
       ·rw[P0]at Bz
        simp at Bz
        exact absurd Bz hne
       have BM:=h.FA (w':=w') (h':=(S.app e).h) (bn:=xs++ys) (G:=b::f2) (l:= .blk b p i.size m)
        (v:= .slice (some ⟨b,p,none⟩) (len+dK) cap) (x:= .rs [d] 0 (xs.length+ys.length)) bz (mP hfr) (.inr ⟨rows,hid⟩) mm ld oL (by rw[←hw'];simp[jm]) (by rw[←hw'];rfl) (by rw[←hw'];rfl)
        (fun y=>by
         simp only[World.frozen?,lO]
         by_cases hy:y.block=b
         ·rw[if_pos hy,hy,lM]
         ·rw[if_neg hy])
        (fun b' _ hb'=>by rw[lO,if_neg (fun e1=>hb' (by rw[fN,e1];exact Hn ..))])
        (fun k n hB=>by
         by_cases hk:k=b
         ·subst hk
          obtain⟨c2,e2,kj,hn2⟩:=hB
          rw[lM]at kj
          simp only[Do,Obj.cells.injEq]at kj
          obtain⟨rfl,_⟩:=kj
          exact⟨_,_,hnew,by rw[FT _ _ _ hroom];exact hn2⟩
         ·exact hB.mono (by rw[lO,if_neg hk]))
        (List.nodup_cons.2 ⟨fun hm=>qV (List.mem_append.2 (.inr (List.mem_append.2 (.inl hm)))),tV⟩)
        (fun b' hb'=> .inl (by
         cases hb' with
         |head=>rw[fN];exact Hn ..
         |tail _ hm=>exact PL b' hm))
        (fun I' β' hI jg hd'=> .inr (.inr ⟨b,p,i.size,m,vs.take (len*i.size)++vy,f2,hd',rfl,⟨_,_,hnew,by rw[FT _ _ _ hroom];exact hcm⟩,⟨P0,fun r hr=>(List.mem_append.1 hr).elim (B3 r) (wE r)⟩, ?_, ?_, ?_⟩)) ?_ ?_
       ·have e1:S.app e=⟨S.n,ak S.t d (.rs [d] 0 (xs.length+ys.length)),(S.app e).h⟩:=by
         conv=>lhs;rw[hee]
         rfl
        rw[e1];exact BM
       ·rw[GE]
        exact Hc (IH (Hb _ (by omega)) _) hfit
       ·intro k u hu
        rw[cell_of_row _ _ _ _ _ _ hnew,w6 _ _ _ _ hroom]
        by_cases h1:k<len*i.size
        ·rw[if_neg (by omega)]
         rw[List.getElem?_append_left (by omega),List.getElem?_take_of_lt h1]at hu
         have :=b8 k u hu
         rwa[cell_of_row _ _ _ _ _ _ lM]at this
        ·rw[List.getElem?_append_right (by omega),B1]at hu
         have hk2:k-len*i.size<vy.length:=by
          rcases Hm (k-len*i.size) vy.length with h'|h'
          ·exact h'
          ·rw[H2 h']at hu;cases hu
         rw[if_pos (by omega),show p+k-(p+len*i.size)=k-len*i.size by omega]
         exact hu
       ·rw[H3]
        have hk2:∀b',aA E w F b'∨b'∈f2→w'.heap[b']? =w.heap[b']? :=fun b' hb'=>by
         rw[lO,if_neg]
         intro e1;subst e1
         rcases hb' with hb'|hb'
         ·exact hb'.2.2 id (by rw[fN];exact Hn ..)
         ·exact qV (List.mem_append.2 (.inr (List.mem_append.2 (.inl hb'))))
        have q6:=l2.mono (w':=w') (β':=β') hI hk2 jg
        have QF:=qY.mono (w':=w') (β':=β') hI (fun b' hb'=>hk2 b' (hb'.elim .inl fun hb'=>by cases hb')) jg
        have :=av.append q6 QF
        rwa[H4]at this
       ·intro I' β' hd'
        have :=R.rs (w:=w') (I:=I') (off:=0) (len:=xs.length+ys.length) (cap:=cap) hd' (by simpa using hfit) (by omega)
        rw[show len+dK=xs.length+ys.length by omega]
        simpa using this
       ·have :cF S e:=hd
        rw[hee]at this
        simpa[cF]using this
    ·cases B2
   ·cases he
  ·cases he
 ·simp at he
  obtain⟨_,fM,hv⟩:=hx.xm
  simp[rowsOf]at wC
  obtain⟨rfl,rfl⟩:=wC
  have mm:(S.app e).h [d]=some (some ([]++ys)):=by rw[←he];simp[ah.app,put,bz,bp,ak]
  have ld:∀j,j≠[d]→j≠[d]→(S.app e).h j=S.h j:=fun j h1 _=>by rw[←he];simp[ah.app,put,bz,bp,ak,h1]
  have hee:e={dz:=[(d, .rs [d] 0 (([]:Rows).length+ys.length))],rd:=[]++i2,wr:=e.wr}:=by rw[←he];simp[put,bz]
  by_cases hy0:ys=[]
  ·exact idle [d] _ fM hv rfl hy0 (.inl rfl) mm ld (fun h=>absurd rfl h) hee rfl
  ·have :0<ys.length:=List.length_pos_iff.2 hy0
   exact grow [d] _ fM 0 0 [] [] hv rfl (by omega) (by simp) (.inl rfl) .nil (fun r hr=>by cases hr) Ha (fun b hb=>by cases hb) (.inl rfl) mm ld (fun h=>absurd rfl h) hee rfl
 ·cases he
theorem uX.afF{t t2 ty el:TypeId}{i:TypeInfo}{cT yv:Value}{dK:Nat}{vy:List Value}(hu:C.P.underlying t=some (.slice el))(hi:C.P.info? el=some i)(kn:i.zero=some cT)(hsrc:Src C.P i.size t2 yv dK vy w):uX C.P w t t2 ty el i cT yv dK vy where
 idle:=fun hn fM=>by
  subst hn
  have adq:vy=[]:=List.length_eq_zero_iff.1 (by simpa using hsrc.newsLen)
  subst adq
  rcases hsrc.kind with⟨e',hk'⟩|hk'<;>
   (cases fM<;>simp[Builtin.append_,eO hu,eO (C:=C) hk',sizeOf,typeInfo,hi,hsrc.len,hsrc.cells,storeCells])
 room:=fun b p len cap w' hg hst=>by
  rcases hsrc.kind with⟨e',hk'⟩|hk'<;>
   simp[Builtin.append_,eO hu,eO (C:=C) hk',sizeOf,typeInfo,hi,hsrc.len,hsrc.cells,hg,lF,hst]
 grow:=fun fM n cap vs hold hg h63 hfit=>run_append_grow_src (P:=C.P) w t t2 ty el i cT hu hi kn fM n cap vs hold yv dK vy hsrc hg h63 hfit
theorem uX.ajt{t t2 ty el:TypeId}{i:TypeInfo}{cT:Value}{k kk:IntKind}{N:Int}(hu:C.P.underlying t=some (.slice el))(hk:C.P.underlying t2=some (.int k))(hi:C.P.info? el=some i)(kn:i.zero=some cT)(ug:cT.cells.size=i.size)(h0:0<i.size)(hby:i.bytes≤4096)(hN:0≤N∧N≤4294967296):uX C.P w t t2 ty el i cT (.int kk N) N.toNat (Builtin.zeroCells cT.cells N.toNat).toList:=by have hw1:IntKind.i64.wrap N=N:=IntWalk.i64_in N (by omega);have IL:¬(N*(i.bytes:Int)>2^48):=by{have:N*(i.bytes:Int)≤4294967296*4096:=Int.mul_le_mul (by omega) (by omega) (by omega) (by omega);omega};have tX:¬(N<0):=by{omega};have tQ:∀w':World,(if N.toNat*i.size=0 then pure #[]else do pure (Builtin.zeroCells (←zeroValue el).cells N.toNat):Sem (Array Value)).run C.P w'= .ok (Builtin.zeroCells cT.cells N.toNat) w':=fun w'=>by{by_cases hz:N.toNat*i.size=0;·{rw[if_pos hz];have:N.toNat=0:=by{rcases Nat.mul_eq_zero.1 hz with h|h;·{exact h};·omega};rw[this];simp[Builtin.zeroCells]};·rw[if_neg hz];simp[zeroValue,typeInfo,hi,kn]};have hz2:(underlying t2).run C.P w= .ok (.int k) w:=eO hk;refine⟨fun hn fM=> ?_,fun b p len cap w' hg hst=> ?_,fun fM n cap vs hold hg h63 hfit=> ?_⟩;·{have Br:N=0:=by{omega};subst Br;cases fM<;>simp[Builtin.append_,eO hu,eO (C:=C) hk,sizeOf,typeInfo,hi,asInt,asIntOf,storeCells,hw1,Builtin.zeroCells]};·{have lJ:¬(281474976710656<N*(i.bytes:Int)):=by{omega};by_cases hz:N.toNat*i.size=0;·{have hn0:N.toNat=0:=by{rcases Nat.mul_eq_zero.1 hz with h|h;·{exact h};·omega};rw[hn0]at hst hg;have Fe:w'=w:=by{simpa[Builtin.zeroCells,storeCells]using hst.symm};subst Fe;have Br:N=0:=by{omega};subst Br;simp[Builtin.append_,eO hu,eO (C:=C) hk,sizeOf,typeInfo,hi,asInt,asIntOf,hw1,storeCells];omega};·simp[Builtin.append_,eO hu,eO (C:=C) hk,sizeOf,typeInfo,zeroValue,hi,kn,asInt,asIntOf,hw1,tX,lJ,hg,hz,lF,hst]};·have hn:¬(n+N.toNat≤cap):=by{omega};have h63':¬(9223372036854775807<((n:Int)+(N.toNat:Int))):=by{omega};have Pt:¬(281474976710656<Builtin.nextslicecap (n+N.toNat) cap*i.bytes):=by{omega};have lJ:¬(281474976710656<N*(i.bytes:Int)):=by{omega};have aa9:¬(9223372036854775807<(n:Int)+max N 0):=by{omega};by_cases hz:N.toNat*i.size=0;·{have hn0:N.toNat=0:=by{rcases Nat.mul_eq_zero.1 hz with h|h;·{exact h};·omega};have Br:N=0:=by{omega};subst Br;have hn':¬(n≤cap):=by{simpa using hn};have aa7:¬(281474976710656<Builtin.nextslicecap n cap*i.bytes):=by{simpa using Pt};have aba:¬(9223372036854775807<(n:Int)):=by{omega};simp[Builtin.append_,eO hu,eO (C:=C) hk,sizeOf,typeInfo,zeroValue,hi,kn,asInt,asIntOf,hw1,hn',Question.forced,hold,newRow,grownCap,Builtin.zeroCells,aa7,aba]};·simp[Builtin.append_,eO hu,eO (C:=C) hk,sizeOf,typeInfo,zeroValue,hi,kn,asInt,asIntOf,hw1,tX,lJ,hn,h63',aa9,Pt,Question.forced,hold,newRow,grownCap,hz];congr 2;apply Array.ext';simp[List.append_assoc]
theorem afO(h:aN C E w S a β F){o:Oper}{c:Call}(ho:o.op= .call c)(hb:c.callee= .builtin .append){xv yv:U}{t:TypeId}{k:IntKind}(hargs:(c.args.toList.map fun x=>un true (S.get C x))=[xv,yv])(ht:c.argTypes[0]? =some t)(gF:(c.argTypes[1]?).bind C.P.underlying=some (.int k)){e:bq}(he:x4 C S o t xv yv=some e)(hd:cF S e)(hn:∀a' w',bx C E (S.app e) a' w'→next a' w'):o.wp C.P a w next Q:=by match hal:c.args.toList,hargs with|[x,y],hargs=>simp at hargs;obtain⟨wD,B5⟩:=hargs;have hx:=h.dO x;have hy:=h.dO y;rw[wD]at hx;rw[B5]at hy;simp only[H0]at gF;obtain⟨t2,BX,gF⟩:=gF;unfold x4 at he;split at he;·{rename_i el d N hu bz hN;obtain⟨kk,ady⟩:=rU hy hN;split at he;·{rename_i i z xs i1 hi hz wC;split at he;·{rename_i jx;simp only[AC,decide_eq_true_eq]at jx;obtain⟨⟨⟨⟨⟨⟨⟨hNb,hzl⟩,Qd⟩,hby⟩,Fg⟩,BL⟩,JI⟩,hfr⟩:=jx;obtain⟨cT,kn,ug⟩:∃cT,i.zero=some cT∧cT.cells.size=i.size:=by{unfold DA at Fg;split at Fg;·{rename_i z wF;exact⟨z,wF,by simpa using Fg⟩};·cases Fg};have adB:w4 cT.cells.toList=some z:=by{unfold xF at hz;rw[hi]at hz;simp only[Option.bind_some,kn]at hz;exact hz};have q3:=FK (w:=w) (I:=aA E w F) (β:=β) adB;have su:=Fs cT.cells N.toNat (by omega);have hcells:(Builtin.zeroCells cT.cells N.toNat).toList=(List.replicate N.toNat cT.cells.toList).flatten:=su;have qY:av w (aA E w F) β [] (Builtin.zeroCells cT.cells N.toNat).toList (List.replicate N.toNat z).flatten:=by{rw[hcells];exact av.flatten q3 _};have hrc:qj (List.replicate N.toNat z)=true:=by{unfold qj;rw[List.all_eq_true];intro r hr;rw[(List.mem_replicate.1 hr).2];exact JI};obtain⟨_,yV⟩:=R6 qY (SG hrc);refine Nq h bz ug hby (by simpa using BL) hfr (fun r hr=>by rw[(List.mem_replicate.1 hr).2];exact hzl) hx wC (dK:=N.toNat) (by simp) qY (by simp[Builtin.zeroCells,ug]) yV (el:=el) (t:=t) (t2:=t2) (yv:=a.eval y) (fun hr=> ?_) ?_ he hd hn;·{rw[C4 ho hb];refine nj ?_;have e1:c.args.map a.eval= #[a.eval x,a.eval y]:=by{rw[Cu hal];rfl};rw[e1];have e2:∀args,Builtin.append_ c.argTypes o.type args=Builtin.append_ #[t,t2] o.type args:=fun args=>by{unfold Builtin.append_;simp[ht,BX]};show(Builtin.append_ c.argTypes o.type #[a.eval x,a.eval y]).run C.P w=_;rw[e2];exact hr};·rw[ady];exact uX.ajt hu gF hi kn ug Qd hby hNb};·cases he};·cases he};·cases he
theorem KB(h:aN C E w S a β F){o:Oper}{c:Call}(ho:o.op= .call c)(hb:c.callee= .builtin .append){e:bq}(he:lH C S o c.argTypes (c.args.toList.map fun x=>un true (S.get C x))=some e)(hd:cF S e)(hn:∀a' w',bx C E (S.app e) a' w'→next a' w'):o.wp C.P a w next Q:=by unfold lH at he;split at he;·{rename_i xv yv t anf hargs ht gF;match hal:c.args.toList,hargs with|[x,y],hargs=>simp at hargs;obtain⟨wD,B5⟩:=hargs;have hx:=h.dO x;have hy:=h.dO y;rw[wD]at hx;rw[B5]at hy;simp only[H0]at gF;obtain⟨t2,BX,gF⟩:=gF;unfold xZ at he;split at he;·{rename_i el d hu bz;split at he;·{rename_i i xs i1 ys i2 hi wC B4;split at he;·{rename_i jx;simp only[AC,decide_eq_true_eq]at jx;obtain⟨⟨⟨⟨⟨⟨wE,Qd⟩,hby⟩,hz⟩,BL⟩,hrc⟩,hfr⟩:=jx;have wE:=vl wE;obtain⟨cT,kn,ug⟩:∃cT,i.zero=some cT∧cT.cells.size=i.size:=by{unfold DA at hz;split at hz;·{rename_i z wF;exact⟨z,wF,by simpa using hz⟩};·cases hz};obtain⟨Nx,dK,Eg,vy,aar,wA,yS,qY,wB,EX⟩:=SJ h hy B4 wE;obtain⟨aci,yV⟩:=R6 qY (SG hrc);subst aci;have hsrc:=aiA (w:=w) (cap:=Eg) gF wB EX yV;have Fb:∀{v:Value}{w':World},(Builtin.append_ c.argTypes o.type #[a.eval x,a.eval y]).run C.P w= .ok v w'→(execOp a.eval o).run C.P w= .ok (.value v) w':=fun hr=>by{rw[C4 ho hb];refine nj ?_;have:c.args.map a.eval= #[a.eval x,a.eval y]:=by{rw[Cu hal];rfl};rw[this];exact hr};have tQ:∀args,Builtin.append_ c.argTypes o.type args=Builtin.append_ #[t,t2] o.type args:=fun args=>by{unfold Builtin.append_;simp[ht,BX]};exact Nq h bz ug hby BL hfr wE hx wC yS qY wB yV (el:=el) (t:=t) (t2:=t2) (yv:=a.eval y) (fun hr=>Fb (by rw[tQ];exact hr)) (uX.afF hu hi kn (by rw[wA];exact hsrc)) he hd hn};·cases he};·cases he};·cases he};·{rename_i xv yv t k hargs ht gF;exact afO h ho hb hargs ht gF he hd hn};·cases he
theorem JP:∀{rows:Rows},iJ rows=true→eA rows.flatten=true|[],_=>rfl|r::rows,h=>by simp only[iJ,H1,AC]at h;have ih:=JP (rows:=rows) (by simpa[iJ]using h.2);have:∀{a b:List U},eA a=true→eA b=true→eA (a++b)=true:=by{intro a b ha hb;induction a with|nil=>(exact hb)|cons c a ih2=>simp only[eA,AC,List.cons_append]at ha⊢;exact⟨ha.1,ih2 ha.2⟩};simpa using this h.1 ih
theorem aN.freeze(h:aN C E w S a β F){id:Id}{rows:Rows}{d:Nat}(hid:S.h id=some (some rows))(hi:iJ rows=true)(hs:S.t d= .rs id 0 rows.length):∃F',aN C E w ⟨S.n,ak S.t d (.sl rows),ak S.h id (some none)⟩ a β F':=by have wk:=h.obj id rows hid;let F':Id→List Nat:=fun i=>if i=id then[]else F i;have hsub:∀i b,b∈F' i→b∈F i:=fun i b hb=>by{by_cases e:i=id;·{simp[F',e]at hb};·simpa[F',e]using hb};have hI:∀b,aA E w F b→aA E w F' b:=fun b hb=>⟨hb.1,hb.2.1,fun i hm=>hb.2.2 i (hsub i b hm)⟩;have gv:∀{β':Id→Option Loc}{f:List Nat}{v:Value}{x:U},R w (aA E w F) β' f v x→R w (aA E w F') β' f v x:=fun hr=>hr.mono hI (fun _ _=>rfl) (fun _ _ h=>h);refine⟨F', ?_⟩;refine{n:=h.n,df:=h.df.mono (fun b hb=>⟨hI b hb.1,hb.2⟩) (fun _ _=>rfl),slot:=fun t=> ?_,obj:=fun i r hr=> ?_,dead:=fun i hi'=> ?_,nd:=fun i=> ?_,cY:=fun i j b hb hb'=>h.cY i j b (hsub i b hb) (hsub j b hb'),dom:=fun i hi'=> ?_,lt:=fun i b hb=>h.lt i b (hsub i b hb),kept:=h.kept,cA:=fun g cs hg=>gv (h.cA g cs hg),ns:=h.ns,kb:=fun k r hk hr=>h.kb k r hk (by by_cases e:k=id;·{subst e;simp[ak]at hr};·simpa[ak,e]using hr)};·{by_cases e:t=d;·{subst e;have hv:=h.slot t;rw[hs]at hv;simp only[ak,if_true];obtain⟨_,wz⟩:=hv.mA;clear hv;rcases wz with⟨ad,l,h1,hv,hb⟩|⟨b,o,sz,n,cap,hb,hfit,hle,hv⟩;·{have:rows=[]:=List.length_eq_zero_iff.1 h1;subst this;rw[hv];exact .gl};·rcases wk with⟨h1,_,_⟩|⟨b',h1,_⟩|⟨b',o',sz',n',vs,cI,hb',fN,hB,⟨hne,hrows⟩,ace,b8,hl⟩;·{rw[h1]at hb;cases hb};·{rw[h1]at hb;cases hb};·rw[hb']at hb;simp only[Do,Loc.blk.injEq]at hb;obtain⟨rfl,rfl,rfl,rfl⟩:=hb;have tX:av w (aA E w F) bR cI vs rows.flatten:=R.mW hl (by simpa[fo]using JP hi);have BA:cI=[]:=R.JR hl (by simpa[fo]using JP hi);subst BA;have pZ:b'∈F id:=by{rw[fN];exact List.mem_cons_self .. };have qU:aA E w F' b':=⟨(h.lt id b' pZ).2.elim (fun h=> .inr (.inl h)) (fun h=> .inr (.inr h)),(h.lt id b' pZ).1,fun i hm=>by by_cases e:i=id;·{simp[F',e]at hm};·exact e (h.cY i id b' (hsub i b' hm) pZ)⟩;rw[hv,Nat.zero_mul,Nat.add_zero];exact .sl hrows qU b8 hle (gv tX)};·simp only[ak,if_neg e];exact gv (h.slot t)};·{by_cases e:i=id;·{subst e;simp[ak]at hr};·simp only[ak,if_neg e]at hr;have:=(h.obj i r hr).mono (w':=w) (I':=aA E w F') (β':=β) hI (fun _ _=>rfl) (fun _ _ h=>h);simpa[F',e]using this};·{by_cases e:i=id;·{simp[F',e]};·simp only[F',if_neg e];refine h.dead i fun r hr=>hi' r ?_;simp[ak,e,hr]};·{by_cases e:i=id;·{simp[F',e]};·simpa[F',e]using h.nd i};·by_cases e:i=id;·{subst e;simp[ak]at hi'};·simp only[ak,if_neg e]at hi';exact h.dom i hi'
theorem Gv{α β':Type}[DecidableEq α](f:α→β')(k:α)(u v:β'):ak (ak f k u) k v=ak f k v:=by funext j;by_cases e:j=k<;>simp[ak,e]
theorem ajf{α β':Type}[DecidableEq α](f:α→β'){k l:α}(hne:k≠l)(u v:β'):ak (ak f k u) l v=ak (ak f l v) k u:=by funext j;by_cases e:j=k;·{subst e;simp[ak,hne]};·by_cases e2:j=l;·{subst e2;simp[ak,e]};·simp[ak,e,e2]
theorem Zt{o:Oper}{ts:Array TypeId}{xs:List U}{e:bq}(h:lH C S o ts xs=some e):∃d rows rd,o.dst=some d∧S.h [d]=none∧((∃id,(∃r,S.h id=some (some r))∧e=put o (.rs [d] 0 rows.length) rd [(id,none),([d],some rows)])∨e=put o (.rs [d] 0 rows.length) rd [([d],some rows)]):=by have tail:∀{d m:Nat}{x:U}{xs ys:Rows}{i1 i2:List Id},o.dst=some d→(S.h [d]).isNone=true→l8 S o d m x xs ys i1 i2=some e→∃d rows rd,o.dst=some d∧S.h [d]=none∧((∃id,(∃r,S.h id=some (some r))∧e=put o (.rs [d] 0 rows.length) rd [(id,none),([d],some rows)])∨e=put o (.rs [d] 0 rows.length) rd [([d],some rows)]):=by{intro d m x xs ys i1 i2 hd hn h;unfold l8 at h;split at h;·{split at h;·{rename_i hid;split at h;·{simp only[Do]at h;subst h;exact⟨d,xs++ys,_,hd,mP hn, .inl ⟨_,⟨_,hid⟩,by rw[GE]⟩⟩};·cases h};·cases h};·{simp only[Do]at h;subst h;exact⟨d,xs++ys,_,hd,mP hn, .inr (by rw[GE])⟩};·cases h};unfold lH at h;split at h;·{unfold xZ at h;split at h;·{rename_i hd;split at h;·{split at h;·{rename_i hc;simp only[AC]at hc;exact tail hd hc.2 h};·cases h};·cases h};·cases h};·{unfold x4 at h;split at h;·{rename_i hd _;split at h;·{split at h;·{rename_i hc;simp only[AC]at hc;exact tail hd hc.2 h};·cases h};·cases h};·cases h};·cases h
theorem afN(h:aN C E w S a β F){o:Oper}{f:FuncId}{c:Call}(ho:o.op= .call c)(hb:c.callee= .builtin .append){e:bq}(he:(lH C S o c.argTypes (c.args.toList.map fun x=>un true (S.get C x))).bind (pP C f o)=some e)(hd:cF S e)(hn:∀a' w',bx C E (S.app e) a' w'→next a' w'):o.wp C.P a w next Q:=by simp only[H0]at he;obtain⟨e1,h1,h2⟩:=he;obtain⟨d,rows,rd,bz,hnone,hsh⟩:=Zt h1;unfold pP at h2;split at h2;·{rcases hsh with⟨id,⟨r,hid⟩,rfl⟩|rfl;·{simp only[bz,put]at h2;split at h2;·{rename_i hc;simp only[Do]at h2;subst h2;refine KB h ho hb h1 (by simpa[cF,put,bz]using hd) fun a' w'⟨β',F',hS⟩=>hn a' w' ?_;have hne:id≠[d]:=fun e=>by{rw[e,hnone]at hid;cases hid};obtain⟨dB,k8⟩:=hS.freeze (id:=[d]) (rows:=rows) (d:=d) (by simp[ah.app,put,bz,bp,ak,hne.symm]) hc.2 (by simp[ah.app,put,bz,cW,ak]);refine⟨β',dB, ?_⟩;simp only[ah.app,put,bz,cW,bp]at k8⊢;rw[Gv,ajf _ hne,Gv]at k8;exact k8};·cases h2};·simp only[bz,put]at h2;split at h2;·{rename_i hc;simp only[Do]at h2;subst h2;refine KB h ho hb h1 (by simpa[cF,put,bz]using hd) fun a' w'⟨β',F',hS⟩=>hn a' w' ?_;obtain⟨dB,k8⟩:=hS.freeze (id:=[d]) (rows:=rows) (d:=d) (by simp[ah.app,put,bz,bp,ak]) hc.2 (by simp[ah.app,put,bz,cW,ak]);refine⟨β',dB, ?_⟩;simp only[ah.app,put,bz,cW,bp]at k8⊢;rw[Gv,Gv]at k8;exact k8};·cases h2};·simp only[Do]at h2;subst h2;exact KB h ho hb h1 hd hn
end
end Go.Ab
