import Derived.Test.YtmboghefgckkpaaGreatAbOps6
import Derived.Deep.AppendSrc
namespace Go.Ab
open Go
section
variable{C:aU}{E:Env}{w:World}{S:an}{a:Act}{β:Id→Option Loc}{F:Id→List Nat}
variable{next:Act→World→Prop}{Q:Exit→Act→World→Prop}
theorem aV.WQ(h:aV C E w S a β F)(t:Nat){x:aa}(hx:R w (aQ E w F) β [] (a.tmps.getD t undef) x):aV C E w ⟨S.n,aC S.t t x,S.h⟩ a β F:=by refine h.step (fun _=>False) h.n (Nat.le_refl _) rfl rfl (fun _=>rfl) (fun _ _ _=>rfl) (fun _ _ h=>h) (fun id b hb=> .inl ⟨id,hb⟩) (fun _ _=>⟨rfl,rfl⟩) (fun _ _ h=>h.elim) (fun _ h=>h.elim) (fun _ h=>h.elim) (fun _ _ _ h=>h.elim) h.dom ?_;intro _ u;by_cases hu:u=t;·{subst hu;exact .inr (by simpa[aC]using hx)};·exact .inl ⟨rfl,by simp[aC,hu]⟩
theorem akF(h:aV C E w S a β F){o:Oper}{f:FuncId}{t:TypeId}{ao x:Operand}(ho:o.op= .store t ao x){e:bE}(he:p0 C f S true o t ao (un true (S.get C ao)) (un true (S.get C x))=some e)(hd:cQ S e)(hn:∀a' w',bO C E (S.app e) a' w'→next a' w'):o.wp C.P a w next Q:=by have ha:=h.eD ao;have hx:=h.eD x;generalize JJ:un true (S.get C ao)=aoz at*;generalize un true (S.get C x)=xv at*;unfold p0 at he;split at he;·{rename_i b n hb hs;split at he;·{rename_i id row off cs hcs;split at he;·{cases he};·rename_i MV;have MV:cs.length=n:=by{simpa using MV};split at he;·{rename_i rows hid;simp only[Option.bind_eq_some_iff]at he;obtain⟨r,hr,he⟩:=he;split at he;·{rename_i hfit;obtain⟨_,gb,p,sz,m,bS,hv⟩:=ha.qh;obtain⟨us,xo,qe,tY⟩:=I2 hx hcs;have NL:=qe.length;obtain⟨w',hrun,hS,hfz⟩:=h.stored hid bS hr hfit MV qe tY;have hst:(execOp a.eval o).run C.P w= .ok .skip w':=by{simp only[execOp,ho];refine WC ?_;have hsz:(a.eval x).cells.size=n:=by{rw[xo];simp;omega};simp only[Instr.storeAt,hv,Instr.sureAddr];rw[Sem.run_bind,Sem.run_pure,Result.andThen_ok];unfold storeVar;rw[Sem.run_bind,qu hs,Result.andThen_ok];simp only[hsz,ne_eq,not_true_eq_false,if_false];rw[xo];exact hrun};split at he;·{rename_i kC vD;split at he;·{rename_i ke;simp only[Bool.and_eq_true,decide_eq_true_eq]at ke;obtain⟨⟨⟨⟨⟨⟨c1,c2⟩,c3⟩,iC⟩,EY⟩,_⟩,acr⟩:=ke;simp at he;subst he;have bT:o.dst=none:=by{simpa using acr};rcases hfz ([]:Rows)with hfz|hfz;·{obtain⟨F',mA,hI,cc,hl⟩:=hfz c3 iC c1 c2;refine PI hst (hn _ _ ⟨β,F', ?_⟩);have hao:ao= .tmp kC:=by{unfold yT at vD;split at vD;·{split at vD;·{simp at vD;rw[vD]};·cases vD};·cases vD};have ahM:a.tmps.getD kC undef= .pointer (some ⟨gb,p+row*sz+off,none⟩):=by{rw[←hv,hao];rfl};have:=mA.WQ kC (x:= .ax (lW cs)) (by rw[ahM];exact .ax hI cc (aH.oT (aH.nz hl) EY));simpa[an.app,dF,bD,Act.put,bT]using this};·subst hfz;simp at hr};·cases he};·split at he;·{rename_i hdn;simp at he;subst he;have bT:o.dst=none:=by{simpa using hdn};obtain⟨F',mA⟩:=hS;refine PI hst (hn _ _ ⟨β,F', ?_⟩);simpa[an.app,put,dF,Act.put,bT]using mA};·cases he};·cases he};·cases he};·cases he};·cases he
/-! ### append -/
theorem Ws(h:aV C E w S a β F){v:Value}{x:aa}{xs:Rows}{ids:List Id}{sz:Nat}(hx:R w (aQ E w F) β [] v x)(hr:rowsOf S.h x=some (xs,ids))(hsz:∀r∈xs,r.length=sz):∃ba n cap vs f,v= .slice ba n cap∧n=xs.length∧aH w (aQ E w F) β f vs xs.flatten∧vs.length=n*sz∧(n=0∨∃b o,ba=some ⟨b,o,none⟩∧fQ w b o vs):=by unfold rowsOf at hr;split at hr;·{simp at hr;obtain⟨rfl,rfl⟩:=hr;rcases hx.HJ.2 with⟨ba,cap,rfl,hv⟩|⟨b,o,sz',cap,vs,_,_,cc,hl,_,hv⟩;·{exact⟨ba,0,cap,[],[],hv,rfl, .nil,by simp, .inl rfl⟩};·exact⟨_,_,cap,vs,[],hv,rfl,R.up hl,by rw[hl.length,mo hsz], .inr ⟨b,o,rfl,cc⟩⟩};·{simp at hr;obtain⟨rfl,rfl⟩:=hr;obtain⟨_,ba,hv⟩:=hx.AA;exact⟨ba,0,0,[],[],hv,rfl, .nil,by simp, .inl rfl⟩};·{rename_i id off len;split at hr;·{rename_i rows hid;split at hr;·{rename_i hle;simp at hr;obtain⟨rfl,rfl⟩:=hr;rcases hx.od.2 with⟨ba,l,rfl,hv,_⟩|⟨b,o,sz',m,cap,bS,hfit,hlc,hv⟩;·{exact⟨ba,0,0,[],[],hv,by simp,by simpa using R.nil,by simp, .inl rfl⟩};·rcases Nat.eq_zero_or_pos len with h0|h0;·{subst h0;exact⟨_,0,cap,[],[],hv,by simp,by simpa using R.nil,by simp, .inl rfl⟩};·obtain⟨vs,cT,gF,_,⟨hne,cy⟩,_,cc,hl⟩:=(h.obj id rows hid).at bS;have vC:sz'=sz:=by{have hlt:off<rows.length:=by{omega};have hm:rows[off]∈(rows.drop off).take len:=by{rw[List.mem_iff_getElem?];exact⟨0,by rw[List.getElem?_take_of_lt h0,List.getElem?_drop];simp⟩};have hm2:rows[off]∈rows:=List.getElem_mem hlt;rw[←cy _ hm2,hsz _ hm]};subst vC;have hfl:=mo cy;have e1:((rows.drop off).take len).flatten=(rows.flatten.drop (off*sz')).take (len*sz'):=by{have:=Jq (l:=off) (r:=off+len) cy;rw[List.take_drop,this,List.take_drop,Nat.add_mul]};have Ns:off*sz'+len*sz'≤rows.flatten.length:=by{rw[hfl,←Nat.add_mul];exact Nat.mul_le_mul_right _ hle};obtain⟨f1,f2,f3,e0,_,h2,_⟩:=hl.mT (off*sz') (len*sz') Ns;rw[←e1]at h2;have hlen:=h2.length;refine⟨_,len,cap,_,f2,hv,by simp;omega,h2, ?_, .inr ⟨b,o+off*sz',rfl,(cc.drop _).take _⟩⟩;rw[hlen,mo hsz];congr 1;simp;omega};·cases hr};·cases hr};·cases hr
theorem am7{t e':TypeId}{sz n cap:Nat}{ba:Option Addr}{vs:List Value}(hk:C.P.underlying t=some (.slice e'))(hl:vs.length=n*sz)(hc:n=0∨∃b o,ba=some ⟨b,o,none⟩∧fQ w b o vs)(hp:∀u∈vs,rD u=true):Src C.P sz t (.slice ba n cap) n vs w:=by have h1:∀u∈vs,u.oneCell'=true:=fun u hu=>by{have:=hp u hu;cases u<;>simp_all[rD,Value.oneCell']};rcases hc with rfl|⟨b,o,rfl,cc⟩;·{have:vs=[]:=List.length_eq_zero_iff.1 (by simpa using hl);subst this;have hz:∀w':World,(Builtin.firstCells sz 0 (.slice ba 0 cap)).run C.P w'= .ok #[] w':=fun w'=>by{cases ba with|none=>(exact run_firstCells_none w' _ _ _ _)|some p=>simp[Builtin.firstCells,loadCells,loadCellsFrom]};exact⟨.inl ⟨e',hk⟩,fun _=>rfl,hz w,hz w.drew,by simp,h1⟩};·exact Src.ofSlice w hk ⟨b,o,none⟩ n cap vs hl (fun j u hj=>by rw[m0];exact cc j u hj) h1
theorem VV{I:Nat→Prop}{as:List aa}:∀{f:List Nat}{vs:List Value},aH w I β f vs as→as.all aa.cell=true→f=[]∧∀u∈vs,rD u=true:=by induction as with|nil=>(intro f vs h _;obtain⟨rfl,rfl⟩:=h.gv;exact⟨rfl,fun u hu=>by cases hu⟩)|cons c as ih=>intro f vs h hc;simp only[List.all_cons,Bool.and_eq_true]at hc;obtain⟨f1,f2,v,vs',rfl,rfl,h1,h2⟩:=aH.cons_inv h;obtain⟨e2,p2⟩:=ih h2 hc.2;refine⟨by rw[h1.Fo hc.1,e2];rfl,fun u hu=> ?_⟩;cases hu with|head=>(obtain⟨p1,p3,_⟩:=h1.plain hc.1;cases v<;>simp_all[rD])|tail _ hm=>exact p2 u hm
theorem Wp{rows:Rows}(h:rJ rows=true):rows.flatten.all aa.cell=true:=by rw[List.all_eq_true];intro c hc;obtain⟨r,hr,hm⟩:=List.mem_flatten.1 hc;exact List.all_eq_true.1 (List.all_eq_true.1 h r hr) c hm
theorem aeV{w:World}(c:Array Value)(e:TypeId)(x:Addr):(w.alloc (.cells c e)).frozen? x=w.frozen? x:=by have hnew:(w.alloc (.cells c e)).heap[w.heap.size]? =some (.cells c e):=heap_alloc_new _ _;by_cases hx:x.block=w.heap.size;·{have e2:w.heap[x.block]? =none:=by{rw[hx];simp};simp only[World.frozen?,hx,hnew];simp};·rw[World.frozen?_alloc_old _ _ _ hx]
theorem aV.Kn(h:aV C E w S a β F){o:Oper}{d:Nat}(bT:o.dst=some d){kill:Id}(hfresh:S.h [d]=none)(Nq:kill=[d]∨∃rows,S.h kill=some (some rows)){w':World}{h':Id→Option (Option Rows)}{bB:Rows}{G:List Nat}{l:Loc}{v:Value}{x:aa}(mE:h' [d]=some (some bB))(mF:∀i,i≠[d]→i≠kill→h' i=S.h i)(q5:kill≠[d]→h' kill=some none)(hsz:w.heap.size≤w'.heap.size)(hos:w'.os=w.os)(hout:w'.output=w.output)(w4:∀y,w'.frozen? y=w.frozen? y)(hw:∀b,b<w.heap.size→b∉F kill→w'.heap[b]? =w.heap[b]?)(fY:∀b n,gB w b n→gB w' b n)(ec:G.Nodup)(sx:∀b∈G,b∈F kill∨(w.heap.size≤b∧b<w'.heap.size))(ago:∀(I':Nat→Prop)(β':Id→Option Loc),(∀b,aQ E w F b→I' b)→(∀i l,β i=some l→β' i=some l)→β' [d]=some l→eu w' I' β' [d] bB G)(hx:∀(I':Nat→Prop)(β':Id→Option Loc),β' [d]=some l→R w' I' β' [] v x)(hd:d<S.n):bO C E ⟨S.n,aC S.t d x,h'⟩ (a.put o.dst v) w':=by have Gg:β [d]=none:=h.dom _ hfresh;have tN:F [d]=[]:=h.dead _ (by rw[hfresh];simp);let F':Id→List Nat:=fun i=>if i=[d]then G else if i=kill then[]else F i;have JF:F' [d]=G:=by{simp[F']};have Fy:kill≠[d]→F' kill=[]:=fun hk=>by{simp[F',hk]};have MF:∀i,i≠[d]→i≠kill→F' i=F i:=fun i h1 h2=>by{simp[F',h1,h2]};have bS:∀i l',β i=some l'→aC β [d] (some l) i=some l':=fun i l' hl=>by{by_cases hi:i=[d];·{subst hi;rw[Gg]at hl;cases hl};·simpa[aC,hi]using hl};refine⟨aC β [d] (some l),F', ?_⟩;refine h.step (fun i=>i=[d]∨i=kill) (by rw[vQ];exact h.n) hsz hos hout w4 (fun b hb hk=>hw b hb (hk kill (.inr rfl))) bS ?_ ?_ ?_ ?_ ?_ ?_ ?_ ?_ (fY:=fY) (hok:=fun k rows hk hr=>by by_cases h1:k=[d];·{subst h1;exact absurd hk (h.ns d hd [])};·by_cases h2:k=kill;·{subst h2;simp only at hr;rw[q5 h1]at hr;cases hr};·exact⟨rows,by rw[←mF k h1 h2];exact hr⟩);·{intro i b hb;by_cases h1:i=[d];·{subst h1;rw[JF]at hb;rcases sx b hb with hm|hm;·{exact .inl ⟨kill,hm⟩};·exact .inr hm};·by_cases h2:i=kill;·{subst h2;rw[Fy h1]at hb;cases hb};·rw[MF i h1 h2]at hb;exact .inl ⟨i,hb⟩};·{intro i hi;have h1:i≠[d]:=fun e=>hi (.inl e);have h2:i≠kill:=fun e=>hi (.inr e);exact⟨MF i h1 h2,mF i h1 h2⟩};·{intro hI i hi fD hr;by_cases h1:i=[d];·{subst h1;have hr':h' [d]=some (some fD):=hr;rw[mE]at hr';simp at hr';subst hr';rw[JF];exact ago _ _ hI bS (by simp[aC])};·have h2:i=kill:=hi.resolve_left h1;subst h2;have hr':h' i=some (some fD):=hr;rw[q5 h1]at hr';simp at hr'};·{intro i hi hno;by_cases h1:i=[d];·{subst h1;exact absurd mE (hno _)};·have h2:i=kill:=hi.resolve_left h1;subst h2;exact Fy h1};·{intro i hi;by_cases h1:i=[d];·{subst h1;rw[JF];exact ec};·have h2:i=kill:=hi.resolve_left h1;subst h2;rw[Fy h1];exact List.nodup_nil};·{intro i j b hi ju nc;have aux:∀j,j≠[d]→b∈F' j→b∈G→False:=fun j hj nc agy=>by{by_cases h2:j=kill;·{subst h2;rw[Fy hj]at nc;cases nc};·rw[MF j hj h2]at nc;rcases sx b agy with hm|hm;·{exact h2 (h.dK j kill b nc hm)};·have:=(h.lt j b nc).1;omega};by_cases h1:i=[d];·{subst h1;by_cases h2:j=[d];·{exact h2.symm};·rw[JF]at ju;exact(aux j h2 nc ju).elim};·have h2:i=kill:=hi.resolve_left h1;subst h2;rw[Fy h1]at ju;cases ju};·{intro i hi;have hi':h' i=none:=hi;by_cases h1:i=[d];·{subst h1;rw[mE]at hi';cases hi'};·by_cases h2:i=kill;·{subst h2;rw[q5 h1]at hi';cases hi'};·rw[mF i h1 h2]at hi';simp[aC,h1,h.dom i hi']};·intro _ u;rw[bT,vP a d u v (by rw[h.n];exact hd)];by_cases hu:u=d;·{subst hu;rw[if_pos rfl];exact .inr (by simpa[aC]using hx _ (aC β [u] (some l)) (by simp[aC]))};·rw[if_neg hu];exact .inl ⟨rfl,by simp[aC,hu]⟩
theorem aV.drew(h:aV C E w S a β F):aV C E w.drew S a β F:=h.step (fun _=>False) h.n (Nat.le_refl _) rfl rfl (fun _=>rfl) (fun _ _ _=>rfl) (fun _ _ h=>h) (fun id b hb=> .inl ⟨id,hb⟩) (fun _ _=>⟨rfl,rfl⟩) (fun _ _ h=>h.elim) (fun _ h=>h.elim) (fun _ h=>h.elim) (fun _ _ _ h=>h.elim) h.dom (fun _ _=> .inl ⟨rfl,rfl⟩)
structure yg(P:Program)(w:World)(t t2 ty el:TypeId)(i:TypeInfo)(c5:Value)(yv:Value)(ez:Nat)(vy:List Value):Prop where
 idle:ez=0→∀gr,(Builtin.append_ #[t,t2] ty #[.slice gr 0 0,yv]).run P w= .ok (.slice gr 0 0) w
 room:∀b p len cap w',len+ez≤cap→(storeCells ⟨b,p+len*i.size,none⟩ vy).run P w= .ok () w'→(Builtin.append_ #[t,t2] ty #[.slice (some ⟨b,p,none⟩) len cap,yv]).run P w= .ok (.slice (some ⟨b,p,none⟩) (len+ez) cap) w'
 grow:∀(gr:Option Addr)(n cap:Nat)(vs:List Value),(Builtin.firstCells i.size n (.slice gr n cap)).run P w.drew= .ok vs.toArray w.drew→cap<n+ez→((n+ez:Nat):Int)≤9223372036854775807→Builtin.nextslicecap (n+ez) cap*i.bytes≤281474976710656→
  (Builtin.append_ #[t,t2] ty #[.slice gr n cap,yv]).run P w= .ok (.slice (some ⟨w.heap.size,0,none⟩) (n+ez) (grownCap w (n+ez) cap el)) (w.drew.alloc (.cells ((vs++vy).toArray++Builtin.zeroCells c5.cells (grownCap w (n+ez) cap el-(n+ez))) el))
theorem Q2(h:aV C E w S a β F){o:Oper}{t t2 el:TypeId}{d:Nat}{i:TypeInfo}{c5 yv:Value}{x:Operand}{xv:aa}{xs ys:Rows}{i1 i2:List Id}{vy:List Value}{ez:Nat}{e:bE}
  (bT:o.dst=some d)(xp:c5.cells.size=i.size)(hby:i.bytes≤4096)(B1:xs.length+ys.length≤oZ)(hfr:(S.h [d]).isNone=true)(zD:∀r∈ys,r.length=i.size)
  (hx:R w (aQ E w F) β [] (a.eval x) xv)(zB:rowsOf S.h xv=some (xs,i1))(B4:ez=ys.length)(tV:aH w (aQ E w F) β [] vy ys.flatten)(zA:vy.length=ez*i.size)(B6:∀u∈vy,rD u=true)
  (q4:∀{v:Value}{w':World},(Builtin.append_ #[t,t2] o.type #[a.eval x,yv]).run C.P w= .ok v w'→(execOp a.eval o).run C.P w= .ok (.value v) w')(wU:yg C.P w t t2 o.type el i c5 yv ez vy)
  (he:m3 S o d i.size xv xs ys i1 i2=some e)(hd:cQ S e)(hn:∀a' w',bO C E (S.app e) a' w'→next a' w'):o.wp C.P a w next Q:=by
 unfold m3 at he
 have grow:∀(kill:Id)(h':Id→Option (Option Rows))(gr:Option Addr)(n cap:Nat)(vs:List Value)(f:List Nat),a.eval x= .slice gr n cap→n=xs.length→cap<n+ez→vs.length=n*i.size→(n=0∨∃b o,gr=some ⟨b,o,none⟩∧fQ w b o vs)→
   aH w (aQ E w F) β f vs xs.flatten→(∀r∈xs,r.length=i.size)→f.Nodup→(∀b∈f,b∈F kill)→(kill=[d]∨∃rows,S.h kill=some (some rows))→
   h' [d]=some (some (xs++ys))→(∀j,j≠[d]→j≠kill→h' j=S.h j)→(kill≠[d]→h' kill=some none)→e={ek:=[(d, .rs [d] 0 (xs.length+ys.length))],rd:=i1++i2,wr:=e.wr}→(S.app e).h=h'→o.wp C.P a w next Q:=by
  intro kill h' gr n cap vs f hv hn' hgrow hvl cc hl Gc hfn JR hk mE mF q5 hee Nb
  have hold:(Builtin.firstCells i.size n (.slice gr n cap)).run C.P w.drew= .ok vs.toArray w.drew:=by
   rcases cc with h0|⟨b',o',rfl,cc⟩
   ·subst h0
    have :vs=[]:=List.length_eq_zero_iff.1 (by simpa using hvl)
    subst this
    cases gr with
    |none=>exact run_firstCells_none w.drew _ _ _ _
    |some p=>simp[Builtin.firstCells,loadCells,loadCellsFrom]
   ·exact run_firstCells_some w.drew i.size n ⟨b',o',none⟩ n cap vs hvl (fun j u hj=>by rw[m0];exact cc j u hj)
  have B2:n+ez≤4294967296:=by unfold oZ at B1;omega
  have fI:(n+ez)*i.bytes≤140737488355328:=Nat.le_trans (Nat.mul_le_mul B2 hby) (by decide)
  have hrun:=(congrArg (fun z=>(Builtin.append_ #[t,t2] o.type #[z,yv]).run C.P w) hv).trans (wU.grow gr n cap vs hold hgrow (by omega) (growslice_fits hgrow fI))
  refine lG (q4 hrun) (hn _ _ ?_)
  generalize JK:(vs++vy).toArray++Builtin.zeroCells c5.cells (grownCap w (n+ez) cap el-(n+ez))=qH
  have hcap:n+ez≤grownCap w (n+ez) cap el:=by unfold grownCap Question.cut;simp
  have MK:=h.drew
  have hlen:(vs++vy).length=(n+ez)*i.size:=by rw[List.length_append,hvl,zA,Nat.add_mul]
  have ME:qH.size=(n+ez)*i.size+(grownCap w (n+ez) cap el-(n+ez))*c5.cells.size:=by
   rw[←JK,Array.size_append,List.size_toArray,hlen];simp[Builtin.zeroCells]
  have hne:xs++ys≠[]:=fun e0=>by
   have h0:=congrArg List.length e0
   rw[List.length_append]at h0
   simp only[List.length_nil]at h0
   omega
  have hall:∀r∈xs++ys,r.length=i.size:=fun r hr=>(List.mem_append.1 hr).elim (Gc r) (zD r)
  have hnew:(w.drew.alloc (.cells qH el)).heap[w.heap.size]? =some (.cells qH el):=heap_alloc_new _ _
  have hold':∀b,b<w.heap.size→(w.drew.alloc (.cells qH el)).heap[b]? =w.heap[b]? :=fun b hb=>heap_alloc_old _ _ _ hb
  have hmul:(n+ez)*i.size+(grownCap w (n+ez) cap el-(n+ez))*i.size=grownCap w (n+ez) cap el*i.size:=by rw[←Nat.add_mul];congr 1;omega
  rw[xp,hmul]at ME
  have FT:=h.Kn (w':=w.drew.alloc (.cells qH el)) (h':=h') (bB:=xs++ys) (G:=w.heap.size::f) (l:= .dh w.heap.size 0 i.size qH.size)
   (v:= .slice (some ⟨w.heap.size,0,none⟩) (n+ez) (grownCap w (n+ez) cap el)) (x:= .rs [d] 0 (xs.length+ys.length)) bT (oI hfr) hk mE mF q5 (by simp) rfl rfl (fun y=>by rw[aeV];rfl)
   (fun b hb _=>hold' b hb) (yC hold') (List.nodup_cons.2 ⟨fun hm=>by
    rcases hk with hk|⟨rows,hk⟩
    ·have :=JR _ hm
     rw[hk,h.dead [d] (by rw[oI hfr];simp)]at this;cases this
    ·exact absurd (h.lt kill _ (JR _ hm)).1 (Nat.lt_irrefl _),hfn⟩) (fun b hb=>by
    cases hb with
    |head=>exact .inr ⟨Nat.le_refl _,by simp⟩
    |tail _ hm=>exact .inl (JR b hm)) (fun I' β' hI bS hd'=> .inr (.inr ⟨w.heap.size,0,i.size,qH.size,vs++vy,f,hd',rfl,⟨qH,el,hnew,rfl⟩,⟨hne,hall⟩,by rw[ME,Nat.zero_add];exact Nat.mul_le_mul_right _ (by rw[List.length_append];omega), ?_, ?_⟩)) ?_ ?_
  ·have e1:S.app e=⟨S.n,aC S.t d (.rs [d] 0 (xs.length+ys.length)),h'⟩:=by
    rw[←Nb,hee];rfl
   rw[e1];exact FT
  ·intro k u hu
   rw[Nat.zero_add,cell_of_row _ _ _ qH el (0,0) hnew,←JK]
   have hlt:k<(vs++vy).length:=by
    rcases Nat.lt_or_ge k (vs++vy).length with h'|h'
    ·exact h'
    ·rw[List.getElem?_eq_none h']at hu;cases hu
   rw[Array.getElem?_append_left (by simpa using hlt)]
   simpa using hu
  ·rw[List.flatten_append]
   have l1:=hl.mono (w':=w.drew.alloc (.cells qH el)) (β':=β') hI (fun b hb=>hold' b (hb.elim (fun hb=>hb.2.1) fun hb=>by
    have hm:=JR b hb
    rcases hk with hk|⟨rows,hk⟩
    ·rw[hk,h.dead [d] (by rw[oI hfr];simp)]at hm;cases hm
    ·exact(h.lt kill b hm).1)) bS
   have l2:=tV.mono (w':=w.drew.alloc (.cells qH el)) (β':=β') hI (fun b hb=>hold' b (hb.elim (fun hb=>hb.2.1) fun hb=>by cases hb)) bS
   have :=aH.append l1 l2
   rwa[List.append_nil]at this
  ·intro I' β' hd'
   have :=R.rs (w:=w.drew.alloc (.cells qH el)) (I:=I') (off:=0) (len:=n+ez) (cap:=grownCap w (n+ez) cap el) hd' (by rw[ME];simp) hcap
   rw[show xs.length+ys.length=n+ez by omega]
   simpa using this
  ·have :cQ S e:=hd
   rw[hee]at this
   simpa[cQ]using this
 have idle:∀(kill:Id)(h':Id→Option (Option Rows))(gr:Option Addr),a.eval x= .slice gr 0 0→xs=[]→ys=[]→(kill=[d]∨∃rows,S.h kill=some (some rows))→
   h' [d]=some (some (xs++ys))→(∀j,j≠[d]→j≠kill→h' j=S.h j)→(kill≠[d]→h' kill=some none)→e={ek:=[(d, .rs [d] 0 (xs.length+ys.length))],rd:=i1++i2,wr:=e.wr}→(S.app e).h=h'→o.wp C.P a w next Q:=by
  intro kill h' gr hv hx0 hy0 hk mE mF q5 hee Nb
  subst hx0 hy0
  have hn0:ez=0:=by simpa using B4
  have hrun:(Builtin.append_ #[t,t2] o.type #[a.eval x,yv]).run C.P w= .ok (.slice gr 0 0) w:=by rw[hv];exact wU.idle hn0 gr
  refine lG (q4 hrun) (hn _ _ ?_)
  have FT:=h.Kn (w':=w) (h':=h') (bB:=[]) (G:=[]) (l:= .nil) (v:= .slice gr 0 0) (x:= .rs [d] 0 0) bT (oI hfr) hk mE mF q5 (Nat.le_refl _) rfl rfl (fun _=>rfl) (fun _ _ _=>rfl) (fun _ _ h=>h)
   List.nodup_nil (fun b hb=>by cases hb) (fun I' β' _ _ hd'=> .inl ⟨hd',rfl,rfl⟩) (fun I' β' hd'=> .jh hd' rfl) (by
    have :cQ S e:=hd
    rw[hee]at this
    simpa[cQ]using this)
  have e1:S.app e=⟨S.n,aC S.t d (.rs [d] 0 0),h'⟩:=by
   rw[←Nb,hee];rfl
  rw[e1];exact FT
 split at he
 ·rename_i id off len
  split at he
  ·rename_i rows hid
   split at he
   ·rename_i jb
    simp only[Bool.and_eq_true,Bool.or_eq_true,decide_eq_true_eq]at jb
    obtain⟨⟨cy,hoff⟩,FI⟩:=jb
    have cy:=yu cy
    subst hoff
    simp at he
    have aht:[d]≠id:=fun e0=>by rw[←e0,oI hfr]at hid;cases hid
    have mE:(S.app e).h [d]=some (some (xs++ys)):=by rw[←he];simp[an.app,put,bT,bD,aC,aht]
    have mF:∀j,j≠[d]→j≠id→(S.app e).h j=S.h j:=fun j h1 h2=>by rw[←he];simp[an.app,put,bT,bD,aC,h1,h2]
    have q5:id≠[d]→(S.app e).h id=some none:=fun _=>by rw[←he];simp[an.app,put,bT,bD,aC]
    have hee:e={ek:=[(d, .rs [d] 0 (xs.length+ys.length))],rd:=i1++i2,wr:=e.wr}:=by rw[←he];simp[put,bT]
    have Gb:=zB
    simp only[rowsOf,hid]at Gb
    split at Gb
    ·rename_i hle
     simp only[List.drop_zero,Option.some.injEq,Prod.mk.injEq]at Gb
     obtain⟨hxs,_⟩:=Gb
     have Gc:∀r∈xs,r.length=i.size:=fun r hr=>cy r (by rw[←hxs]at hr;exact List.mem_of_mem_take hr)
     have aib:xs.length=len:=by rw[←hxs];simp;omega
     rcases hx.od.2 with⟨gr,l,nW,hv,_⟩|⟨b,p,sz',m,cap,bS,hfit,hlc,hv⟩
     ·have NN:xs=[]:=List.length_eq_zero_iff.1 (by omega)
      by_cases hy0:ys=[]
      ·exact idle id _ gr hv NN hy0 (.inr ⟨rows,hid⟩) mE mF q5 hee rfl
      ·have :0<ys.length:=List.length_pos_iff.2 hy0
       exact grow id _ gr 0 0 [] [] hv (by rw[NN];rfl) (by omega) (by simp) (.inl rfl) (by rw[NN];exact .nil) Gc List.nodup_nil (fun b hb=>by cases hb) (.inr ⟨rows,hid⟩) mE mF q5 hee rfl
     ·obtain⟨vs,cT,gF,hB,⟨hne,sE⟩,ahY,cc,hl⟩:=(h.obj id rows hid).at bS
      have vC:sz'=i.size:=by
       obtain⟨cR,xj⟩:=List.exists_mem_of_ne_nil _ hne
       rw[←sE cR xj,cy cR xj]
      subst vC
      have hfl:=mo cy
      have Ns:len*i.size≤rows.flatten.length:=by rw[hfl];exact Nat.mul_le_mul_right _ (by omega)
      obtain⟨f1,f2,f3,e0,_,l2,_⟩:=hl.mT 0 (len*i.size) (by omega)
      simp only[List.drop_zero]at l2
      have exs:xs.flatten=rows.flatten.take (len*i.size):=by
       have :=Jq (l:=0) (r:=len) cy
       simpa[hxs]using this
      rw[←exs]at l2
      have ct:=h.nd id
      rw[gF,e0]at ct
      have oS:=(List.nodup_cons.1 ct).2
      have nh:=(List.nodup_cons.1 ct).1
      have wZ:f2.Nodup:=(List.nodup_append.1 (List.nodup_append.1 oS).2.1).1
      have Tr:∀b'∈f2,b'∈F id:=fun b' hb'=>by
       rw[gF,e0]
       exact List.mem_cons_of_mem _ (List.mem_append.2 (.inr (List.mem_append.2 (.inl hb'))))
      have F8:(vs.take (len*i.size)).length=len*i.size:=by rw[l2.length,exs,List.length_take,Nat.min_eq_left Ns]
      simp only[Nat.zero_mul,Nat.add_zero,Nat.zero_add]at hfit hv
      rcases Nat.lt_or_ge cap (len+ez)with hg|hg
      ·exact grow id _ _ len cap (vs.take (len*i.size)) f2 hv aib.symm hg F8 (.inr ⟨b,p,rfl,cc.take _⟩) l2 Gc wZ Tr (.inr ⟨rows,hid⟩) mE mF q5 hee rfl
      ·
       obtain⟨tu,ce,tP,MU⟩:=hB
       have ng:=mL tP
       have hroom:p+len*i.size+vy.length≤tu.size:=by
        rw[zA,MU,Nat.add_assoc,←Nat.add_mul]
        exact Nat.le_trans (Nat.add_le_add_left (Nat.mul_le_mul_right _ hg) _) hfit
       have hst:=WB C.P b (p+len*i.size) ce vy 0 w tu tP (by omega) B6
       rw[Nat.add_zero]at hst
       generalize sF:jV w b (.cells (over tu (p+len*i.size) vy) ce (0,0))=w' at hst
       have nj:∀k,w'.heap[k]? =if k=b then some (.cells (over tu (p+len*i.size) vy) ce (0,0))else w.heap[k]? :=fun k=>by rw[←sF];exact DF ng k
       have hnew:w'.heap[b]? =some (.cells (over tu (p+len*i.size) vy) ce (0,0)):=by rw[nj,if_pos rfl]
       have hrun:(Builtin.append_ #[t,t2] o.type #[a.eval x,yv]).run C.P w= .ok (.slice (some ⟨b,p,none⟩) (len+ez) cap) w':=by rw[hv];exact wU.room b p len cap w' hg hst
       refine lG (q4 hrun) (hn _ _ ?_)
       by_cases TN:xs++ys=[]
       ·rw[TN]at FI
        simp at FI
        exact absurd FI hne
       have FT:=h.Kn (w':=w') (h':=(S.app e).h) (bB:=xs++ys) (G:=b::f2) (l:= .dh b p i.size m)
        (v:= .slice (some ⟨b,p,none⟩) (len+ez) cap) (x:= .rs [d] 0 (xs.length+ys.length)) bT (oI hfr) (.inr ⟨rows,hid⟩) mE mF q5 (by rw[←sF];simp[jV]) (by rw[←sF];rfl) (by rw[←sF];rfl)
        (fun y=>by
         simp only[World.frozen?,nj]
         by_cases hy:y.block=b
         ·rw[if_pos hy,hy,tP]
         ·rw[if_neg hy])
        (fun b' _ hb'=>by rw[nj,if_neg (fun e1=>hb' (by rw[gF,e1];exact List.mem_cons_self ..))])
        (fun k n hB=>by
         by_cases hk:k=b
         ·subst hk
          obtain⟨c2,e2,jb,hn2⟩:=hB
          rw[tP]at jb
          simp only[Option.some.injEq,Obj.cells.injEq]at jb
          obtain⟨rfl,_⟩:=jb
          exact⟨_,_,hnew,by rw[KA _ _ _ hroom];exact hn2⟩
         ·exact hB.mono (by rw[nj,if_neg hk]))
        (List.nodup_cons.2 ⟨fun hm=>nh (List.mem_append.2 (.inr (List.mem_append.2 (.inl hm)))),wZ⟩)
        (fun b' hb'=> .inl (by
         cases hb' with
         |head=>rw[gF];exact List.mem_cons_self ..
         |tail _ hm=>exact Tr b' hm))
        (fun I' β' hI jM hd'=> .inr (.inr ⟨b,p,i.size,m,vs.take (len*i.size)++vy,f2,hd',rfl,⟨_,_,hnew,by rw[KA _ _ _ hroom];exact MU⟩,⟨TN,fun r hr=>(List.mem_append.1 hr).elim (Gc r) (zD r)⟩, ?_, ?_, ?_⟩)) ?_ ?_
       ·have e1:S.app e=⟨S.n,aC S.t d (.rs [d] 0 (xs.length+ys.length)),(S.app e).h⟩:=by
         conv=>lhs;rw[hee]
         rfl
        rw[e1];exact FT
       ·rw[List.length_append]
        exact Nat.le_trans (Nat.add_le_add_left (Nat.mul_le_mul_right _ (by omega)) _) hfit
       ·intro k u hu
        rw[cell_of_row _ _ _ _ _ _ hnew,z6 _ _ _ _ hroom]
        by_cases h1:k<len*i.size
        ·rw[if_neg (by omega)]
         rw[List.getElem?_append_left (by omega),List.getElem?_take_of_lt h1]at hu
         have :=cc k u hu
         rwa[cell_of_row _ _ _ _ _ _ tP]at this
        ·rw[List.getElem?_append_right (by omega),F8]at hu
         have hk2:k-len*i.size<vy.length:=by
          rcases Nat.lt_or_ge (k-len*i.size) vy.length with h'|h'
          ·exact h'
          ·rw[List.getElem?_eq_none h']at hu;cases hu
         rw[if_pos (by omega),show p+k-(p+len*i.size)=k-len*i.size by omega]
         exact hu
       ·rw[List.flatten_append]
        have hk2:∀b',aQ E w F b'∨b'∈f2→w'.heap[b']? =w.heap[b']? :=fun b' hb'=>by
         rw[nj,if_neg]
         intro e1;subst e1
         rcases hb' with hb'|hb'
         ·exact hb'.2.2 id (by rw[gF];exact List.mem_cons_self ..)
         ·exact nh (List.mem_append.2 (.inr (List.mem_append.2 (.inl hb'))))
        have nv:=l2.mono (w':=w') (β':=β') hI hk2 jM
        have UF:=tV.mono (w':=w') (β':=β') hI (fun b' hb'=>hk2 b' (hb'.elim .inl fun hb'=>by cases hb')) jM
        have :=aH.append nv UF
        rwa[List.append_nil]at this
       ·intro I' β' hd'
        have :=R.rs (w:=w') (I:=I') (off:=0) (len:=xs.length+ys.length) (cap:=cap) hd' (by simpa using hfit) (by omega)
        rw[show len+ez=xs.length+ys.length by omega]
        simpa using this
       ·have :cQ S e:=hd
        rw[hee]at this
        simpa[cQ]using this
    ·cases Gb
   ·cases he
  ·cases he
 ·simp at he
  obtain⟨_,gr,hv⟩:=hx.AA
  simp[rowsOf]at zB
  obtain⟨rfl,rfl⟩:=zB
  have mE:(S.app e).h [d]=some (some ([]++ys)):=by rw[←he];simp[an.app,put,bT,bD,aC]
  have mF:∀j,j≠[d]→j≠[d]→(S.app e).h j=S.h j:=fun j h1 _=>by rw[←he];simp[an.app,put,bT,bD,aC,h1]
  have hee:e={ek:=[(d, .rs [d] 0 (([]:Rows).length+ys.length))],rd:=[]++i2,wr:=e.wr}:=by rw[←he];simp[put,bT]
  by_cases hy0:ys=[]
  ·exact idle [d] _ gr hv rfl hy0 (.inl rfl) mE mF (fun h=>absurd rfl h) hee rfl
  ·have :0<ys.length:=List.length_pos_iff.2 hy0
   exact grow [d] _ gr 0 0 [] [] hv rfl (by omega) (by simp) (.inl rfl) .nil (fun r hr=>by cases hr) List.nodup_nil (fun b hb=>by cases hb) (.inl rfl) mE mF (fun h=>absurd rfl h) hee rfl
 ·cases he
theorem yg.ajX{t t2 ty el:TypeId}{i:TypeInfo}{c5 yv:Value}{ez:Nat}{vy:List Value}(hu:C.P.underlying t=some (.slice el))(hi:C.P.info? el=some i)(lq:i.zero=some c5)(hsrc:Src C.P i.size t2 yv ez vy w):yg C.P w t t2 ty el i c5 yv ez vy where
 idle:=fun hn gr=>by
  subst hn
  have ah6:vy=[]:=List.length_eq_zero_iff.1 (by simpa using hsrc.newsLen)
  subst ah6
  rcases hsrc.kind with⟨e',hk'⟩|hk'<;>
   (cases gr<;>simp[Builtin.append_,fo hu,fo (C:=C) hk',sizeOf,typeInfo,hi,hsrc.len,hsrc.cells,storeCells])
 room:=fun b p len cap w' hg hst=>by
  rcases hsrc.kind with⟨e',hk'⟩|hk'<;>
   simp[Builtin.append_,fo hu,fo (C:=C) hk',sizeOf,typeInfo,hi,hsrc.len,hsrc.cells,hg,m0,hst]
 grow:=fun gr n cap vs hold hg h63 hfit=>run_append_grow_src (P:=C.P) w t t2 ty el i c5 hu hi lq gr n cap vs hold yv ez vy hsrc hg h63 hfit
theorem yg.aon{t t2 ty el:TypeId}{i:TypeInfo}{c5:Value}{k Ka:IntKind}{N:Int}(hu:C.P.underlying t=some (.slice el))(hk:C.P.underlying t2=some (.int k))(hi:C.P.info? el=some i)(lq:i.zero=some c5)(xp:c5.cells.size=i.size)(h0:0<i.size)(hby:i.bytes≤4096)(bA:0≤N∧N≤4294967296):yg C.P w t t2 ty el i c5 (.int Ka N) N.toNat (Builtin.zeroCells c5.cells N.toNat).toList:=by have hw1:IntKind.i64.wrap N=N:=IntWalk.i64_in N (by omega);have MN:¬(N*(i.bytes:Int)>2^48):=by{have:N*(i.bytes:Int)≤4294967296*4096:=Int.mul_le_mul (by omega) (by omega) (by omega) (by omega);omega};have nW:¬(N<0):=by{omega};have wU:∀w':World,(if N.toNat*i.size=0 then pure #[]else do pure (Builtin.zeroCells (←zeroValue el).cells N.toNat):Sem (Array Value)).run C.P w'= .ok (Builtin.zeroCells c5.cells N.toNat) w':=fun w'=>by{by_cases hz:N.toNat*i.size=0;·{rw[if_pos hz];have:N.toNat=0:=by{rcases Nat.mul_eq_zero.1 hz with h|h;·{exact h};·omega};rw[this];simp[Builtin.zeroCells]};·rw[if_neg hz];simp[zeroValue,typeInfo,hi,lq]};have aqz:(underlying t2).run C.P w= .ok (.int k) w:=fo hk;refine⟨fun hn gr=> ?_,fun b p len cap w' hg hst=> ?_,fun gr n cap vs hold hg h63 hfit=> ?_⟩;·{have FC:N=0:=by{omega};subst FC;cases gr<;>simp[Builtin.append_,fo hu,fo (C:=C) hk,sizeOf,typeInfo,hi,asInt,asIntOf,storeCells,hw1,Builtin.zeroCells]};·{have oM:¬(281474976710656<N*(i.bytes:Int)):=by{omega};by_cases hz:N.toNat*i.size=0;·{have hn0:N.toNat=0:=by{rcases Nat.mul_eq_zero.1 hz with h|h;·{exact h};·omega};rw[hn0]at hst hg;have ahV:w'=w:=by{simpa[Builtin.zeroCells,storeCells]using hst.symm};subst ahV;have FC:N=0:=by{omega};subst FC;simp[Builtin.append_,fo hu,fo (C:=C) hk,sizeOf,typeInfo,hi,asInt,asIntOf,hw1,storeCells];omega};·simp[Builtin.append_,fo hu,fo (C:=C) hk,sizeOf,typeInfo,zeroValue,hi,lq,asInt,asIntOf,hw1,nW,oM,hg,hz,m0,hst]};·have hn:¬(n+N.toNat≤cap):=by{omega};have h63':¬(9223372036854775807<((n:Int)+(N.toNat:Int))):=by{omega};have S7:¬(281474976710656<Builtin.nextslicecap (n+N.toNat) cap*i.bytes):=by{omega};have oM:¬(281474976710656<N*(i.bytes:Int)):=by{omega};have afH:¬(9223372036854775807<(n:Int)+max N 0):=by{omega};by_cases hz:N.toNat*i.size=0;·{have hn0:N.toNat=0:=by{rcases Nat.mul_eq_zero.1 hz with h|h;·{exact h};·omega};have FC:N=0:=by{omega};subst FC;have hn':¬(n≤cap):=by{simpa using hn};have afu:¬(281474976710656<Builtin.nextslicecap n cap*i.bytes):=by{simpa using S7};have afI:¬(9223372036854775807<(n:Int)):=by{omega};simp[Builtin.append_,fo hu,fo (C:=C) hk,sizeOf,typeInfo,zeroValue,hi,lq,asInt,asIntOf,hw1,hn',Question.forced,hold,newRow,grownCap,Builtin.zeroCells,afu,afI]};·simp[Builtin.append_,fo hu,fo (C:=C) hk,sizeOf,typeInfo,zeroValue,hi,lq,asInt,asIntOf,hw1,nW,oM,hn,h63',afH,S7,Question.forced,hold,newRow,grownCap,hz];congr 2;apply Array.ext';simp[List.append_assoc]
theorem aj6(h:aV C E w S a β F){o:Oper}{c:Call}(ho:o.op= .call c)(hb:c.callee= .builtin .append){xv yv:aa}{t:TypeId}{k:IntKind}(hargs:(c.args.toList.map fun x=>un true (S.get C x))=[xv,yv])(ht:c.argTypes[0]? =some t)(ic:(c.argTypes[1]?).bind C.P.underlying=some (.int k)){e:bE}(he:Bk C S o t xv yv=some e)(hd:cQ S e)(hn:∀a' w',bO C E (S.app e) a' w'→next a' w'):o.wp C.P a w next Q:=by match jt:c.args.toList,hargs with|[x,y],hargs=>simp at hargs;obtain⟨zC,Ge⟩:=hargs;have hx:=h.eD x;have hy:=h.eD y;rw[zC]at hx;rw[Ge]at hy;simp only[Option.bind_eq_some_iff]at ic;obtain⟨t2,F5,ic⟩:=ic;unfold Bk at he;split at he;·{rename_i el d N hu bT bA;obtain⟨Ka,aii⟩:=vc hy bA;split at he;·{rename_i i z xs i1 hi hz zB;split at he;·{rename_i ke;simp only[Bool.and_eq_true,decide_eq_true_eq]at ke;obtain⟨⟨⟨⟨⟨⟨⟨agl,hzl⟩,T2⟩,hby⟩,J2⟩,B1⟩,NP⟩,hfr⟩:=ke;obtain⟨c5,lq,xp⟩:∃c5,i.zero=some c5∧c5.cells.size=i.size:=by{unfold Ip at J2;split at J2;·{rename_i z zE;exact⟨z,zE,by simpa using J2⟩};·cases J2};have aik:z4 c5.cells.toList=some z:=by{unfold A1 at hz;rw[hi]at hz;simp only[Option.bind_some,lq]at hz;exact hz};have ua:=Ku (w:=w) (I:=aQ E w F) (β:=β) aik;have vw:=Kg c5.cells N.toNat (by omega);have JK:(Builtin.zeroCells c5.cells N.toNat).toList=(List.replicate N.toNat c5.cells.toList).flatten:=vw;have tV:aH w (aQ E w F) β [] (Builtin.zeroCells c5.cells N.toNat).toList (List.replicate N.toNat z).flatten:=by{rw[JK];exact aH.flatten ua _};have hrc:rJ (List.replicate N.toNat z)=true:=by{unfold rJ;rw[List.all_eq_true];intro r hr;rw[(List.mem_replicate.1 hr).2];exact NP};obtain⟨_,B6⟩:=VV tV (Wp hrc);refine Q2 h bT xp hby (by simpa using B1) hfr (fun r hr=>by rw[(List.mem_replicate.1 hr).2];exact hzl) hx zB (ez:=N.toNat) (by simp) tV (by simp[Builtin.zeroCells,xp]) B6 (el:=el) (t:=t) (t2:=t2) (yv:=a.eval y) (fun hr=> ?_) ?_ he hd hn;·{rw[Ht ho hb];refine o8 ?_;have e1:c.args.map a.eval= #[a.eval x,a.eval y]:=by{rw[Gz jt];rfl};rw[e1];have e2:∀args,Builtin.append_ c.argTypes o.type args=Builtin.append_ #[t,t2] o.type args:=fun args=>by{unfold Builtin.append_;simp[ht,F5]};show(Builtin.append_ c.argTypes o.type #[a.eval x,a.eval y]).run C.P w=_;rw[e2];exact hr};·rw[aii];exact yg.aon hu ic hi lq xp T2 hby agl};·cases he};·cases he};·cases he
theorem OD(h:aV C E w S a β F){o:Oper}{c:Call}(ho:o.op= .call c)(hb:c.callee= .builtin .append){e:bE}(he:m7 C S o c.argTypes (c.args.toList.map fun x=>un true (S.get C x))=some e)(hd:cQ S e)(hn:∀a' w',bO C E (S.app e) a' w'→next a' w'):o.wp C.P a w next Q:=by unfold m7 at he;split at he;·{rename_i xv yv t asr hargs ht ic;match jt:c.args.toList,hargs with|[x,y],hargs=>simp at hargs;obtain⟨zC,Ge⟩:=hargs;have hx:=h.eD x;have hy:=h.eD y;rw[zC]at hx;rw[Ge]at hy;simp only[Option.bind_eq_some_iff]at ic;obtain⟨t2,F5,ic⟩:=ic;unfold Bj at he;split at he;·{rename_i el d hu bT;split at he;·{rename_i i xs i1 ys i2 hi zB Gd;split at he;·{rename_i ke;simp only[Bool.and_eq_true,decide_eq_true_eq]at ke;obtain⟨⟨⟨⟨⟨⟨zD,T2⟩,hby⟩,hz⟩,B1⟩,hrc⟩,hfr⟩:=ke;have zD:=yu zD;obtain⟨c5,lq,xp⟩:∃c5,i.zero=some c5∧c5.cells.size=i.size:=by{unfold Ip at hz;split at hz;·{rename_i z zE;exact⟨z,zE,by simpa using hz⟩};·cases hz};obtain⟨Rc,ez,I1,vy,ae0,zz,B4,tV,zA,JM⟩:=Ws h hy Gd zD;obtain⟨agY,B6⟩:=VV tV (Wp hrc);subst agY;have hsrc:=am7 (w:=w) (cap:=I1) ic zA JM B6;have J0:∀{v:Value}{w':World},(Builtin.append_ c.argTypes o.type #[a.eval x,a.eval y]).run C.P w= .ok v w'→(execOp a.eval o).run C.P w= .ok (.value v) w':=fun hr=>by{rw[Ht ho hb];refine o8 ?_;have:c.args.map a.eval= #[a.eval x,a.eval y]:=by{rw[Gz jt];rfl};rw[this];exact hr};have wU:∀args,Builtin.append_ c.argTypes o.type args=Builtin.append_ #[t,t2] o.type args:=fun args=>by{unfold Builtin.append_;simp[ht,F5]};exact Q2 h bT xp hby B1 hfr zD hx zB B4 tV zA B6 (el:=el) (t:=t) (t2:=t2) (yv:=a.eval y) (fun hr=>J0 (by rw[wU];exact hr)) (yg.ajX hu hi lq (by rw[zz];exact hsrc)) he hd hn};·cases he};·cases he};·cases he};·{rename_i xv yv t k hargs ht ic;exact aj6 h ho hb hargs ht ic he hd hn};·cases he
theorem NV:∀{rows:Rows},jy rows=true→eJ rows.flatten=true|[],_=>rfl|r::rows,h=>by simp only[jy,List.all_cons,Bool.and_eq_true]at h;have ih:=NV (rows:=rows) (by simpa[jy]using h.2);have:∀{a b:List aa},eJ a=true→eJ b=true→eJ (a++b)=true:=by{intro a b ha hb;induction a with|nil=>(exact hb)|cons c a ih2=>simp only[eJ,Bool.and_eq_true,List.cons_append]at ha⊢;exact⟨ha.1,ih2 ha.2⟩};simpa using this h.1 ih
theorem aV.freeze(h:aV C E w S a β F){id:Id}{rows:Rows}{d:Nat}(hid:S.h id=some (some rows))(hi:jy rows=true)(hs:S.t d= .rs id 0 rows.length):∃F',aV C E w ⟨S.n,aC S.t d (.sl rows),aC S.h id (some none)⟩ a β F':=by have zu:=h.obj id rows hid;let F':Id→List Nat:=fun i=>if i=id then[]else F i;have hsub:∀i b,b∈F' i→b∈F i:=fun i b hb=>by{by_cases e:i=id;·{simp[F',e]at hb};·simpa[F',e]using hb};have hI:∀b,aQ E w F b→aQ E w F' b:=fun b hb=>⟨hb.1,hb.2.1,fun i hm=>hb.2.2 i (hsub i b hm)⟩;have g6:∀{β':Id→Option Loc}{f:List Nat}{v:Value}{x:aa},R w (aQ E w F) β' f v x→R w (aQ E w F') β' f v x:=fun hr=>hr.mono hI (fun _ _=>rfl) (fun _ _ h=>h);refine⟨F', ?_⟩;refine{n:=h.n,df:=h.df.mono (fun b hb=>⟨hI b hb.1,hb.2⟩) (fun _ _=>rfl),slot:=fun t=> ?_,obj:=fun i r hr=> ?_,dead:=fun i hi'=> ?_,nd:=fun i=> ?_,dK:=fun i j b hb hb'=>h.dK i j b (hsub i b hb) (hsub j b hb'),dom:=fun i hi'=> ?_,lt:=fun i b hb=>h.lt i b (hsub i b hb),kept:=h.kept,cP:=fun g cs hg=>g6 (h.cP g cs hg),ns:=h.ns,kb:=fun k r hk hr=>h.kb k r hk (by by_cases e:k=id;·{subst e;simp[aC]at hr};·simpa[aC,e]using hr)};·{by_cases e:t=d;·{subst e;have hv:=h.slot t;rw[hs]at hv;simp only[aC,if_true];obtain⟨_,zy⟩:=hv.od;clear hv;rcases zy with⟨ad,l,h1,hv,hb⟩|⟨b,o,sz,n,cap,hb,hfit,hle,hv⟩;·{have:rows=[]:=List.length_eq_zero_iff.1 h1;subst this;rw[hv];exact .gW};·rcases zu with⟨h1,_,_⟩|⟨b',h1,_⟩|⟨b',o',sz',n',vs,cT,hb',gF,hB,⟨hne,cy⟩,agU,cc,hl⟩;·{rw[h1]at hb;cases hb};·{rw[h1]at hb;cases hb};·rw[hb']at hb;simp only[Option.some.injEq,Loc.dh.injEq]at hb;obtain⟨rfl,rfl,rfl,rfl⟩:=hb;have nW:aH w (aQ E w F) cv cT vs rows.flatten:=R.oT hl (by simpa[fU]using NV hi);have BS:cT=[]:=R.NX hl (by simpa[fU]using NV hi);subst BS;have sA:b'∈F id:=by{rw[gF];exact List.mem_cons_self .. };have tO:aQ E w F' b':=⟨(h.lt id b' sA).2.elim (fun h=> .inr (.inl h)) (fun h=> .inr (.inr h)),(h.lt id b' sA).1,fun i hm=>by by_cases e:i=id;·{simp[F',e]at hm};·exact e (h.dK i id b' (hsub i b' hm) sA)⟩;rw[hv,Nat.zero_mul,Nat.add_zero];exact .sl cy tO cc hle (g6 nW)};·simp only[aC,if_neg e];exact g6 (h.slot t)};·{by_cases e:i=id;·{subst e;simp[aC]at hr};·simp only[aC,if_neg e]at hr;have:=(h.obj i r hr).mono (w':=w) (I':=aQ E w F') (β':=β) hI (fun _ _=>rfl) (fun _ _ h=>h);simpa[F',e]using this};·{by_cases e:i=id;·{simp[F',e]};·simp only[F',if_neg e];refine h.dead i fun r hr=>hi' r ?_;simp[aC,e,hr]};·{by_cases e:i=id;·{simp[F',e]};·simpa[F',e]using h.nd i};·by_cases e:i=id;·{subst e;simp[aC]at hi'};·simp only[aC,if_neg e]at hi';exact h.dom i hi'
theorem K6{α β':Type}[DecidableEq α](f:α→β')(k:α)(u v:β'):aC (aC f k u) k v=aC f k v:=by funext j;by_cases e:j=k<;>simp[aC,e]
theorem an4{α β':Type}[DecidableEq α](f:α→β'){k l:α}(hne:k≠l)(u v:β'):aC (aC f k u) l v=aC (aC f l v) k u:=by funext j;by_cases e:j=k;·{subst e;simp[aC,hne]};·by_cases e2:j=l;·{subst e2;simp[aC,e]};·simp[aC,e,e2]
theorem ad5{o:Oper}{ts:Array TypeId}{xs:List aa}{e:bE}(h:m7 C S o ts xs=some e):∃d rows rd,o.dst=some d∧S.h [d]=none∧((∃id,(∃r,S.h id=some (some r))∧e=put o (.rs [d] 0 rows.length) rd [(id,none),([d],some rows)])∨e=put o (.rs [d] 0 rows.length) rd [([d],some rows)]):=by have tail:∀{d m:Nat}{x:aa}{xs ys:Rows}{i1 i2:List Id},o.dst=some d→(S.h [d]).isNone=true→m3 S o d m x xs ys i1 i2=some e→∃d rows rd,o.dst=some d∧S.h [d]=none∧((∃id,(∃r,S.h id=some (some r))∧e=put o (.rs [d] 0 rows.length) rd [(id,none),([d],some rows)])∨e=put o (.rs [d] 0 rows.length) rd [([d],some rows)]):=by{intro d m x xs ys i1 i2 hd hn h;unfold m3 at h;split at h;·{split at h;·{rename_i hid;split at h;·{simp only[Option.some.injEq]at h;subst h;exact⟨d,xs++ys,_,hd,oI hn, .inl ⟨_,⟨_,hid⟩,by rw[List.length_append]⟩⟩};·cases h};·cases h};·{simp only[Option.some.injEq]at h;subst h;exact⟨d,xs++ys,_,hd,oI hn, .inr (by rw[List.length_append])⟩};·cases h};unfold m7 at h;split at h;·{unfold Bj at h;split at h;·{rename_i hd;split at h;·{split at h;·{rename_i hc;simp only[Bool.and_eq_true]at hc;exact tail hd hc.2 h};·cases h};·cases h};·cases h};·{unfold Bk at h;split at h;·{rename_i hd _;split at h;·{split at h;·{rename_i hc;simp only[Bool.and_eq_true]at hc;exact tail hd hc.2 h};·cases h};·cases h};·cases h};·cases h
theorem aj5(h:aV C E w S a β F){o:Oper}{f:FuncId}{c:Call}(ho:o.op= .call c)(hb:c.callee= .builtin .append){e:bE}(he:(m7 C S o c.argTypes (c.args.toList.map fun x=>un true (S.get C x))).bind (sq C f o)=some e)(hd:cQ S e)(hn:∀a' w',bO C E (S.app e) a' w'→next a' w'):o.wp C.P a w next Q:=by simp only[Option.bind_eq_some_iff]at he;obtain⟨e1,h1,h2⟩:=he;obtain⟨d,rows,rd,bT,hnone,hsh⟩:=ad5 h1;unfold sq at h2;split at h2;·{rcases hsh with⟨id,⟨r,hid⟩,rfl⟩|rfl;·{simp only[bT,put]at h2;split at h2;·{rename_i hc;simp only[Option.some.injEq]at h2;subst h2;refine OD h ho hb h1 (by simpa[cQ,put,bT]using hd) fun a' w'⟨β',F',hS⟩=>hn a' w' ?_;have hne:id≠[d]:=fun e=>by{rw[e,hnone]at hid;cases hid};obtain⟨eL,mB⟩:=hS.freeze (id:=[d]) (rows:=rows) (d:=d) (by simp[an.app,put,bT,bD,aC,hne.symm]) hc.2 (by simp[an.app,put,bT,dF,aC]);refine⟨β',eL, ?_⟩;simp only[an.app,put,bT,dF,bD]at mB⊢;rw[K6,an4 _ hne,K6]at mB;exact mB};·cases h2};·simp only[bT,put]at h2;split at h2;·{rename_i hc;simp only[Option.some.injEq]at h2;subst h2;refine OD h ho hb h1 (by simpa[cQ,put,bT]using hd) fun a' w'⟨β',F',hS⟩=>hn a' w' ?_;obtain⟨eL,mB⟩:=hS.freeze (id:=[d]) (rows:=rows) (d:=d) (by simp[an.app,put,bT,bD,aC]) hc.2 (by simp[an.app,put,bT,dF,aC]);refine⟨β',eL, ?_⟩;simp only[an.app,put,bT,dF,bD]at mB⊢;rw[K6,K6]at mB;exact mB};·cases h2};·simp only[Option.some.injEq]at h2;subst h2;exact OD h ho hb h1 hd hn
end
end Go.Ab
