import Derived.Test.YtbbhbdlljfffdaaGreatDoorAbOps6
import Derived.Deep.AppendSrc
open Bool renaming and_eq_true→GE
open List renaming length_append→Ha,nodup_nil→Hc,mem_cons_self→H1,all_cons→H3,getElem?_eq_none→H4,flatten_append→H5,append_nil→IH,drop_zero→If
open Nat renaming le_refl→Hb,mul_le_mul_right→Hd,le_trans→Hk,add_mul→Hm,zero_add→Hn,lt_or_ge→H0,add_le_add_left→Ix
open Option renaming bind_eq_some_iff→H2
open Option.some renaming injEq→GT
set_option linter.all false
namespace Go.Ab
open Go
section
variable{C:av}{E:Env}{w:World}{S:ah}{a:Act}{β:Id→Option Loc}{F:Id→List Nat}
variable{next:Act→World→Prop}{Q:Exit→Act→World→Prop}
theorem ax.Nx(h:ax C E w S a β F)(t:Nat){x:U}(hx:R w (aq E w F) β [] (a.tmps.getD t undef) x):ax C E w ⟨S.n,ai S.t t x,S.h⟩ a β F:=by refine h.step (fun _=>False) h.n (Hb _) rfl rfl (fun _=>rfl) (fun _ _ _=>rfl) (fun _ _ h=>h) (fun id b hb=> .inl ⟨id,hb⟩) (fun _ _=>⟨rfl,rfl⟩) (fun _ _ h=>h.elim) (fun _ h=>h.elim) (fun _ h=>h.elim) (fun _ _ _ h=>h.elim) h.dom ?_;intro _ u;by_cases hu:u=t;·{subst hu;exact .inr (by simpa[ai]using hx)};·exact .inl ⟨rfl,by simp[ai,hu]⟩
theorem aae(h:ax C E w S a β F){o:Oper}{f:FuncId}{t:TypeId}{ao x:Operand}(ho:o.op= .store t ao x){e:aJ}(he:k7 C f S true o t ao (un true (S.get C ao)) (un true (S.get C x))=some e)(hd:bV S e)(hn:∀a' w',aO C E (S.app e) a' w'→next a' w'):o.wp C.P a w next Q:=by have ha:=h.cQ ao;have hx:=h.cQ x;generalize Bi:un true (S.get C ao)=adN at*;generalize un true (S.get C x)=xv at*;unfold k7 at he;split at he;·{rename_i b n hb hs;split at he;·{rename_i id row off cs hcs;split at he;·{cases he};·rename_i Ew;have Ew:cs.length=n:=by{simpa using Ew};split at he;·{rename_i rows hid;simp only[Option.bind_eq_some_iff]at he;obtain⟨r,hr,he⟩:=he;split at he;·{rename_i hfit;obtain⟨_,fo,p,sz,m,aV,hv⟩:=ha.lz;obtain⟨us,qM,lp,hpl⟩:=AK hx hcs;have E9:=lp.length;obtain⟨w',hrun,hS,hfz⟩:=h.stored hid aV hr hfit Ew lp hpl;have hst:(execOp a.eval o).run C.P w= .ok .skip w':=by{simp only[execOp,ho];refine No ?_;have hsz:(a.eval x).cells.size=n:=by{rw[qM];simp;omega};simp only[Instr.storeAt,hv,Instr.sureAddr];rw[Sem.run_bind,Sem.run_pure,Result.andThen_ok];unfold storeVar;rw[Sem.run_bind,lE hs,Result.andThen_ok];simp only[hsz,ne_eq,not_true_eq_false,if_false];rw[qM];exact hrun};split at he;·{rename_i ta pz;split at he;·{rename_i gJ;simp only[Bool.and_eq_true,decide_eq_true_eq]at gJ;obtain⟨⟨⟨⟨⟨⟨c1,c2⟩,c3⟩,uz⟩,xe⟩,_⟩,Sh⟩:=gJ;simp at he;subst he;have aP:o.dst=none:=by{simpa using Sh};rcases hfz ([]:Rows)with hfz|hfz;·{obtain⟨F',jg,hI,bh,hl⟩:=hfz c3 uz c1 c2;refine Hz hst (hn _ _ ⟨β,F', ?_⟩);have hao:ao= .tmp ta:=by{unfold sy at pz;split at pz;·{split at pz;·{simp at pz;rw[pz]};·cases pz};·cases pz};have W7:a.tmps.getD ta undef= .pointer (some ⟨fo,p+row*sz+off,none⟩):=by{rw[←hv,hao];rfl};have:=jg.Nx ta (x:= .ay (iS cs)) (by rw[W7];exact .ay hI bh (ak.kK (ak.nz hl) xe));simpa[ah.app,cm,aI,Act.put,aP]using this};·subst hfz;simp at hr};·cases he};·split at he;·{rename_i hdn;simp at he;subst he;have aP:o.dst=none:=by{simpa using hdn};obtain⟨F',jg⟩:=hS;refine Hz hst (hn _ _ ⟨β,F', ?_⟩);simpa[ah.app,put,cm,Act.put,aP]using jg};·cases he};·cases he};·cases he};·cases he};·cases he
/-! ### append -/
theorem Nb(h:ax C E w S a β F){v:Value}{x:U}{xs:Rows}{ids:List Id}{sz:Nat}(hx:R w (aq E w F) β [] v x)(hr:rowsOf S.h x=some (xs,ids))(hsz:∀r∈xs,r.length=sz):∃ba n cap vs f,v= .slice ba n cap∧n=xs.length∧ak w (aq E w F) β f vs xs.flatten∧vs.length=n*sz∧(n=0∨∃b o,ba=some ⟨b,o,none⟩∧ei w b o vs):=by unfold rowsOf at hr;split at hr;·{simp at hr;obtain⟨rfl,rfl⟩:=hr;rcases hx.zE.2 with⟨ba,cap,rfl,hv⟩|⟨b,o,sz',cap,vs,_,_,bh,hl,_,hv⟩;·{exact⟨ba,0,cap,[],[],hv,rfl, .nil,by simp, .inl rfl⟩};·exact⟨_,_,cap,vs,[],hv,rfl,R.up hl,by rw[hl.length,je hsz], .inr ⟨b,o,rfl,bh⟩⟩};·{simp at hr;obtain⟨rfl,rfl⟩:=hr;obtain⟨_,ba,hv⟩:=hx.tK;exact⟨ba,0,0,[],[],hv,rfl, .nil,by simp, .inl rfl⟩};·{rename_i id off len;split at hr;·{rename_i rows hid;split at hr;·{rename_i hle;simp at hr;obtain⟨rfl,rfl⟩:=hr;rcases hx.ke.2 with⟨ba,l,rfl,hv,_⟩|⟨b,o,sz',m,cap,aV,hfit,hlc,hv⟩;·{exact⟨ba,0,0,[],[],hv,by simp,by simpa using R.nil,by simp, .inl rfl⟩};·rcases Nat.eq_zero_or_pos len with h0|h0;·{subst h0;exact⟨_,0,cap,[],[],hv,by simp,by simpa using R.nil,by simp, .inl rfl⟩};·obtain⟨vs,bX,ff,_,⟨hne,hrows⟩,_,bh,hl⟩:=(h.obj id rows hid).at aV;have pq:sz'=sz:=by{have hlt:off<rows.length:=by{omega};have hm:rows[off]∈(rows.drop off).take len:=by{rw[List.mem_iff_getElem?];exact⟨0,by rw[List.getElem?_take_of_lt h0,List.getElem?_drop];simp⟩};have hm2:rows[off]∈rows:=List.getElem_mem hlt;rw[←hrows _ hm2,hsz _ hm]};subst pq;have hfl:=je hrows;have e1:((rows.drop off).take len).flatten=(rows.flatten.drop (off*sz')).take (len*sz'):=by{have:=A6 (l:=off) (r:=off+len) hrows;rw[List.take_drop,this,List.take_drop,Nat.add_mul]};have EN:off*sz'+len*sz'≤rows.flatten.length:=by{rw[hfl,←Nat.add_mul];exact Nat.mul_le_mul_right _ hle};obtain⟨f1,f2,f3,e0,_,h2,_⟩:=hl.jo (off*sz') (len*sz') EN;rw[←e1]at h2;have hlen:=h2.length;refine⟨_,len,cap,_,f2,hv,by simp;omega,h2, ?_, .inr ⟨b,o+off*sz',rfl,(bh.drop _).take _⟩⟩;rw[hlen,je hsz];congr 1;simp;omega};·cases hr};·cases hr};·cases hr
theorem acr{t e':TypeId}{sz n cap:Nat}{ba:Option Addr}{vs:List Value}(hk:C.P.underlying t=some (.slice e'))(hl:vs.length=n*sz)(hc:n=0∨∃b o,ba=some ⟨b,o,none⟩∧ei w b o vs)(hp:∀u∈vs,mB u=true):Src C.P sz t (.slice ba n cap) n vs w:=by have h1:∀u∈vs,u.oneCell'=true:=fun u hu=>by{have:=hp u hu;cases u<;>simp_all[mB,Value.oneCell']};rcases hc with rfl|⟨b,o,rfl,bh⟩;·{have:vs=[]:=List.length_eq_zero_iff.1 (by simpa using hl);subst this;have hz:∀w':World,(Builtin.firstCells sz 0 (.slice ba 0 cap)).run C.P w'= .ok #[] w':=fun w'=>by{cases ba with|none=>(exact run_firstCells_none w' _ _ _ _)|some p=>simp[Builtin.firstCells,loadCells,loadCellsFrom]};exact⟨.inl ⟨e',hk⟩,fun _=>rfl,hz w,hz w.drew,by simp,h1⟩};·exact Src.ofSlice w hk ⟨b,o,none⟩ n cap vs hl (fun j u hj=>by rw[jv];exact bh j u hj) h1
theorem Mz{I:Nat→Prop}{as:List U}:∀{f:List Nat}{vs:List Value},ak w I β f vs as→as.all U.cell=true→f=[]∧∀u∈vs,mB u=true:=by induction as with|nil=>(intro f vs h _;obtain⟨rfl,rfl⟩:=h.eK;exact⟨rfl,fun u hu=>by cases hu⟩)|cons c as ih=>intro f vs h hc;simp only[H3,GE]at hc;obtain⟨f1,f2,v,vs',rfl,rfl,h1,h2⟩:=ak.cons_inv h;obtain⟨e2,p2⟩:=ih h2 hc.2;refine⟨by rw[h1.xJ hc.1,e2];rfl,fun u hu=> ?_⟩;cases hu with|head=>(obtain⟨p1,p3,_⟩:=h1.plain hc.1;cases v<;>simp_all[mB])|tail _ hm=>exact p2 u hm
theorem M8{rows:Rows}(h:pS rows=true):rows.flatten.all U.cell=true:=by rw[List.all_eq_true];intro c hc;obtain⟨r,hr,hm⟩:=List.mem_flatten.1 hc;exact List.all_eq_true.1 (List.all_eq_true.1 h r hr) c hm
theorem UK{w:World}(c:Array Value)(e:TypeId)(x:Addr):(w.alloc (.cells c e)).frozen? x=w.frozen? x:=by have hnew:(w.alloc (.cells c e)).heap[w.heap.size]? =some (.cells c e):=heap_alloc_new _ _;by_cases hx:x.block=w.heap.size;·{have e2:w.heap[x.block]? =none:=by{rw[hx];simp};simp only[World.frozen?,hx,hnew];simp};·rw[World.frozen?_alloc_old _ _ _ hx]
theorem ax.BM(h:ax C E w S a β F){o:Oper}{d:Nat}(aP:o.dst=some d){kill:Id}(hfresh:S.h [d]=none)(EL:kill=[d]∨∃rows,S.h kill=some (some rows)){w':World}{h':Id→Option (Option Rows)}{aL:Rows}{G:List Nat}{l:Loc}{v:Value}{x:U}(j3:h' [d]=some (some aL))(j4:∀i,i≠[d]→i≠kill→h' i=S.h i)(me:kill≠[d]→h' kill=some none)(hsz:w.heap.size≤w'.heap.size)(hos:w'.os=w.os)(hout:w'.output=w.output)(qF:∀y,w'.frozen? y=w.frozen? y)(hw:∀b,b<w.heap.size→b∉F kill→w'.heap[b]? =w.heap[b]?)(eu:∀b n,eS w b n→eS w' b n)(c8:G.Nodup)(ng:∀b∈G,b∈F kill∨(w.heap.size≤b∧b<w'.heap.size))(VW:∀(I':Nat→Prop)(β':Id→Option Loc),(∀b,aq E w F b→I' b)→(∀i l,β i=some l→β' i=some l)→β' [d]=some l→cL w' I' β' [d] aL G)(hx:∀(I':Nat→Prop)(β':Id→Option Loc),β' [d]=some l→R w' I' β' [] v x)(hd:d<S.n):aO C E ⟨S.n,ai S.t d x,h'⟩ (a.put o.dst v) w':=by have yD:β [d]=none:=h.dom _ hfresh;have n4:F [d]=[]:=h.dead _ (by rw[hfresh];simp);let F':Id→List Nat:=fun i=>if i=[d]then G else if i=kill then[]else F i;have Be:F' [d]=G:=by{simp[F']};have xQ:kill≠[d]→F' kill=[]:=fun hk=>by{simp[F',hk]};have Eb:∀i,i≠[d]→i≠kill→F' i=F i:=fun i h1 h2=>by{simp[F',h1,h2]};have aV:∀i l',β i=some l'→ai β [d] (some l) i=some l':=fun i l' hl=>by{by_cases hi:i=[d];·{subst hi;rw[yD]at hl;cases hl};·simpa[ai,hi]using hl};refine⟨ai β [d] (some l),F', ?_⟩;refine h.step (fun i=>i=[d]∨i=kill) (by rw[pQ];exact h.n) hsz hos hout qF (fun b hb hk=>hw b hb (hk kill (.inr rfl))) aV ?_ ?_ ?_ ?_ ?_ ?_ ?_ ?_ (eu:=eu) (hok:=fun k rows hk hr=>by by_cases h1:k=[d];·{subst h1;exact absurd hk (h.ns d hd [])};·by_cases h2:k=kill;·{subst h2;simp only at hr;rw[me h1]at hr;cases hr};·exact⟨rows,by rw[←j4 k h1 h2];exact hr⟩);·{intro i b hb;by_cases h1:i=[d];·{subst h1;rw[Be]at hb;rcases ng b hb with hm|hm;·{exact .inl ⟨kill,hm⟩};·exact .inr hm};·by_cases h2:i=kill;·{subst h2;rw[xQ h1]at hb;cases hb};·rw[Eb i h1 h2]at hb;exact .inl ⟨i,hb⟩};·{intro i hi;have h1:i≠[d]:=fun e=>hi (.inl e);have h2:i≠kill:=fun e=>hi (.inr e);exact⟨Eb i h1 h2,j4 i h1 h2⟩};·{intro hI i hi dR hr;by_cases h1:i=[d];·{subst h1;have hr':h' [d]=some (some dR):=hr;rw[j3]at hr';simp at hr';subst hr';rw[Be];exact VW _ _ hI aV (by simp[ai])};·have h2:i=kill:=hi.resolve_left h1;subst h2;have hr':h' i=some (some dR):=hr;rw[me h1]at hr';simp at hr'};·{intro i hi hno;by_cases h1:i=[d];·{subst h1;exact absurd j3 (hno _)};·have h2:i=kill:=hi.resolve_left h1;subst h2;exact xQ h1};·{intro i hi;by_cases h1:i=[d];·{subst h1;rw[Be];exact c8};·have h2:i=kill:=hi.resolve_left h1;subst h2;rw[xQ h1];exact Hc};·{intro i j b hi iy jz;have aux:∀j,j≠[d]→b∈F' j→b∈G→False:=fun j hj jz V6=>by{by_cases h2:j=kill;·{subst h2;rw[xQ hj]at jz;cases jz};·rw[Eb j hj h2]at jz;rcases ng b V6 with hm|hm;·{exact h2 (h.ck j kill b jz hm)};·have:=(h.lt j b jz).1;omega};by_cases h1:i=[d];·{subst h1;by_cases h2:j=[d];·{exact h2.symm};·rw[Be]at iy;exact(aux j h2 jz iy).elim};·have h2:i=kill:=hi.resolve_left h1;subst h2;rw[xQ h1]at iy;cases iy};·{intro i hi;have hi':h' i=none:=hi;by_cases h1:i=[d];·{subst h1;rw[j3]at hi';cases hi'};·by_cases h2:i=kill;·{subst h2;rw[me h1]at hi';cases hi'};·rw[j4 i h1 h2]at hi';simp[ai,h1,h.dom i hi']};·intro _ u;rw[aP,pP a d u v (by rw[h.n];exact hd)];by_cases hu:u=d;·{subst hu;rw[AC rfl];exact .inr (by simpa[ai]using hx _ (ai β [u] (some l)) (by simp[ai]))};·rw[Do hu];exact .inl ⟨rfl,by simp[ai,hu]⟩
theorem ax.drew(h:ax C E w S a β F):ax C E w.drew S a β F:=h.step (fun _=>False) h.n (Hb _) rfl rfl (fun _=>rfl) (fun _ _ _=>rfl) (fun _ _ h=>h) (fun id b hb=> .inl ⟨id,hb⟩) (fun _ _=>⟨rfl,rfl⟩) (fun _ _ h=>h.elim) (fun _ h=>h.elim) (fun _ h=>h.elim) (fun _ _ _ h=>h.elim) h.dom (fun _ _=> .inl ⟨rfl,rfl⟩)
structure rH(P:Program)(w:World)(t t2 ty el:TypeId)(i:TypeInfo)(cx:Value)(yv:Value)(cN:Nat)(vy:List Value):Prop where
 idle:cN=0→∀eJ,(Builtin.append_ #[t,t2] ty #[.slice eJ 0 0,yv]).run P w= .ok (.slice eJ 0 0) w
 room:∀b p len cap w',len+cN≤cap→(storeCells ⟨b,p+len*i.size,none⟩ vy).run P w= .ok () w'→(Builtin.append_ #[t,t2] ty #[.slice (some ⟨b,p,none⟩) len cap,yv]).run P w= .ok (.slice (some ⟨b,p,none⟩) (len+cN) cap) w'
 grow:∀(eJ:Option Addr)(n cap:Nat)(vs:List Value),(Builtin.firstCells i.size n (.slice eJ n cap)).run P w.drew= .ok vs.toArray w.drew→cap<n+cN→((n+cN:Nat):Int)≤9223372036854775807→Builtin.nextslicecap (n+cN) cap*i.bytes≤281474976710656→
  (Builtin.append_ #[t,t2] ty #[.slice eJ n cap,yv]).run P w= .ok (.slice (some ⟨w.heap.size,0,none⟩) (n+cN) (grownCap w (n+cN) cap el)) (w.drew.alloc (.cells ((vs++vy).toArray++Builtin.zeroCells cx.cells (grownCap w (n+cN) cap el-(n+cN))) el))
theorem Is(h:ax C E w S a β F){o:Oper}{t t2 el:TypeId}{d:Nat}{i:TypeInfo}{cx yv:Value}{x:Operand}{xv:U}{xs ys:Rows}{i1 i2:List Id}{vy:List Value}{cN:Nat}{e:aJ}
  (aP:o.dst=some d)(qN:cx.cells.size=i.size)(hby:i.bytes≤4096)(yb:xs.length+ys.length≤nq)(hfr:(S.h [d]).isNone=true)(s3:∀r∈ys,r.length=i.size)
  (hx:R w (aq E w F) β [] (a.eval x) xv)(sZ:rowsOf S.h xv=some (xs,i1))(vf:cN=ys.length)(oa:ak w (aq E w F) β [] vy ys.flatten)(sY:vy.length=cN*i.size)(vh:∀u∈vy,mB u=true)
  (mc:∀{v:Value}{w':World},(Builtin.append_ #[t,t2] o.type #[a.eval x,yv]).run C.P w= .ok v w'→(execOp a.eval o).run C.P w= .ok (.value v) w')(uX:rH C.P w t t2 o.type el i cx yv cN vy)
  (he:k3 S o d i.size xv xs ys i1 i2=some e)(hd:bV S e)(hn:∀a' w',aO C E (S.app e) a' w'→next a' w'):o.wp C.P a w next Q:=by
 unfold k3 at he
 have grow:∀(kill:Id)(h':Id→Option (Option Rows))(eJ:Option Addr)(n cap:Nat)(vs:List Value)(f:List Nat),a.eval x= .slice eJ n cap→n=xs.length→cap<n+cN→vs.length=n*i.size→(n=0∨∃b o,eJ=some ⟨b,o,none⟩∧ei w b o vs)→
   ak w (aq E w F) β f vs xs.flatten→(∀r∈xs,r.length=i.size)→f.Nodup→(∀b∈f,b∈F kill)→(kill=[d]∨∃rows,S.h kill=some (some rows))→
   h' [d]=some (some (xs++ys))→(∀j,j≠[d]→j≠kill→h' j=S.h j)→(kill≠[d]→h' kill=some none)→e={cG:=[(d, .rs [d] 0 (xs.length+ys.length))],rd:=i1++i2,wr:=e.wr}→(S.app e).h=h'→o.wp C.P a w next Q:=by
  intro kill h' eJ n cap vs f hv hn' hgrow hvl bh hl yz hfn Bq hk j3 j4 me hee EG
  have hold:(Builtin.firstCells i.size n (.slice eJ n cap)).run C.P w.drew= .ok vs.toArray w.drew:=by
   rcases bh with h0|⟨b',o',rfl,bh⟩
   ·subst h0
    have :vs=[]:=List.length_eq_zero_iff.1 (by simpa using hvl)
    subst this
    cases eJ with
    |none=>exact run_firstCells_none w.drew _ _ _ _
    |some p=>simp[Builtin.firstCells,loadCells,loadCellsFrom]
   ·exact run_firstCells_some w.drew i.size n ⟨b',o',none⟩ n cap vs hvl (fun j u hj=>by rw[jv];exact bh j u hj)
  have yd:n+cN≤4294967296:=by unfold nq at yb;omega
  have dV:(n+cN)*i.bytes≤140737488355328:=Hk (Nat.mul_le_mul yd hby) (by decide)
  have hrun:=(congrArg (fun z=>(Builtin.append_ #[t,t2] o.type #[z,yv]).run C.P w) hv).trans (uX.grow eJ n cap vs hold hgrow (by omega) (growslice_fits hgrow dV))
  refine iK (mc hrun) (hn _ _ ?_)
  generalize hcells:(vs++vy).toArray++Builtin.zeroCells cx.cells (grownCap w (n+cN) cap el-(n+cN))=lJ
  have hcap:n+cN≤grownCap w (n+cN) cap el:=by unfold grownCap Question.cut;simp
  have Ef:=h.drew
  have hlen:(vs++vy).length=(n+cN)*i.size:=by rw[Ha,hvl,sY,Hm]
  have Ea:lJ.size=(n+cN)*i.size+(grownCap w (n+cN) cap el-(n+cN))*cx.cells.size:=by
   rw[←hcells,Array.size_append,List.size_toArray,hlen];simp[Builtin.zeroCells]
  have hne:xs++ys≠[]:=fun e0=>by
   have h0:=congrArg List.length e0
   rw[Ha]at h0
   simp only[List.length_nil]at h0
   omega
  have hall:∀r∈xs++ys,r.length=i.size:=fun r hr=>(List.mem_append.1 hr).elim (yz r) (s3 r)
  have hnew:(w.drew.alloc (.cells lJ el)).heap[w.heap.size]? =some (.cells lJ el):=heap_alloc_new _ _
  have hold':∀b,b<w.heap.size→(w.drew.alloc (.cells lJ el)).heap[b]? =w.heap[b]? :=fun b hb=>heap_alloc_old _ _ _ hb
  have hmul:(n+cN)*i.size+(grownCap w (n+cN) cap el-(n+cN))*i.size=grownCap w (n+cN) cap el*i.size:=by rw[←Hm];congr 1;omega
  rw[qN,hmul]at Ea
  have yc:=h.BM (w':=w.drew.alloc (.cells lJ el)) (h':=h') (aL:=xs++ys) (G:=w.heap.size::f) (l:= .blk w.heap.size 0 i.size lJ.size)
   (v:= .slice (some ⟨w.heap.size,0,none⟩) (n+cN) (grownCap w (n+cN) cap el)) (x:= .rs [d] 0 (xs.length+ys.length)) aP (kD hfr) hk j3 j4 me (by simp) rfl rfl (fun y=>by rw[UK];rfl)
   (fun b hb _=>hold' b hb) (qe hold') (List.nodup_cons.2 ⟨fun hm=>by
    rcases hk with hk|⟨rows,hk⟩
    ·have :=Bq _ hm
     rw[hk,h.dead [d] (by rw[kD hfr];simp)]at this;cases this
    ·exact absurd (h.lt kill _ (Bq _ hm)).1 (Nat.lt_irrefl _),hfn⟩) (fun b hb=>by
    cases hb with
    |head=>exact .inr ⟨Hb _,by simp⟩
    |tail _ hm=>exact .inl (Bq b hm)) (fun I' β' hI aV hd'=> .inr (.inr ⟨w.heap.size,0,i.size,lJ.size,vs++vy,f,hd',rfl,⟨lJ,el,hnew,rfl⟩,⟨hne,hall⟩,by rw[Ea,Hn];exact Hd _ (by rw[Ha];omega), ?_, ?_⟩)) ?_ ?_
  ·have e1:S.app e=⟨S.n,ai S.t d (.rs [d] 0 (xs.length+ys.length)),h'⟩:=by
    rw[←EG,hee];rfl
   rw[e1];exact yc
  ·intro k u hu
   rw[Hn,cell_of_row _ _ _ lJ el (0,0) hnew,←hcells]
   have hlt:k<(vs++vy).length:=by
    rcases H0 k (vs++vy).length with h'|h'
    ·exact h'
    ·rw[H4 h']at hu;cases hu
   rw[Array.getElem?_append_left (by simpa using hlt)]
   simpa using hu
  ·rw[H5]
   have l1:=hl.mono (w':=w.drew.alloc (.cells lJ el)) (β':=β') hI (fun b hb=>hold' b (hb.elim (fun hb=>hb.2.1) fun hb=>by
    have hm:=Bq b hb
    rcases hk with hk|⟨rows,hk⟩
    ·rw[hk,h.dead [d] (by rw[kD hfr];simp)]at hm;cases hm
    ·exact(h.lt kill b hm).1)) aV
   have l2:=oa.mono (w':=w.drew.alloc (.cells lJ el)) (β':=β') hI (fun b hb=>hold' b (hb.elim (fun hb=>hb.2.1) fun hb=>by cases hb)) aV
   have :=ak.append l1 l2
   rwa[IH]at this
  ·intro I' β' hd'
   have :=R.rs (w:=w.drew.alloc (.cells lJ el)) (I:=I') (off:=0) (len:=n+cN) (cap:=grownCap w (n+cN) cap el) hd' (by rw[Ea];simp) hcap
   rw[show xs.length+ys.length=n+cN by omega]
   simpa using this
  ·have :bV S e:=hd
   rw[hee]at this
   simpa[bV]using this
 have idle:∀(kill:Id)(h':Id→Option (Option Rows))(eJ:Option Addr),a.eval x= .slice eJ 0 0→xs=[]→ys=[]→(kill=[d]∨∃rows,S.h kill=some (some rows))→
   h' [d]=some (some (xs++ys))→(∀j,j≠[d]→j≠kill→h' j=S.h j)→(kill≠[d]→h' kill=some none)→e={cG:=[(d, .rs [d] 0 (xs.length+ys.length))],rd:=i1++i2,wr:=e.wr}→(S.app e).h=h'→o.wp C.P a w next Q:=by
  intro kill h' eJ hv hx0 hy0 hk j3 j4 me hee EG
  subst hx0 hy0
  have hn0:cN=0:=by simpa using vf
  have hrun:(Builtin.append_ #[t,t2] o.type #[a.eval x,yv]).run C.P w= .ok (.slice eJ 0 0) w:=by rw[hv];exact uX.idle hn0 eJ
  refine iK (mc hrun) (hn _ _ ?_)
  have yc:=h.BM (w':=w) (h':=h') (aL:=[]) (G:=[]) (l:= .nil) (v:= .slice eJ 0 0) (x:= .rs [d] 0 0) aP (kD hfr) hk j3 j4 me (Hb _) rfl rfl (fun _=>rfl) (fun _ _ _=>rfl) (fun _ _ h=>h)
   Hc (fun b hb=>by cases hb) (fun I' β' _ _ hd'=> .inl ⟨hd',rfl,rfl⟩) (fun I' β' hd'=> .gb hd' rfl) (by
    have :bV S e:=hd
    rw[hee]at this
    simpa[bV]using this)
  have e1:S.app e=⟨S.n,ai S.t d (.rs [d] 0 0),h'⟩:=by
   rw[←EG,hee];rfl
  rw[e1];exact yc
 split at he
 ·rename_i id off len
  split at he
  ·rename_i rows hid
   split at he
   ·rename_i ji
    simp only[GE,Bool.or_eq_true,decide_eq_true_eq]at ji
    obtain⟨⟨hrows,hoff⟩,x4⟩:=ji
    have hrows:=rT hrows
    subst hoff
    simp at he
    have WU:[d]≠id:=fun e0=>by rw[←e0,kD hfr]at hid;cases hid
    have j3:(S.app e).h [d]=some (some (xs++ys)):=by rw[←he];simp[ah.app,put,aP,aI,ai,WU]
    have j4:∀j,j≠[d]→j≠id→(S.app e).h j=S.h j:=fun j h1 h2=>by rw[←he];simp[ah.app,put,aP,aI,ai,h1,h2]
    have me:id≠[d]→(S.app e).h id=some none:=fun _=>by rw[←he];simp[ah.app,put,aP,aI,ai]
    have hee:e={cG:=[(d, .rs [d] 0 (xs.length+ys.length))],rd:=i1++i2,wr:=e.wr}:=by rw[←he];simp[put,aP]
    have yy:=sZ
    simp only[rowsOf,hid]at yy
    split at yy
    ·rename_i hle
     simp only[If,GT,Prod.mk.injEq]at yy
     obtain⟨hxs,_⟩:=yy
     have yz:∀r∈xs,r.length=i.size:=fun r hr=>hrows r (by rw[←hxs]at hr;exact List.mem_of_mem_take hr)
     have hxl:xs.length=len:=by rw[←hxs];simp;omega
     rcases hx.ke.2 with⟨eJ,l,n9,hv,_⟩|⟨b,p,sz',m,cap,aV,hfit,hlc,hv⟩
     ·have Fb:xs=[]:=List.length_eq_zero_iff.1 (by omega)
      by_cases hy0:ys=[]
      ·exact idle id _ eJ hv Fb hy0 (.inr ⟨rows,hid⟩) j3 j4 me hee rfl
      ·have :0<ys.length:=List.length_pos_iff.2 hy0
       exact grow id _ eJ 0 0 [] [] hv (by rw[Fb];rfl) (by omega) (by simp) (.inl rfl) (by rw[Fb];exact .nil) yz Hc (fun b hb=>by cases hb) (.inr ⟨rows,hid⟩) j3 j4 me hee rfl
     ·obtain⟨vs,bX,ff,hB,⟨hne,nj⟩,Xg,bh,hl⟩:=(h.obj id rows hid).at aV
      have pq:sz'=i.size:=by
       obtain⟨dQ,vi⟩:=List.exists_mem_of_ne_nil _ hne
       rw[←nj dQ vi,hrows dQ vi]
      subst pq
      have hfl:=je hrows
      have EN:len*i.size≤rows.flatten.length:=by rw[hfl];exact Hd _ (by omega)
      obtain⟨f1,f2,f3,e0,_,l2,_⟩:=hl.jo 0 (len*i.size) (by omega)
      simp only[If]at l2
      have exs:xs.flatten=rows.flatten.take (len*i.size):=by
       have :=A6 (l:=0) (r:=len) hrows
       simpa[hxs]using this
      rw[←exs]at l2
      have hnd:=h.nd id
      rw[ff,e0]at hnd
      have kJ:=(List.nodup_cons.1 hnd).2
      have n6:=(List.nodup_cons.1 hnd).1
      have qE:f2.Nodup:=(List.nodup_append.1 (List.nodup_append.1 kJ).2.1).1
      have Ky:∀b'∈f2,b'∈F id:=fun b' hb'=>by
       rw[ff,e0]
       exact List.mem_cons_of_mem _ (List.mem_append.2 (.inr (List.mem_append.2 (.inl hb'))))
      have yx:(vs.take (len*i.size)).length=len*i.size:=by rw[l2.length,exs,List.length_take,Nat.min_eq_left EN]
      simp only[Nat.zero_mul,Nat.add_zero,Hn]at hfit hv
      rcases H0 cap (len+cN)with hg|hg
      ·exact grow id _ _ len cap (vs.take (len*i.size)) f2 hv hxl.symm hg yx (.inr ⟨b,p,rfl,bh.take _⟩) l2 yz qE Ky (.inr ⟨rows,hid⟩) j3 j4 me hee rfl
      ·
       obtain⟨nR,ce,qz,hcm⟩:=hB
       have l9:=lt_of_heap qz
       have hroom:p+len*i.size+vy.length≤nR.size:=by
        rw[sY,hcm,Nat.add_assoc,←Hm]
        exact Hk (Ix (Hd _ hg) _) hfit
       have hst:=Nn C.P b (p+len*i.size) ce vy 0 w nR qz (by omega) vh
       rw[Nat.add_zero]at hst
       generalize hw':gA w b (.cells (over nR (p+len*i.size) vy) ce (0,0))=w' at hst
       have jB:∀k,w'.heap[k]? =if k=b then some (.cells (over nR (p+len*i.size) vy) ce (0,0))else w.heap[k]? :=fun k=>by rw[←hw'];exact wg l9 k
       have hnew:w'.heap[b]? =some (.cells (over nR (p+len*i.size) vy) ce (0,0)):=by rw[jB,AC rfl]
       have hrun:(Builtin.append_ #[t,t2] o.type #[a.eval x,yv]).run C.P w= .ok (.slice (some ⟨b,p,none⟩) (len+cN) cap) w':=by rw[hv];exact uX.room b p len cap w' hg hst
       refine iK (mc hrun) (hn _ _ ?_)
       by_cases KI:xs++ys=[]
       ·rw[KI]at x4
        simp at x4
        exact absurd x4 hne
       have yc:=h.BM (w':=w') (h':=(S.app e).h) (aL:=xs++ys) (G:=b::f2) (l:= .blk b p i.size m)
        (v:= .slice (some ⟨b,p,none⟩) (len+cN) cap) (x:= .rs [d] 0 (xs.length+ys.length)) aP (kD hfr) (.inr ⟨rows,hid⟩) j3 j4 me (by rw[←hw'];simp[gA]) (by rw[←hw'];rfl) (by rw[←hw'];rfl)
        (fun y=>by
         simp only[World.frozen?,jB]
         by_cases hy:y.block=b
         ·rw[AC hy,hy,qz]
         ·rw[Do hy])
        (fun b' _ hb'=>by rw[jB,Do (fun e1=>hb' (by rw[ff,e1];exact H1 ..))])
        (fun k n hB=>by
         by_cases hk:k=b
         ·subst hk
          obtain⟨c2,e2,ji,hn2⟩:=hB
          rw[qz]at ji
          simp only[GT,Obj.cells.injEq]at ji
          obtain⟨rfl,_⟩:=ji
          exact⟨_,_,hnew,by rw[B3 _ _ _ hroom];exact hn2⟩
         ·exact hB.mono (by rw[jB,Do hk]))
        (List.nodup_cons.2 ⟨fun hm=>n6 (List.mem_append.2 (.inr (List.mem_append.2 (.inl hm)))),qE⟩)
        (fun b' hb'=> .inl (by
         cases hb' with
         |head=>rw[ff];exact H1 ..
         |tail _ hm=>exact Ky b' hm))
        (fun I' β' hI gy hd'=> .inr (.inr ⟨b,p,i.size,m,vs.take (len*i.size)++vy,f2,hd',rfl,⟨_,_,hnew,by rw[B3 _ _ _ hroom];exact hcm⟩,⟨KI,fun r hr=>(List.mem_append.1 hr).elim (yz r) (s3 r)⟩, ?_, ?_, ?_⟩)) ?_ ?_
       ·have e1:S.app e=⟨S.n,ai S.t d (.rs [d] 0 (xs.length+ys.length)),(S.app e).h⟩:=by
         conv=>lhs;rw[hee]
         rfl
        rw[e1];exact yc
       ·rw[Ha]
        exact Hk (Ix (Hd _ (by omega)) _) hfit
       ·intro k u hu
        rw[cell_of_row _ _ _ _ _ _ hnew,tA _ _ _ _ hroom]
        by_cases h1:k<len*i.size
        ·rw[Do (by omega)]
         rw[List.getElem?_append_left (by omega),List.getElem?_take_of_lt h1]at hu
         have :=bh k u hu
         rwa[cell_of_row _ _ _ _ _ _ qz]at this
        ·rw[List.getElem?_append_right (by omega),yx]at hu
         have hk2:k-len*i.size<vy.length:=by
          rcases H0 (k-len*i.size) vy.length with h'|h'
          ·exact h'
          ·rw[H4 h']at hu;cases hu
         rw[AC (by omega),show p+k-(p+len*i.size)=k-len*i.size by omega]
         exact hu
       ·rw[H5]
        have hk2:∀b',aq E w F b'∨b'∈f2→w'.heap[b']? =w.heap[b']? :=fun b' hb'=>by
         rw[jB,Do]
         intro e1;subst e1
         rcases hb' with hb'|hb'
         ·exact hb'.2.2 id (by rw[ff];exact H1 ..)
         ·exact n6 (List.mem_append.2 (.inr (List.mem_append.2 (.inl hb'))))
        have jE:=l2.mono (w':=w') (β':=β') hI hk2 gy
        have Lj:=oa.mono (w':=w') (β':=β') hI (fun b' hb'=>hk2 b' (hb'.elim .inl fun hb'=>by cases hb')) gy
        have :=ak.append jE Lj
        rwa[IH]at this
       ·intro I' β' hd'
        have :=R.rs (w:=w') (I:=I') (off:=0) (len:=xs.length+ys.length) (cap:=cap) hd' (by simpa using hfit) (by omega)
        rw[show len+cN=xs.length+ys.length by omega]
        simpa using this
       ·have :bV S e:=hd
        rw[hee]at this
        simpa[bV]using this
    ·cases yy
   ·cases he
  ·cases he
 ·simp at he
  obtain⟨_,eJ,hv⟩:=hx.tK
  simp[rowsOf]at sZ
  obtain⟨rfl,rfl⟩:=sZ
  have j3:(S.app e).h [d]=some (some ([]++ys)):=by rw[←he];simp[ah.app,put,aP,aI,ai]
  have j4:∀j,j≠[d]→j≠[d]→(S.app e).h j=S.h j:=fun j h1 _=>by rw[←he];simp[ah.app,put,aP,aI,ai,h1]
  have hee:e={cG:=[(d, .rs [d] 0 (([]:Rows).length+ys.length))],rd:=[]++i2,wr:=e.wr}:=by rw[←he];simp[put,aP]
  by_cases hy0:ys=[]
  ·exact idle [d] _ eJ hv rfl hy0 (.inl rfl) j3 j4 (fun h=>absurd rfl h) hee rfl
  ·have :0<ys.length:=List.length_pos_iff.2 hy0
   exact grow [d] _ eJ 0 0 [] [] hv rfl (by omega) (by simp) (.inl rfl) .nil (fun r hr=>by cases hr) Hc (fun b hb=>by cases hb) (.inl rfl) j3 j4 (fun h=>absurd rfl h) hee rfl
 ·cases he
theorem rH.Zw{t t2 ty el:TypeId}{i:TypeInfo}{cx yv:Value}{cN:Nat}{vy:List Value}(hu:C.P.underlying t=some (.slice el))(hi:C.P.info? el=some i)(iz:i.zero=some cx)(hsrc:Src C.P i.size t2 yv cN vy w):rH C.P w t t2 ty el i cx yv cN vy where
 idle:=fun hn eJ=>by
  subst hn
  have Xo:vy=[]:=List.length_eq_zero_iff.1 (by simpa using hsrc.newsLen)
  subst Xo
  rcases hsrc.kind with⟨e',hk'⟩|hk'<;>
   (cases eJ<;>simp[Builtin.append_,dK hu,dK (C:=C) hk',sizeOf,typeInfo,hi,hsrc.len,hsrc.cells,storeCells])
 room:=fun b p len cap w' hg hst=>by
  rcases hsrc.kind with⟨e',hk'⟩|hk'<;>
   simp[Builtin.append_,dK hu,dK (C:=C) hk',sizeOf,typeInfo,hi,hsrc.len,hsrc.cells,hg,jv,hst]
 grow:=fun eJ n cap vs hold hg h63 hfit=>run_append_grow_src (P:=C.P) w t t2 ty el i cx hu hi iz eJ n cap vs hold yv cN vy hsrc hg h63 hfit
theorem rH.adv{t t2 ty el:TypeId}{i:TypeInfo}{cx:Value}{k kk:IntKind}{N:Int}(hu:C.P.underlying t=some (.slice el))(hk:C.P.underlying t2=some (.int k))(hi:C.P.info? el=some i)(iz:i.zero=some cx)(qN:cx.cells.size=i.size)(h0:0<i.size)(hby:i.bytes≤4096)(hN:0≤N∧N≤4294967296):rH C.P w t t2 ty el i cx (.int kk N) N.toNat (Builtin.zeroCells cx.cells N.toNat).toList:=by have hw1:IntKind.i64.wrap N=N:=IntWalk.i64_in N (by omega);have Ei:¬(N*(i.bytes:Int)>2^48):=by{have:N*(i.bytes:Int)≤4294967296*4096:=Int.mul_le_mul (by omega) (by omega) (by omega) (by omega);omega};have n9:¬(N<0):=by{omega};have uX:∀w':World,(if N.toNat*i.size=0 then pure #[]else do pure (Builtin.zeroCells (←zeroValue el).cells N.toNat):Sem (Array Value)).run C.P w'= .ok (Builtin.zeroCells cx.cells N.toNat) w':=fun w'=>by{by_cases hz:N.toNat*i.size=0;·{rw[AC hz];have:N.toNat=0:=by{rcases Nat.mul_eq_zero.1 hz with h|h;·{exact h};·omega};rw[this];simp[Builtin.zeroCells]};·rw[Do hz];simp[zeroValue,typeInfo,hi,iz]};have hz2:(underlying t2).run C.P w= .ok (.int k) w:=dK hk;refine⟨fun hn eJ=> ?_,fun b p len cap w' hg hst=> ?_,fun eJ n cap vs hold hg h63 hfit=> ?_⟩;·{have xU:N=0:=by{omega};subst xU;cases eJ<;>simp[Builtin.append_,dK hu,dK (C:=C) hk,sizeOf,typeInfo,hi,asInt,asIntOf,storeCells,hw1,Builtin.zeroCells]};·{have jZ:¬(281474976710656<N*(i.bytes:Int)):=by{omega};by_cases hz:N.toNat*i.size=0;·{have hn0:N.toNat=0:=by{rcases Nat.mul_eq_zero.1 hz with h|h;·{exact h};·omega};rw[hn0]at hst hg;have Xe:w'=w:=by{simpa[Builtin.zeroCells,storeCells]using hst.symm};subst Xe;have xU:N=0:=by{omega};subst xU;simp[Builtin.append_,dK hu,dK (C:=C) hk,sizeOf,typeInfo,hi,asInt,asIntOf,hw1,storeCells];omega};·simp[Builtin.append_,dK hu,dK (C:=C) hk,sizeOf,typeInfo,zeroValue,hi,iz,asInt,asIntOf,hw1,n9,jZ,hg,hz,jv,hst]};·have hn:¬(n+N.toNat≤cap):=by{omega};have h63':¬(9223372036854775807<((n:Int)+(N.toNat:Int))):=by{omega};have Kg:¬(281474976710656<Builtin.nextslicecap (n+N.toNat) cap*i.bytes):=by{omega};have jZ:¬(281474976710656<N*(i.bytes:Int)):=by{omega};have Vz:¬(9223372036854775807<(n:Int)+max N 0):=by{omega};by_cases hz:N.toNat*i.size=0;·{have hn0:N.toNat=0:=by{rcases Nat.mul_eq_zero.1 hz with h|h;·{exact h};·omega};have xU:N=0:=by{omega};subst xU;have hn':¬(n≤cap):=by{simpa using hn};have Vx:¬(281474976710656<Builtin.nextslicecap n cap*i.bytes):=by{simpa using Kg};have VA:¬(9223372036854775807<(n:Int)):=by{omega};simp[Builtin.append_,dK hu,dK (C:=C) hk,sizeOf,typeInfo,zeroValue,hi,iz,asInt,asIntOf,hw1,hn',Question.forced,hold,newRow,grownCap,Builtin.zeroCells,Vx,VA]};·simp[Builtin.append_,dK hu,dK (C:=C) hk,sizeOf,typeInfo,zeroValue,hi,iz,asInt,asIntOf,hw1,n9,jZ,hn,h63',Vz,Kg,Question.forced,hold,newRow,grownCap,hz];congr 2;apply Array.ext';simp[List.append_assoc]
theorem ZE(h:ax C E w S a β F){o:Oper}{c:Call}(ho:o.op= .call c)(hb:c.callee= .builtin .append){xv yv:U}{t:TypeId}{k:IntKind}(hargs:(c.args.toList.map fun x=>un true (S.get C x))=[xv,yv])(ht:c.argTypes[0]? =some t)(fy:(c.argTypes[1]?).bind C.P.underlying=some (.int k)){e:aJ}(he:uu C S o t xv yv=some e)(hd:bV S e)(hn:∀a' w',aO C E (S.app e) a' w'→next a' w'):o.wp C.P a w next Q:=by match hal:c.args.toList,hargs with|[x,y],hargs=>simp at hargs;obtain⟨s0,yB⟩:=hargs;have hx:=h.cQ x;have hy:=h.cQ y;rw[s0]at hx;rw[yB]at hy;simp only[H2]at fy;obtain⟨t2,yt,fy⟩:=fy;unfold uu at he;split at he;·{rename_i el d N hu aP hN;obtain⟨kk,Xz⟩:=oJ hy hN;split at he;·{rename_i i z xs i1 hi hz sZ;split at he;·{rename_i gJ;simp only[GE,decide_eq_true_eq]at gJ;obtain⟨⟨⟨⟨⟨⟨⟨hNb,hzl⟩,KT⟩,hby⟩,Bz⟩,yb⟩,Fe⟩,hfr⟩:=gJ;obtain⟨cx,iz,qN⟩:∃cx,i.zero=some cx∧cx.cells.size=i.size:=by{unfold zW at Bz;split at Bz;·{rename_i z s4;exact⟨z,s4,by simpa using Bz⟩};·cases Bz};have XC:tv cx.cells.toList=some z:=by{unfold tU at hz;rw[hi]at hz;simp only[Option.bind_some,iz]at hz;exact hz};have oc:=BV (w:=w) (I:=aq E w F) (β:=β) XC;have o9:=BF cx.cells N.toNat (by omega);have hcells:(Builtin.zeroCells cx.cells N.toNat).toList=(List.replicate N.toNat cx.cells.toList).flatten:=o9;have oa:ak w (aq E w F) β [] (Builtin.zeroCells cx.cells N.toNat).toList (List.replicate N.toNat z).flatten:=by{rw[hcells];exact ak.flatten oc _};have hrc:pS (List.replicate N.toNat z)=true:=by{unfold pS;rw[List.all_eq_true];intro r hr;rw[(List.mem_replicate.1 hr).2];exact Fe};obtain⟨_,vh⟩:=Mz oa (M8 hrc);refine Is h aP qN hby (by simpa using yb) hfr (fun r hr=>by rw[(List.mem_replicate.1 hr).2];exact hzl) hx sZ (cN:=N.toNat) (by simp) oa (by simp[Builtin.zeroCells,qN]) vh (el:=el) (t:=t) (t2:=t2) (yv:=a.eval y) (fun hr=> ?_) ?_ he hd hn;·{rw[zw ho hb];refine kR ?_;have e1:c.args.map a.eval= #[a.eval x,a.eval y]:=by{rw[y2 hal];rfl};rw[e1];have e2:∀args,Builtin.append_ c.argTypes o.type args=Builtin.append_ #[t,t2] o.type args:=fun args=>by{unfold Builtin.append_;simp[ht,yt]};show(Builtin.append_ c.argTypes o.type #[a.eval x,a.eval y]).run C.P w=_;rw[e2];exact hr};·rw[Xz];exact rH.adv hu fy hi iz qN KT hby hNb};·cases he};·cases he};·cases he
theorem F1(h:ax C E w S a β F){o:Oper}{c:Call}(ho:o.op= .call c)(hb:c.callee= .builtin .append){e:aJ}(he:kB C S o c.argTypes (c.args.toList.map fun x=>un true (S.get C x))=some e)(hd:bV S e)(hn:∀a' w',aO C E (S.app e) a' w'→next a' w'):o.wp C.P a w next Q:=by unfold kB at he;split at he;·{rename_i xv yv t aha hargs ht fy;match hal:c.args.toList,hargs with|[x,y],hargs=>simp at hargs;obtain⟨s0,yB⟩:=hargs;have hx:=h.cQ x;have hy:=h.cQ y;rw[s0]at hx;rw[yB]at hy;simp only[H2]at fy;obtain⟨t2,yt,fy⟩:=fy;unfold ur at he;split at he;·{rename_i el d hu aP;split at he;·{rename_i i xs i1 ys i2 hi sZ yA;split at he;·{rename_i gJ;simp only[GE,decide_eq_true_eq]at gJ;obtain⟨⟨⟨⟨⟨⟨s3,KT⟩,hby⟩,hz⟩,yb⟩,hrc⟩,hfr⟩:=gJ;have s3:=rT s3;obtain⟨cx,iz,qN⟩:∃cx,i.zero=some cx∧cx.cells.size=i.size:=by{unfold zW at hz;split at hz;·{rename_i z s4;exact⟨z,s4,by simpa using hz⟩};·cases hz};obtain⟨Iv,cN,AJ,vy,UQ,sX,vf,oa,sY,Bl⟩:=Nb h hy yA s3;obtain⟨Ww,vh⟩:=Mz oa (M8 hrc);subst Ww;have hsrc:=acr (w:=w) (cap:=AJ) fy sY Bl vh;have Bw:∀{v:Value}{w':World},(Builtin.append_ c.argTypes o.type #[a.eval x,a.eval y]).run C.P w= .ok v w'→(execOp a.eval o).run C.P w= .ok (.value v) w':=fun hr=>by{rw[zw ho hb];refine kR ?_;have:c.args.map a.eval= #[a.eval x,a.eval y]:=by{rw[y2 hal];rfl};rw[this];exact hr};have uX:∀args,Builtin.append_ c.argTypes o.type args=Builtin.append_ #[t,t2] o.type args:=fun args=>by{unfold Builtin.append_;simp[ht,yt]};exact Is h aP qN hby yb hfr s3 hx sZ vf oa sY vh (el:=el) (t:=t) (t2:=t2) (yv:=a.eval y) (fun hr=>Bw (by rw[uX];exact hr)) (rH.Zw hu hi iz (by rw[sX];exact hsrc)) he hd hn};·cases he};·cases he};·cases he};·{rename_i xv yv t k hargs ht fy;exact ZE h ho hb hargs ht fy he hd hn};·cases he
theorem Fj:∀{rows:Rows},jk rows=true→c9 rows.flatten=true|[],_=>rfl|r::rows,h=>by simp only[jk,H3,GE]at h;have ih:=Fj (rows:=rows) (by simpa[jk]using h.2);have:∀{a b:List U},c9 a=true→c9 b=true→c9 (a++b)=true:=by{intro a b ha hb;induction a with|nil=>(exact hb)|cons c a ih2=>simp only[c9,GE,List.cons_append]at ha⊢;exact⟨ha.1,ih2 ha.2⟩};simpa using this h.1 ih
theorem ax.freeze(h:ax C E w S a β F){id:Id}{rows:Rows}{d:Nat}(hid:S.h id=some (some rows))(hi:jk rows=true)(hs:S.t d= .rs id 0 rows.length):∃F',ax C E w ⟨S.n,ai S.t d (.sl rows),ai S.h id (some none)⟩ a β F':=by have sR:=h.obj id rows hid;let F':Id→List Nat:=fun i=>if i=id then[]else F i;have hsub:∀i b,b∈F' i→b∈F i:=fun i b hb=>by{by_cases e:i=id;·{simp[F',e]at hb};·simpa[F',e]using hb};have hI:∀b,aq E w F b→aq E w F' b:=fun b hb=>⟨hb.1,hb.2.1,fun i hm=>hb.2.2 i (hsub i b hm)⟩;have fh:∀{β':Id→Option Loc}{f:List Nat}{v:Value}{x:U},R w (aq E w F) β' f v x→R w (aq E w F') β' f v x:=fun hr=>hr.mono hI (fun _ _=>rfl) (fun _ _ h=>h);refine⟨F', ?_⟩;refine{n:=h.n,df:=h.df.mono (fun b hb=>⟨hI b hb.1,hb.2⟩) (fun _ _=>rfl),slot:=fun t=> ?_,obj:=fun i r hr=> ?_,dead:=fun i hi'=> ?_,nd:=fun i=> ?_,ck:=fun i j b hb hb'=>h.ck i j b (hsub i b hb) (hsub j b hb'),dom:=fun i hi'=> ?_,lt:=fun i b hb=>h.lt i b (hsub i b hb),kept:=h.kept,bM:=fun g cs hg=>fh (h.bM g cs hg),ns:=h.ns,kb:=fun k r hk hr=>h.kb k r hk (by by_cases e:k=id;·{subst e;simp[ai]at hr};·simpa[ai,e]using hr)};·{by_cases e:t=d;·{subst e;have hv:=h.slot t;rw[hs]at hv;simp only[ai,if_true];obtain⟨_,sW⟩:=hv.ke;clear hv;rcases sW with⟨ad,l,h1,hv,hb⟩|⟨b,o,sz,n,cap,hb,hfit,hle,hv⟩;·{have:rows=[]:=List.length_eq_zero_iff.1 h1;subst this;rw[hv];exact .e9};·rcases sR with⟨h1,_,_⟩|⟨b',h1,_⟩|⟨b',o',sz',n',vs,bX,hb',ff,hB,⟨hne,hrows⟩,Ws,bh,hl⟩;·{rw[h1]at hb;cases hb};·{rw[h1]at hb;cases hb};·rw[hb']at hb;simp only[GT,Loc.blk.injEq]at hb;obtain⟨rfl,rfl,rfl,rfl⟩:=hb;have n9:ak w (aq E w F) aX bX vs rows.flatten:=R.kK hl (by simpa[en]using Fj hi);have x5:bX=[]:=R.Fl hl (by simpa[en]using Fj hi);subst x5;have nh:b'∈F id:=by{rw[ff];exact List.mem_cons_self .. };have n5:aq E w F' b':=⟨(h.lt id b' nh).2.elim (fun h=> .inr (.inl h)) (fun h=> .inr (.inr h)),(h.lt id b' nh).1,fun i hm=>by by_cases e:i=id;·{simp[F',e]at hm};·exact e (h.ck i id b' (hsub i b' hm) nh)⟩;rw[hv,Nat.zero_mul,Nat.add_zero];exact .sl hrows n5 bh hle (fh n9)};·simp only[ai,Do e];exact fh (h.slot t)};·{by_cases e:i=id;·{subst e;simp[ai]at hr};·simp only[ai,Do e]at hr;have:=(h.obj i r hr).mono (w':=w) (I':=aq E w F') (β':=β) hI (fun _ _=>rfl) (fun _ _ h=>h);simpa[F',e]using this};·{by_cases e:i=id;·{simp[F',e]};·simp only[F',Do e];refine h.dead i fun r hr=>hi' r ?_;simp[ai,e,hr]};·{by_cases e:i=id;·{simp[F',e]};·simpa[F',e]using h.nd i};·by_cases e:i=id;·{subst e;simp[ai]at hi'};·simp only[ai,Do e]at hi';exact h.dom i hi'
theorem Cw{α β':Type}[DecidableEq α](f:α→β')(k:α)(u v:β'):ai (ai f k u) k v=ai f k v:=by funext j;by_cases e:j=k<;>simp[ai,e]
theorem ac3{α β':Type}[DecidableEq α](f:α→β'){k l:α}(hne:k≠l)(u v:β'):ai (ai f k u) l v=ai (ai f l v) k u:=by funext j;by_cases e:j=k;·{subst e;simp[ai,hne]};·by_cases e2:j=l;·{subst e2;simp[ai,e]};·simp[ai,e,e2]
theorem TM{o:Oper}{ts:Array TypeId}{xs:List U}{e:aJ}(h:kB C S o ts xs=some e):∃d rows rd,o.dst=some d∧S.h [d]=none∧((∃id,(∃r,S.h id=some (some r))∧e=put o (.rs [d] 0 rows.length) rd [(id,none),([d],some rows)])∨e=put o (.rs [d] 0 rows.length) rd [([d],some rows)]):=by have tail:∀{d m:Nat}{x:U}{xs ys:Rows}{i1 i2:List Id},o.dst=some d→(S.h [d]).isNone=true→k3 S o d m x xs ys i1 i2=some e→∃d rows rd,o.dst=some d∧S.h [d]=none∧((∃id,(∃r,S.h id=some (some r))∧e=put o (.rs [d] 0 rows.length) rd [(id,none),([d],some rows)])∨e=put o (.rs [d] 0 rows.length) rd [([d],some rows)]):=by{intro d m x xs ys i1 i2 hd hn h;unfold k3 at h;split at h;·{split at h;·{rename_i hid;split at h;·{simp only[GT]at h;subst h;exact⟨d,xs++ys,_,hd,kD hn, .inl ⟨_,⟨_,hid⟩,by rw[Ha]⟩⟩};·cases h};·cases h};·{simp only[GT]at h;subst h;exact⟨d,xs++ys,_,hd,kD hn, .inr (by rw[Ha])⟩};·cases h};unfold kB at h;split at h;·{unfold ur at h;split at h;·{rename_i hd;split at h;·{split at h;·{rename_i hc;simp only[GE]at hc;exact tail hd hc.2 h};·cases h};·cases h};·cases h};·{unfold uu at h;split at h;·{rename_i hd _;split at h;·{split at h;·{rename_i hc;simp only[GE]at hc;exact tail hd hc.2 h};·cases h};·cases h};·cases h};·cases h
theorem ZD(h:ax C E w S a β F){o:Oper}{f:FuncId}{c:Call}(ho:o.op= .call c)(hb:c.callee= .builtin .append){e:aJ}(he:(kB C S o c.argTypes (c.args.toList.map fun x=>un true (S.get C x))).bind (oY C f o)=some e)(hd:bV S e)(hn:∀a' w',aO C E (S.app e) a' w'→next a' w'):o.wp C.P a w next Q:=by simp only[H2]at he;obtain⟨e1,h1,h2⟩:=he;obtain⟨d,rows,rd,aP,hnone,hsh⟩:=TM h1;unfold oY at h2;split at h2;·{rcases hsh with⟨id,⟨r,hid⟩,rfl⟩|rfl;·{simp only[aP,put]at h2;split at h2;·{rename_i hc;simp only[GT]at h2;subst h2;refine F1 h ho hb h1 (by simpa[bV,put,aP]using hd) fun a' w'⟨β',F',hS⟩=>hn a' w' ?_;have hne:id≠[d]:=fun e=>by{rw[e,hnone]at hid;cases hid};obtain⟨cP,jh⟩:=hS.freeze (id:=[d]) (rows:=rows) (d:=d) (by simp[ah.app,put,aP,aI,ai,hne.symm]) hc.2 (by simp[ah.app,put,aP,cm,ai]);refine⟨β',cP, ?_⟩;simp only[ah.app,put,aP,cm,aI]at jh⊢;rw[Cw,ac3 _ hne,Cw]at jh;exact jh};·cases h2};·simp only[aP,put]at h2;split at h2;·{rename_i hc;simp only[GT]at h2;subst h2;refine F1 h ho hb h1 (by simpa[bV,put,aP]using hd) fun a' w'⟨β',F',hS⟩=>hn a' w' ?_;obtain⟨cP,jh⟩:=hS.freeze (id:=[d]) (rows:=rows) (d:=d) (by simp[ah.app,put,aP,aI,ai]) hc.2 (by simp[ah.app,put,aP,cm,ai]);refine⟨β',cP, ?_⟩;simp only[ah.app,put,aP,cm,aI]at jh⊢;rw[Cw,Cw]at jh;exact jh};·cases h2};·simp only[GT]at h2;subst h2;exact F1 h ho hb h1 hd hn
end
end Go.Ab
