import Derived.Test.YtbhpblokoecoaaaAbOps6
import Derived.Deep.AppendSrc
namespace Go.Ab
open Go
section
variable{C:aV}{E:Env}{w:World}{S:an}{a:Act}{β:Id→Option Loc}{F:Id→List Nat}
variable{next:Act→World→Prop}{Q:Exit→Act→World→Prop}
theorem aY.RS(h:aY C E w S a β F)(t:Nat){x:aa}(hx:R w (aT E w F) β [] (a.tmps.getD t undef) x):aY C E w ⟨S.n,aE S.t t x,S.h⟩ a β F:=by refine h.step (fun _=>False) h.n (Nat.le_refl _) rfl rfl (fun _=>rfl) (fun _ _ _=>rfl) (fun _ _ h=>h) (fun id b hb=> .inl ⟨id,hb⟩) (fun _ _=>⟨rfl,rfl⟩) (fun _ _ h=>h.elim) (fun _ h=>h.elim) (fun _ h=>h.elim) (fun _ _ _ h=>h.elim) h.dom ?_;intro _ u;by_cases hu:u=t;·{subst hu;exact .inr (by simpa[aE]using hx)};·exact .inl ⟨rfl,by simp[aE,hu]⟩
theorem adn(h:aY C E w S a β F){o:Oper}{f:FuncId}{t:TypeId}{ao x:Operand}(ho:o.op= .store t ao x){e:bx}(he:nJ C f S true o t ao (un true (S.get C ao)) (un true (S.get C x))=some e)(hd:cI S e)(hn:∀a' w',bP C E (S.app e) a' w'→next a' w'):o.wp C.P a w next Q:=by have ha:=h.dS ao;have hx:=h.dS x;generalize FD:un true (S.get C ao)=agK at*;generalize un true (S.get C x)=xv at*;unfold nJ at he;split at he;·{rename_i b n hb hs;split at he;·{rename_i id row off cs hcs;split at he;·{cases he};·rename_i I4;have I4:cs.length=n:=by{simpa using I4};split at he;·{rename_i rows hid;simp only[Option.bind_eq_some_iff]at he;obtain⟨r,hr,he⟩:=he;split at he;·{rename_i hfit;obtain⟨_,gV,p,sz,m,bF,hv⟩:=ha.oS;obtain⟨us,uF,nX,rf⟩:=Fb hx hcs;have JP:=nX.length;obtain⟨w',hrun,hS,hfz⟩:=h.stored hid bF hr hfit I4 nX rf;have hst:(execOp a.eval o).run C.P w= .ok .skip w':=by{simp only[execOp,ho];refine RH ?_;have hsz:(a.eval x).cells.size=n:=by{rw[uF];simp;omega};simp only[Instr.storeAt,hv,Instr.sureAddr];rw[Sem.run_bind,Sem.run_pure,Result.andThen_ok];unfold storeVar;rw[Sem.run_bind,ob hs,Result.andThen_ok];simp only[hsz,ne_eq,not_true_eq_false,if_false];rw[uF];exact hrun};split at he;·{rename_i iZ sJ;split at he;·{rename_i iP;simp only[Bool.and_eq_true,decide_eq_true_eq]at iP;obtain⟨⟨⟨⟨⟨⟨c1,c2⟩,c3⟩,gW⟩,HV⟩,_⟩,Ws⟩:=iP;simp at he;subst he;have bS:o.dst=none:=by{simpa using Ws};rcases hfz ([]:Rows)with hfz|hfz;·{obtain⟨F',kn,hI,b8,hl⟩:=hfz c3 gW c1 c2;refine Ln hst (hn _ _ ⟨β,F', ?_⟩);have hao:ao= .tmp iZ:=by{unfold v7 at sJ;split at sJ;·{split at sJ;·{simp at sJ;rw[sJ]};·cases sJ};·cases sJ};have aat:a.tmps.getD iZ undef= .pointer (some ⟨gV,p+row*sz+off,none⟩):=by{rw[←hv,hao];rfl};have:=kn.RS iZ (x:= .au (jJ cs)) (by rw[aat];exact .au hI b8 (aJ.mP (aJ.nz hl) HV));simpa[an.app,dO,bL,Act.put,bS]using this};·subst hfz;simp at hr};·cases he};·split at he;·{rename_i hdn;simp at he;subst he;have bS:o.dst=none:=by{simpa using hdn};obtain⟨F',kn⟩:=hS;refine Ln hst (hn _ _ ⟨β,F', ?_⟩);simpa[an.app,put,dO,Act.put,bS]using kn};·cases he};·cases he};·cases he};·cases he};·cases he
/-! ### append -/
theorem Rw(h:aY C E w S a β F){v:Value}{x:aa}{xs:Rows}{ids:List Id}{sz:Nat}(hx:R w (aT E w F) β [] v x)(hr:rowsOf S.h x=some (xs,ids))(hsz:∀r∈xs,r.length=sz):∃ba n cap vs f,v= .slice ba n cap∧n=xs.length∧aJ w (aT E w F) β f vs xs.flatten∧vs.length=n*sz∧(n=0∨∃b o,ba=some ⟨b,o,none⟩∧e4 w b o vs):=by unfold rowsOf at hr;split at hr;·{simp at hr;obtain⟨rfl,rfl⟩:=hr;rcases hx.Ee.2 with⟨ba,cap,rfl,hv⟩|⟨b,o,sz',cap,vs,_,_,b8,hl,_,hv⟩;·{exact⟨ba,0,cap,[],[],hv,rfl, .nil,by simp, .inl rfl⟩};·exact⟨_,_,cap,vs,[],hv,rfl,R.up hl,by rw[hl.length,kj hsz], .inr ⟨b,o,rfl,b8⟩⟩};·{simp at hr;obtain⟨rfl,rfl⟩:=hr;obtain⟨_,ba,hv⟩:=hx.xZ;exact⟨ba,0,0,[],[],hv,rfl, .nil,by simp, .inl rfl⟩};·{rename_i id off len;split at hr;·{rename_i rows hid;split at hr;·{rename_i hle;simp at hr;obtain⟨rfl,rfl⟩:=hr;rcases hx.mh.2 with⟨ba,l,rfl,hv,_⟩|⟨b,o,sz',m,cap,bF,hfit,hlc,hv⟩;·{exact⟨ba,0,0,[],[],hv,by simp,by simpa using R.nil,by simp, .inl rfl⟩};·rcases Nat.eq_zero_or_pos len with h0|h0;·{subst h0;exact⟨_,0,cap,[],[],hv,by simp,by simpa using R.nil,by simp, .inl rfl⟩};·obtain⟨vs,cH,fX,_,⟨hne,cw⟩,_,b8,hl⟩:=(h.obj id rows hid).at bF;have sI:sz'=sz:=by{have hlt:off<rows.length:=by{omega};have hm:rows[off]∈(rows.drop off).take len:=by{rw[List.mem_iff_getElem?];exact⟨0,by rw[List.getElem?_take_of_lt h0,List.getElem?_drop];simp⟩};have hm2:rows[off]∈rows:=List.getElem_mem hlt;rw[←cw _ hm2,hsz _ hm]};subst sI;have hfl:=kj cw;have e1:((rows.drop off).take len).flatten=(rows.flatten.drop (off*sz')).take (len*sz'):=by{have:=Fq (l:=off) (r:=off+len) cw;rw[List.take_drop,this,List.take_drop,Nat.add_mul]};have Jz:off*sz'+len*sz'≤rows.flatten.length:=by{rw[hfl,←Nat.add_mul];exact Nat.mul_le_mul_right _ hle};obtain⟨f1,f2,f3,e0,_,h2,_⟩:=hl.kL (off*sz') (len*sz') Jz;rw[←e1]at h2;have hlen:=h2.length;refine⟨_,len,cap,_,f2,hv,by simp;omega,h2, ?_, .inr ⟨b,o+off*sz',rfl,(b8.drop _).take _⟩⟩;rw[hlen,kj hsz];congr 1;simp;omega};·cases hr};·cases hr};·cases hr
theorem afw{t e':TypeId}{sz n cap:Nat}{ba:Option Addr}{vs:List Value}(hk:C.P.underlying t=some (.slice e'))(hl:vs.length=n*sz)(hc:n=0∨∃b o,ba=some ⟨b,o,none⟩∧e4 w b o vs)(hp:∀u∈vs,oU u=true):Src C.P sz t (.slice ba n cap) n vs w:=by have h1:∀u∈vs,u.oneCell'=true:=fun u hu=>by{have:=hp u hu;cases u<;>simp_all[oU,Value.oneCell']};rcases hc with rfl|⟨b,o,rfl,b8⟩;·{have:vs=[]:=List.length_eq_zero_iff.1 (by simpa using hl);subst this;have hz:∀w':World,(Builtin.firstCells sz 0 (.slice ba 0 cap)).run C.P w'= .ok #[] w':=fun w'=>by{cases ba with|none=>(exact run_firstCells_none w' _ _ _ _)|some p=>simp[Builtin.firstCells,loadCells,loadCellsFrom]};exact⟨.inl ⟨e',hk⟩,fun _=>rfl,hz w,hz w.drew,by simp,h1⟩};·exact Src.ofSlice w hk ⟨b,o,none⟩ n cap vs hl (fun j u hj=>by rw[kT];exact b8 j u hj) h1
theorem Q4{I:Nat→Prop}{as:List aa}:∀{f:List Nat}{vs:List Value},aJ w I β f vs as→as.all aa.cell=true→f=[]∧∀u∈vs,oU u=true:=by induction as with|nil=>(intro f vs h _;obtain⟨rfl,rfl⟩:=h.gi;exact⟨rfl,fun u hu=>by cases hu⟩)|cons c as ih=>intro f vs h hc;simp only[List.all_cons,Bool.and_eq_true]at hc;obtain⟨f1,f2,v,vs',rfl,rfl,h1,h2⟩:=aJ.cons_inv h;obtain⟨e2,p2⟩:=ih h2 hc.2;refine⟨by rw[h1.Ce hc.1,e2];rfl,fun u hu=> ?_⟩;cases hu with|head=>(obtain⟨p1,p3,_⟩:=h1.plain hc.1;cases v<;>simp_all[oU])|tail _ hm=>exact p2 u hm
theorem Rt{rows:Rows}(h:o4 rows=true):rows.flatten.all aa.cell=true:=by rw[List.all_eq_true];intro c hc;obtain⟨r,hr,hm⟩:=List.mem_flatten.1 hc;exact List.all_eq_true.1 (List.all_eq_true.1 h r hr) c hm
theorem Ye{w:World}(c:Array Value)(e:TypeId)(x:Addr):(w.alloc (.cells c e)).frozen? x=w.frozen? x:=by have hnew:(w.alloc (.cells c e)).heap[w.heap.size]? =some (.cells c e):=heap_alloc_new _ _;by_cases hx:x.block=w.heap.size;·{have e2:w.heap[x.block]? =none:=by{rw[hx];simp};simp only[World.frozen?,hx,hnew];simp};·rw[World.frozen?_alloc_old _ _ _ hx]
theorem aY.Gi(h:aY C E w S a β F){o:Oper}{d:Nat}(bS:o.dst=some d){kill:Id}(hfresh:S.h [d]=none)(Jx:kill=[d]∨∃rows,S.h kill=some (some rows)){w':World}{h':Id→Option (Option Rows)}{bZ:Rows}{G:List Nat}{l:Loc}{v:Value}{x:aa}(kr:h' [d]=some (some bZ))(k5:∀i,i≠[d]→i≠kill→h' i=S.h i)(pZ:kill≠[d]→h' kill=some none)(hsz:w.heap.size≤w'.heap.size)(hos:w'.os=w.os)(hout:w'.output=w.output)(uu:∀y,w'.frozen? y=w.frozen? y)(hw:∀b,b<w.heap.size→b∉F kill→w'.heap[b]? =w.heap[b]?)(fk:∀b n,fK w b n→fK w' b n)(ez:G.Nodup)(Od:∀b∈G,b∈F kill∨(w.heap.size≤b∧b<w'.heap.size))(Y6:∀(I':Nat→Prop)(β':Id→Option Loc),(∀b,aT E w F b→I' b)→(∀i l,β i=some l→β' i=some l)→β' [d]=some l→fy w' I' β' [d] bZ G)(hx:∀(I':Nat→Prop)(β':Id→Option Loc),β' [d]=some l→R w' I' β' [] v x)(hd:d<S.n):bP C E ⟨S.n,aE S.t d x,h'⟩ (a.put o.dst v) w':=by have C3:β [d]=none:=h.dom _ hfresh;have qW:F [d]=[]:=h.dead _ (by rw[hfresh];simp);let F':Id→List Nat:=fun i=>if i=[d]then G else if i=kill then[]else F i;have Fz:F' [d]=G:=by{simp[F']};have Cn:kill≠[d]→F' kill=[]:=fun hk=>by{simp[F',hk]};have IP:∀i,i≠[d]→i≠kill→F' i=F i:=fun i h1 h2=>by{simp[F',h1,h2]};have bF:∀i l',β i=some l'→aE β [d] (some l) i=some l':=fun i l' hl=>by{by_cases hi:i=[d];·{subst hi;rw[C3]at hl;cases hl};·simpa[aE,hi]using hl};refine⟨aE β [d] (some l),F', ?_⟩;refine h.step (fun i=>i=[d]∨i=kill) (by rw[u5];exact h.n) hsz hos hout uu (fun b hb hk=>hw b hb (hk kill (.inr rfl))) bF ?_ ?_ ?_ ?_ ?_ ?_ ?_ ?_ (fk:=fk);·{intro i b hb;by_cases h1:i=[d];·{subst h1;rw[Fz]at hb;rcases Od b hb with hm|hm;·{exact .inl ⟨kill,hm⟩};·exact .inr hm};·by_cases h2:i=kill;·{subst h2;rw[Cn h1]at hb;cases hb};·rw[IP i h1 h2]at hb;exact .inl ⟨i,hb⟩};·{intro i hi;have h1:i≠[d]:=fun e=>hi (.inl e);have h2:i≠kill:=fun e=>hi (.inr e);exact⟨IP i h1 h2,k5 i h1 h2⟩};·{intro hI i hi fJ hr;by_cases h1:i=[d];·{subst h1;have hr':h' [d]=some (some fJ):=hr;rw[kr]at hr';simp at hr';subst hr';rw[Fz];exact Y6 _ _ hI bF (by simp[aE])};·have h2:i=kill:=hi.resolve_left h1;subst h2;have hr':h' i=some (some fJ):=hr;rw[pZ h1]at hr';simp at hr'};·{intro i hi hno;by_cases h1:i=[d];·{subst h1;exact absurd kr (hno _)};·have h2:i=kill:=hi.resolve_left h1;subst h2;exact Cn h1};·{intro i hi;by_cases h1:i=[d];·{subst h1;rw[Fz];exact ez};·have h2:i=kill:=hi.resolve_left h1;subst h2;rw[Cn h1];exact List.nodup_nil};·{intro i j b hi hM k3;have aux:∀j,j≠[d]→b∈F' j→b∈G→False:=fun j hj k3 Zi=>by{by_cases h2:j=kill;·{subst h2;rw[Cn hj]at k3;cases k3};·rw[IP j hj h2]at k3;rcases Od b Zi with hm|hm;·{exact h2 (h.ej j kill b k3 hm)};·have:=(h.lt j b k3).1;omega};by_cases h1:i=[d];·{subst h1;by_cases h2:j=[d];·{exact h2.symm};·rw[Fz]at hM;exact(aux j h2 k3 hM).elim};·have h2:i=kill:=hi.resolve_left h1;subst h2;rw[Cn h1]at hM;cases hM};·{intro i hi;have hi':h' i=none:=hi;by_cases h1:i=[d];·{subst h1;rw[kr]at hi';cases hi'};·by_cases h2:i=kill;·{subst h2;rw[pZ h1]at hi';cases hi'};·rw[k5 i h1 h2]at hi';simp[aE,h1,h.dom i hi']};·intro _ u;rw[bS,u0 a d u v (by rw[h.n];exact hd)];by_cases hu:u=d;·{subst hu;rw[if_pos rfl];exact .inr (by simpa[aE]using hx _ (aE β [u] (some l)) (by simp[aE]))};·rw[if_neg hu];exact .inl ⟨rfl,by simp[aE,hu]⟩
theorem aY.drew(h:aY C E w S a β F):aY C E w.drew S a β F:=h.step (fun _=>False) h.n (Nat.le_refl _) rfl rfl (fun _=>rfl) (fun _ _ _=>rfl) (fun _ _ h=>h) (fun id b hb=> .inl ⟨id,hb⟩) (fun _ _=>⟨rfl,rfl⟩) (fun _ _ h=>h.elim) (fun _ h=>h.elim) (fun _ h=>h.elim) (fun _ _ _ h=>h.elim) h.dom (fun _ _=> .inl ⟨rfl,rfl⟩)
structure vu (P : Program) (w : World) (t t2 ty el : TypeId) (i : TypeInfo) (cG : Value) (yv : Value) (dN : Nat) (vy : List Value) : Prop where
  idle : dN = 0 → ∀ fF, (Builtin.append_ #[t, t2] ty #[.slice fF 0 0, yv]).run P w = .ok (.slice fF 0 0) w
  room : ∀ b p len cap w', len + dN ≤ cap → (storeCells ⟨b, p + len * i.size, none⟩ vy).run P w = .ok () w' → (Builtin.append_ #[t, t2] ty #[.slice (some ⟨b, p, none⟩) len cap, yv]).run P w = .ok (.slice (some ⟨b, p, none⟩) (len + dN) cap) w'
  grow : ∀ (fF : Option Addr) (n cap : Nat) (vs : List Value), (Builtin.firstCells i.size n (.slice fF n cap)).run P w.drew = .ok vs.toArray w.drew → cap < n + dN → ((n + dN : Nat) : Int) ≤ 9223372036854775807 → Builtin.nextslicecap (n + dN) cap * i.bytes ≤ 281474976710656 →
    (Builtin.append_ #[t, t2] ty #[.slice fF n cap, yv]).run P w = .ok (.slice (some ⟨w.heap.size, 0, none⟩) (n + dN) (grownCap w (n + dN) cap el)) (w.drew.alloc (.cells ((vs ++ vy).toArray ++ Builtin.zeroCells cG.cells (grownCap w (n + dN) cap el - (n + dN))) el))
theorem Ml (h : aY C E w S a β F) {o : Oper} {t t2 el : TypeId} {d : Nat} {i : TypeInfo} {cG yv : Value} {x : Operand} {xv : aa} {xs ys : Rows} {i1 i2 : List Id} {vy : List Value} {dN : Nat} {e : bx}
    (bS : o.dst = some d) (uG : cG.cells.size = i.size) (hby : i.bytes ≤ 4096) (CI : xs.length + ys.length ≤ mW) (hfr : (S.h [d]).isNone = true) (wW : ∀ r ∈ ys, r.length = i.size)
    (hx : R w (aT E w F) β [] (a.eval x) xv) (wU : rowsOf S.h xv = some (xs, i1)) (zz : dN = ys.length) (q8 : aJ w (aT E w F) β [] vy ys.flatten) (wT : vy.length = dN * i.size) (zA : ∀ u ∈ vy, oU u = true)
    (oH : ∀ {v : Value} {w' : World}, (Builtin.append_ #[t, t2] o.type #[a.eval x, yv]).run C.P w = .ok v w' → (execOp a.eval o).run C.P w = .ok (.value v) w') (uk : vu C.P w t t2 o.type el i cG yv dN vy)
    (he : kU S o d i.size xv xs ys i1 i2 = some e) (hd : cI S e) (hn : ∀ a' w', bP C E (S.app e) a' w' → next a' w') : o.wp C.P a w next Q := by
  unfold kU at he
  have grow : ∀ (kill : Id) (h' : Id → Option (Option Rows)) (fF : Option Addr) (n cap : Nat) (vs : List Value) (f : List Nat), a.eval x = .slice fF n cap → n = xs.length → cap < n + dN → vs.length = n * i.size → (n = 0 ∨ ∃ b o, fF = some ⟨b, o, none⟩ ∧ e4 w b o vs) →
      aJ w (aT E w F) β f vs xs.flatten → (∀ r ∈ xs, r.length = i.size) → f.Nodup → (∀ b ∈ f, b ∈ F kill) → (kill = [d] ∨ ∃ rows, S.h kill = some (some rows)) →
      h' [d] = some (some (xs ++ ys)) → (∀ j, j ≠ [d] → j ≠ kill → h' j = S.h j) → (kill ≠ [d] → h' kill = some none) → e = { ec := [(d, .rs [d] 0 (xs.length + ys.length))], rd := i1 ++ i2, wr := e.wr } → (S.app e).h = h' → o.wp C.P a w next Q := by
    intro kill h' fF n cap vs f hv hn' hgrow hvl b8 hl CZ hfn FK hk kr k5 pZ hee Jh
    have hold : (Builtin.firstCells i.size n (.slice fF n cap)).run C.P w.drew = .ok vs.toArray w.drew := by
      rcases b8 with h0 | ⟨b', o', rfl, b8⟩
      · subst h0
        have : vs = [] := List.length_eq_zero_iff.1 (by simpa using hvl)
        subst this
        cases fF with
        | none => exact run_firstCells_none w.drew _ _ _ _
        | some p => simp [Builtin.firstCells, loadCells, loadCellsFrom]
      · exact run_firstCells_some w.drew i.size n ⟨b', o', none⟩ n cap vs hvl (fun j u hj => by rw [kT]; exact b8 j u hj)
    have zx : n + dN ≤ 4294967296 := by unfold mW at CI; omega
    have eS : (n + dN) * i.bytes ≤ 140737488355328 := Nat.le_trans (Nat.mul_le_mul zx hby) (by decide)
    have hrun := (congrArg (fun z => (Builtin.append_ #[t, t2] o.type #[z, yv]).run C.P w) hv).trans (uk.grow fF n cap vs hold hgrow (by omega) (growslice_fits hgrow eS))
    refine jN (oH hrun) (hn _ _ ?_)
    generalize FE : (vs ++ vy).toArray ++ Builtin.zeroCells cG.cells (grownCap w (n + dN) cap el - (n + dN)) = ou
    have hcap : n + dN ≤ grownCap w (n + dN) cap el := by unfold grownCap Question.cut; simp
    have IV := h.drew
    have hlen : (vs ++ vy).length = (n + dN) * i.size := by rw [List.length_append, hvl, wT, Nat.add_mul]
    have IN : ou.size = (n + dN) * i.size + (grownCap w (n + dN) cap el - (n + dN)) * cG.cells.size := by
      rw [← FE, Array.size_append, List.size_toArray, hlen]; simp [Builtin.zeroCells]
    have hne : xs ++ ys ≠ [] := fun e0 => by
      have h0 := congrArg List.length e0
      rw [List.length_append] at h0
      simp only [List.length_nil] at h0
      omega
    have hall : ∀ r ∈ xs ++ ys, r.length = i.size := fun r hr => (List.mem_append.1 hr).elim (CZ r) (wW r)
    have hnew : (w.drew.alloc (.cells ou el)).heap[w.heap.size]? = some (.cells ou el) := heap_alloc_new _ _
    have hold' : ∀ b, b < w.heap.size → (w.drew.alloc (.cells ou el)).heap[b]? = w.heap[b]? := fun b hb => heap_alloc_old _ _ _ hb
    have hmul : (n + dN) * i.size + (grownCap w (n + dN) cap el - (n + dN)) * i.size = grownCap w (n + dN) cap el * i.size := by rw [← Nat.add_mul]; congr 1; omega
    rw [uG, hmul] at IN
    have CK := h.Gi (w' := w.drew.alloc (.cells ou el)) (h' := h') (bZ := xs ++ ys) (G := w.heap.size :: f) (l := .cT w.heap.size 0 i.size ou.size)
      (v := .slice (some ⟨w.heap.size, 0, none⟩) (n + dN) (grownCap w (n + dN) cap el)) (x := .rs [d] 0 (xs.length + ys.length)) bS (mE hfr) hk kr k5 pZ (by simp) rfl rfl (fun y => by rw [Ye]; rfl)
      (fun b hb _ => hold' b hb) (vJ hold') (List.nodup_cons.2 ⟨fun hm => by
        rcases hk with hk | ⟨rows, hk⟩
        · have := FK _ hm
          rw [hk, h.dead [d] (by rw [mE hfr]; simp)] at this; cases this
        · exact absurd (h.lt kill _ (FK _ hm)).1 (Nat.lt_irrefl _), hfn⟩) (fun b hb => by
        cases hb with
        | head => exact .inr ⟨Nat.le_refl _, by simp⟩
        | tail _ hm => exact .inl (FK b hm)) (fun I' β' hI bF hd' => .inr (.inr ⟨w.heap.size, 0, i.size, ou.size, vs ++ vy, f, hd', rfl, ⟨ou, el, hnew, rfl⟩, ⟨hne, hall⟩, by rw [IN, Nat.zero_add]; exact Nat.mul_le_mul_right _ (by rw [List.length_append]; omega), ?_, ?_⟩)) ?_ ?_
    · have e1 : S.app e = ⟨S.n, aE S.t d (.rs [d] 0 (xs.length + ys.length)), h'⟩ := by
        rw [← Jh, hee]; rfl
      rw [e1]; exact CK
    · intro k u hu
      rw [Nat.zero_add, cell_of_row _ _ _ ou el (0, 0) hnew, ← FE]
      have hlt : k < (vs ++ vy).length := by
        rcases Nat.lt_or_ge k (vs ++ vy).length with h' | h'
        · exact h'
        · rw [List.getElem?_eq_none h'] at hu; cases hu
      rw [Array.getElem?_append_left (by simpa using hlt)]
      simpa using hu
    · rw [List.flatten_append]
      have l1 := hl.mono (w' := w.drew.alloc (.cells ou el)) (β' := β') hI (fun b hb => hold' b (hb.elim (fun hb => hb.2.1) fun hb => by
        have hm := FK b hb
        rcases hk with hk | ⟨rows, hk⟩
        · rw [hk, h.dead [d] (by rw [mE hfr]; simp)] at hm; cases hm
        · exact (h.lt kill b hm).1)) bF
      have l2 := q8.mono (w' := w.drew.alloc (.cells ou el)) (β' := β') hI (fun b hb => hold' b (hb.elim (fun hb => hb.2.1) fun hb => by cases hb)) bF
      have := aJ.append l1 l2
      rwa [List.append_nil] at this
    · intro I' β' hd'
      have := R.rs (w := w.drew.alloc (.cells ou el)) (I := I') (off := 0) (len := n + dN) (cap := grownCap w (n + dN) cap el) hd' (by rw [IN]; simp) hcap
      rw [show xs.length + ys.length = n + dN by omega]
      simpa using this
    · have : cI S e := hd
      rw [hee] at this
      simpa [cI] using this
  have idle : ∀ (kill : Id) (h' : Id → Option (Option Rows)) (fF : Option Addr), a.eval x = .slice fF 0 0 → xs = [] → ys = [] → (kill = [d] ∨ ∃ rows, S.h kill = some (some rows)) →
      h' [d] = some (some (xs ++ ys)) → (∀ j, j ≠ [d] → j ≠ kill → h' j = S.h j) → (kill ≠ [d] → h' kill = some none) → e = { ec := [(d, .rs [d] 0 (xs.length + ys.length))], rd := i1 ++ i2, wr := e.wr } → (S.app e).h = h' → o.wp C.P a w next Q := by
    intro kill h' fF hv hx0 hy0 hk kr k5 pZ hee Jh
    subst hx0 hy0
    have hn0 : dN = 0 := by simpa using zz
    have hrun : (Builtin.append_ #[t, t2] o.type #[a.eval x, yv]).run C.P w = .ok (.slice fF 0 0) w := by rw [hv]; exact uk.idle hn0 fF
    refine jN (oH hrun) (hn _ _ ?_)
    have CK := h.Gi (w' := w) (h' := h') (bZ := []) (G := []) (l := .nil) (v := .slice fF 0 0) (x := .rs [d] 0 0) bS (mE hfr) hk kr k5 pZ (Nat.le_refl _) rfl rfl (fun _ => rfl) (fun _ _ _ => rfl) (fun _ _ h => h)
      List.nodup_nil (fun b hb => by cases hb) (fun I' β' _ _ hd' => .inl ⟨hd', rfl, rfl⟩) (fun I' β' hd' => .jx hd' rfl) (by
        have : cI S e := hd
        rw [hee] at this
        simpa [cI] using this)
    have e1 : S.app e = ⟨S.n, aE S.t d (.rs [d] 0 0), h'⟩ := by
      rw [← Jh, hee]; rfl
    rw [e1]; exact CK
  split at he
  · rename_i id off len
    split at he
    · rename_i rows hid
      split at he
      · rename_i gY
        simp only [Bool.and_eq_true, Bool.or_eq_true, decide_eq_true_eq] at gY
        obtain ⟨⟨cw, hoff⟩, Cz⟩ := gY
        have cw := vD cw
        subst hoff
        simp at he
        have aae : [d] ≠ id := fun e0 => by rw [← e0, mE hfr] at hid; cases hid
        have kr : (S.app e).h [d] = some (some (xs ++ ys)) := by rw [← he]; simp [an.app, put, bS, bL, aE, aae]
        have k5 : ∀ j, j ≠ [d] → j ≠ id → (S.app e).h j = S.h j := fun j h1 h2 => by rw [← he]; simp [an.app, put, bS, bL, aE, h1, h2]
        have pZ : id ≠ [d] → (S.app e).h id = some none := fun _ => by rw [← he]; simp [an.app, put, bS, bL, aE]
        have hee : e = { ec := [(d, .rs [d] 0 (xs.length + ys.length))], rd := i1 ++ i2, wr := e.wr } := by rw [← he]; simp [put, bS]
        have CY := wU
        simp only [rowsOf, hid] at CY
        split at CY
        · rename_i hle
          simp only [List.drop_zero, Option.some.injEq, Prod.mk.injEq] at CY
          obtain ⟨hxs, _⟩ := CY
          have CZ : ∀ r ∈ xs, r.length = i.size := fun r hr => cw r (by rw [← hxs] at hr; exact List.mem_of_mem_take hr)
          have aaS : xs.length = len := by rw [← hxs]; simp; omega
          rcases hx.mh.2 with ⟨fF, l, l7, hv, _⟩ | ⟨b, p, sz', m, cap, bF, hfit, hlc, hv⟩
          · have JR : xs = [] := List.length_eq_zero_iff.1 (by omega)
            by_cases hy0 : ys = []
            · exact idle id _ fF hv JR hy0 (.inr ⟨rows, hid⟩) kr k5 pZ hee rfl
            · have : 0 < ys.length := List.length_pos_iff.2 hy0
              exact grow id _ fF 0 0 [] [] hv (by rw [JR]; rfl) (by omega) (by simp) (.inl rfl) (by rw [JR]; exact .nil) CZ List.nodup_nil (fun b hb => by cases hb) (.inr ⟨rows, hid⟩) kr k5 pZ hee rfl
          · obtain ⟨vs, cH, fX, hB, ⟨hne, p7⟩, aaE, b8, hl⟩ := (h.obj id rows hid).at bF
            have sI : sz' = i.size := by
              obtain ⟨e8, uB⟩ := List.exists_mem_of_ne_nil _ hne
              rw [← p7 e8 uB, cw e8 uB]
            subst sI
            have hfl := kj cw
            have Jz : len * i.size ≤ rows.flatten.length := by rw [hfl]; exact Nat.mul_le_mul_right _ (by omega)
            obtain ⟨f1, f2, f3, e0, _, l2, _⟩ := hl.kL 0 (len * i.size) (by omega)
            simp only [List.drop_zero] at l2
            have exs : xs.flatten = rows.flatten.take (len * i.size) := by
              have := Fq (l := 0) (r := len) cw
              simpa [hxs] using this
            rw [← exs] at l2
            have cD := h.nd id
            rw [fX, e0] at cD
            have mO := (List.nodup_cons.1 cD).2
            have mH := (List.nodup_cons.1 cD).1
            have zm : f2.Nodup := (List.nodup_append.1 (List.nodup_append.1 mO).2.1).1
            have Ov : ∀ b' ∈ f2, b' ∈ F id := fun b' hb' => by
              rw [fX, e0]
              exact List.mem_cons_of_mem _ (List.mem_append.2 (.inr (List.mem_append.2 (.inl hb'))))
            have CW : (vs.take (len * i.size)).length = len * i.size := by rw [l2.length, exs, List.length_take, Nat.min_eq_left Jz]
            simp only [Nat.zero_mul, Nat.add_zero, Nat.zero_add] at hfit hv
            rcases Nat.lt_or_ge cap (len + dN) with hg | hg
            · exact grow id _ _ len cap (vs.take (len * i.size)) f2 hv aaS.symm hg CW (.inr ⟨b, p, rfl, b8.take _⟩) l2 CZ zm Ov (.inr ⟨rows, hid⟩) kr k5 pZ hee rfl
            ·
              obtain ⟨qK, ce, q2, I3⟩ := hB
              have Cv := kF q2
              have hroom : p + len * i.size + vy.length ≤ qK.size := by
                rw [wT, I3, Nat.add_assoc, ← Nat.add_mul]
                exact Nat.le_trans (Nat.add_le_add_left (Nat.mul_le_mul_right _ hg) _) hfit
              have hst := RG C.P b (p + len * i.size) ce vy 0 w qK q2 (by omega) zA
              rw [Nat.add_zero] at hst
              generalize p8 : iG w b (.cells (over qK (p + len * i.size) vy) ce (0, 0)) = w' at hst
              have k6 : ∀ k, w'.heap[k]? = if k = b then some (.cells (over qK (p + len * i.size) vy) ce (0, 0)) else w.heap[k]? := fun k => by rw [← p8]; exact AW Cv k
              have hnew : w'.heap[b]? = some (.cells (over qK (p + len * i.size) vy) ce (0, 0)) := by rw [k6, if_pos rfl]
              have hrun : (Builtin.append_ #[t, t2] o.type #[a.eval x, yv]).run C.P w = .ok (.slice (some ⟨b, p, none⟩) (len + dN) cap) w' := by rw [hv]; exact uk.room b p len cap w' hg hst
              refine jN (oH hrun) (hn _ _ ?_)
              by_cases OR : xs ++ ys = []
              · rw [OR] at Cz
                simp at Cz
                exact absurd Cz hne
              have CK := h.Gi (w' := w') (h' := (S.app e).h) (bZ := xs ++ ys) (G := b :: f2) (l := .cT b p i.size m)
                (v := .slice (some ⟨b, p, none⟩) (len + dN) cap) (x := .rs [d] 0 (xs.length + ys.length)) bS (mE hfr) (.inr ⟨rows, hid⟩) kr k5 pZ (by rw [← p8]; simp [iG]) (by rw [← p8]; rfl) (by rw [← p8]; rfl)
                (fun y => by
                  simp only [World.frozen?, k6]
                  by_cases hy : y.block = b
                  · rw [if_pos hy, hy, q2]
                  · rw [if_neg hy])
                (fun b' _ hb' => by rw [k6, if_neg (fun e1 => hb' (by rw [fX, e1]; exact List.mem_cons_self ..))])
                (fun k n hB => by
                  by_cases hk : k = b
                  · subst hk
                    obtain ⟨c2, e2, gY, hn2⟩ := hB
                    rw [q2] at gY
                    simp only [Option.some.injEq, Obj.cells.injEq] at gY
                    obtain ⟨rfl, _⟩ := gY
                    exact ⟨_, _, hnew, by rw [Gz _ _ _ hroom]; exact hn2⟩
                  · exact hB.mono (by rw [k6, if_neg hk]))
                (List.nodup_cons.2 ⟨fun hm => mH (List.mem_append.2 (.inr (List.mem_append.2 (.inl hm)))), zm⟩)
                (fun b' hb' => .inl (by
                  cases hb' with
                  | head => rw [fX]; exact List.mem_cons_self ..
                  | tail _ hm => exact Ov b' hm))
                (fun I' β' hI iA hd' => .inr (.inr ⟨b, p, i.size, m, vs.take (len * i.size) ++ vy, f2, hd', rfl, ⟨_, _, hnew, by rw [Gz _ _ _ hroom]; exact I3⟩, ⟨OR, fun r hr => (List.mem_append.1 hr).elim (CZ r) (wW r)⟩, ?_, ?_, ?_⟩)) ?_ ?_
              · have e1 : S.app e = ⟨S.n, aE S.t d (.rs [d] 0 (xs.length + ys.length)), (S.app e).h⟩ := by
                  conv => lhs; rw [hee]
                  rfl
                rw [e1]; exact CK
              · rw [List.length_append]
                exact Nat.le_trans (Nat.add_le_add_left (Nat.mul_le_mul_right _ (by omega)) _) hfit
              · intro k u hu
                rw [cell_of_row _ _ _ _ _ _ hnew, xp _ _ _ _ hroom]
                by_cases h1 : k < len * i.size
                · rw [if_neg (by omega)]
                  rw [List.getElem?_append_left (by omega), List.getElem?_take_of_lt h1] at hu
                  have := b8 k u hu
                  rwa [cell_of_row _ _ _ _ _ _ q2] at this
                · rw [List.getElem?_append_right (by omega), CW] at hu
                  have hk2 : k - len * i.size < vy.length := by
                    rcases Nat.lt_or_ge (k - len * i.size) vy.length with h' | h'
                    · exact h'
                    · rw [List.getElem?_eq_none h'] at hu; cases hu
                  rw [if_pos (by omega), show p + k - (p + len * i.size) = k - len * i.size by omega]
                  exact hu
              · rw [List.flatten_append]
                have hk2 : ∀ b', aT E w F b' ∨ b' ∈ f2 → w'.heap[b']? = w.heap[b']? := fun b' hb' => by
                  rw [k6, if_neg]
                  intro e1; subst e1
                  rcases hb' with hb' | hb'
                  · exact hb'.2.2 id (by rw [fX]; exact List.mem_cons_self ..)
                  · exact mH (List.mem_append.2 (.inr (List.mem_append.2 (.inl hb'))))
                have lf := l2.mono (w' := w') (β' := β') hI hk2 iA
                have PJ := q8.mono (w' := w') (β' := β') hI (fun b' hb' => hk2 b' (hb'.elim .inl fun hb' => by cases hb')) iA
                have := aJ.append lf PJ
                rwa [List.append_nil] at this
              · intro I' β' hd'
                have := R.rs (w := w') (I := I') (off := 0) (len := xs.length + ys.length) (cap := cap) hd' (by simpa using hfit) (by omega)
                rw [show len + dN = xs.length + ys.length by omega]
                simpa using this
              · have : cI S e := hd
                rw [hee] at this
                simpa [cI] using this
        · cases CY
      · cases he
    · cases he
  · simp at he
    obtain ⟨_, fF, hv⟩ := hx.xZ
    simp [rowsOf] at wU
    obtain ⟨rfl, rfl⟩ := wU
    have kr : (S.app e).h [d] = some (some ([] ++ ys)) := by rw [← he]; simp [an.app, put, bS, bL, aE]
    have k5 : ∀ j, j ≠ [d] → j ≠ [d] → (S.app e).h j = S.h j := fun j h1 _ => by rw [← he]; simp [an.app, put, bS, bL, aE, h1]
    have hee : e = { ec := [(d, .rs [d] 0 (([] : Rows).length + ys.length))], rd := [] ++ i2, wr := e.wr } := by rw [← he]; simp [put, bS]
    by_cases hy0 : ys = []
    · exact idle [d] _ fF hv rfl hy0 (.inl rfl) kr k5 (fun h => absurd rfl h) hee rfl
    · have : 0 < ys.length := List.length_pos_iff.2 hy0
      exact grow [d] _ fF 0 0 [] [] hv rfl (by omega) (by simp) (.inl rfl) .nil (fun r hr => by cases hr) List.nodup_nil (fun b hb => by cases hb) (.inl rfl) kr k5 (fun h => absurd rfl h) hee rfl
  · cases he
theorem vu.acH {t t2 ty el : TypeId} {i : TypeInfo} {cG yv : Value} {dN : Nat} {vy : List Value} (hu : C.P.underlying t = some (.slice el)) (hi : C.P.info? el = some i) (jI : i.zero = some cG) (hsrc : Src C.P i.size t2 yv dN vy w) : vu C.P w t t2 ty el i cG yv dN vy where
  idle := fun hn fF => by
    subst hn
    have aaM : vy = [] := List.length_eq_zero_iff.1 (by simpa using hsrc.newsLen)
    subst aaM
    rcases hsrc.kind with ⟨e', hk'⟩ | hk' <;>
      (cases fF <;> simp [Builtin.append_, eK hu, eK (C := C) hk', sizeOf, typeInfo, hi, hsrc.len, hsrc.cells, storeCells])
  room := fun b p len cap w' hg hst => by
    rcases hsrc.kind with ⟨e', hk'⟩ | hk' <;>
      simp [Builtin.append_, eK hu, eK (C := C) hk', sizeOf, typeInfo, hi, hsrc.len, hsrc.cells, hg, kT, hst]
  grow := fun fF n cap vs hold hg h63 hfit => run_append_grow_src (P := C.P) w t t2 ty el i cG hu hi jI fF n cap vs hold yv dN vy hsrc hg h63 hfit
theorem vu.agy{t t2 ty el:TypeId}{i:TypeInfo}{cG:Value}{k F6:IntKind}{N:Int}(hu:C.P.underlying t=some (.slice el))(hk:C.P.underlying t2=some (.int k))(hi:C.P.info? el=some i)(jI:i.zero=some cG)(uG:cG.cells.size=i.size)(h0:0<i.size)(hby:i.bytes≤4096)(bH:0≤N∧N≤4294967296):vu C.P w t t2 ty el i cG (.int F6 N) N.toNat (Builtin.zeroCells cG.cells N.toNat).toList:=by have hw1:IntKind.i64.wrap N=N:=IntWalk.i64_in N (by omega);have IY:¬(N*(i.bytes:Int)>2^48):=by{have:N*(i.bytes:Int)≤4294967296*4096:=Int.mul_le_mul (by omega) (by omega) (by omega) (by omega);omega};have l7:¬(N<0):=by{omega};have uk:∀w':World,(if N.toNat*i.size=0 then pure #[]else do pure (Builtin.zeroCells (←zeroValue el).cells N.toNat):Sem (Array Value)).run C.P w'= .ok (Builtin.zeroCells cG.cells N.toNat) w':=fun w'=>by{by_cases hz:N.toNat*i.size=0;·{rw[if_pos hz];have:N.toNat=0:=by{rcases Nat.mul_eq_zero.1 hz with h|h;·{exact h};·omega};rw[this];simp[Builtin.zeroCells]};·rw[if_neg hz];simp[zeroValue,typeInfo,hi,jI]};have aiR:(underlying t2).run C.P w= .ok (.int k) w:=eK hk;refine⟨fun hn fF=> ?_,fun b p len cap w' hg hst=> ?_,fun fF n cap vs hold hg h63 hfit=> ?_⟩;·{have Cr:N=0:=by{omega};subst Cr;cases fF<;>simp[Builtin.append_,eK hu,eK (C:=C) hk,sizeOf,typeInfo,hi,asInt,asIntOf,storeCells,hw1,Builtin.zeroCells]};·{have qZ:¬(281474976710656<N*(i.bytes:Int)):=by{omega};by_cases hz:N.toNat*i.size=0;·{have hn0:N.toNat=0:=by{rcases Nat.mul_eq_zero.1 hz with h|h;·{exact h};·omega};rw[hn0]at hst hg;have aaB:w'=w:=by{simpa[Builtin.zeroCells,storeCells]using hst.symm};subst aaB;have Cr:N=0:=by{omega};subst Cr;simp[Builtin.append_,eK hu,eK (C:=C) hk,sizeOf,typeInfo,hi,asInt,asIntOf,hw1,storeCells];omega};·simp[Builtin.append_,eK hu,eK (C:=C) hk,sizeOf,typeInfo,zeroValue,hi,jI,asInt,asIntOf,hw1,l7,qZ,hg,hz,kT,hst]};·have hn:¬(n+N.toNat≤cap):=by{omega};have h63':¬(9223372036854775807<((n:Int)+(N.toNat:Int))):=by{omega};have N7:¬(281474976710656<Builtin.nextslicecap (n+N.toNat) cap*i.bytes):=by{omega};have qZ:¬(281474976710656<N*(i.bytes:Int)):=by{omega};have YI:¬(9223372036854775807<(n:Int)+max N 0):=by{omega};by_cases hz:N.toNat*i.size=0;·{have hn0:N.toNat=0:=by{rcases Nat.mul_eq_zero.1 hz with h|h;·{exact h};·omega};have Cr:N=0:=by{omega};subst Cr;have hn':¬(n≤cap):=by{simpa using hn};have YG:¬(281474976710656<Builtin.nextslicecap n cap*i.bytes):=by{simpa using N7};have YJ:¬(9223372036854775807<(n:Int)):=by{omega};simp[Builtin.append_,eK hu,eK (C:=C) hk,sizeOf,typeInfo,zeroValue,hi,jI,asInt,asIntOf,hw1,hn',Question.forced,hold,newRow,grownCap,Builtin.zeroCells,YG,YJ]};·simp[Builtin.append_,eK hu,eK (C:=C) hk,sizeOf,typeInfo,zeroValue,hi,jI,asInt,asIntOf,hw1,l7,qZ,hn,h63',YI,N7,Question.forced,hold,newRow,grownCap,hz];congr 2;apply Array.ext';simp[List.append_assoc]
theorem acO(h:aY C E w S a β F){o:Oper}{c:Call}(ho:o.op= .call c)(hb:c.callee= .builtin .append){xv yv:aa}{t:TypeId}{k:IntKind}(hargs:(c.args.toList.map fun x=>un true (S.get C x))=[xv,yv])(ht:c.argTypes[0]? =some t)(gv:(c.argTypes[1]?).bind C.P.underlying=some (.int k)){e:bx}(he:yJ C S o t xv yv=some e)(hd:cI S e)(hn:∀a' w',bP C E (S.app e) a' w'→next a' w'):o.wp C.P a w next Q:=by match Ct:c.args.toList,hargs with|[x,y],hargs=>simp at hargs;obtain⟨wV,C1⟩:=hargs;have hx:=h.dS x;have hy:=h.dS y;rw[wV]at hx;rw[C1]at hy;simp only[Option.bind_eq_some_iff]at gv;obtain⟨t2,CS,gv⟩:=gv;unfold yJ at he;split at he;·{rename_i el d N hu bS bH;obtain⟨F6,aaY⟩:=sq hy bH;split at he;·{rename_i i z xs i1 hi hz wU;split at he;·{rename_i iP;simp only[Bool.and_eq_true,decide_eq_true_eq]at iP;obtain⟨⟨⟨⟨⟨⟨⟨Y4,hzl⟩,O3⟩,hby⟩,FY⟩,CI⟩,JT⟩,hfr⟩:=iP;obtain⟨cG,jI,uG⟩:∃cG,i.zero=some cG∧cG.cells.size=i.size:=by{unfold ED at FY;split at FY;·{rename_i z wX;exact⟨z,wX,by simpa using FY⟩};·cases FY};have aa0:xm cG.cells.toList=some z:=by{unfold ym at hz;rw[hi]at hz;simp only[Option.bind_some,jI]at hz;exact hz};have rm:=Gu (w:=w) (I:=aT E w F) (β:=β) aa0;have sH:=Gc cG.cells N.toNat (by omega);have FE:(Builtin.zeroCells cG.cells N.toNat).toList=(List.replicate N.toNat cG.cells.toList).flatten:=sH;have q8:aJ w (aT E w F) β [] (Builtin.zeroCells cG.cells N.toNat).toList (List.replicate N.toNat z).flatten:=by{rw[FE];exact aJ.flatten rm _};have hrc:o4 (List.replicate N.toNat z)=true:=by{unfold o4;rw[List.all_eq_true];intro r hr;rw[(List.mem_replicate.1 hr).2];exact JT};obtain⟨_,zA⟩:=Q4 q8 (Rt hrc);refine Ml h bS uG hby (by simpa using CI) hfr (fun r hr=>by rw[(List.mem_replicate.1 hr).2];exact hzl) hx wU (dN:=N.toNat) (by simp) q8 (by simp[Builtin.zeroCells,uG]) zA (el:=el) (t:=t) (t2:=t2) (yv:=a.eval y) (fun hr=> ?_) ?_ he hd hn;·{rw[D0 ho hb];refine m4 ?_;have e1:c.args.map a.eval= #[a.eval x,a.eval y]:=by{rw[Di Ct];rfl};rw[e1];have e2:∀args,Builtin.append_ c.argTypes o.type args=Builtin.append_ #[t,t2] o.type args:=fun args=>by{unfold Builtin.append_;simp[ht,CS]};show(Builtin.append_ c.argTypes o.type #[a.eval x,a.eval y]).run C.P w=_;rw[e2];exact hr};·rw[aaY];exact vu.agy hu gv hi jI uG O3 hby Y4};·cases he};·cases he};·cases he
theorem KB(h:aY C E w S a β F){o:Oper}{c:Call}(ho:o.op= .call c)(hb:c.callee= .builtin .append){e:bx}(he:kZ C S o c.argTypes (c.args.toList.map fun x=>un true (S.get C x))=some e)(hd:cI S e)(hn:∀a' w',bP C E (S.app e) a' w'→next a' w'):o.wp C.P a w next Q:=by unfold kZ at he;split at he;·{rename_i xv yv t akr hargs ht gv;match Ct:c.args.toList,hargs with|[x,y],hargs=>simp at hargs;obtain⟨wV,C1⟩:=hargs;have hx:=h.dS x;have hy:=h.dS y;rw[wV]at hx;rw[C1]at hy;simp only[Option.bind_eq_some_iff]at gv;obtain⟨t2,CS,gv⟩:=gv;unfold yI at he;split at he;·{rename_i el d hu bS;split at he;·{rename_i i xs i1 ys i2 hi wU C0;split at he;·{rename_i iP;simp only[Bool.and_eq_true,decide_eq_true_eq]at iP;obtain⟨⟨⟨⟨⟨⟨wW,O3⟩,hby⟩,hz⟩,CI⟩,hrc⟩,hfr⟩:=iP;have wW:=vD wW;obtain⟨cG,jI,uG⟩:∃cG,i.zero=some cG∧cG.cells.size=i.size:=by{unfold ED at hz;split at hz;·{rename_i z wX;exact⟨z,wX,by simpa using hz⟩};·cases hz};obtain⟨Mr,dN,Fa,vy,Yk,wS,zz,q8,wT,FG⟩:=Rw h hy C0 wW;obtain⟨ZL,zA⟩:=Q4 q8 (Rt hrc);subst ZL;have hsrc:=afw (w:=w) (cap:=Fa) gv wT FG zA;have FW:∀{v:Value}{w':World},(Builtin.append_ c.argTypes o.type #[a.eval x,a.eval y]).run C.P w= .ok v w'→(execOp a.eval o).run C.P w= .ok (.value v) w':=fun hr=>by{rw[D0 ho hb];refine m4 ?_;have:c.args.map a.eval= #[a.eval x,a.eval y]:=by{rw[Di Ct];rfl};rw[this];exact hr};have uk:∀args,Builtin.append_ c.argTypes o.type args=Builtin.append_ #[t,t2] o.type args:=fun args=>by{unfold Builtin.append_;simp[ht,CS]};exact Ml h bS uG hby CI hfr wW hx wU zz q8 wT zA (el:=el) (t:=t) (t2:=t2) (yv:=a.eval y) (fun hr=>FW (by rw[uk];exact hr)) (vu.acH hu hi jI (by rw[wS];exact hsrc)) he hd hn};·cases he};·cases he};·cases he};·{rename_i xv yv t k hargs ht gv;exact acO h ho hb hargs ht gv he hd hn};·cases he
theorem JZ:∀{rows:Rows},g5 rows=true→dU rows.flatten=true|[],_=>rfl|r::rows,h=>by simp only[g5,List.all_cons,Bool.and_eq_true]at h;have ih:=JZ (rows:=rows) (by simpa[g5]using h.2);have:∀{a b:List aa},dU a=true→dU b=true→dU (a++b)=true:=by{intro a b ha hb;induction a with|nil=>(exact hb)|cons c a ih2=>simp only[dU,Bool.and_eq_true,List.cons_append]at ha⊢;exact⟨ha.1,ih2 ha.2⟩};simpa using this h.1 ih
theorem aY.freeze(h:aY C E w S a β F){id:Id}{rows:Rows}{d:Nat}(hid:S.h id=some (some rows))(hi:g5 rows=true)(hs:S.t d= .rs id 0 rows.length):∃F',aY C E w ⟨S.n,aE S.t d (.sl rows),aE S.h id (some none)⟩ a β F':=by have wO:=h.obj id rows hid;let F':Id→List Nat:=fun i=>if i=id then[]else F i;have hsub:∀i b,b∈F' i→b∈F i:=fun i b hb=>by{by_cases e:i=id;·{simp[F',e]at hb};·simpa[F',e]using hb};have hI:∀b,aT E w F b→aT E w F' b:=fun b hb=>⟨hb.1,hb.2.1,fun i hm=>hb.2.2 i (hsub i b hm)⟩;have iz:∀{β':Id→Option Loc}{f:List Nat}{v:Value}{x:aa},R w (aT E w F) β' f v x→R w (aT E w F') β' f v x:=fun hr=>hr.mono hI (fun _ _=>rfl) (fun _ _ h=>h);refine⟨F', ?_⟩;refine{n:=h.n,df:=h.df.mono (fun b hb=>⟨hI b hb.1,hb.2⟩) (fun _ _=>rfl),slot:=fun t=> ?_,obj:=fun i r hr=> ?_,dead:=fun i hi'=> ?_,nd:=fun i=> ?_,ej:=fun i j b hb hb'=>h.ej i j b (hsub i b hb) (hsub j b hb'),dom:=fun i hi'=> ?_,lt:=fun i b hb=>h.lt i b (hsub i b hb),kept:=h.kept,cU:=fun g cs hg=>iz (h.cU g cs hg)};·{by_cases e:t=d;·{subst e;have hv:=h.slot t;rw[hs]at hv;simp only[aE,if_true];obtain⟨_,CU⟩:=hv.mh;clear hv;rcases CU with⟨ad,l,h1,hv,hb⟩|⟨b,o,sz,n,cap,hb,hfit,hle,hv⟩;·{have:rows=[]:=List.length_eq_zero_iff.1 h1;subst this;rw[hv];exact .gk};·rcases wO with⟨h1,_,_⟩|⟨b',h1,_⟩|⟨b',o',sz',n',vs,cH,hb',fX,hB,⟨hne,cw⟩,ZH,b8,hl⟩;·{rw[h1]at hb;cases hb};·{rw[h1]at hb;cases hb};·rw[hb']at hb;simp only[Option.some.injEq,Loc.cT.injEq]at hb;obtain⟨rfl,rfl,rfl,rfl⟩:=hb;have l7:aJ w (aT E w F) cl cH vs rows.flatten:=R.mP hl (by simpa[e5]using JZ hi);have zl:cH=[]:=R.J1 hl (by simpa[e5]using JZ hi);subst zl;have wz:b'∈F id:=by{rw[fX];exact List.mem_cons_self .. };have qX:aT E w F' b':=⟨(h.lt id b' wz).2.elim (fun h=> .inr (.inl h)) (fun h=> .inr (.inr h)),(h.lt id b' wz).1,fun i hm=>by by_cases e:i=id;·{simp[F',e]at hm};·exact e (h.ej i id b' (hsub i b' hm) wz)⟩;rw[hv,Nat.zero_mul,Nat.add_zero];exact .sl cw qX b8 hle (iz l7)};·simp only[aE,if_neg e];exact iz (h.slot t)};·{by_cases e:i=id;·{subst e;simp[aE]at hr};·simp only[aE,if_neg e]at hr;have:=(h.obj i r hr).mono (w':=w) (I':=aT E w F') (β':=β) hI (fun _ _=>rfl) (fun _ _ h=>h);simpa[F',e]using this};·{by_cases e:i=id;·{simp[F',e]};·simp only[F',if_neg e];refine h.dead i fun r hr=>hi' r ?_;simp[aE,e,hr]};·{by_cases e:i=id;·{simp[F',e]};·simpa[F',e]using h.nd i};·by_cases e:i=id;·{subst e;simp[aE]at hi'};·simp only[aE,if_neg e]at hi';exact h.dom i hi'
theorem G2{α β':Type}[DecidableEq α](f:α→β')(k:α)(u v:β'):aE (aE f k u) k v=aE f k v:=by funext j;by_cases e:j=k<;>simp[aE,e]
theorem age{α β':Type}[DecidableEq α](f:α→β'){k l:α}(hne:k≠l)(u v:β'):aE (aE f k u) l v=aE (aE f l v) k u:=by funext j;by_cases e:j=k;·{subst e;simp[aE,hne]};·by_cases e2:j=l;·{subst e2;simp[aE,e]};·simp[aE,e,e2]
theorem Xw{o:Oper}{ts:Array TypeId}{xs:List aa}{e:bx}(h:kZ C S o ts xs=some e):∃d rows rd,o.dst=some d∧S.h [d]=none∧((∃id,(∃r,S.h id=some (some r))∧e=put o (.rs [d] 0 rows.length) rd [(id,none),([d],some rows)])∨e=put o (.rs [d] 0 rows.length) rd [([d],some rows)]):=by have tail:∀{d m:Nat}{x:aa}{xs ys:Rows}{i1 i2:List Id},o.dst=some d→(S.h [d]).isNone=true→kU S o d m x xs ys i1 i2=some e→∃d rows rd,o.dst=some d∧S.h [d]=none∧((∃id,(∃r,S.h id=some (some r))∧e=put o (.rs [d] 0 rows.length) rd [(id,none),([d],some rows)])∨e=put o (.rs [d] 0 rows.length) rd [([d],some rows)]):=by{intro d m x xs ys i1 i2 hd hn h;unfold kU at h;split at h;·{split at h;·{rename_i hid;split at h;·{simp only[Option.some.injEq]at h;subst h;exact⟨d,xs++ys,_,hd,mE hn, .inl ⟨_,⟨_,hid⟩,by rw[List.length_append]⟩⟩};·cases h};·cases h};·{simp only[Option.some.injEq]at h;subst h;exact⟨d,xs++ys,_,hd,mE hn, .inr (by rw[List.length_append])⟩};·cases h};unfold kZ at h;split at h;·{unfold yI at h;split at h;·{rename_i hd;split at h;·{split at h;·{rename_i hc;simp only[Bool.and_eq_true]at hc;exact tail hd hc.2 h};·cases h};·cases h};·cases h};·{unfold yJ at h;split at h;·{rename_i hd _;split at h;·{split at h;·{rename_i hc;simp only[Bool.and_eq_true]at hc;exact tail hd hc.2 h};·cases h};·cases h};·cases h};·cases h
theorem acN(h:aY C E w S a β F){o:Oper}{f:FuncId}{c:Call}(ho:o.op= .call c)(hb:c.callee= .builtin .append){e:bx}(he:(kZ C S o c.argTypes (c.args.toList.map fun x=>un true (S.get C x))).bind (pT C f o)=some e)(hd:cI S e)(hn:∀a' w',bP C E (S.app e) a' w'→next a' w'):o.wp C.P a w next Q:=by simp only[Option.bind_eq_some_iff]at he;obtain⟨e1,h1,h2⟩:=he;obtain⟨d,rows,rd,bS,hnone,hsh⟩:=Xw h1;unfold pT at h2;split at h2;·{rcases hsh with⟨id,⟨r,hid⟩,rfl⟩|rfl;·{simp only[bS,put]at h2;split at h2;·{rename_i hc;simp only[Option.some.injEq]at h2;subst h2;refine KB h ho hb h1 (by simpa[cI,put,bS]using hd) fun a' w'⟨β',F',hS⟩=>hn a' w' ?_;have hne:id≠[d]:=fun e=>by{rw[e,hnone]at hid;cases hid};obtain⟨gJ,qY⟩:=hS.freeze (id:=[d]) (rows:=rows) (d:=d) (by simp[an.app,put,bS,bL,aE,hne.symm]) hc.2 (by simp[an.app,put,bS,dO,aE]);refine⟨β',gJ, ?_⟩;simp only[an.app,put,bS,dO,bL]at qY⊢;rw[G2,age _ hne,G2]at qY;exact qY};·cases h2};·simp only[bS,put]at h2;split at h2;·{rename_i hc;simp only[Option.some.injEq]at h2;subst h2;refine KB h ho hb h1 (by simpa[cI,put,bS]using hd) fun a' w'⟨β',F',hS⟩=>hn a' w' ?_;obtain⟨gJ,qY⟩:=hS.freeze (id:=[d]) (rows:=rows) (d:=d) (by simp[an.app,put,bS,bL,aE]) hc.2 (by simp[an.app,put,bS,dO,aE]);refine⟨β',gJ, ?_⟩;simp only[an.app,put,bS,dO,bL]at qY⊢;rw[G2,G2]at qY;exact qY};·cases h2};·simp only[Option.some.injEq]at h2;subst h2;exact KB h ho hb h1 hd hn
end
end Go.Ab
