import Derived.Test.YtbikcahlonfnmaaGreatAbOps6
import Derived.Deep.AppendSrc
namespace Go.Ab
open Go
section
variable{C:aO}{E:Env}{w:World}{S:ak}{a:Act}{β:Id→Option Loc}{F:Id→List Nat}
variable{next:Act→World→Prop}{Q:Exit→Act→World→Prop}
theorem aR.Vt(h:aR C E w S a β F)(t:Nat){x:aa}(hx:R w (aK E w F) β [] (a.tmps.getD t undef) x):aR C E w ⟨S.n,av S.t t x,S.h⟩ a β F:=by refine h.step (fun _=>False) h.n (Nat.le_refl _) rfl rfl (fun _=>rfl) (fun _ _ _=>rfl) (fun _ _ h=>h) (fun id b hb=> .inl ⟨id,hb⟩) (fun _ _=>⟨rfl,rfl⟩) (fun _ _ h=>h.elim) (fun _ h=>h.elim) (fun _ h=>h.elim) (fun _ _ _ h=>h.elim) h.dom ?_;intro _ u;by_cases hu:u=t;·{subst hu;exact .inr (by simpa[av]using hx)};·exact .inl ⟨rfl,by simp[av,hu]⟩
theorem aie(h:aR C E w S a β F){o:Oper}{f:FuncId}{t:TypeId}{ao x:Operand}(ho:o.op= .store t ao x){e:bx}(he:oB C f S true o t ao (un true (S.get C ao)) (un true (S.get C x))=some e)(hd:cE S e)(hn:∀a' w',bG C E (S.app e) a' w'→next a' w'):o.wp C.P a w next Q:=by have ha:=h.ee ao;have hx:=h.ee x;generalize It:un true (S.get C ao)=alY at*;generalize un true (S.get C x)=xv at*;unfold oB at he;split at he;·{rename_i b n hb hs;split at he;·{rename_i id row off cs hcs;split at he;·{cases he};·rename_i LS;have LS:cs.length=n:=by{simpa using LS};split at he;·{rename_i rows hid;simp only[Option.bind_eq_some_iff]at he;obtain⟨r,hr,he⟩:=he;split at he;·{rename_i hfit;obtain⟨_,fG,p,sz,m,bK,hv⟩:=ha.oS;obtain⟨us,vJ,oP,sv⟩:=HH hx hcs;have MJ:=oP.length;obtain⟨w',hrun,hS,hfz⟩:=h.stored hid bK hr hfit LS oP sv;have hst:(execOp a.eval o).run C.P w= .ok .skip w':=by{simp only[execOp,ho];refine Vh ?_;have hsz:(a.eval x).cells.size=n:=by{rw[vJ];simp;omega};simp only[Instr.storeAt,hv,Instr.sureAddr];rw[Sem.run_bind,Sem.run_pure,Result.andThen_ok];unfold storeVar;rw[Sem.run_bind,o4 hs,Result.andThen_ok];simp only[hsz,ne_eq,not_true_eq_false,if_false];rw[vJ];exact hrun};split at he;·{rename_i jw tV;split at he;·{rename_i ji;simp only[Bool.and_eq_true,decide_eq_true_eq]at ji;obtain⟨⟨⟨⟨⟨⟨c1,c2⟩,c3⟩,gP⟩,DO⟩,_⟩,aao⟩:=ji;simp at he;subst he;have bM:o.dst=none:=by{simpa using aao};rcases hfz ([]:Rows)with hfz|hfz;·{obtain⟨F',lf,hI,bW,hl⟩:=hfz c3 gP c1 c2;refine OD hst (hn _ _ ⟨β,F', ?_⟩);have hao:ao= .tmp jw:=by{unfold xZ at tV;split at tV;·{split at tV;·{simp at tV;rw[tV]};·cases tV};·cases tV};have afe:a.tmps.getD jw undef= .pointer (some ⟨fG,p+row*sz+off,none⟩):=by{rw[←hv,hao];rfl};have:=lf.Vt jw (x:= .aq (kN cs)) (by rw[afe];exact .aq hI bW (aG.nL (aG.nz hl) DO));simpa[ak.app,di,bw,Act.put,bM]using this};·subst hfz;simp at hr};·cases he};·split at he;·{rename_i hdn;simp at he;subst he;have bM:o.dst=none:=by{simpa using hdn};obtain⟨F',lf⟩:=hS;refine OD hst (hn _ _ ⟨β,F', ?_⟩);simpa[ak.app,put,di,Act.put,bM]using lf};·cases he};·cases he};·cases he};·cases he};·cases he
/-! ### append -/
theorem U7(h:aR C E w S a β F){v:Value}{x:aa}{xs:Rows}{ids:List Id}{sz:Nat}(hx:R w (aK E w F) β [] v x)(hr:rowsOf S.h x=some (xs,ids))(hsz:∀r∈xs,r.length=sz):∃ba n cap vs f,v= .slice ba n cap∧n=xs.length∧aG w (aK E w F) β f vs xs.flatten∧vs.length=n*sz∧(n=0∨∃b o,ba=some ⟨b,o,none⟩∧fo w b o vs):=by unfold rowsOf at hr;split at hr;·{simp at hr;obtain⟨rfl,rfl⟩:=hr;rcases hx.Gw.2 with⟨ba,cap,rfl,hv⟩|⟨b,o,sz',cap,vs,_,_,bW,hl,_,hv⟩;·{exact⟨ba,0,cap,[],[],hv,rfl, .nil,by simp, .inl rfl⟩};·exact⟨_,_,cap,vs,[],hv,rfl,R.up hl,by rw[hl.length,k8 hsz], .inr ⟨b,o,rfl,bW⟩⟩};·{simp at hr;obtain⟨rfl,rfl⟩:=hr;obtain⟨_,ba,hv⟩:=hx.zS;exact⟨ba,0,0,[],[],hv,rfl, .nil,by simp, .inl rfl⟩};·{rename_i id off len;split at hr;·{rename_i rows hid;split at hr;·{rename_i hle;simp at hr;obtain⟨rfl,rfl⟩:=hr;rcases hx.nc.2 with⟨ba,l,rfl,hv,_⟩|⟨b,o,sz',m,cap,bK,hfit,hlc,hv⟩;·{exact⟨ba,0,0,[],[],hv,by simp,by simpa using R.nil,by simp, .inl rfl⟩};·rcases Nat.eq_zero_or_pos len with h0|h0;·{subst h0;exact⟨_,0,cap,[],[],hv,by simp,by simpa using R.nil,by simp, .inl rfl⟩};·obtain⟨vs,cG,fZ,_,⟨hne,cp⟩,_,bW,hl⟩:=(h.obj id rows hid).at bK;have tU:sz'=sz:=by{have hlt:off<rows.length:=by{omega};have hm:rows[off]∈(rows.drop off).take len:=by{rw[List.mem_iff_getElem?];exact⟨0,by rw[List.getElem?_take_of_lt h0,List.getElem?_drop];simp⟩};have hm2:rows[off]∈rows:=List.getElem_mem hlt;rw[←cp _ hm2,hsz _ hm]};subst tU;have hfl:=k8 cp;have e1:((rows.drop off).take len).flatten=(rows.flatten.drop (off*sz')).take (len*sz'):=by{have:=H8 (l:=off) (r:=off+len) cp;rw[List.take_drop,this,List.take_drop,Nat.add_mul]};have Mr:off*sz'+len*sz'≤rows.flatten.length:=by{rw[hfl,←Nat.add_mul];exact Nat.mul_le_mul_right _ hle};obtain⟨f1,f2,f3,e0,_,h2,_⟩:=hl.lK (off*sz') (len*sz') Mr;rw[←e1]at h2;have hlen:=h2.length;refine⟨_,len,cap,_,f2,hv,by simp;omega,h2, ?_, .inr ⟨b,o+off*sz',rfl,(bW.drop _).take _⟩⟩;rw[hlen,k8 hsz];congr 1;simp;omega};·cases hr};·cases hr};·cases hr
theorem akB{t e':TypeId}{sz n cap:Nat}{ba:Option Addr}{vs:List Value}(hk:C.P.underlying t=some (.slice e'))(hl:vs.length=n*sz)(hc:n=0∨∃b o,ba=some ⟨b,o,none⟩∧fo w b o vs)(hp:∀u∈vs,qi u=true):Src C.P sz t (.slice ba n cap) n vs w:=by have h1:∀u∈vs,u.oneCell'=true:=fun u hu=>by{have:=hp u hu;cases u<;>simp_all[qi,Value.oneCell']};rcases hc with rfl|⟨b,o,rfl,bW⟩;·{have:vs=[]:=List.length_eq_zero_iff.1 (by simpa using hl);subst this;have hz:∀w':World,(Builtin.firstCells sz 0 (.slice ba 0 cap)).run C.P w'= .ok #[] w':=fun w'=>by{cases ba with|none=>(exact run_firstCells_none w' _ _ _ _)|some p=>simp[Builtin.firstCells,loadCells,loadCellsFrom]};exact⟨.inl ⟨e',hk⟩,fun _=>rfl,hz w,hz w.drew,by simp,h1⟩};·exact Src.ofSlice w hk ⟨b,o,none⟩ n cap vs hl (fun j u hj=>by rw[lP];exact bW j u hj) h1
theorem Uu{I:Nat→Prop}{as:List aa}:∀{f:List Nat}{vs:List Value},aG w I β f vs as→as.all aa.cell=true→f=[]∧∀u∈vs,qi u=true:=by induction as with|nil=>(intro f vs h _;obtain⟨rfl,rfl⟩:=h.fO;exact⟨rfl,fun u hu=>by cases hu⟩)|cons c as ih=>intro f vs h hc;simp only[List.all_cons,Bool.and_eq_true]at hc;obtain⟨f1,f2,v,vs',rfl,rfl,h1,h2⟩:=aG.cons_inv h;obtain⟨e2,p2⟩:=ih h2 hc.2;refine⟨by rw[h1.Eb hc.1,e2];rfl,fun u hu=> ?_⟩;cases hu with|head=>(obtain⟨p1,p3,_⟩:=h1.plain hc.1;cases v<;>simp_all[qi])|tail _ hm=>exact p2 u hm
theorem U4{rows:Rows}(h:qq rows=true):rows.flatten.all aa.cell=true:=by rw[List.all_eq_true];intro c hc;obtain⟨r,hr,hm⟩:=List.mem_flatten.1 hc;exact List.all_eq_true.1 (List.all_eq_true.1 h r hr) c hm
theorem acO{w:World}(c:Array Value)(e:TypeId)(x:Addr):(w.alloc (.cells c e)).frozen? x=w.frozen? x:=by have hnew:(w.alloc (.cells c e)).heap[w.heap.size]? =some (.cells c e):=heap_alloc_new _ _;by_cases hx:x.block=w.heap.size;·{have e2:w.heap[x.block]? =none:=by{rw[hx];simp};simp only[World.frozen?,hx,hnew];simp};·rw[World.frozen?_alloc_old _ _ _ hx]
theorem aR.Je(h:aR C E w S a β F){o:Oper}{d:Nat}(bM:o.dst=some d){kill:Id}(hfresh:S.h [d]=none)(Mp:kill=[d]∨∃rows,S.h kill=some (some rows)){w':World}{h':Id→Option (Option Rows)}{br:Rows}{G:List Nat}{l:Loc}{v:Value}{x:aa}(lq:h' [d]=some (some br))(lu:∀i,i≠[d]→i≠kill→h' i=S.h i)(p4:kill≠[d]→h' kill=some none)(hsz:w.heap.size≤w'.heap.size)(hos:w'.os=w.os)(hout:w'.output=w.output)(vr:∀y,w'.frozen? y=w.frozen? y)(hw:∀b,b<w.heap.size→b∉F kill→w'.heap[b]? =w.heap[b]?)(fC:∀b n,fW w b n→fW w' b n)(dJ:G.Nodup)(q3:∀b∈G,b∈F kill∨(w.heap.size≤b∧b<w'.heap.size))(adP:∀(I':Nat→Prop)(β':Id→Option Loc),(∀b,aK E w F b→I' b)→(∀i l,β i=some l→β' i=some l)→β' [d]=some l→dU w' I' β' [d] br G)(hx:∀(I':Nat→Prop)(β':Id→Option Loc),β' [d]=some l→R w' I' β' [] v x)(hd:d<S.n):bG C E ⟨S.n,av S.t d x,h'⟩ (a.put o.dst v) w':=by have Fc:β [d]=none:=h.dom _ hfresh;have sn:F [d]=[]:=h.dead _ (by rw[hfresh];simp);let F':Id→List Nat:=fun i=>if i=[d]then G else if i=kill then[]else F i;have Ip:F' [d]=G:=by{simp[F']};have Er:kill≠[d]→F' kill=[]:=fun hk=>by{simp[F',hk]};have LB:∀i,i≠[d]→i≠kill→F' i=F i:=fun i h1 h2=>by{simp[F',h1,h2]};have bK:∀i l',β i=some l'→av β [d] (some l) i=some l':=fun i l' hl=>by{by_cases hi:i=[d];·{subst hi;rw[Fc]at hl;cases hl};·simpa[av,hi]using hl};refine⟨av β [d] (some l),F', ?_⟩;refine h.step (fun i=>i=[d]∨i=kill) (by rw[uo];exact h.n) hsz hos hout vr (fun b hb hk=>hw b hb (hk kill (.inr rfl))) bK ?_ ?_ ?_ ?_ ?_ ?_ ?_ ?_ (fC:=fC) (hok:=fun k rows hk hr=>by by_cases h1:k=[d];·{subst h1;exact absurd hk (h.ns d hd [])};·by_cases h2:k=kill;·{subst h2;simp only at hr;rw[p4 h1]at hr;cases hr};·exact⟨rows,by rw[←lu k h1 h2];exact hr⟩);·{intro i b hb;by_cases h1:i=[d];·{subst h1;rw[Ip]at hb;rcases q3 b hb with hm|hm;·{exact .inl ⟨kill,hm⟩};·exact .inr hm};·by_cases h2:i=kill;·{subst h2;rw[Er h1]at hb;cases hb};·rw[LB i h1 h2]at hb;exact .inl ⟨i,hb⟩};·{intro i hi;have h1:i≠[d]:=fun e=>hi (.inl e);have h2:i≠kill:=fun e=>hi (.inr e);exact⟨LB i h1 h2,lu i h1 h2⟩};·{intro hI i hi e8 hr;by_cases h1:i=[d];·{subst h1;have hr':h' [d]=some (some e8):=hr;rw[lq]at hr';simp at hr';subst hr';rw[Ip];exact adP _ _ hI bK (by simp[av])};·have h2:i=kill:=hi.resolve_left h1;subst h2;have hr':h' i=some (some e8):=hr;rw[p4 h1]at hr';simp at hr'};·{intro i hi hno;by_cases h1:i=[d];·{subst h1;exact absurd lq (hno _)};·have h2:i=kill:=hi.resolve_left h1;subst h2;exact Er h1};·{intro i hi;by_cases h1:i=[d];·{subst h1;rw[Ip];exact dJ};·have h2:i=kill:=hi.resolve_left h1;subst h2;rw[Er h1];exact List.nodup_nil};·{intro i j b hi iA lX;have aux:∀j,j≠[d]→b∈F' j→b∈G→False:=fun j hj lX ad0=>by{by_cases h2:j=kill;·{subst h2;rw[Er hj]at lX;cases lX};·rw[LB j hj h2]at lX;rcases q3 b ad0 with hm|hm;·{exact h2 (h.dx j kill b lX hm)};·have:=(h.lt j b lX).1;omega};by_cases h1:i=[d];·{subst h1;by_cases h2:j=[d];·{exact h2.symm};·rw[Ip]at iA;exact(aux j h2 lX iA).elim};·have h2:i=kill:=hi.resolve_left h1;subst h2;rw[Er h1]at iA;cases iA};·{intro i hi;have hi':h' i=none:=hi;by_cases h1:i=[d];·{subst h1;rw[lq]at hi';cases hi'};·by_cases h2:i=kill;·{subst h2;rw[p4 h1]at hi';cases hi'};·rw[lu i h1 h2]at hi';simp[av,h1,h.dom i hi']};·intro _ u;rw[bM,um a d u v (by rw[h.n];exact hd)];by_cases hu:u=d;·{subst hu;rw[if_pos rfl];exact .inr (by simpa[av]using hx _ (av β [u] (some l)) (by simp[av]))};·rw[if_neg hu];exact .inl ⟨rfl,by simp[av,hu]⟩
theorem aR.drew(h:aR C E w S a β F):aR C E w.drew S a β F:=h.step (fun _=>False) h.n (Nat.le_refl _) rfl rfl (fun _=>rfl) (fun _ _ _=>rfl) (fun _ _ h=>h) (fun id b hb=> .inl ⟨id,hb⟩) (fun _ _=>⟨rfl,rfl⟩) (fun _ _ h=>h.elim) (fun _ h=>h.elim) (fun _ h=>h.elim) (fun _ _ _ h=>h.elim) h.dom (fun _ _=> .inl ⟨rfl,rfl⟩)
structure xg (P : Program) (w : World) (t t2 ty el : TypeId) (i : TypeInfo) (cN : Value) (yv : Value) (dY : Nat) (vy : List Value) : Prop where
  idle : dY = 0 → ∀ fR, (Builtin.append_ #[t, t2] ty #[.slice fR 0 0, yv]).run P w = .ok (.slice fR 0 0) w
  room : ∀ b p len cap w', len + dY ≤ cap → (storeCells ⟨b, p + len * i.size, none⟩ vy).run P w = .ok () w' → (Builtin.append_ #[t, t2] ty #[.slice (some ⟨b, p, none⟩) len cap, yv]).run P w = .ok (.slice (some ⟨b, p, none⟩) (len + dY) cap) w'
  grow : ∀ (fR : Option Addr) (n cap : Nat) (vs : List Value), (Builtin.firstCells i.size n (.slice fR n cap)).run P w.drew = .ok vs.toArray w.drew → cap < n + dY → ((n + dY : Nat) : Int) ≤ 9223372036854775807 → Builtin.nextslicecap (n + dY) cap * i.bytes ≤ 281474976710656 →
    (Builtin.append_ #[t, t2] ty #[.slice fR n cap, yv]).run P w = .ok (.slice (some ⟨w.heap.size, 0, none⟩) (n + dY) (grownCap w (n + dY) cap el)) (w.drew.alloc (.cells ((vs ++ vy).toArray ++ Builtin.zeroCells cN.cells (grownCap w (n + dY) cap el - (n + dY))) el))
theorem PC (h : aR C E w S a β F) {o : Oper} {t t2 el : TypeId} {d : Nat} {i : TypeInfo} {cN yv : Value} {x : Operand} {xv : aa} {xs ys : Rows} {i1 i2 : List Id} {vy : List Value} {dY : Nat} {e : bx}
    (bM : o.dst = some d) (vK : cN.cells.size = i.size) (hby : i.bytes ≤ 4096) (EM : xs.length + ys.length ≤ nR) (hfr : (S.h [d]).isNone = true) (yL : ∀ r ∈ ys, r.length = i.size)
    (hx : R w (aK E w F) β [] (a.eval x) xv) (yJ : rowsOf S.h xv = some (xs, i1)) (Bt : dY = ys.length) (sr : aG w (aK E w F) β [] vy ys.flatten) (yI : vy.length = dY * i.size) (Bv : ∀ u ∈ vy, qi u = true)
    (p0 : ∀ {v : Value} {w' : World}, (Builtin.append_ #[t, t2] o.type #[a.eval x, yv]).run C.P w = .ok v w' → (execOp a.eval o).run C.P w = .ok (.value v) w') (vm : xg C.P w t t2 o.type el i cN yv dY vy)
    (he : lQ S o d i.size xv xs ys i1 i2 = some e) (hd : cE S e) (hn : ∀ a' w', bG C E (S.app e) a' w' → next a' w') : o.wp C.P a w next Q := by
  unfold lQ at he
  have grow : ∀ (kill : Id) (h' : Id → Option (Option Rows)) (fR : Option Addr) (n cap : Nat) (vs : List Value) (f : List Nat), a.eval x = .slice fR n cap → n = xs.length → cap < n + dY → vs.length = n * i.size → (n = 0 ∨ ∃ b o, fR = some ⟨b, o, none⟩ ∧ fo w b o vs) →
      aG w (aK E w F) β f vs xs.flatten → (∀ r ∈ xs, r.length = i.size) → f.Nodup → (∀ b ∈ f, b ∈ F kill) → (kill = [d] ∨ ∃ rows, S.h kill = some (some rows)) →
      h' [d] = some (some (xs ++ ys)) → (∀ j, j ≠ [d] → j ≠ kill → h' j = S.h j) → (kill ≠ [d] → h' kill = some none) → e = { ep := [(d, .rs [d] 0 (xs.length + ys.length))], rd := i1 ++ i2, wr := e.wr } → (S.app e).h = h' → o.wp C.P a w next Q := by
    intro kill h' fR n cap vs f hv hn' hgrow hvl bW hl E8 hfn IC hk lq lu p4 hee L9
    have hold : (Builtin.firstCells i.size n (.slice fR n cap)).run C.P w.drew = .ok vs.toArray w.drew := by
      rcases bW with h0 | ⟨b', o', rfl, bW⟩
      · subst h0
        have : vs = [] := List.length_eq_zero_iff.1 (by simpa using hvl)
        subst this
        cases fR with
        | none => exact run_firstCells_none w.drew _ _ _ _
        | some p => simp [Builtin.firstCells, loadCells, loadCellsFrom]
      · exact run_firstCells_some w.drew i.size n ⟨b', o', none⟩ n cap vs hvl (fun j u hj => by rw [lP]; exact bW j u hj)
    have Br : n + dY ≤ 4294967296 := by unfold nR at EM; omega
    have fe : (n + dY) * i.bytes ≤ 140737488355328 := Nat.le_trans (Nat.mul_le_mul Br hby) (by decide)
    have hrun := (congrArg (fun z => (Builtin.append_ #[t, t2] o.type #[z, yv]).run C.P w) hv).trans (vm.grow fR n cap vs hold hgrow (by omega) (growslice_fits hgrow fe))
    refine ku (p0 hrun) (hn _ _ ?_)
    generalize Iu : (vs ++ vy).toArray ++ Builtin.zeroCells cN.cells (grownCap w (n + dY) cap el - (n + dY)) = pE
    have hcap : n + dY ≤ grownCap w (n + dY) cap el := by unfold grownCap Question.cut; simp
    have LH := h.drew
    have hlen : (vs ++ vy).length = (n + dY) * i.size := by rw [List.length_append, hvl, yI, Nat.add_mul]
    have LA : pE.size = (n + dY) * i.size + (grownCap w (n + dY) cap el - (n + dY)) * cN.cells.size := by
      rw [← Iu, Array.size_append, List.size_toArray, hlen]; simp [Builtin.zeroCells]
    have hne : xs ++ ys ≠ [] := fun e0 => by
      have h0 := congrArg List.length e0
      rw [List.length_append] at h0
      simp only [List.length_nil] at h0
      omega
    have hall : ∀ r ∈ xs ++ ys, r.length = i.size := fun r hr => (List.mem_append.1 hr).elim (E8 r) (yL r)
    have hnew : (w.drew.alloc (.cells pE el)).heap[w.heap.size]? = some (.cells pE el) := heap_alloc_new _ _
    have hold' : ∀ b, b < w.heap.size → (w.drew.alloc (.cells pE el)).heap[b]? = w.heap[b]? := fun b hb => heap_alloc_old _ _ _ hb
    have hmul : (n + dY) * i.size + (grownCap w (n + dY) cap el - (n + dY)) * i.size = grownCap w (n + dY) cap el * i.size := by rw [← Nat.add_mul]; congr 1; omega
    rw [vK, hmul] at LA
    have EO := h.Je (w' := w.drew.alloc (.cells pE el)) (h' := h') (br := xs ++ ys) (G := w.heap.size :: f) (l := .cX w.heap.size 0 i.size pE.size)
      (v := .slice (some ⟨w.heap.size, 0, none⟩) (n + dY) (grownCap w (n + dY) cap el)) (x := .rs [d] 0 (xs.length + ys.length)) bM (nA hfr) hk lq lu p4 (by simp) rfl rfl (fun y => by rw [acO]; rfl)
      (fun b hb _ => hold' b hb) (xF hold') (List.nodup_cons.2 ⟨fun hm => by
        rcases hk with hk | ⟨rows, hk⟩
        · have := IC _ hm
          rw [hk, h.dead [d] (by rw [nA hfr]; simp)] at this; cases this
        · exact absurd (h.lt kill _ (IC _ hm)).1 (Nat.lt_irrefl _), hfn⟩) (fun b hb => by
        cases hb with
        | head => exact .inr ⟨Nat.le_refl _, by simp⟩
        | tail _ hm => exact .inl (IC b hm)) (fun I' β' hI bK hd' => .inr (.inr ⟨w.heap.size, 0, i.size, pE.size, vs ++ vy, f, hd', rfl, ⟨pE, el, hnew, rfl⟩, ⟨hne, hall⟩, by rw [LA, Nat.zero_add]; exact Nat.mul_le_mul_right _ (by rw [List.length_append]; omega), ?_, ?_⟩)) ?_ ?_
    · have e1 : S.app e = ⟨S.n, av S.t d (.rs [d] 0 (xs.length + ys.length)), h'⟩ := by
        rw [← L9, hee]; rfl
      rw [e1]; exact EO
    · intro k u hu
      rw [Nat.zero_add, cell_of_row _ _ _ pE el (0, 0) hnew, ← Iu]
      have hlt : k < (vs ++ vy).length := by
        rcases Nat.lt_or_ge k (vs ++ vy).length with h' | h'
        · exact h'
        · rw [List.getElem?_eq_none h'] at hu; cases hu
      rw [Array.getElem?_append_left (by simpa using hlt)]
      simpa using hu
    · rw [List.flatten_append]
      have l1 := hl.mono (w' := w.drew.alloc (.cells pE el)) (β' := β') hI (fun b hb => hold' b (hb.elim (fun hb => hb.2.1) fun hb => by
        have hm := IC b hb
        rcases hk with hk | ⟨rows, hk⟩
        · rw [hk, h.dead [d] (by rw [nA hfr]; simp)] at hm; cases hm
        · exact (h.lt kill b hm).1)) bK
      have l2 := sr.mono (w' := w.drew.alloc (.cells pE el)) (β' := β') hI (fun b hb => hold' b (hb.elim (fun hb => hb.2.1) fun hb => by cases hb)) bK
      have := aG.append l1 l2
      rwa [List.append_nil] at this
    · intro I' β' hd'
      have := R.rs (w := w.drew.alloc (.cells pE el)) (I := I') (off := 0) (len := n + dY) (cap := grownCap w (n + dY) cap el) hd' (by rw [LA]; simp) hcap
      rw [show xs.length + ys.length = n + dY by omega]
      simpa using this
    · have : cE S e := hd
      rw [hee] at this
      simpa [cE] using this
  have idle : ∀ (kill : Id) (h' : Id → Option (Option Rows)) (fR : Option Addr), a.eval x = .slice fR 0 0 → xs = [] → ys = [] → (kill = [d] ∨ ∃ rows, S.h kill = some (some rows)) →
      h' [d] = some (some (xs ++ ys)) → (∀ j, j ≠ [d] → j ≠ kill → h' j = S.h j) → (kill ≠ [d] → h' kill = some none) → e = { ep := [(d, .rs [d] 0 (xs.length + ys.length))], rd := i1 ++ i2, wr := e.wr } → (S.app e).h = h' → o.wp C.P a w next Q := by
    intro kill h' fR hv hx0 hy0 hk lq lu p4 hee L9
    subst hx0 hy0
    have hn0 : dY = 0 := by simpa using Bt
    have hrun : (Builtin.append_ #[t, t2] o.type #[a.eval x, yv]).run C.P w = .ok (.slice fR 0 0) w := by rw [hv]; exact vm.idle hn0 fR
    refine ku (p0 hrun) (hn _ _ ?_)
    have EO := h.Je (w' := w) (h' := h') (br := []) (G := []) (l := .nil) (v := .slice fR 0 0) (x := .rs [d] 0 0) bM (nA hfr) hk lq lu p4 (Nat.le_refl _) rfl rfl (fun _ => rfl) (fun _ _ _ => rfl) (fun _ _ h => h)
      List.nodup_nil (fun b hb => by cases hb) (fun I' β' _ _ hd' => .inl ⟨hd', rfl, rfl⟩) (fun I' β' hd' => .ig hd' rfl) (by
        have : cE S e := hd
        rw [hee] at this
        simpa [cE] using this)
    have e1 : S.app e = ⟨S.n, av S.t d (.rs [d] 0 0), h'⟩ := by
      rw [← L9, hee]; rfl
    rw [e1]; exact EO
  split at he
  · rename_i id off len
    split at he
    · rename_i rows hid
      split at he
      · rename_i hM
        simp only [Bool.and_eq_true, Bool.or_eq_true, decide_eq_true_eq] at hM
        obtain ⟨⟨cp, hoff⟩, EC⟩ := hM
        have cp := xy cp
        subst hoff
        simp at he
        have aeV : [d] ≠ id := fun e0 => by rw [← e0, nA hfr] at hid; cases hid
        have lq : (S.app e).h [d] = some (some (xs ++ ys)) := by rw [← he]; simp [ak.app, put, bM, bw, av, aeV]
        have lu : ∀ j, j ≠ [d] → j ≠ id → (S.app e).h j = S.h j := fun j h1 h2 => by rw [← he]; simp [ak.app, put, bM, bw, av, h1, h2]
        have p4 : id ≠ [d] → (S.app e).h id = some none := fun _ => by rw [← he]; simp [ak.app, put, bM, bw, av]
        have hee : e = { ep := [(d, .rs [d] 0 (xs.length + ys.length))], rd := i1 ++ i2, wr := e.wr } := by rw [← he]; simp [put, bM]
        have E7 := yJ
        simp only [rowsOf, hid] at E7
        split at E7
        · rename_i hle
          simp only [List.drop_zero, Option.some.injEq, Prod.mk.injEq] at E7
          obtain ⟨hxs, _⟩ := E7
          have E8 : ∀ r ∈ xs, r.length = i.size := fun r hr => cp r (by rw [← hxs] at hr; exact List.mem_of_mem_take hr)
          have afD : xs.length = len := by rw [← hxs]; simp; omega
          rcases hx.nc.2 with ⟨fR, l, mV, hv, _⟩ | ⟨b, p, sz', m, cap, bK, hfit, hlc, hv⟩
          · have ML : xs = [] := List.length_eq_zero_iff.1 (by omega)
            by_cases hy0 : ys = []
            · exact idle id _ fR hv ML hy0 (.inr ⟨rows, hid⟩) lq lu p4 hee rfl
            · have : 0 < ys.length := List.length_pos_iff.2 hy0
              exact grow id _ fR 0 0 [] [] hv (by rw [ML]; rfl) (by omega) (by simp) (.inl rfl) (by rw [ML]; exact .nil) E8 List.nodup_nil (fun b hb => by cases hb) (.inr ⟨rows, hid⟩) lq lu p4 hee rfl
          · obtain ⟨vs, cG, fZ, hB, ⟨hne, rf⟩, afq, bW, hl⟩ := (h.obj id rows hid).at bK
            have tU : sz' = i.size := by
              obtain ⟨eV, vF⟩ := List.exists_mem_of_ne_nil _ hne
              rw [← rf eV vF, cp eV vF]
            subst tU
            have hfl := k8 cp
            have Mr : len * i.size ≤ rows.flatten.length := by rw [hfl]; exact Nat.mul_le_mul_right _ (by omega)
            obtain ⟨f1, f2, f3, e0, _, l2, _⟩ := hl.lK 0 (len * i.size) (by omega)
            simp only [List.drop_zero] at l2
            have exs : xs.flatten = rows.flatten.take (len * i.size) := by
              have := H8 (l := 0) (r := len) cp
              simpa [hxs] using this
            rw [← exs] at l2
            have cm := h.nd id
            rw [fZ, e0] at cm
            have nK := (List.nodup_cons.1 cm).2
            have nE := (List.nodup_cons.1 cm).1
            have vq : f2.Nodup := (List.nodup_append.1 (List.nodup_append.1 nK).2.1).1
            have R2 : ∀ b' ∈ f2, b' ∈ F id := fun b' hb' => by
              rw [fZ, e0]
              exact List.mem_cons_of_mem _ (List.mem_append.2 (.inr (List.mem_append.2 (.inl hb'))))
            have E5 : (vs.take (len * i.size)).length = len * i.size := by rw [l2.length, exs, List.length_take, Nat.min_eq_left Mr]
            simp only [Nat.zero_mul, Nat.add_zero, Nat.zero_add] at hfit hv
            rcases Nat.lt_or_ge cap (len + dY) with hg | hg
            · exact grow id _ _ len cap (vs.take (len * i.size)) f2 hv afD.symm hg E5 (.inr ⟨b, p, rfl, bW.take _⟩) l2 E8 vq R2 (.inr ⟨rows, hid⟩) lq lu p4 hee rfl
            ·
              obtain ⟨r9, ce, tK, LR⟩ := hB
              have pX := lE tK
              have hroom : p + len * i.size + vy.length ≤ r9.size := by
                rw [yI, LR, Nat.add_assoc, ← Nat.add_mul]
                exact Nat.le_trans (Nat.add_le_add_left (Nat.mul_le_mul_right _ hg) _) hfit
              have hst := Vg C.P b (p + len * i.size) ce vy 0 w r9 tK (by omega) Bv
              rw [Nat.add_zero] at hst
              generalize ri : iX w b (.cells (over r9 (p + len * i.size) vy) ce (0, 0)) = w' at hst
              have lZ : ∀ k, w'.heap[k]? = if k = b then some (.cells (over r9 (p + len * i.size) vy) ce (0, 0)) else w.heap[k]? := fun k => by rw [← ri]; exact CL pX k
              have hnew : w'.heap[b]? = some (.cells (over r9 (p + len * i.size) vy) ce (0, 0)) := by rw [lZ, if_pos rfl]
              have hrun : (Builtin.append_ #[t, t2] o.type #[a.eval x, yv]).run C.P w = .ok (.slice (some ⟨b, p, none⟩) (len + dY) cap) w' := by rw [hv]; exact vm.room b p len cap w' hg hst
              refine ku (p0 hrun) (hn _ _ ?_)
              by_cases So : xs ++ ys = []
              · rw [So] at EC
                simp at EC
                exact absurd EC hne
              have EO := h.Je (w' := w') (h' := (S.app e).h) (br := xs ++ ys) (G := b :: f2) (l := .cX b p i.size m)
                (v := .slice (some ⟨b, p, none⟩) (len + dY) cap) (x := .rs [d] 0 (xs.length + ys.length)) bM (nA hfr) (.inr ⟨rows, hid⟩) lq lu p4 (by rw [← ri]; simp [iX]) (by rw [← ri]; rfl) (by rw [← ri]; rfl)
                (fun y => by
                  simp only [World.frozen?, lZ]
                  by_cases hy : y.block = b
                  · rw [if_pos hy, hy, tK]
                  · rw [if_neg hy])
                (fun b' _ hb' => by rw [lZ, if_neg (fun e1 => hb' (by rw [fZ, e1]; exact List.mem_cons_self ..))])
                (fun k n hB => by
                  by_cases hk : k = b
                  · subst hk
                    obtain ⟨c2, e2, hM, hn2⟩ := hB
                    rw [tK] at hM
                    simp only [Option.some.injEq, Obj.cells.injEq] at hM
                    obtain ⟨rfl, _⟩ := hM
                    exact ⟨_, _, hnew, by rw [Jq _ _ _ hroom]; exact hn2⟩
                  · exact hB.mono (by rw [lZ, if_neg hk]))
                (List.nodup_cons.2 ⟨fun hm => nE (List.mem_append.2 (.inr (List.mem_append.2 (.inl hm)))), vq⟩)
                (fun b' hb' => .inl (by
                  cases hb' with
                  | head => rw [fZ]; exact List.mem_cons_self ..
                  | tail _ hm => exact R2 b' hm))
                (fun I' β' hI iR hd' => .inr (.inr ⟨b, p, i.size, m, vs.take (len * i.size) ++ vy, f2, hd', rfl, ⟨_, _, hnew, by rw [Jq _ _ _ hroom]; exact LR⟩, ⟨So, fun r hr => (List.mem_append.1 hr).elim (E8 r) (yL r)⟩, ?_, ?_, ?_⟩)) ?_ ?_
              · have e1 : S.app e = ⟨S.n, av S.t d (.rs [d] 0 (xs.length + ys.length)), (S.app e).h⟩ := by
                  conv => lhs; rw [hee]
                  rfl
                rw [e1]; exact EO
              · rw [List.length_append]
                exact Nat.le_trans (Nat.add_le_add_left (Nat.mul_le_mul_right _ (by omega)) _) hfit
              · intro k u hu
                rw [cell_of_row _ _ _ _ _ _ hnew, zi _ _ _ _ hroom]
                by_cases h1 : k < len * i.size
                · rw [if_neg (by omega)]
                  rw [List.getElem?_append_left (by omega), List.getElem?_take_of_lt h1] at hu
                  have := bW k u hu
                  rwa [cell_of_row _ _ _ _ _ _ tK] at this
                · rw [List.getElem?_append_right (by omega), E5] at hu
                  have hk2 : k - len * i.size < vy.length := by
                    rcases Nat.lt_or_ge (k - len * i.size) vy.length with h' | h'
                    · exact h'
                    · rw [List.getElem?_eq_none h'] at hu; cases hu
                  rw [if_pos (by omega), show p + k - (p + len * i.size) = k - len * i.size by omega]
                  exact hu
              · rw [List.flatten_append]
                have hk2 : ∀ b', aK E w F b' ∨ b' ∈ f2 → w'.heap[b']? = w.heap[b']? := fun b' hb' => by
                  rw [lZ, if_neg]
                  intro e1; subst e1
                  rcases hb' with hb' | hb'
                  · exact hb'.2.2 id (by rw [fZ]; exact List.mem_cons_self ..)
                  · exact nE (List.mem_append.2 (.inr (List.mem_append.2 (.inl hb'))))
                have l9 := l2.mono (w' := w') (β' := β') hI hk2 iR
                have Th := sr.mono (w' := w') (β' := β') hI (fun b' hb' => hk2 b' (hb'.elim .inl fun hb' => by cases hb')) iR
                have := aG.append l9 Th
                rwa [List.append_nil] at this
              · intro I' β' hd'
                have := R.rs (w := w') (I := I') (off := 0) (len := xs.length + ys.length) (cap := cap) hd' (by simpa using hfit) (by omega)
                rw [show len + dY = xs.length + ys.length by omega]
                simpa using this
              · have : cE S e := hd
                rw [hee] at this
                simpa [cE] using this
        · cases E7
      · cases he
    · cases he
  · simp at he
    obtain ⟨_, fR, hv⟩ := hx.zS
    simp [rowsOf] at yJ
    obtain ⟨rfl, rfl⟩ := yJ
    have lq : (S.app e).h [d] = some (some ([] ++ ys)) := by rw [← he]; simp [ak.app, put, bM, bw, av]
    have lu : ∀ j, j ≠ [d] → j ≠ [d] → (S.app e).h j = S.h j := fun j h1 _ => by rw [← he]; simp [ak.app, put, bM, bw, av, h1]
    have hee : e = { ep := [(d, .rs [d] 0 (([] : Rows).length + ys.length))], rd := [] ++ i2, wr := e.wr } := by rw [← he]; simp [put, bM]
    by_cases hy0 : ys = []
    · exact idle [d] _ fR hv rfl hy0 (.inl rfl) lq lu (fun h => absurd rfl h) hee rfl
    · have : 0 < ys.length := List.length_pos_iff.2 hy0
      exact grow [d] _ fR 0 0 [] [] hv rfl (by omega) (by simp) (.inl rfl) .nil (fun r hr => by cases hr) List.nodup_nil (fun b hb => by cases hb) (.inl rfl) lq lu (fun h => absurd rfl h) hee rfl
  · cases he
theorem xg.ahw {t t2 ty el : TypeId} {i : TypeInfo} {cN yv : Value} {dY : Nat} {vy : List Value} (hu : C.P.underlying t = some (.slice el)) (hi : C.P.info? el = some i) (kj : i.zero = some cN) (hsrc : Src C.P i.size t2 yv dY vy w) : xg C.P w t t2 ty el i cN yv dY vy where
  idle := fun hn fR => by
    subst hn
    have afy : vy = [] := List.length_eq_zero_iff.1 (by simpa using hsrc.newsLen)
    subst afy
    rcases hsrc.kind with ⟨e', hk'⟩ | hk' <;>
      (cases fR <;> simp [Builtin.append_, e6 hu, e6 (C := C) hk', sizeOf, typeInfo, hi, hsrc.len, hsrc.cells, storeCells])
  room := fun b p len cap w' hg hst => by
    rcases hsrc.kind with ⟨e', hk'⟩ | hk' <;>
      simp [Builtin.append_, e6 hu, e6 (C := C) hk', sizeOf, typeInfo, hi, hsrc.len, hsrc.cells, hg, lP, hst]
  grow := fun fR n cap vs hold hg h63 hfit => run_append_grow_src (P := C.P) w t t2 ty el i cN hu hi kj fR n cap vs hold yv dY vy hsrc hg h63 hfit
theorem xg.alM{t t2 ty el:TypeId}{i:TypeInfo}{cN:Value}{k I0:IntKind}{N:Int}(hu:C.P.underlying t=some (.slice el))(hk:C.P.underlying t2=some (.int k))(hi:C.P.info? el=some i)(kj:i.zero=some cN)(vK:cN.cells.size=i.size)(h0:0<i.size)(hby:i.bytes≤4096)(bI:0≤N∧N≤4294967296):xg C.P w t t2 ty el i cN (.int I0 N) N.toNat (Builtin.zeroCells cN.cells N.toNat).toList:=by have hw1:IntKind.i64.wrap N=N:=IntWalk.i64_in N (by omega);have LK:¬(N*(i.bytes:Int)>2^48):=by{have:N*(i.bytes:Int)≤4294967296*4096:=Int.mul_le_mul (by omega) (by omega) (by omega) (by omega);omega};have mV:¬(N<0):=by{omega};have vm:∀w':World,(if N.toNat*i.size=0 then pure #[]else do pure (Builtin.zeroCells (←zeroValue el).cells N.toNat):Sem (Array Value)).run C.P w'= .ok (Builtin.zeroCells cN.cells N.toNat) w':=fun w'=>by{by_cases hz:N.toNat*i.size=0;·{rw[if_pos hz];have:N.toNat=0:=by{rcases Nat.mul_eq_zero.1 hz with h|h;·{exact h};·omega};rw[this];simp[Builtin.zeroCells]};·rw[if_neg hz];simp[zeroValue,typeInfo,hi,kj]};have anY:(underlying t2).run C.P w= .ok (.int k) w:=e6 hk;refine⟨fun hn fR=> ?_,fun b p len cap w' hg hst=> ?_,fun fR n cap vs hold hg h63 hfit=> ?_⟩;·{have Ev:N=0:=by{omega};subst Ev;cases fR<;>simp[Builtin.append_,e6 hu,e6 (C:=C) hk,sizeOf,typeInfo,hi,asInt,asIntOf,storeCells,hw1,Builtin.zeroCells]};·{have nD:¬(281474976710656<N*(i.bytes:Int)):=by{omega};by_cases hz:N.toNat*i.size=0;·{have hn0:N.toNat=0:=by{rcases Nat.mul_eq_zero.1 hz with h|h;·{exact h};·omega};rw[hn0]at hst hg;have afn:w'=w:=by{simpa[Builtin.zeroCells,storeCells]using hst.symm};subst afn;have Ev:N=0:=by{omega};subst Ev;simp[Builtin.append_,e6 hu,e6 (C:=C) hk,sizeOf,typeInfo,hi,asInt,asIntOf,hw1,storeCells];omega};·simp[Builtin.append_,e6 hu,e6 (C:=C) hk,sizeOf,typeInfo,zeroValue,hi,kj,asInt,asIntOf,hw1,mV,nD,hg,hz,lP,hst]};·have hn:¬(n+N.toNat≤cap):=by{omega};have h63':¬(9223372036854775807<((n:Int)+(N.toNat:Int))):=by{omega};have RG:¬(281474976710656<Builtin.nextslicecap (n+N.toNat) cap*i.bytes):=by{omega};have nD:¬(281474976710656<N*(i.bytes:Int)):=by{omega};have adp:¬(9223372036854775807<(n:Int)+max N 0):=by{omega};by_cases hz:N.toNat*i.size=0;·{have hn0:N.toNat=0:=by{rcases Nat.mul_eq_zero.1 hz with h|h;·{exact h};·omega};have Ev:N=0:=by{omega};subst Ev;have hn':¬(n≤cap):=by{simpa using hn};have adn:¬(281474976710656<Builtin.nextslicecap n cap*i.bytes):=by{simpa using RG};have adq:¬(9223372036854775807<(n:Int)):=by{omega};simp[Builtin.append_,e6 hu,e6 (C:=C) hk,sizeOf,typeInfo,zeroValue,hi,kj,asInt,asIntOf,hw1,hn',Question.forced,hold,newRow,grownCap,Builtin.zeroCells,adn,adq]};·simp[Builtin.append_,e6 hu,e6 (C:=C) hk,sizeOf,typeInfo,zeroValue,hi,kj,asInt,asIntOf,hw1,mV,nD,hn,h63',adp,RG,Question.forced,hold,newRow,grownCap,hz];congr 2;apply Array.ext';simp[List.append_assoc]
theorem ahF(h:aR C E w S a β F){o:Oper}{c:Call}(ho:o.op= .call c)(hb:c.callee= .builtin .append){xv yv:aa}{t:TypeId}{k:IntKind}(hargs:(c.args.toList.map fun x=>un true (S.get C x))=[xv,yv])(ht:c.argTypes[0]? =some t)(gF:(c.argTypes[1]?).bind C.P.underlying=some (.int k)){e:bx}(he:AG C S o t xv yv=some e)(hd:cE S e)(hn:∀a' w',bG C E (S.app e) a' w'→next a' w'):o.wp C.P a w next Q:=by match iz:c.args.toList,hargs with|[x,y],hargs=>simp at hargs;obtain⟨yK,Fa⟩:=hargs;have hx:=h.ee x;have hy:=h.ee y;rw[yK]at hx;rw[Fa]at hy;simp only[Option.bind_eq_some_iff]at gF;obtain⟨t2,E2,gF⟩:=gF;unfold AG at he;split at he;·{rename_i el d N hu bM bI;obtain⟨I0,afJ⟩:=tv hy bI;split at he;·{rename_i i z xs i1 hi hz yJ;split at he;·{rename_i ji;simp only[Bool.and_eq_true,decide_eq_true_eq]at ji;obtain⟨⟨⟨⟨⟨⟨⟨adM,hzl⟩,SD⟩,hby⟩,IP⟩,EM⟩,MN⟩,hfr⟩:=ji;obtain⟨cN,kj,vK⟩:∃cN,i.zero=some cN∧cN.cells.size=i.size:=by{unfold GZ at IP;split at IP;·{rename_i z yM;exact⟨z,yM,by simpa using IP⟩};·cases IP};have afL:zf cN.cells.toList=some z:=by{unfold Aj at hz;rw[hi]at hz;simp only[Option.bind_some,kj]at hz;exact hz};have sy:=Jk (w:=w) (I:=aK E w F) (β:=β) afL;have tQ:=I7 cN.cells N.toNat (by omega);have Iu:(Builtin.zeroCells cN.cells N.toNat).toList=(List.replicate N.toNat cN.cells.toList).flatten:=tQ;have sr:aG w (aK E w F) β [] (Builtin.zeroCells cN.cells N.toNat).toList (List.replicate N.toNat z).flatten:=by{rw[Iu];exact aG.flatten sy _};have hrc:qq (List.replicate N.toNat z)=true:=by{unfold qq;rw[List.all_eq_true];intro r hr;rw[(List.mem_replicate.1 hr).2];exact MN};obtain⟨_,Bv⟩:=Uu sr (U4 hrc);refine PC h bM vK hby (by simpa using EM) hfr (fun r hr=>by rw[(List.mem_replicate.1 hr).2];exact hzl) hx yJ (dY:=N.toNat) (by simp) sr (by simp[Builtin.zeroCells,vK]) Bv (el:=el) (t:=t) (t2:=t2) (yv:=a.eval y) (fun hr=> ?_) ?_ he hd hn;·{rw[Gh ho hb];refine nX ?_;have e1:c.args.map a.eval= #[a.eval x,a.eval y]:=by{rw[Fx iz];rfl};rw[e1];have e2:∀args,Builtin.append_ c.argTypes o.type args=Builtin.append_ #[t,t2] o.type args:=fun args=>by{unfold Builtin.append_;simp[ht,E2]};show(Builtin.append_ c.argTypes o.type #[a.eval x,a.eval y]).run C.P w=_;rw[e2];exact hr};·rw[afJ];exact xg.alM hu gF hi kj vK SD hby adM};·cases he};·cases he};·cases he
theorem ND(h:aR C E w S a β F){o:Oper}{c:Call}(ho:o.op= .call c)(hb:c.callee= .builtin .append){e:bx}(he:lV C S o c.argTypes (c.args.toList.map fun x=>un true (S.get C x))=some e)(hd:cE S e)(hn:∀a' w',bG C E (S.app e) a' w'→next a' w'):o.wp C.P a w next Q:=by unfold lV at he;split at he;·{rename_i xv yv t apO hargs ht gF;match iz:c.args.toList,hargs with|[x,y],hargs=>simp at hargs;obtain⟨yK,Fa⟩:=hargs;have hx:=h.ee x;have hy:=h.ee y;rw[yK]at hx;rw[Fa]at hy;simp only[Option.bind_eq_some_iff]at gF;obtain⟨t2,E2,gF⟩:=gF;unfold AF at he;split at he;·{rename_i el d hu bM;split at he;·{rename_i i xs i1 ys i2 hi yJ E9;split at he;·{rename_i ji;simp only[Bool.and_eq_true,decide_eq_true_eq]at ji;obtain⟨⟨⟨⟨⟨⟨yL,SD⟩,hby⟩,hz⟩,EM⟩,hrc⟩,hfr⟩:=ji;have yL:=xy yL;obtain⟨cN,kj,vK⟩:∃cN,i.zero=some cN∧cN.cells.size=i.size:=by{unfold GZ at hz;split at hz;·{rename_i z yM;exact⟨z,yM,by simpa using hz⟩};·cases hz};obtain⟨PJ,dY,HG,vy,acU,yH,Bt,sr,yI,Iw⟩:=U7 h hy E9 yL;obtain⟨aer,Bv⟩:=Uu sr (U4 hrc);subst aer;have hsrc:=akB (w:=w) (cap:=HG) gF yI Iw Bv;have IM:∀{v:Value}{w':World},(Builtin.append_ c.argTypes o.type #[a.eval x,a.eval y]).run C.P w= .ok v w'→(execOp a.eval o).run C.P w= .ok (.value v) w':=fun hr=>by{rw[Gh ho hb];refine nX ?_;have:c.args.map a.eval= #[a.eval x,a.eval y]:=by{rw[Fx iz];rfl};rw[this];exact hr};have vm:∀args,Builtin.append_ c.argTypes o.type args=Builtin.append_ #[t,t2] o.type args:=fun args=>by{unfold Builtin.append_;simp[ht,E2]};exact PC h bM vK hby EM hfr yL hx yJ Bt sr yI Bv (el:=el) (t:=t) (t2:=t2) (yv:=a.eval y) (fun hr=>IM (by rw[vm];exact hr)) (xg.ahw hu hi kj (by rw[yH];exact hsrc)) he hd hn};·cases he};·cases he};·cases he};·{rename_i xv yv t k hargs ht gF;exact ahF h ho hb hargs ht gF he hd hn};·cases he
theorem MT:∀{rows:Rows},iC rows=true→ek rows.flatten=true|[],_=>rfl|r::rows,h=>by simp only[iC,List.all_cons,Bool.and_eq_true]at h;have ih:=MT (rows:=rows) (by simpa[iC]using h.2);have:∀{a b:List aa},ek a=true→ek b=true→ek (a++b)=true:=by{intro a b ha hb;induction a with|nil=>(exact hb)|cons c a ih2=>simp only[ek,Bool.and_eq_true,List.cons_append]at ha⊢;exact⟨ha.1,ih2 ha.2⟩};simpa using this h.1 ih
theorem aR.freeze(h:aR C E w S a β F){id:Id}{rows:Rows}{d:Nat}(hid:S.h id=some (some rows))(hi:iC rows=true)(hs:S.t d= .rs id 0 rows.length):∃F',aR C E w ⟨S.n,av S.t d (.sl rows),av S.h id (some none)⟩ a β F':=by have yC:=h.obj id rows hid;let F':Id→List Nat:=fun i=>if i=id then[]else F i;have hsub:∀i b,b∈F' i→b∈F i:=fun i b hb=>by{by_cases e:i=id;·{simp[F',e]at hb};·simpa[F',e]using hb};have hI:∀b,aK E w F b→aK E w F' b:=fun b hb=>⟨hb.1,hb.2.1,fun i hm=>hb.2.2 i (hsub i b hm)⟩;have gu:∀{β':Id→Option Loc}{f:List Nat}{v:Value}{x:aa},R w (aK E w F) β' f v x→R w (aK E w F') β' f v x:=fun hr=>hr.mono hI (fun _ _=>rfl) (fun _ _ h=>h);refine⟨F', ?_⟩;refine{n:=h.n,df:=h.df.mono (fun b hb=>⟨hI b hb.1,hb.2⟩) (fun _ _=>rfl),slot:=fun t=> ?_,obj:=fun i r hr=> ?_,dead:=fun i hi'=> ?_,nd:=fun i=> ?_,dx:=fun i j b hb hb'=>h.dx i j b (hsub i b hb) (hsub j b hb'),dom:=fun i hi'=> ?_,lt:=fun i b hb=>h.lt i b (hsub i b hb),kept:=h.kept,cC:=fun g cs hg=>gu (h.cC g cs hg),ns:=h.ns,kb:=fun k r hk hr=>h.kb k r hk (by by_cases e:k=id;·{subst e;simp[av]at hr};·simpa[av,e]using hr)};·{by_cases e:t=d;·{subst e;have hv:=h.slot t;rw[hs]at hv;simp only[av,if_true];obtain⟨_,yG⟩:=hv.nc;clear hv;rcases yG with⟨ad,l,h1,hv,hb⟩|⟨b,o,sz,n,cap,hb,hfit,hle,hv⟩;·{have:rows=[]:=List.length_eq_zero_iff.1 h1;subst this;rw[hv];exact .gj};·rcases yC with⟨h1,_,_⟩|⟨b',h1,_⟩|⟨b',o',sz',n',vs,cG,hb',fZ,hB,⟨hne,cp⟩,aen,bW,hl⟩;·{rw[h1]at hb;cases hb};·{rw[h1]at hb;cases hb};·rw[hb']at hb;simp only[Option.some.injEq,Loc.cX.injEq]at hb;obtain⟨rfl,rfl,rfl,rfl⟩:=hb;have mV:aG w (aK E w F) cc cG vs rows.flatten:=R.nL hl (by simpa[fu]using MT hi);have ED:cG=[]:=R.MV hl (by simpa[fu]using MT hi);subst ED;have q4:b'∈F id:=by{rw[fZ];exact List.mem_cons_self .. };have so:aK E w F' b':=⟨(h.lt id b' q4).2.elim (fun h=> .inr (.inl h)) (fun h=> .inr (.inr h)),(h.lt id b' q4).1,fun i hm=>by by_cases e:i=id;·{simp[F',e]at hm};·exact e (h.dx i id b' (hsub i b' hm) q4)⟩;rw[hv,Nat.zero_mul,Nat.add_zero];exact .sl cp so bW hle (gu mV)};·simp only[av,if_neg e];exact gu (h.slot t)};·{by_cases e:i=id;·{subst e;simp[av]at hr};·simp only[av,if_neg e]at hr;have:=(h.obj i r hr).mono (w':=w) (I':=aK E w F') (β':=β) hI (fun _ _=>rfl) (fun _ _ h=>h);simpa[F',e]using this};·{by_cases e:i=id;·{simp[F',e]};·simp only[F',if_neg e];refine h.dead i fun r hr=>hi' r ?_;simp[av,e,hr]};·{by_cases e:i=id;·{simp[F',e]};·simpa[F',e]using h.nd i};·by_cases e:i=id;·{subst e;simp[av]at hi'};·simp only[av,if_neg e]at hi';exact h.dom i hi'
theorem JX{α β':Type}[DecidableEq α](f:α→β')(k:α)(u v:β'):av (av f k u) k v=av f k v:=by funext j;by_cases e:j=k<;>simp[av,e]
theorem alo{α β':Type}[DecidableEq α](f:α→β'){k l:α}(hne:k≠l)(u v:β'):av (av f k u) l v=av (av f l v) k u:=by funext j;by_cases e:j=k;·{subst e;simp[av,hne]};·by_cases e2:j=l;·{subst e2;simp[av,e]};·simp[av,e,e2]
theorem abP{o:Oper}{ts:Array TypeId}{xs:List aa}{e:bx}(h:lV C S o ts xs=some e):∃d rows rd,o.dst=some d∧S.h [d]=none∧((∃id,(∃r,S.h id=some (some r))∧e=put o (.rs [d] 0 rows.length) rd [(id,none),([d],some rows)])∨e=put o (.rs [d] 0 rows.length) rd [([d],some rows)]):=by have tail:∀{d m:Nat}{x:aa}{xs ys:Rows}{i1 i2:List Id},o.dst=some d→(S.h [d]).isNone=true→lQ S o d m x xs ys i1 i2=some e→∃d rows rd,o.dst=some d∧S.h [d]=none∧((∃id,(∃r,S.h id=some (some r))∧e=put o (.rs [d] 0 rows.length) rd [(id,none),([d],some rows)])∨e=put o (.rs [d] 0 rows.length) rd [([d],some rows)]):=by{intro d m x xs ys i1 i2 hd hn h;unfold lQ at h;split at h;·{split at h;·{rename_i hid;split at h;·{simp only[Option.some.injEq]at h;subst h;exact⟨d,xs++ys,_,hd,nA hn, .inl ⟨_,⟨_,hid⟩,by rw[List.length_append]⟩⟩};·cases h};·cases h};·{simp only[Option.some.injEq]at h;subst h;exact⟨d,xs++ys,_,hd,nA hn, .inr (by rw[List.length_append])⟩};·cases h};unfold lV at h;split at h;·{unfold AF at h;split at h;·{rename_i hd;split at h;·{split at h;·{rename_i hc;simp only[Bool.and_eq_true]at hc;exact tail hd hc.2 h};·cases h};·cases h};·cases h};·{unfold AG at h;split at h;·{rename_i hd _;split at h;·{split at h;·{rename_i hc;simp only[Bool.and_eq_true]at hc;exact tail hd hc.2 h};·cases h};·cases h};·cases h};·cases h
theorem ahE(h:aR C E w S a β F){o:Oper}{f:FuncId}{c:Call}(ho:o.op= .call c)(hb:c.callee= .builtin .append){e:bx}(he:(lV C S o c.argTypes (c.args.toList.map fun x=>un true (S.get C x))).bind (qY C f o)=some e)(hd:cE S e)(hn:∀a' w',bG C E (S.app e) a' w'→next a' w'):o.wp C.P a w next Q:=by simp only[Option.bind_eq_some_iff]at he;obtain⟨e1,h1,h2⟩:=he;obtain⟨d,rows,rd,bM,hnone,hsh⟩:=abP h1;unfold qY at h2;split at h2;·{rcases hsh with⟨id,⟨r,hid⟩,rfl⟩|rfl;·{simp only[bM,put]at h2;split at h2;·{rename_i hc;simp only[Option.some.injEq]at h2;subst h2;refine ND h ho hb h1 (by simpa[cE,put,bM]using hd) fun a' w'⟨β',F',hS⟩=>hn a' w' ?_;have hne:id≠[d]:=fun e=>by{rw[e,hnone]at hid;cases hid};obtain⟨er,lg⟩:=hS.freeze (id:=[d]) (rows:=rows) (d:=d) (by simp[ak.app,put,bM,bw,av,hne.symm]) hc.2 (by simp[ak.app,put,bM,di,av]);refine⟨β',er, ?_⟩;simp only[ak.app,put,bM,di,bw]at lg⊢;rw[JX,alo _ hne,JX]at lg;exact lg};·cases h2};·simp only[bM,put]at h2;split at h2;·{rename_i hc;simp only[Option.some.injEq]at h2;subst h2;refine ND h ho hb h1 (by simpa[cE,put,bM]using hd) fun a' w'⟨β',F',hS⟩=>hn a' w' ?_;obtain⟨er,lg⟩:=hS.freeze (id:=[d]) (rows:=rows) (d:=d) (by simp[ak.app,put,bM,bw,av]) hc.2 (by simp[ak.app,put,bM,di,av]);refine⟨β',er, ?_⟩;simp only[ak.app,put,bM,di,bw]at lg⊢;rw[JX,JX]at lg;exact lg};·cases h2};·simp only[Option.some.injEq]at h2;subst h2;exact ND h ho hb h1 hd hn
end
end Go.Ab
