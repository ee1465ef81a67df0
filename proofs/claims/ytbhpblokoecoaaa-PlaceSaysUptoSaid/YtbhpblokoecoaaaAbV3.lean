import Derived.Test.YtbhpblokoecoaaaAbV2
namespace Go.Ab
open Go
theorem NV{e:Option Int}:eE (g8 e)=g8 e:=by cases e<;>rfl
theorem Lh{e:Option Int}{p:Id}{j:Nat}:bT p j [g8 e]=([g8 e],[]):=by cases e<;>rfl
theorem Pg{e:Option Int}{p:Id}:imp p (g8 e)=(g8 e,[]):=by cases e<;>rfl
/-! ### Owned cells become objects -/
section
variable{α:Type}{c:α→List aa}{q:List α}{p:Id}{j:Nat}{l l0 l':List aa}{v v':aa}{wr:List (Id×Option Rows)}{rows:Rows}
theorem agb:bT p j []=([],[]):=rfl
theorem af9(hl:l=v::l0)(hv:bT p j [v]=([v],[]))(k:bT p (j+1) l0=(l',wr)):bT p j l=(v::l',wr):=by subst hl;cases v<;>simp_all[bT]
theorem agc{m:Nat}(hl:l= .own (q.map c) m::l0)(k:bT p (j+1) l0=(l',wr)):bT p j l=(.rs (j::p) 0 m::l',(j::p,some (q.map c))::wr):=by subst hl;simp[bT,k]
theorem aga(hl:l= .dW rows::l0)(k:bT p (j+1) l0=(l',wr)):bT p j l=(.mr (j::p)::l',(j::p,some rows)::wr):=by subst hl;simp[bT,k]
theorem Bn(h:bT p j l=(l',wr):=by repeat'(first|exact agb|(apply af9;exact rfl;(first|exact rfl|exact alj|exact Lh))|(apply agc;exact rfl)|(apply alk;exact rfl)|(apply aga;exact rfl))):bT p j l=(l',wr):=h
theorem aba{m:Nat}:imp p (.own (q.map c) m)=(.rs p 0 m,[(p,some (q.map c))]):=by simp[imp]
theorem aa8(h:bT p 0 l=(l',wr)):imp p (.agg l)=(.agg l',wr):=by simp[imp,h]
theorem abb(h:bT p 0 l=(l',wr)):imp p (.aH l)=(.mp p 0 0,(p,some [l'])::wr):=by simp[imp,h]
theorem aa4:eT p j []=([],[]):=rfl
theorem aa3(hl:l=v::l0)(hv:eT p j [v]=([v],[]))(k:eT p (j+1) l0=(l',wr)):eT p j l=(v::l',wr):=by subst hl;cases v with|own rows m=>(simp[eT]at hv)|aH cells=>(simp[eT]at hv)|dW rows=>(simp[eT]at hv)|agg cs=>(simp only[eT,List.append_nil,Prod.mk.injEq,List.cons.injEq,aa.agg.injEq,and_true]at hv;simp[eT,k,hv.1,hv.2])|b9 vs=>(simp[eT]at hv)|_=>simp[eT,k]
theorem aa5{m:Nat}(hl:l= .own (q.map c) m::l0)(k:eT p (j+1) l0=(l',wr)):eT p j l=(.rs (j::p) 0 m::l',(j::p,some (q.map c))::wr):=by subst hl;simp[eT,k]
theorem abc(h:eT p 0 l=(l',wr)):imp p (.b9 l)=(.b9 l',wr):=by simp[imp,h]
theorem C6(h:imp p v=(v',wr):=by first|exact(rfl:imp _ (.val _)=(.val _,[]))|exact(rfl:imp _ (.sl _)=(.sl _,[]))|exact aa9|exact Pg|exact aba|exact aiW|exact aiX|(apply aa8;exact Bn)|(apply abb;exact Bn)|(apply abc;repeat'(first|exact aa4|(apply aa3;exact rfl;(first|exact rfl|exact aiT|exact aiV))|(apply aa5;exact rfl)|(apply aiU;exact rfl)|(apply aiS;exact rfl;exact Bn)))|exact rfl):imp p v=(v',wr):=h
theorem abT{n:Nat}{vs:List aa}:aF n [] vs=⟨n,fun _=> .bX,fun _=>none⟩:=rfl
theorem abS{n s:Nat}{t:Nat→aa}{h:Id→Option (Option Rows)}{l:List Nat}{vs:List aa}(hi:imp [s] v=(v,[]))(k:aF n l vs=⟨n,t,h⟩):aF n (s::l) (v::vs)=⟨n,aE t s v,h⟩:=by simp[aF,k,hi,bL]
theorem abR{n s:Nat}{t:Nat→aa}{h:Id→Option (Option Rows)}{l:List Nat}{vs:List aa}(hi:imp [s] v=(v',wr))(k:aF n l vs=⟨n,t,h⟩):aF n (s::l) (v::vs)=⟨n,aE t s v',bL h wr⟩:=by simp[aF,k,hi]
theorem Gh{n:Nat}{t:Nat→aa}{h:Id→Option (Option Rows)}{l:List Nat}{vs:List aa}(k:aF n l vs=⟨n,t,h⟩:=by repeat'(first|exact abT|(apply abS;first|exact rfl|exact aa9|exact Pg)|(apply abR;exact C6))):aF n l vs=⟨n,t,h⟩:=k
end
section
variable{C:aV}{f:FuncId}{call:gS}{c:Code}{Q:Exit×an→Prop}{n:Nat}{t:Nat→aa}{h:Id→Option (Option Rows)}{l:List Nat}{vs:List aa}
theorem mk(k:W C f call c ⟨n,t,h⟩ Q)(hm:aF n l vs=⟨n,t,h⟩:=by exact Gh):W C f call c (aF n l vs) Q:=by rw[hm];exact k
theorem cZ{e:Exit}(k:Q (e,⟨n,t,h⟩))(hm:aF n l vs=⟨n,t,h⟩:=by exact Gh):Q (e,aF n l vs):=by rw[hm];exact k
end
/-! ### Packing -/
def MP{α:Type}(a b:List α):List α:=b.take (min b.length a.length)++a.drop (min b.length a.length)
theorem B3{α:Type}(a b:List α):(MP a b).length=a.length:=by unfold MP;rw[List.length_append,List.length_take,List.length_drop];omega
section
variable{L:Id→Option (Option Rows)}{n:Nat}{α:Type}{c:α→List aa}{q:List α}{id:Id}{cs cs':List aa}{ids is:List Id}{x v:aa}
theorem sy [hc:jQ c](q:List α):eN (q.map c)=true:=XO c q hc.cX
theorem qd{m m':Nat}(h:m=m':=by first|exact rfl|exact List.length_map _|(first|(with_reducible assumption)|assumption)|(symm;(first|(with_reducible assumption)|assumption))|(simp only[List.length_map,List.length_set,B3];done)|(simp only[List.length_map,List.length_set,B3];first|(first|(with_reducible assumption)|assumption)|(symm;(first|(with_reducible assumption)|assumption)))|(simp only[List.length_map,List.length_set,B3, *];done)):m=m':=h
theorem ad1{y:aa×List Id}:∀{a:aa},flat a=true→pk L (n+1) a=some y→y=(a,[]):=by intro a hf h;cases a with|agg cs=>(simp only[flat]at hf;simp[pk,fA,hf]at h;exact h.symm)|b9 cs=>(simp only[flat]at hf;simp[pk,fA,hf]at h;exact h.symm)|own rs m=>(simp only[flat]at hf;simp[pk,hf]at h;exact h.symm)|aH cs=>(simp only[flat]at hf;simp[pk,hf]at h;exact h.symm)|fn k a b=>(simp only[pk]at h;split at h;·{simpa using h.symm};·cases h)|rs _ _ _=>(simp[flat]at hf)|mp _ _ _=>(simp[flat]at hf)|mr _=>(simp[flat]at hf)|dj _ _=>(simp[flat]at hf)|cN=>(simp[flat]at hf)|_=>simp[pk]at h;exact h.symm
theorem NF:∀{cs:List aa}{y:List aa×List Id},ey cs=true→eD (pk L (n+1)) cs=some y→y=(cs,[])|[],y,_,h=>by{simp[eD]at h;exact h.symm}|c::cs,y,hf,h=>by simp only[ey,Bool.and_eq_true]at hf;simp only[eD,Option.bind_eq_some_iff,Option.map_eq_some_iff]at h;obtain⟨u,hu,v,hv,rfl⟩:=h;obtain rfl:=ad1 hf.1 hu;obtain rfl:=NF hf.2 hv;rfl
theorem GC{y:List aa×List Id}(h:eD (pk L (n+1)) cs=some y):fA (pk L (n+1)) cs=some y:=by unfold fA;split;·{rename_i hf;rw[NF hf h]};·exact h
theorem NI:∀{rs:Rows}{y:Rows×List Id},eN rs=true→ek (fA (pk L (n+1))) rs=some y→y=(rs,[])|[],y,_,h=>by{simp[ek]at h;exact h.symm}|r::rs,y,hf,h=>by simp only[eN,Bool.and_eq_true]at hf;simp only[ek,Option.bind_eq_some_iff,Option.map_eq_some_iff]at h;obtain⟨u,hu,v,hv,rfl⟩:=h;obtain rfl:u=(r,[]):=by{simp[fA,hf.1]at hu;exact hu.symm};obtain rfl:=NI hf.2 hv;rfl
theorem adW{rows:Rows}{y:Rows×List Id}(h:ek (fA (pk L (n+1))) rows=some y):iW (pk L (n+1)) rows=some y:=by unfold iW;split;·{rename_i hf;rw[NI hf h]};·exact h
theorem Q0{w:Value}(hx:x= .val w:=by exact rfl):pk L (n+1) x=some (.val w,[]):=by rw[hx];rfl
theorem QZ{r:Rows}(hx:x= .sl r:=by exact rfl):pk L (n+1) x=some (.sl r,[]):=by rw[hx];rfl
theorem QT{r:List aa}(hx:x= .au r:=by exact rfl):pk L (n+1) x=some (.au r,[]):=by rw[hx];rfl
theorem adV{e:Option Int}(hx:x=g8 e:=by first|exact rfl|exact yc):pk L (n+1) x=some (g8 e,[]):=by rw[hx];cases e<;>rfl
theorem QO(hx:x= .cN:=by exact rfl):pk L (n+1) x=some (.own [] 0,[]):=by rw[hx];rfl
theorem QX{m:Nat}[hc:jQ c](hx:x= .rs id 0 m:=by exact rfl)(hh:L id=some (some (q.map c)):=by exact rfl)(hl:m=q.length:=by exact qd):pk L (n+1) x=some (.own (q.map c) q.length,[id]):=by rw[hx,hl];exact Q1 hh (by simp) (sy q)
theorem adX{m:Nat}[hc:jQ c](hl:m≤q.length)(hx:x= .rs id 0 m:=by exact rfl)(hh:L id=some (some (q.map c)):=by exact rfl):pk L (n+1) x=some (.own (q.map c) m,[id]):=by rw[hx];exact Q1 hh (by simpa using hl) (sy q)
theorem QS{m:Nat}[hc:jQ c](hx:x= .own (q.map c) m:=by exact rfl):pk L (n+1) x=some (.own (q.map c) m,[]):=by rw[hx];simp[pk,sy]
theorem QI(hx:x= .agg cs:=by exact rfl)(hf:ey cs=true:=by exact rfl):pk L (n+1) x=some (.agg cs,[]):=by rw[hx];simp[pk,fA,hf]
theorem QH(hx:x= .agg cs)(h:eD (pk L (n+1)) cs=some (cs',ids)):pk L (n+2) x=some (.agg cs',ids):=by rw[hx,show pk L (n+2) (.agg cs)=(fA (pk L (n+1)) cs).map fun x=>(.agg x.1,x.2)from rfl,GC h];rfl
theorem QM(hx:x= .mp id 0 0:=by exact rfl)(hh:L id=some (some [cs]):=by exact rfl)(hf:ey cs=true:=by exact rfl):pk L (n+1) x=some (.aH cs,[id]):=by rw[hx];simp[pk,fA,hh,hf]
theorem QK(hx:x= .mp id 0 0)(hh:L id=some (some [cs]))(h:eD (pk L (n+1)) cs=some (cs',ids)):pk L (n+2) x=some (.aH cs',id::ids):=by have e:pk L (n+2) (.mp id 0 0)=match L id with|some (some [cs])=>if 0=0∧0=0 then(fA (pk L (n+1)) cs).map fun x=>(.aH x.1,id::x.2)else none|_=>none:=rfl;rw[hx,e,hh];simp only[and_self,if_true,GC h];rfl
theorem QL{SC:α}[hc:jQ c](hx:x= .mp id 0 0:=by exact rfl)(hh:L id=some (some [c SC]):=by exact rfl):pk L (n+1) x=some (.aH (c SC),[id]):=by rw[hx];simp[pk,fA,hh,hc.cX]
theorem QN{rows:Rows}(hx:x= .mr id:=by exact rfl)(hh:L id=some (some rows):=by exact rfl):pk L (n+1) x=some (.dW rows,[id]):=by rw[hx];simp[pk,hh]
theorem QJ{k:Fn}{a b:List aa}(hx:x= .fn k a b:=by exact rfl)(hf:(dU a&&dU b)=true:=by exact rfl):pk L (n+1) x=some (.fn k a b,[]):=by rw[hx];simp only[Bool.and_eq_true]at hf;simp[pk,hf.1,hf.2]
theorem Cd{p:aa→Option (aa×List Id)}(hx:cs=[]:=by exact rfl):eD p cs=some ([],[]):=by rw[hx];rfl
theorem Ft{p:aa→Option (aa×List Id)}{a b:aa}{as bs:List aa}{i1 i2:List Id}(hx:cs=a::as)(h:p a=some (b,i1))(k:eD p as=some (bs,i2)):eD p cs=some (b::bs,i1++i2):=by subst hx;simp[eD,h,k]
theorem ad3{t:Nat→aa}:jv L t []=some ([],[]):=rfl
theorem ad2{t:Nat→aa}{s:Nat}{sl:List Nat}{vs:List aa}(h1:pk L 9 (t s)=some (v,ids))(h2:jv L t sl=some (vs,is)):jv L t (s::sl)=some (v::vs,ids++is):=by rw[adQ,h1,Option.bind_some,h2];rfl
end
/-! ### One row of a list, open -/
section
variable{α:Type}{c c':α→List aa}{q:List α}{k:Nat}{x x':α}{r r':List aa}
theorem GQ(h:q[k]? =some x):(q.map c)[k]? =some (c x):=by simp[h]
theorem RN:(q.map c).set k r=(q.map c).set k r:=rfl
theorem KX:((q.map c).set k r).set k r'=(q.map c).set k r':=List.set_set ..
theorem afg:(q.map c).set k (c x)=(q.set k x).map c:=by rw[List.map_set]
theorem NK{p:List aa→Option (List aa×List Id)}{ids:List Id}(hp:∀y,p (c y)=some (c y,[]))(hr:p r=some (r',ids)):∀{q:List α}{k:Nat}{x:α},q[k]? =some x→ek p ((q.map c).set k r)=some ((q.map c).set k r',ids)|[],k,x,h=>by{simp at h}|y::q,0,x,h=>by{have key:∀q:List α,ek p (q.map c)=some (q.map c,[]):=by{intro q;induction q with|nil=>(rfl)|cons z q ih=>simp[ek,hp,ih]};simp[ek,hr,key]}|y::q,k+1,x,h=>by have ih:=NK hp hr (q:=q) (k:=k) (x:=x) (by simpa using h);simp only[List.map_cons,List.set_cons_succ,ek,hp,Option.bind_some,ih,Option.map_some,List.nil_append]
theorem NA(hf:ey r=false):∀{q:List α}{k:Nat}{x:α},q[k]? =some x→eN ((q.map c).set k r)=false|[],k,x,h=>by{simp at h}|y::q,0,x,h=>by{simp[eN,hf]}|y::q,k+1,x,h=>by have ih:=NA hf (q:=q) (k:=k) (x:=x) (by simpa using h);simp[eN,ih]
end
/-! ### Packing -/
section
variable{L:Id→Option (Option Rows)}{n m:Nat}{α:Type}{c c':α→List aa}{q:List α}{k:Nat}{x x':α}{r r':List aa}{id:Id}{ids:List Id}{v:aa}
theorem uO{a b:Nat}(h:a≤b:=by first|exact Nat.le_refl _|(first|(with_reducible assumption)|assumption)|(simp only[List.length_set,B3];first|exact Nat.le_refl _|(first|(with_reducible assumption)|assumption))|(simp only[List.length_set,B3];omega)):a≤b:=h
theorem KJ [hc:jQ c](hx:v= .rs id 0 m)(hh:L id=some (some ((q.map c).set k r)))(hf:ey r=false)(hk:q[k]? =some x)(hm:m≤q.length)(hr:eD (pk L (n+1)) r=some (r',ids))(hr':r'=c x'):pk L (n+2) v=some (.own ((q.set k x').map c) m,id::ids):=by subst hr';rw[hx];have e:pk L (n+2) (.rs id 0 m)=match L id with|some (some rs)=>if 0=0∧m≤rs.length then(iW (pk L (n+1)) rs).map fun x=>(.own x.1 m,id::x.2)else none|_=>none:=rfl;rw[e,hh];simp only[List.length_set,List.length_map,true_and,if_pos hm];have h2:iW (pk L (n+1)) ((q.map c).set k r)=some ((q.map c).set k (c x'),ids):=by{unfold iW;rw[if_neg (by rw[NA hf hk];simp)];exact NK (fun y=>by simp[fA,hc.cX]) (GC hr) hk};rw[h2,afg];rfl
theorem QY [hc:jQ c](hx:v= .rs id 0 m)(hh:L id=some (some ((q.map c).set k r)))(hf:ey r=false)(hk:q[k]? =some x)(hm:m=q.length)(hr:eD (pk L (n+1)) r=some (r',ids))(hr':r'=c x'):pk L (n+2) v=some (.own ((q.set k x').map c) (q.set k x').length,id::ids):=by rw[List.length_set,←hm];exact KJ hx hh hf hk (by omega) hr hr'
theorem adZ{rows bZ:Rows}(hx:v= .rs id 0 m)(hh:L id=some (some rows))(hm:Nat.ble m rows.length=true)(hf:eN rows=false)(hr:ek (fA (pk L n)) rows=some (bZ,ids)):pk L (n+1) v=some (.own bZ m,id::ids):=by rw[hx];have e:pk L (n+1) (.rs id 0 m)=match L id with|some (some rs)=>if 0=0∧m≤rs.length then(iW (pk L n) rs).map fun x=>(.own x.1 m,id::x.2)else none|_=>none:=rfl;rw[e,hh];have hm':m≤rows.length:=Nat.le_of_ble_eq_true hm;simp only[true_and,if_pos hm',iW,hf,Bool.false_eq_true,if_false,hr,Option.map_some]
theorem aed{p:List aa→Option (List aa×List Id)}{rows:Rows}(e:rows=[]:=by exact rfl):ek p rows=some ([],[]):=by subst e;rfl
theorem aec{p:List aa→Option (List aa×List Id)}{rows rs rs':Rows}{i1 i2:List Id}(e:rows=r::rs)(h1:p r=some (r',i1))(h2:ek p rs=some (rs',i2)):ek p rows=some (r'::rs',i1++i2):=by subst e;simp[ek,h1,h2]
theorem QW [hc:jQ c](hx:v= .rs id 0 m:=by exact rfl)(hh:L id=some (some (q.map c)):=by exact rfl)(hm:m≤q.length:=by exact uO):pk L (n+1) v=some (.own (q.map c) m,[id]):=adX hm hx hh
end
section
variable{L:Id→Option (Option Rows)}{n:Nat}{α:Type}{c:α→List aa}{q:List α}{id:Id}{cs cs':List aa}{ids is:List Id}{x v:aa}
theorem s0{a:aa}{y:Option (aa×List Id)}(h:pk L n a=y:=by repeat'(first|exact Q0|exact ajB|exact adV|exact ajC|exact QZ|exact QX|exact QW|(apply QY;exact rfl;exact rfl;exact rfl;(first|(with_reducible assumption)|assumption);exact qd;rotate_left;exact rfl)|(apply KJ;exact rfl;exact rfl;exact rfl;(first|(with_reducible assumption)|assumption);exact uO;rotate_left;exact rfl)|exact QI|exact QT|exact QO|exact QS|exact QM|exact QL|exact adY|exact adT|exact ad0|exact QJ|exact QN|exact adU|exact adS|exact Cd|(apply Ft;exact rfl)|(apply QH;exact rfl)|(apply QK;exact rfl;exact rfl)|(apply ajD;exact rfl)|(apply adZ;exact rfl;exact rfl;exact rfl;exact rfl)|exact aed|(apply aec;exact rfl)|exact ajy|(apply ajA;exact rfl))):pk L n a=y:=h
theorem KN{t:Nat→aa}{sl:List Nat}{y:Option (List aa×List Id)}(h:jv L t sl=y:=by repeat'(first|exact ad3|(apply ad2;exact s0))):jv L t sl=y:=h
theorem ak{o:Option (Bool×List Nat)}{slots:List Nat}{t:Nat→aa}{vs:List aa}(hk:o=some (false,slots):=by exact rfl)(hp:jv L t slots=some (vs,is):=by exact KN)(hn:fN is=true:=by exact rfl):ei o ⟨n,t,L⟩=some (aF n slots vs):=by subst hk;show(iF ⟨n,t,L⟩ slots).map _=_;rw[aeA,hp];simp[hn]
end
/-! ### The same with names kept -/
section
variable{n:Nat}{t t2:Nat→aa}{h:Id→Option (Option Rows)}{slots r:List Nat}{l:List (Id×Id)}{hl y:List (Id×Rows)}{α:Type}{c:α→List aa}{q:List α}
def kM(n:Nat)(l:List (Nat×aa))(h:List (Id×Rows)):an:=⟨n,dO (fun _=> .bX) l,qe h⟩
/-! Rows that are flat, cell by cell. -/
theorem XI{r cs:List aa}{a:aa}(e:r=a::cs)(h1:flat a=true)(h2:ey cs=true):ey r=true:=by subst e;simp[ey,h1,h2]
theorem XJ{rows:Rows}(e:rows=[]:=by exact rfl):eN rows=true:=by subst e;rfl
theorem XK{rows rs:Rows}{r:List aa}(e:rows=r::rs)(h1:ey r=true)(h2:eN rs=true):eN rows=true:=by subst e;simp[eN,h1,h2]
theorem Nx{rows:Rows}(k:eN rows=true:=by(repeat'(first|exact sy _|exact XJ|(apply XK;exact rfl)|exact ahV|(apply XI;exact rfl)|exact rfl|exact ahU|exact ahZ|exact ahX));first|done|fail):eN rows=true:=k
theorem abV:mX l t []=dO (fun _=> .bX) []:=rfl
theorem abU{s:Nat}{v':aa}{vs:List (Nat×aa)}(he:DY l (t s)=v')(hr:mX l t r=dO (fun _=> .bX) vs):mX l t (s::r)=dO (fun _=> .bX) ((s,v')::vs):=by subst he;simp[mX,hr,dO]
theorem aep:lC l []=some []:=rfl
theorem aeo{cs as bs:List aa}{a b:aa}(hx:cs=a::as)(h1:xQ l a=some b)(h2:lC l as=some bs):lC l cs=some (b::bs):=by subst hx;simp[lC,h1,h2]
theorem aet{i k:Id}{x:aa}{off m m':Nat}(hx:x= .rs i off m:=by exact rfl)(hk:m3 l i=some k:=by exact rfl)(hm:m=m':=by exact qd):xQ l x=some (.rs k off m'):=by subst hx hm;simp[xQ,hk]
theorem aeq{cs cs':List aa}(h:lC l cs=some cs':=by repeat'(first|exact aep|(apply aeo;exact rfl)|exact aet|exact rfl)):lC l cs=some cs':=h
theorem aeP [hc:jQ c]:tf l (q.map c)=some (q.map c):=by simp[tf,sy]
theorem aeR{cs cs':List aa}(hf:ey cs=false:=by exact rfl)(h:lC l cs=some cs':=by first|exact rfl|exact aeq):tf l [cs]=some [cs']:=by simp[tf,eN,hf,AO,h]
theorem aeQ{rows:Rows}(hf:eN rows=true:=by first|exact rfl|exact Nx):tf l rows=some rows:=by simp[tf,hf]
end
section
variable{l:List (Id×Id)}{α:Type}{c:α→List aa}{q:List α}{k:Nat}{x x':α}{r r':List aa}
end
section
variable{n:Nat}{t t2:Nat→aa}{h:Id→Option (Option Rows)}{slots r:List Nat}{l:List (Id×Id)}{hl y:List (Id×Rows)}{α:Type}{c:α→List aa}{q:List α}
theorem aac{L:Id→Option (Option Rows)}:oG L l []=some []:=rfl
theorem aab{L:Id→Option (Option Rows)}{r:List (Id×Id)}{o k:Id}{rows bZ:Rows}(h:L o=some (some rows))(hr:tf l rows=some bZ)(hy:oG L l r=some y):oG L l ((o,k)::r)=some ((k,bZ)::y):=by simp[oG,h,hr,hy]
theorem hnk{L:Id→Option (Option Rows)}{r:List (Id×Id)}(h:oG L l r=some y:=by repeat'(first|exact aac|(apply aab;exact rfl;first|exact aeP|exact ajY rfl|exact aj0 (by(first|(with_reducible assumption)|assumption))|exact aeR|exact aeQ))):oG L l r=some y:=h
theorem abW{vs:List (Nat×aa)}(h:mX l t slots=dO (fun _=> .bX) vs:=by repeat'(first|exact abV|(apply abU;first|exact rfl|exact ajZ))):mX l t slots=dO (fun _=> .bX) vs:=h
def abh:aa→Bool| .cN=>true|_=>false
theorem P7{y:an}(e:(⟨n,t,h⟩:an)=y:=by exact rfl):kH [] ⟨n,t,h⟩=y:=e
theorem acp{s:Nat}{sl:List Nat}{y:an}(hs:abh (t s)=false)(k:kH sl ⟨n,t,h⟩=y):kH (s::sl) ⟨n,t,h⟩=y:=by have e:sV ⟨n,t,h⟩ s=⟨n,t,h⟩:=by{simp only[sV];split;·{rename_i h1 _;rw[h1]at hs;cases hs};·rfl};rw[kH,e];exact k
theorem acq{y:an}(k:kH slots ⟨n,t,h⟩=y:=by repeat'(first|with_reducible exact P7|(apply acp;first|exact rfl|exact ai7|exact ai8)|(apply ajv;exact rfl;exact rfl)|exact P7)):kH slots ⟨n,t,h⟩=y:=k
section
variable{keep:Id→Bool}{o:Id}{ol:List Id}{y0:Option an}{rows bZ:Rows}{ids:List Id}{r r':List aa}{k:Nat}
theorem WC{α:Type}{g:α→Id}{y0:Option an}(e:some (⟨n,t,h⟩:an)=y0:=by exact rfl):iL keep (List.map g []) ⟨n,t,h⟩=y0:=e
theorem ab7(e:(fN ids&& !ids.contains o)=true):(fN ids&& !ids.contains o)=true:=e
theorem WB(hh:h o=some (some rows))(hf:eN rows=true)(k:iL keep ol ⟨n,t,h⟩=y0):iL keep (o::ol) ⟨n,t,h⟩=y0:=by have e:pJ keep ⟨n,t,h⟩ o=some ⟨n,t,h⟩:=by{simp only[pJ,hh,hf,if_true]};rw[iL,e];exact k
theorem WD(hh:h o=some (some rows))(hf:eN rows=false)(hc:ek (yQ h keep) rows=some (bZ,ids))(hn:(fN ids&& !ids.contains o)=true)(k:iL keep ol ⟨n,t,bL h ((o,some bZ)::ids.map fun i=>(i,none))⟩=y0):iL keep (o::ol) ⟨n,t,h⟩=y0:=by have e:pJ keep ⟨n,t,h⟩ o=some ⟨n,t,bL h ((o,some bZ)::ids.map fun i=>(i,none))⟩:=by{simp only[pJ,hh,hf,hc,hn,if_true];rfl};rw[iL,e];exact k
theorem WQ(hf:ey r=false:=by exact rfl)(hc:eD (pI h keep) r=some (r',ids)):yQ h keep r=some (r',ids):=by simp[yQ,hf,hc]
theorem XQ{p:List aa→Option (List aa×List Id)}(e:rows=[]:=by exact rfl):ek p rows=some ([],[]):=by subst e;rfl
theorem XR{p:List aa→Option (List aa×List Id)}{rs:Rows}{i1 i2:List Id}(e:rows=r::rs)(h1:p r=some (r',i1))(h2:ek p rs=some (bZ,i2)):ek p rows=some (r'::bZ,i1++i2):=by subst e;simp[ek,h1,h2]
theorem Ww{i:Id}{off len:Nat}{x:aa}(hx:x= .rs i off len:=by exact rfl)(hk:keep i=true:=by exact rfl):pI h keep x=some (.rs i off len,[]):=by subst hx;simp[pI,hk]
theorem Wx{i:Id}{row off:Nat}{x:aa}(hx:x= .mp i row off:=by exact rfl)(hk:keep i=true:=by exact rfl):pI h keep x=some (.mp i row off,[]):=by subst hx;simp[pI,hk]
theorem Wy{x:aa}(hx:x= .cN:=by exact rfl):pI h keep x=some (.own [] 0,[]):=by subst hx;rfl
theorem Wv{x:aa}(hf:flat x=true):pI h keep x=some (x,[]):=by unfold pI;split;·{simp[flat]at hf};·{simp[flat]at hf};·{simp[flat]at hf};·{simp[flat]at hf};·rw[if_pos hf]
end
section
variable{α:Type}{c:α→List aa}{q:List α}{k:Nat}{x x':α}{r r':List aa}{ids:List Id}{keep:Id→Bool}{o:Id}{ol:List Id}{y0:Option an}
end
theorem WE{keep:Id→Bool}{ol:List Id}{y0:Option an}(k:iL keep ol ⟨n,t,h⟩=y0:=by repeat'(first|with_reducible exact ag1|with_reducible exact WC|(apply WB;exact rfl;first|exact sy _|exact rfl|exact Nx)|(apply ag2;exact rfl;exact rfl;(first|(with_reducible assumption)|assumption);exact inferInstance)|(apply WD;exact rfl;exact rfl)|exact XQ|(apply XR;exact rfl)|exact ag4|(apply WQ;exact rfl)|exact Ww|exact Wx|exact agX|exact Wy|(apply ag0;exact rfl;exact rfl;exact s0)|(apply agY;exact rfl;exact rfl;exact s0)|(apply agZ;exact rfl;exact rfl;exact s0)|(apply Wv;first|exact rfl|exact ahT|exact ahY|exact ahW)|exact Cd|(apply Ft;exact rfl)|exact ab7 rfl)):iL keep ol ⟨n,t,h⟩=y0:=k
/-! Names, one by one. -/
def abC:aa→Bool| .rs _ _ _=>true| .mp _ _ _=>true| .mr _=>true| .agg _=>true|_=>false
section
variable{L:Id→Option (Option Rows)}{m j:Nat}{p i:Id}{acc acc' E0 y l:List (Id×Id)}{a:aa}{as cs jT:List aa}{S:an}{s:Nat}{slots:List Nat}
theorem WU(hx:jT=[])(e:acc=y):gC L m p j acc jT=y:=by subst hx;cases m<;>exact e
theorem WY(hx:jT=a::as)(hs:abC a=false)(k:gC L m p (j+1) acc as=y):gC L (m+1) p j acc jT=y:=by subst hx;cases a<;>first|exact k|cases hs
theorem WW{o n:Nat}(hx:jT= .rs i o n::as)(hn:(m3 acc i).isSome=false)(hl:acc++[(i,j::p)]=acc')(k:gC L m p (j+1) acc' as=y):gC L (m+1) p j acc jT=y:=by subst hx hl;simp only[gC,hn];exact k
theorem WX{o n:Nat}(hx:jT= .rs i o n::as)(hn:(m3 acc i).isSome=true)(k:gC L m p (j+1) acc as=y):gC L (m+1) p j acc jT=y:=by subst hx;simp only[gC,hn];exact k
theorem WV{o n:Nat}(hx:jT= .mp i o n::as)(hn:(m3 acc i).isSome=false)(hh:L i=some (some [cs]))(hl:acc++[(i,j::p)]=acc')(h1:gC L m (j::p) 0 acc' cs=E0)(k:gC L m p (j+1) E0 as=y):gC L (m+1) p j acc jT=y:=by subst hx hl h1;simp only[gC,hn,hh];exact k
theorem WT(hx:jT= .agg cs::as)(h1:gC L m (j::p) 0 acc cs=E0)(k:gC L m p (j+1) E0 as=y):gC L (m+1) p j acc jT=y:=by subst hx h1;simp only[gC];exact k
theorem acf(e:acc=l):List.foldl (fun acc s=>gC S.h 40 [s] 0 acc [S.t s]) acc []=l:=e
theorem ace(h:gC S.h 40 [s] 0 acc [S.t s]=acc')(k:List.foldl (fun acc s=>gC S.h 40 [s] 0 acc [S.t s]) acc' slots=l):List.foldl (fun acc s=>gC S.h 40 [s] 0 acc [S.t s]) acc (s::slots)=l:=by subst h;exact k
theorem acd{RR:List Nat}(hs:slots=RR)(h:List.foldl (fun acc s=>gC S.h 40 [s] 0 acc [S.t s]) [] RR=l):names S slots=l:=by subst hs;exact h
theorem acg(h:names S slots=l:=by((with_reducible apply acd);exact spine);repeat'(first|((with_reducible apply acf);exact rfl)|(with_reducible apply ace)|((with_reducible apply WU);(with_reducible exact rfl);exact rfl)|((with_reducible apply WY);exact rfl;first|exact rfl|exact ajp|exact ajq)|((with_reducible apply WW);exact rfl;exact rfl;exact spine)|((with_reducible apply WX);exact rfl;exact rfl)|((with_reducible apply ag7);exact rfl;exact rfl;exact spine)|((with_reducible apply ag8);exact rfl;exact rfl)|((with_reducible apply ag6);exact rfl;exact rfl)|((with_reducible apply WV);exact rfl;exact rfl;exact rfl;exact spine)|((with_reducible apply WT);exact rfl))):names S slots=l:=h
end
theorem aco{t0 t1:Nat→aa}{h0 h1:Id→Option (Option Rows)}{vs:List (Nat×aa)}(e0:kH slots ⟨n,t,h⟩=⟨n,t0,h0⟩:=by exact acq)(hn:names ⟨n,t0,h0⟩ slots=l:=by first|exact acg|exact spine)(e1:iL (Pz l) (l.map (·.1)) ⟨n,t0,h0⟩=some ⟨n,t1,h1⟩:=by exact WE)(hd:(fN (l.map (·.1))&&fN (l.map (·.2)))=true:=by exact rfl)(hh:oG h1 l l=some hl:=by exact hnk)(ht:mX l t1 slots=dO (fun _=> .bX) vs:=by exact abW):norm ⟨n,t,h⟩ slots=some (kM n vs hl):=by subst hn;simp only[norm,Dp,e0,e1,Option.bind_some,sW,hd,if_true,hh,Option.map_some,ht,kM]
theorem nA{o:Option (Bool×List Nat)}{vs:List (Nat×aa)}(hk:o=some (true,slots):=by exact rfl)(hm:norm ⟨n,t,h⟩ slots=some (kM n vs hl):=by exact aco):ei o ⟨n,t,h⟩=some (kM n vs hl):=by subst hk;exact hm
end
section
variable{C:aV}{f:FuncId}{call:gS}{c:Code}{Q:Exit×an→Prop}{n:Nat}{l:List (Nat×aa)}{h:List (Id×Rows)}
theorem GX(k:W C f call c ⟨n,dO (fun _=> .bX) l,qe h⟩ Q):W C f call c (kM n l h) Q:=k
theorem GL{e:Exit}(k:Q (e,⟨n,dO (fun _=> .bX) l,qe h⟩)):Q (e,kM n l h):=k
end
section
variable{α:Type}{c c':α→List aa}{q:List α}{as bs:List aa}{L:Id→Option (Option Rows)}{n:Nat}
/-! Freezing -/
theorem NU [hc:EI c c']:eE (.own (q.map c) q.length)= .sl (q.map c'):=by have:gr (q.map c)=q.map c':=by{induction q with|nil=>(rfl)|cons x q ih=>simp[gr,hc.eE,ih]};simp only[eE,this];rw[List.take_of_length_le (by simp)]
theorem NT{a b:aa}(h:eE a=b)(k:iw as=bs):iw (a::as)=b::bs:=by simp[iw,h,k]
theorem NS(h:iw as=bs):eE (.agg as)= .agg bs:=by simp[eE,h]
theorem NW(h:iw as=bs):eE (.b9 as)= .b9 bs:=by simp[eE,h]
theorem ID{a b:aa}(h:eE a=b:=by repeat'(first|exact(rfl:eE (.val _)= .val _)|exact Ym|exact NV|exact NU|exact Yp|exact(rfl:eE (.sl _)= .sl _)|apply NS|apply NW|apply Yq|exact(rfl:iw []=[])|apply NT|exact rfl)):eE a=b:=h
theorem Ys:gr []=[]:=rfl
theorem Yr{r r':List aa}{rs rs':Rows}(h:iw r=r')(k:gr rs=rs'):gr (r::rs)=r'::rs':=by simp[gr,h,k]
theorem Yt{a b:Rows}(h:gr a=b:=by repeat'(first|exact Ys|apply Yr|exact(rfl:eE (.val _)= .val _)|exact Ym|exact NV|exact NU|exact Yp|exact(rfl:eE (.sl _)= .sl _)|apply NS|apply NW|apply Yq|exact(rfl:iw []=[])|apply NT|exact rfl)):gr a=b:=h
theorem aee{rows:Rows}{y:Rows×List Id}(h:ek (fA (pk L (n+1))) rows=some y):iW (pk L (n+1)) rows=some y:=adW h
theorem XV:ek (fA (pk L n)) []=some ([],[]):=rfl
theorem XU{r r':List aa}{rs rs':Rows}{i1 i2:List Id}{z:List Id}(h:fA (pk L n) r=some (r',i1))(k:ek (fA (pk L n)) rs=some (rs',i2))(hz:i1++i2=z):ek (fA (pk L n)) (r::rs)=some (r'::rs',z):=by subst hz;simp[ek,h,k]
theorem adR{r:List aa}{y:List aa×List Id}(h:eD (pk L (n+1)) r=some y):fA (pk L (n+1)) r=some y:=GC h
theorem aeh{rows:Rows}{y:Option (Rows×List Id)}(h:iW (pk L n) rows=y:=by repeat'(first|exact ajQ|apply aee|exact XV|apply XU|exact ajz|apply adR|exact Q0|exact QZ|exact QX|exact QW|(apply QY;exact rfl;exact rfl;exact rfl;(first|(with_reducible assumption)|assumption);exact qd;rotate_left;exact rfl)|(apply KJ;exact rfl;exact rfl;exact rfl;(first|(with_reducible assumption)|assumption);exact uO;rotate_left;exact rfl)|exact QI|exact QT|exact QO|exact QS|exact QM|exact QL|exact adY|exact adT|exact ad0|exact QJ|exact QN|exact adU|exact adS|exact Cd|(apply Ft;exact rfl)|(apply QH;exact rfl)|(apply QK;exact rfl;exact rfl)|exact rfl)):iW (pk L n) rows=y:=h
end
/-! ### Memory of one's own -/
def app{α:Type}(a b:List α):Option (List α):=if a.length+b.length≤4294967296 then some (a++b)else none
theorem BL{α:Type}{a b r:List α}(h:app a b=some r):a.length+b.length≤4294967296∧r=a++b:=by unfold app at h;split at h;·{exact⟨‹_›,by simpa using h.symm⟩};·cases h
def jZ{α:Type}(n:Int)(z:α):Option (List α):=if 0≤n∧n≤4294967296 then some (List.replicate n.toNat z)else none
theorem KR{α:Type}{c:α→List aa}{q:List α}[hc:qy c]:o4 (q.map c)=true:=by simp only[o4,List.all_map,List.all_eq_true];exact fun x _=>hc.ce x
section
variable{C:aV}{f:FuncId}{call:gS}{S:an}{g:Bool}
variable{d:Nat}{ty:TypeId}{pos:String}{bq:Array Edge}{bJ:Option (Nat×Bool)}{v v':aa}
variable{x y z:Operand}{k:IntKind}{a b:Int}{T di:TypeId}
theorem bG{cs:List aa}[hz:jE C T cs](hn:S.h [d]=none:=by exact rfl)(jH:C.tK f d=[]:=by exact rfl):bD C f call S g ⟨some d, .alloc T,ty,pos,bq,bJ⟩=some ⟨[(d, .mp [d] 0 0)],[],[([d],some [cs])]⟩:=by show pN C f S _ T=_;simp[pN,hz.Lr,hn,jH,tL]
theorem acw{cs cs':List aa}{l:List Nat}[hz:jE C T cs](jH:C.tK f d=l:=by exact rfl)(hc:tL l cs=cs':=by exact rfl)(hn:S.h [d]=none:=by exact rfl):bD C f call S g ⟨some d, .alloc T,ty,pos,bq,bJ⟩=some ⟨[(d, .mp [d] 0 0)],[],[([d],some [cs'])]⟩:=by subst hc;show pN C f S _ T=_;simp[pN,hz.Lr,hn,jH]
theorem xl{bb:Bool}{m:Nat}{cs:List aa}[ha:dx C T bb m](hin:(C.eJ f).contains d=false:=by exact rfl)(hx:un g (S.get C x)=v:=by exact gt)(hc:nx bb v=some cs:=by exact rfl)(hn:S.h [d]=none:=by exact rfl):bD C f call S g ⟨some d, .box T x,ty,pos,bq,bJ⟩=some ⟨[(d, .mp [d] 0 0)],[],[([d],some [cs])]⟩:=by show pO C f S _ T (un g (S.get C x))=_;simp only[pO,ha.j9,hx,hc,fe,hin,Bool.false_and,Bool.false_eq_true,if_false];rw[if_pos (Pk hn)];rfl
theorem bC{i off off' row m:Nat}{bb:Bool}{id:Id}[hf:Fd C T i off m bb](hx:un g (S.get C x)= .mp id row off':=by first|exact rfl|exact b6)(h0:Nat.blt 0 m=true:=by exact rfl):bD C f call S g ⟨some d, .fieldAddr T x i,ty,pos,bq,bJ⟩=some ⟨[(d, .mp id row (off'+off))],[],[]⟩:=by show qN C f _ T i (un g (S.get C x))=_;have wh:0<m:=of_decide_eq_true (lO h0);simp[qN,hf.fd,hx,wh]
theorem Ki{bb:Bool}{m row off:Nat}{id:Id}{rows:Rows}{r cs:List aa}(ha:kC C T=some bb)(hs:gH C T=some m)(hx:un g (S.get C x)= .mp id row off)(hh:S.h id=some (some rows))(hr:rows[row]? =some r)(hl:Nat.ble (off+m) r.length=true)(hc:bT [d] 0 ((r.drop off).take m)=(cs,[]))(hv:kG bb cs=some v):bD C f call S g ⟨some d, .load T x,ty,pos,bq,bJ⟩=some ⟨[(d,v)],[id],[]⟩:=by show lT C S _ T (un g (S.get C x))=_;rw[hx];have hl':off+m≤r.length:=Nat.le_of_ble_eq_true hl;simp only[lT,ha,hs,hh,hr,Option.bind_some,if_pos hl',pL,hc,hv,List.isEmpty_nil,if_true,Option.map_some];rfl
theorem PK{bb:Bool}{m row off:Nat}{id:Id}{rows:Rows}{r cs:List aa}{w:Id×Option Rows}{wr:List (Id×Option Rows)}(ha:kC C T=some bb)(hs:gH C T=some m)(hx:un g (S.get C x)= .mp id row off)(hh:S.h id=some (some rows))(hr:rows[row]? =some r)(hl:Nat.ble (off+m) r.length=true)(hc:bT [d] 0 ((r.drop off).take m)=(cs,w::wr))(hf:fresh S.h (w::wr)=true)(hv:kG bb cs=some v):bD C f call S g ⟨some d, .load T x,ty,pos,bq,bJ⟩=some ⟨[(d,v)],[id],(id,some (rows.set row (r.take off++cs++r.drop (off+m))))::w::wr⟩:=by show lT C S _ T (un g (S.get C x))=_;rw[hx];have hl':off+m≤r.length:=Nat.le_of_ble_eq_true hl;simp only[lT,ha,hs,hh,hr,Option.bind_some,if_pos hl',pL,hc,hv,List.isEmpty_cons,Bool.false_eq_true,if_false,hf,if_true,Option.map_some];rfl
theorem dV{m row off:Nat}{id:Id}{α:Type}{c:α→List aa}{q:List α}{r:α}{cs:List aa}(hr:q[row]? =some r)[ha:dx C T false m](hx:un g (S.get C x)= .mp id row off:=by first|exact rfl|exact b6)(hh:S.h id=some (some (q.map c)):=by exact rfl)(hm:m=1:=by exact rfl)(hv:(c r).drop off=v::cs:=by exact rfl)(hu:bT [d] 0 [v]=([v],[]):=by first|exact rfl|exact Lh):bD C f call S g ⟨some d, .load T x,ty,pos,bq,bJ⟩=some ⟨[(d,v)],[id],[]⟩:=by subst hm;refine Ki (rows:=q.map c) (r:=c r) (cs:=[v]) ha.j9 ha.sz hx hh (by simp[hr]) ?_ (by rw[hv];exact hu) rfl;have:=congrArg List.length hv;simp only[List.length_drop,List.length_cons]at this;apply Nat.ble_eq_true_of_le;omega
theorem bO{m off:Nat}{id:Id}{r cs:List aa}[ha:dx C T false m](hx:un g (S.get C x)= .mp id 0 off:=by first|exact rfl|exact b6)(hh:S.h id=some (some [r]):=by exact rfl)(hm:m=1:=by exact rfl)(hv:r.drop off=v::cs:=by exact rfl)(hu:bT [d] 0 [v]=([v],[]):=by first|exact rfl|exact Lh):bD C f call S g ⟨some d, .load T x,ty,pos,bq,bJ⟩=some ⟨[(d,v)],[id],[]⟩:=by subst hm;refine Ki (rows:=[r]) (r:=r) (cs:=[v]) ha.j9 ha.sz hx hh rfl ?_ (by rw[hv];exact hu) rfl;have:=congrArg List.length hv;simp only[List.length_drop,List.length_cons]at this;apply Nat.ble_eq_true_of_le;omega
theorem fH{m off:Nat}{id:Id}{r cs cs0:List aa}[ha:dx C T true m](hx:un g (S.get C x)= .mp id 0 off:=by first|exact rfl|exact b6)(hh:S.h id=some (some [r]):=by exact rfl)(hl:Nat.ble (off+m) r.length=true:=by exact rfl)(hv:(r.drop off).take m=cs0:=by exact spine)(hu:bT [d] 0 cs0=(cs,[]):=by exact Bn):bD C f call S g ⟨some d, .load T x,ty,pos,bq,bJ⟩=some ⟨[(d, .agg cs)],[id],[]⟩:=Ki (rows:=[r]) (r:=r) ha.j9 ha.sz hx hh rfl hl (by rw[hv];exact hu) rfl
theorem Kx{m off:Nat}{id:Id}{r r' cs cs0:List aa}{w:Id×Option Rows}{wr:List (Id×Option Rows)}[ha:dx C T false m](hx:un g (S.get C x)= .mp id 0 off:=by first|exact rfl|exact b6)(hh:S.h id=some (some [r]):=by exact rfl)(hm:m=1:=by exact rfl)(hl:Nat.ble (off+1) r.length=true:=by exact rfl)(hv:(r.drop off).take 1=cs0:=by exact spine)(hu:bT [d] 0 cs0=(cs,w::wr):=by exact Bn)(I5:cs=[v]:=by exact rfl)(hq:r.take off++cs++r.drop (off+1)=r':=by exact spine)(hf:fresh S.h (w::wr)=true:=by exact rfl):bD C f call S g ⟨some d, .load T x,ty,pos,bq,bJ⟩=some ⟨[(d,v)],[id],(id,some [r'])::w::wr⟩:=by subst hm hq;exact PK (rows:=[r]) (r:=r) ha.j9 ha.sz hx hh rfl hl (by rw[hv];exact hu) hf (by rw[I5];rfl)
def GZ(L:List Nat):Operand→Bool| .tmp iZ=>L.contains iZ|_=>false
theorem NQ{a:Operand}(hin:GZ (C.eJ f) a=false):v7 C f a=none:=by cases a with|tmp iZ=>(simp only[GZ]at hin;unfold v7;simp only;rw[if_neg (by rw[hin];simp)])|_=>rfl
theorem c4{bb:Bool}{m iZ:Nat}{id:Id}{cs cs' r:List aa}[ha:dx C T bb m](hin:(C.eJ f).contains iZ=true:=by exact rfl)(hx:un true (S.get C (.tmp iZ))= .mp id 0 0:=by exact rfl)(hy:un true (S.get C y)=v:=by exact gt)(hc:nx bb v=some cs:=by exact rfl)(b8:cs.length=m:=by exact rfl)(hh:S.h id=some (some [r]):=by exact rfl)(hr:r.length=m:=by exact rfl)(hz:jJ cs=cs':=by exact spine)(hi:dU cs'=true:=by exact rfl):bD C f call S true ⟨none, .store T (.tmp iZ) y,ty,pos,bq,bJ⟩=some ⟨[(iZ, .au cs')],[id],[(id,none)]⟩:=by show nJ C f S true _ T (.tmp iZ) (un true (S.get C (.tmp iZ))) (un true (S.get C y))=_;rw[hx,hy];have e:v7 C f (.tmp iZ)=some iZ:=by{unfold v7;simp only;rw[if_pos hin]};subst hz;simp[nJ,ha.j9,ha.sz,hc,b8,hh,hr,e,hi]
theorem aQ{bb:Bool}{m off:Nat}{ao:Operand}{id:Id}{cs r r':List aa}[ha:dx C T bb m](hin:GZ (C.eJ f) ao=false:=by exact rfl)(hx:un g (S.get C ao)= .mp id 0 off:=by exact rfl)(hy:un g (S.get C y)=v:=by exact gt)(hc:nx bb v=some cs:=by exact rfl)(b8:cs.length=m:=by exact rfl)(hh:S.h id=some (some [r]):=by exact rfl)(hl:Nat.ble (off+m) r.length=true:=by exact rfl)(hq:r.take off++cs++r.drop (off+m)=r':=by exact spine):bD C f call S g ⟨none, .store T ao y,ty,pos,bq,bJ⟩=some ⟨[],[id],[(id,some [r'])]⟩:=by show nJ C f S g _ T ao (un g (S.get C ao)) (un g (S.get C y))=_;rw[hx,hy];have hl':off+m≤r.length:=Nat.le_of_ble_eq_true hl;have e:=NQ (f:=f) hin;subst hq;simp only[nJ,ha.j9,ha.sz,hc];rw[if_neg (by simp[b8]),hh];simp only[List.getElem?_cons_zero,Option.bind_some,if_pos hl',e];rfl
theorem WK{e:Option Int}:nx false (g8 e)=some [g8 e]:=by cases e<;>rfl
theorem ju{bb:Bool}{m row off:Nat}{ao:Operand}{id:Id}{cs:List aa}{α:Type}{c:α→List aa}{q:List α}{r:α}(hr:q[row]? =some r)(r':α)[ha:dx C T bb m](hin:GZ (C.eJ f) ao=false:=by exact rfl)(hx:un g (S.get C ao)= .mp id row off:=by exact rfl)(hy:un g (S.get C y)=v:=by exact gt)(hc:nx bb v=some cs:=by first|exact rfl|exact WK)(b8:cs.length=m:=by exact rfl)(hh:S.h id=some (some (q.map c)):=by exact rfl)(hl:Nat.ble (off+m) (c r).length=true:=by exact rfl)(hq:(c r).take off++cs++(c r).drop (off+m)=c r':=by exact rfl):bD C f call S g ⟨none, .store T ao y,ty,pos,bq,bJ⟩=some ⟨[],[id],[(id,some ((q.set row r').map c))]⟩:=by show nJ C f S g _ T ao (un g (S.get C ao)) (un g (S.get C y))=_;rw[hx,hy];have hl':off+m≤(c r).length:=Nat.le_of_ble_eq_true hl;have e:=NQ (f:=f) hin;have e2:(q.map c)[row]? =some (c r):=by{simp[hr]};simp only[nJ,ha.j9,ha.sz,hc];rw[if_neg (by simp[b8]),hh];simp only[e2,Option.bind_some,if_pos hl',e];rw[hq,List.map_set];rfl
theorem cJ{e:TypeId}{m n:Nat}{bb:Bool}{α:Type}{c:α→List aa}{q:List α}{i:Int}{r:α}{id:Id}(hi:idx q i=some r)[hu:eC C T (.slice e)][hs:dx C e bb m](hx:un g (S.get C x)= .rs id 0 n:=by first|exact rfl|exact b6)(hh:S.h id=some (some (q.map c)):=by exact rfl)(hl:n=q.length:=by exact qd)(hy:un g (S.get C y)= .val (.int k i):=by first|exact rfl|exact b6)(hr:(c r).length=m:=by exact rfl):bD C f call S g ⟨some d, .indexAddr T x y,ty,pos,bq,bJ⟩=some ⟨[(d, .mp id i.toNat 0)],[id],[]⟩:=by show nG C S _ T (un g (S.get C x)) (eF (un g (S.get C y)))=_;have hb:=F0 hi;have hn:=cE hi;subst hl;simp only[hx,hy,eF,nG,hu.ul,hs.sz];rw[if_pos hb,hh];simp[hn,hr]
section
variable{α:Type}{c:α→List aa}{q q' r:List α}{id ga:Id}{e:TypeId}{m n n':Nat}{T di:TypeId}
abbrev vF:= @kU
theorem Mk{rx:aa}{xs ys:Rows}{i1 i2:List Id}(hok:BK C e m=true)(hu:C.P.underlying T=some (.slice e))(fY:C.P.underlying di=some (.slice e))(hx:un g (S.get C x)=rx)(uD:rowsOf S.h rx=some (xs,i1))(hy:rowsOf S.h (un g (S.get C y))=some (ys,i2))(hl:ys.all (·.length==m)=true)(hcell:o4 ys=true)(hlen:xs.length+ys.length≤mW)(hn:S.h [d]=none){yX:bx}(he:vF S ⟨some d, .call ⟨.builtin .append,⟨[x,y]⟩,⟨[T,di]⟩⟩,ty,pos,bq,bJ⟩ d m rx xs ys i1 i2=some yX):kZ C S ⟨some d, .call ⟨.builtin .append,⟨[x,y]⟩,⟨[T,di]⟩⟩,ty,pos,bq,bJ⟩ ⟨[T,di]⟩ ([x,y].map fun x=>un g (S.get C x))=some yX:=by unfold BK at hok;split at hok;·{rename_i inf Jl;simp only[Bool.and_eq_true,beq_iff_eq,decide_eq_true_eq]at hok;obtain⟨⟨⟨k1,k2⟩,dB⟩,e6⟩:=hok;subst k1;have e1:(#[T,di]:Array TypeId)[0]? =some T:=rfl;have e2:(#[T,di]:Array TypeId)[1]? =some di:=rfl;simp only[List.map_cons,List.map_nil,kZ,e1,e2,Option.bind_some,fY,yI,hu,Jl,hx,uD,hy];rw[if_pos (by simp only[Bool.and_eq_true,decide_eq_true_eq];exact⟨⟨⟨⟨⟨⟨hl,k2⟩,dB⟩,e6⟩,hlen⟩,hcell⟩,by rw[hn];rfl⟩)];unfold vF at he;exact he};·cases hok
theorem HJ{rx:aa}{xs ys:Rows}{i1 i2:List Id}(hok:BK C e m=true)(hu:C.P.underlying T=some (.slice e))(fY:C.P.underlying di=some (.slice e))(hx:un g (S.get C x)=rx)(uD:rowsOf S.h rx=some (xs,i1))(hy:rowsOf S.h (un g (S.get C y))=some (ys,i2))(hl:ys.all (·.length==m)=true)(hcell:o4 ys=true)(hlen:xs.length+ys.length≤mW)(hn:S.h [d]=none)(hfz:(C.eJ f).contains d=false){yX:bx}(he:vF S ⟨some d, .call ⟨.builtin .append,⟨[x,y]⟩,⟨[T,di]⟩⟩,ty,pos,bq,bJ⟩ d m rx xs ys i1 i2=some yX):bD C f call S g ⟨some d, .call ⟨.builtin .append,⟨[x,y]⟩,⟨[T,di]⟩⟩,ty,pos,bq,bJ⟩=some yX:=by show(kZ C S _ _ ([x,y].map fun x=>un g (S.get C x))).bind (pT C f _)=_;have key:kZ C S ⟨some d, .call ⟨.builtin .append,⟨[x,y]⟩,⟨[T,di]⟩⟩,ty,pos,bq,bJ⟩ ⟨[T,di]⟩ ([x,y].map fun x=>un g (S.get C x))=some yX:=Mk hok hu fY hx uD hy hl hcell hlen hn he;rw[key];simp only[Option.bind_some,pT,fe,hfz,Bool.false_eq_true,if_false]
theorem Rv{L:Id→Option (Option Rows)}(hh:L id=some (some (q.map c))):rowsOf L (.rs id 0 q.length)=some (q.map c,[id]):=by show(match L id with|some (some rs)=>if 0+q.length≤rs.length then some ((rs.drop 0).take q.length,[id])else none|_=>none)=_;rw[hh];simp only;rw[if_pos (by simp),List.drop_zero,List.take_of_length_le (by simp)]
theorem rC(hr:app q q'=some r)[hu:eC C T (.slice e)][fY:eC C di (.slice e)][hok:r3 C e m](hx:un g (S.get C x)= .rs id 0 n:=by exact rfl)(hh:S.h id=some (some (q.map c)):=by exact rfl)(hlen:n=q.length:=by exact qd)(hy:un g (S.get C y)= .sl (q'.map c):=by exact rfl)(hl:∀x,(c x).length=m:=by exact fun _=>rfl)(hcell:o4 (q'.map c)=true:=by first|exact KR|exact rfl)(hn:S.h [d]=none:=by exact rfl)(hfz:(C.eJ f).contains d=false:=by exact rfl):bD C f call S g ⟨some d, .call ⟨.builtin .append,⟨[x,y]⟩,⟨[T,di]⟩⟩,ty,pos,bq,bJ⟩=some ⟨[(d, .rs [d] 0 r.length)],[id],[(id,none),([d],some (r.map c))]⟩:=by obtain⟨h1,rfl⟩:=BL hr;subst hlen;refine HJ hok.ao hu.ul fY.ul hx (Rv hh) (by rw[hy];rfl) (vE hl) hcell (by simpa[mW]using h1) hn hfz ?_;simp only[vF,kU,hh];rw[if_pos (by simp only[Bool.and_eq_true];refine⟨⟨vE hl,by simp⟩, ?_⟩;cases q<;>simp)];simp[put,List.map_append]
theorem P8 [Zq:qy c](hr:app q q'=some r)[hu:eC C T (.slice e)][fY:eC C di (.slice e)][hok:r3 C e m](hx:un g (S.get C x)= .rs id 0 n:=by exact rfl)(hh:S.h id=some (some (q.map c)):=by exact rfl)(hlen:n=q.length:=by exact qd)(hy:un g (S.get C y)= .sl (q'.map c):=by exact rfl)(hl:∀x,(c x).length=m:=by exact fun _=>rfl)(hcell:o4 (q'.map c)=true:=by first|exact KR|exact rfl)(hn:S.h [d]=none:=by exact rfl)(hfz:(C.eJ f).contains d=true:=by exact rfl):bD C f call S g ⟨some d, .call ⟨.builtin .append,⟨[x,y]⟩,⟨[T,di]⟩⟩,ty,pos,bq,bJ⟩=some ⟨[(d, .sl (r.map c))],[id],[(id,none),([d],none)]⟩:=by obtain⟨h1,rfl⟩:=BL hr;subst hlen;show(kZ C S _ _ ([x,y].map fun x=>un g (S.get C x))).bind (pT C f _)=_;have key:kZ C S ⟨some d, .call ⟨.builtin .append,⟨[x,y]⟩,⟨[T,di]⟩⟩,ty,pos,bq,bJ⟩ ⟨[T,di]⟩ ([x,y].map fun x=>un g (S.get C x))=some ⟨[(d, .rs [d] 0 (q++q').length)],[id],[(id,none),([d],some ((q++q').map c))]⟩:=by{refine Mk hok.ao hu.ul fY.ul hx (Rv hh) (by rw[hy];rfl) (vE hl) hcell (by simpa[mW]using h1) hn ?_;simp only[vF,kU,hh];rw[if_pos (by simp only[Bool.and_eq_true];refine⟨⟨vE hl,by simp⟩, ?_⟩;cases q<;>simp)];simp[put,List.map_append]};have hi:g5 ((q++q').map c)=true:=by{simp only[g5,List.all_map,List.all_eq_true];exact fun x _=>Zq.im x};rw[key];simp only[Option.bind_some,pT,fe,hfz,if_true,hi,and_self,put]
theorem P9(hr:app [] q'=some r)[hu:eC C T (.slice e)][fY:eC C di (.slice e)][hok:r3 C e m](hx:un g (S.get C x)= .cN:=by exact rfl)(hy:un g (S.get C y)= .sl (q'.map c):=by exact rfl)(hl:∀x,(c x).length=m:=by exact fun _=>rfl)(hcell:o4 (q'.map c)=true:=by first|exact KR|exact rfl)(hn:S.h [d]=none:=by exact rfl)(hfz:(C.eJ f).contains d=false:=by exact rfl):bD C f call S g ⟨some d, .call ⟨.builtin .append,⟨[x,y]⟩,⟨[T,di]⟩⟩,ty,pos,bq,bJ⟩=some ⟨[(d, .rs [d] 0 r.length)],[],[([d],some (r.map c))]⟩:=by obtain⟨h1,h2⟩:=BL hr;simp only[List.nil_append]at h2;subst h2;refine HJ (xs:=[]) (i1:=[]) (i2:=[]) hok.ao hu.ul fY.ul hx rfl (by rw[hy];rfl) (vE hl) hcell (by simpa[mW]using h1) hn hfz ?_;simp[vF,kU,put]
end
theorem zT{e:TypeId}{m:Nat}{α:Type}{c:α→List aa}{cG:α}{fo:List aa}{nn:Int}{r:List α}(hr:jZ nn cG=some r)(JT:c cG=fo)[hu:eC C T (.slice e)][hok:r3 C e m][hz:jE C e fo](hx:un g (S.get C x)= .val (.int k nn):=by exact rfl)(hy:un g (S.get C y)= .val (.int k nn):=by exact rfl)(hzl:fo.length=m:=by exact rfl)(hn:S.h [d]=none:=by exact rfl):bD C f call S g ⟨some d, .makeSlice T x y,ty,pos,bq,bJ⟩=some ⟨[(d, .rs [d] 0 r.length)],[],[([d],some (r.map c))]⟩:=by show sw C S _ T (un g (S.get C x)) (un g (S.get C y))=_;unfold jZ at hr;split at hr;·{rename_i hp;obtain rfl:List.replicate nn.toNat cG=r:=by{simpa using hr};have hok:=hok.ao;unfold BK at hok;split at hok;·{rename_i inf Jl;simp only[Bool.and_eq_true,beq_iff_eq,decide_eq_true_eq]at hok;obtain⟨⟨⟨k1,k2⟩,dB⟩,e6⟩:=hok;simp only[hx,hy,sw,hu.ul,eF,hz.Lr,Jl];rw[if_pos (by simp only[Bool.and_eq_true,decide_eq_true_eq];exact⟨⟨⟨⟨by omega,by omega⟩,dB⟩,by omega⟩,by rw[hn];rfl⟩)];simp[put,JT]};·cases hok};·cases hr
theorem Mx{e:TypeId}{bb:Bool}{m len:Nat}{fo:List aa}{ps:List (Nat×aa)}{rows:Rows}(hu:C.P.underlying T=some (.slice e))(hz:yl C e=some fo)(ha:kC C e=some bb)(hs:gH C e=some m)(h0:(decide (0<m)&&decide (m=fo.length)&&decide (len*m≤1000))=true)(hf:qQ m bb (List.replicate len fo) ps=some rows):yN C T len ps=some rows:=by simp only[yN,hu,hz,ha,hs,h0,if_true,hf]
theorem mc{e:TypeId}{bb:Bool}{m len:Nat}{fo:List aa}{p:List (Nat×Operand)}{ps:List (Nat×aa)}{rows bZ:Rows}[hu:eC C T (.slice e)][hz:lM C e fo][ha:dx C e bb m](hin:(C.eJ f).contains d=true:=by exact rfl)(h0:(decide (0<m)&&decide (m=fo.length)&&decide (len*m≤1000))=true:=by exact rfl)(hq:(p.map fun p=>(p.1,un g (S.get C p.2)))=ps:=by exact Dx)(hf:qQ m bb (List.replicate len fo) ps=some rows:=by exact rfl)(uH:rows.map jJ=bZ:=by exact spine)(hi:g5 bZ=true:=by exact rfl):bD C f call S g ⟨some d, .buildSlice T len ⟨p⟩,ty,pos,bq,bJ⟩=some ⟨[(d, .sl bZ)],[],[]⟩:=by show nF C f S _ T len (p.map fun p=>(p.1,un g (S.get C p.2)))=_;rw[hq];have hb:=Mx hu.ul hz.fo ha.j9 ha.sz h0 hf;unfold nF;rw[if_neg (by simp[E6,hb,uH,hi])];simp only[sv,hu.ul,hz.fo,ha.j9,ha.sz,h0,if_true,hf,fe,hin,uH,hi,Bool.and_self];rfl
theorem Gn{e:TypeId}{bb:Bool}{m len:Nat}{fo:List aa}{p:List (Nat×Operand)}{ps:List (Nat×aa)}{rows bZ:Rows}[hu:eC C T (.slice e)][hz:lM C e fo][ha:dx C e bb m](hin:(C.eJ f).contains d=false:=by exact rfl)(h0:(decide (0<m)&&decide (m=fo.length)&&decide (len*m≤1000))=true:=by exact rfl)(hq:(p.map fun p=>(p.1,un g (S.get C p.2)))=ps:=by exact Dx)(hf:qQ m bb (List.replicate len fo) ps=some rows:=by exact rfl)(hs:rows=bZ:=by exact spine)(hn:S.h [d]=none:=by exact rfl):bD C f call S g ⟨some d, .buildSlice T len ⟨p⟩,ty,pos,bq,bJ⟩=some ⟨[(d, .rs [d] 0 len)],[],[([d],some bZ)]⟩:=by show nF C f S _ T len (p.map fun p=>(p.1,un g (S.get C p.2)))=_;subst hs;rw[hq];unfold nF;rw[if_neg (by simp[E6,fe];intro h;simp[h]at hin)];simp only[sv,hu.ul,hz.fo,ha.j9,ha.sz,h0,if_true,hf,fe,hin,Bool.false_and,Bool.false_eq_true,if_false];rw[if_pos (Pk hn)];rfl
theorem Qa{e:TypeId}{bb:Bool}{m len:Nat}{fo:List aa}{p:List (Nat×Operand)}{ps:List (Nat×aa)}{rows bZ RL:Rows}{ids:List Id}{wr:List (Id×Option Rows)}[hu:eC C T (.slice e)][hz:lM C e fo][ha:dx C e bb m](hin:(C.eJ f).contains d=true:=by exact rfl)(h0:(decide (0<m)&&decide (m=fo.length)&&decide (len*m≤1000))=true:=by exact rfl)(hq:(p.map fun p=>(p.1,un g (S.get C p.2)))=ps:=by exact Dx)(hf:qQ m bb (List.replicate len fo) ps=some rows:=by exact rfl)(hi:g5 (rows.map jJ)=false:=by exact rfl)(hp:iW (pk S.h 8) rows=some (bZ,ids):=by exact aeh)(hn:fN ids=true:=by exact rfl)(uH:gr bZ=RL:=by exact Yt)(hw:ids.map (fun i=>(i,none))=wr:=by exact spine):bD C f call S g ⟨some d, .buildSlice T len ⟨p⟩,ty,pos,bq,bJ⟩=some ⟨[(d, .sl RL)],ids,wr⟩:=by show nF C f S _ T len (p.map fun p=>(p.1,un g (S.get C p.2)))=_;rw[hq];have hb:=Mx hu.ul hz.fo ha.j9 ha.sz h0 hf;subst uH hw;unfold nF;rw[if_pos (by simp only[E6,fe,hin,hb,hi];rfl)];simp only[yZ,hb,hp,hn,if_true];rfl
/-! ### Calls -/
section
variable{L:Id→Option (Option Rows)}{n m:Nat}{α:Type}{c c':α→List aa}{q:List α}{id:Id}{as bs cs cs':List aa}{is i2:List Id}{x u:aa}
theorem Wm{a:aa}(h:e5 a=true):bQ L (n+1) a=some (a,[]):=by cases a with|agg cs=>(simp only[e5]at h;simp[bQ,fz,h])|b9 cs=>(simp only[e5]at h;simp[bQ,fz,h])|fn k a b=>(simp only[e5,Bool.and_eq_true]at h;simp[bQ,fz,h])|_=>first|rfl|simp[e5]at h
theorem ME{w:Value}(hx:x= .val w:=by exact rfl):bQ L (n+1) x=some (.val w,[]):=by rw[hx];rfl
theorem MD{r:Rows}(hx:x= .sl r:=by exact rfl):bQ L (n+1) x=some (.sl r,[]):=by rw[hx];rfl
theorem Wc(hx:x=u:=by exact gt)(hi:e5 u=true:=by exact rfl):bQ L (n+1) x=some (u,[]):=by rw[hx];exact Wm hi
theorem Wk [hc:qy c](hx:x= .rs id 0 m:=by exact rfl)(hh:L id=some (some (q.map c)):=by exact rfl)(hl:m=q.length:=by exact qd):bQ L (n+1) x=some (.sl (q.map c),[id]):=by subst hx hl;have hi':g5 (q.map c)=true:=by{simp only[g5,List.all_map,List.all_eq_true];exact fun x _=>hc.im x};have e:((q.map c).drop 0).take q.length=q.map c:=by{rw[List.drop_zero,List.take_of_length_le (by simp)]};have e0:bQ L (n+1) (.rs id 0 q.length)=match L id with|some (some rs)=>if 0+q.length≤rs.length then(kf (bQ L n) ((rs.drop 0).take q.length)).map fun x=>(.sl x.1,id::x.2)else none|_=>none:=rfl;rw[e0,hh];simp only;rw[if_pos (by simp),e];simp[kf,hi']
theorem We(hx:x= .mp id 0 0:=by exact rfl)(hh:L id=some (some [cs]):=by exact rfl)(hi:dU cs=true:=by exact rfl):bQ L (n+1) x=some (.au cs,[id]):=by subst hx;have e0:bQ L (n+1) (.mp id 0 0)=match L id with|some (some rs)=>(match rs[0]? with|some r=>if 0≤r.length then(fz (bQ L n) (r.drop 0)).map fun x=>(.au x.1,id::x.2)else none|none=>none)|_=>none:=rfl;rw[e0,hh];simp[fz,hi]
theorem Wf(hx:x= .mp id 0 0)(hh:L id=some (some [cs]))(hi:dU cs=false)(h:eD (bQ L n) cs=some (cs',is)):bQ L (n+1) x=some (.au cs',id::is):=by subst hx;have e0:bQ L (n+1) (.mp id 0 0)=match L id with|some (some rs)=>(match rs[0]? with|some r=>if 0≤r.length then(fz (bQ L n) (r.drop 0)).map fun x=>(.au x.1,id::x.2)else none|none=>none)|_=>none:=rfl;rw[e0,hh];simp[fz,hi,h]
theorem Mz{rows:Rows}(hx:x= .dW rows:=by exact rfl):bQ L (n+1) x=some (.im rows,[]):=by subst hx;rfl
theorem V6(hx:x= .agg cs)(hi:dU cs=false)(h:eD (bQ L n) cs=some (cs',is)):bQ L (n+1) x=some (.agg cs',is):=by subst hx;simp[bQ,fz,hi,h]
theorem My [hc:qy c](hx:x= .own (q.map c) q.length:=by exact rfl):bQ L (n+1) x=some (.sl (q.map c),[]):=by have hi':g5 (q.map c)=true:=by{simp only[g5,List.all_map,List.all_eq_true];exact fun x _=>hc.im x};subst hx;simp only[bQ];rw[List.take_of_length_le (by simp)];simp[kf,hi']
end
/-! ### Borrowing lists whose elements own memory -/
class yo{α:Type}(c:α→List aa)(c':outParam (α→List aa)):Prop where bQ:∀L n x,eD (bQ L (n+2)) (c x)=some (c' x,[])P4:∀x,dU (c x)=false
section
variable{L:Id→Option (Option Rows)}{n m:Nat}{α:Type}{c c':α→List aa}{q:List α}{k:Nat}{x x':α}{r r':List aa}{id:Id}{ids:List Id}{v:aa}
theorem V8 [hb:yo c c'](x:α):fz (bQ L (n+2)) (c x)=some (c' x,[]):=by simp[fz,hb.P4,hb.bQ]
theorem NH [hb:yo c c']:∀q:List α,ek (fz (bQ L (n+2))) (q.map c)=some (q.map c',[])|[]=>rfl|x::q=>by simp[ek,V8 (c:=c) (c':=c') x,NH q]
theorem MB [hb:yo c c'](q:List α):kf (bQ L (n+2)) (q.map c)=some (q.map c',[]):=by unfold kf;cases q with|nil=>(simp[g5])|cons x q=>rw[if_neg (by simp[g5,hb.P4])];exact NH _
theorem Wl [hb:yo c c'](hx:v= .rs id 0 m:=by exact rfl)(hh:L id=some (some (q.map c)):=by exact rfl)(hm:m≤q.length:=by exact uO):bQ L (n+3) v=some (.sl ((q.take m).map c'),[id]):=by subst hx;have e:bQ L (n+3) (.rs id 0 m)=match L id with|some (some rs)=>if 0+m≤rs.length then(kf (bQ L (n+2)) ((rs.drop 0).take m)).map fun x=>(.sl x.1,id::x.2)else none|_=>none:=rfl;rw[e,hh];simp only[List.length_map,Nat.zero_add,if_pos hm,List.drop_zero];rw[←List.map_take,MB];rfl
theorem Wg [hb:yo c c'](hx:v= .own (q.map c) m:=by exact rfl):bQ L (n+3) v=some (.sl ((q.take m).map c'),[]):=by subst hx;have e:bQ L (n+3) (.own (q.map c) m)=(kf (bQ L (n+2)) ((q.map c).take m)).map fun x=>(.sl x.1,x.2):=rfl;rw[e,←List.map_take,MB];rfl
end
section
variable{α:Type}{c c':α→List aa}{q:List α}{L:Id→Option (Option Rows)}{n:Nat}{id:Id}{as bs cs cs':List aa}{x:aa}{is i2:List Id}
theorem V7:fz (bQ L n) []=some ([],[]):=by simp[fz,dU]
theorem V9{cs cs':List aa}{is:List Id}(hi:dU cs=false)(h:eD (bQ L n) cs=some (cs',is)):fz (bQ L n) cs=some (cs',is):=by simp[fz,hi,h]
theorem Wb{k:Fn}{as bs as' bs':List aa}{i1 i2:List Id}(hx:x= .fn k as bs)(h1:fz (bQ L n) as=some (as',i1))(h2:fz (bQ L n) bs=some (bs',i2)):bQ L (n+1) x=some (.fn k as' bs',i1++i2):=by subst hx;simp[bQ,h1,h2]
theorem HU{y:Option (aa×List Id)}(h:bQ L n x=y:=by repeat'(first|exact ME|exact V7|exact agM|(apply V9;exact rfl)|exact Wa|exact Wj|exact MD|exact Wk|exact agS|exact agV|exact Wl|(apply agT;exact rfl;exact rfl;exact rfl;(first|(with_reducible assumption)|assumption);exact qd;exact inferInstance;rotate_left;exact rfl)|(apply agU;exact rfl;exact rfl;exact rfl;(first|(with_reducible assumption)|assumption);exact uO;exact inferInstance;rotate_left;exact rfl)|exact Wc|exact Wi|exact agO|exact We|exact agR|exact My|exact agQ|exact Wh|exact Wg|exact agP|exact agN|exact Mz|exact Wd|exact Cd|(apply Ft;exact rfl)|(apply V6;exact rfl;exact rfl)|(apply Wf;exact rfl;exact rfl;exact rfl)|(apply Wb;exact rfl))):bQ L n x=y:=h
theorem XP{p:aa→Option (aa×List Id)}{cs as bs:List aa}{a b:aa}(hx:cs=a::as)(h:p a=some (b,[]))(k:eD p as=some (bs,[])):eD p cs=some (b::bs,[]):=by subst hx;simp[eD,h,k]
theorem Wn{cs cs':List aa}(h:eD (bQ L n) cs=some (cs',[]):=by repeat'(first|exact Cd|(apply XP;exact rfl)|exact ME|exact Wa|exact Wj|exact MD|exact Wi|exact My|exact Wh|exact Mz|exact Wd)):eD (bQ L n) cs=some (cs',[]):=h
theorem V3(h:as=[]:=by exact rfl):qH L as=some ([],[]):=by subst h;rfl
theorem V2{a b:aa}{z:List Id}(ha:cs=a::as)(h1:bQ L 9 a=some (b,is))(h2:qH L as=some (bs,i2))(hz:is++i2=z):qH L cs=some (b::bs,z):=by subst ha hz;unfold qH at*;simp[eD,h1,h2]
theorem cT{y:Option (List aa×List Id)}(h:qH L as=y:=by repeat'(first|exact V3|(apply V2;exact rfl;exact HU)|exact rfl)):qH L as=y:=h
theorem afE{ms:List Nat}(h:as=[]:=by exact rfl):ja L ms as=some ([],[],[],[]):=by subst h;cases ms<;>rfl
section
variable{ms:List Nat}{a b b':aa}{i s t z:List Id}
theorem afD{u:List Id}(ha:cs=a::as)(h:pk L 9 a=some (b,i))(k:ja L ms as=some (bs,s,t,z))(hu:i++t=u):ja L (1::ms) cs=some (b::bs,s,u,z):=by subst ha hu;simp[ja,k,h]
theorem afF{u:List Id}(ha:cs=a::as)(h:bQ L 9 a=some (b,i))(k:ja L ms as=some (bs,s,t,z))(hu:i++s=u):ja L (0::ms) cs=some (b::bs,u,t,z):=by subst ha hu;simp[ja,k,h]
end
theorem RY{ms:List Nat}{y:Option (List aa×List Id×List Id×List Id)}(h:ja L ms as=y:=by repeat'(first|exact afE|(apply afD;exact rfl;exact s0)|(apply afF;exact rfl;exact HU)|(apply aks;exact rfl;exact s0;exact ID)|(apply akt;exact rfl;exact HU)|exact rfl)):ja L ms as=y:=h
/-! Nothing from elsewhere -/
end
section
variable{dX:Operand}{ts:Array TypeId}{eO:FuncId}{as bs cs args:List aa}{seen:List Id}{r:aa}{wr:List (Id×Option Rows)}{xs:Array Operand}
theorem bt(hc:call eO args=some (r,[]))(hfo:un g (S.get C dX)= .fn (.func eO) as bs:=by exact rfl)(hb:qH S.h (as++(xs.toList.map fun x=>un g (S.get C x))++bs)=some (args,seen):=by exact cT)(hm:(seen.isEmpty||mine r)=true:=by first|exact rfl|exact Kn)(hz:(C.eJ f).contains d=false:=by exact rfl)(hi:imp [d] r=(v',wr):=by exact C6)(hf:fresh S.h wr=true:=by exact rfl)(ht:rS C dX=false:=by exact rfl)(p5:pathOf C dX=none:=by exact rfl)(hlk:C.look eO=false:=by exact rfl):bD C f call S g ⟨some d, .call ⟨.value dX,xs,ts⟩,ty,pos,bq,bJ⟩=some ⟨[(d,v')],seen,wr⟩:=by show(match pathOf C dX with|some p=>pP S _ p (xs.toList.map fun x=>un g (S.get C x))|none=>if rS C dX then _ else nw C f call S _ (un g (S.get C dX)) (xs.toList.map fun x=>un g (S.get C x)))=_;rw[p5];simp only;rw[ht];simp only[Bool.false_eq_true,if_false];rw[hfo];simp only[nw,hlk,hb,hc,fe,hz,Bool.false_eq_true,if_false];rw[if_neg (by cases seen with|nil=>(simp)|cons a l=>simp at hm;simp[hm]),hi];simp only[hf,if_true];rfl
theorem bB(hc:call eO args=some (r,[]))(hfo:un g (S.get C dX)= .fn (.func eO) as bs:=by exact rfl)(hb:qH S.h (as++(xs.toList.map fun x=>un g (S.get C x))++bs)=some (args,seen):=by exact cT)(hm:(seen.isEmpty||mine r)=true:=by first|exact rfl|exact Kn)(hz:(C.eJ f).contains d=true:=by exact rfl)(hv:eE r=v:=by exact ID)(hi:imp [d] v=(v',wr):=by exact C6)(hf:fresh S.h wr=true:=by exact rfl)(ht:rS C dX=false:=by exact rfl)(p5:pathOf C dX=none:=by exact rfl)(hlk:C.look eO=false:=by exact rfl):bD C f call S g ⟨some d, .call ⟨.value dX,xs,ts⟩,ty,pos,bq,bJ⟩=some ⟨[(d,v')],seen,wr⟩:=by show(match pathOf C dX with|some p=>pP S _ p (xs.toList.map fun x=>un g (S.get C x))|none=>if rS C dX then _ else nw C f call S _ (un g (S.get C dX)) (xs.toList.map fun x=>un g (S.get C x)))=_;rw[p5];simp only;rw[ht];simp only[Bool.false_eq_true,if_false];rw[hfo];simp only[nw,hlk,Bool.false_eq_true,if_false,hb,hc,fe,hz,if_true,hv];rw[if_neg (by cases seen with|nil=>(simp)|cons a l=>simp at hm;simp[hm]),hi];simp only[hf,if_true];rfl
theorem MH{ms cR:List Nat}{outs:List aa}{tk dn:List Id}{back:List (Id×Option Rows)}{qt:List (Id×Option Rows)}(hm:C.xh eO=ms)(hm0:ms.isEmpty=false)(hle:C.cR eO=cR)(ht:ja S.h ms (xs.toList.map fun x=>un g (S.get C x))=some (args,seen,tk,dn))(hc:call eO args=some (r,outs))(hv:(if fe C f (some d)then eE r else r)=v)(hb:iE S.h (xs.toList.map fun x=>un g (S.get C x)) cR outs=some back)(h1:(fN (tk++dn)&&B5 seen (tk++dn))=true)(h2:(seen.isEmpty||mine r&&outs.all mine)=true)(h3:(fN (back.map (·.1))&&(back.all fun x=>tk.contains x.1))=true)(hi:imp [d] v=(v',qt))(hf:fresh S.h qt=true)(hw:qt++(back++(tk++dn).map fun i=>(i,none))=wr)(p5:C.path eO=none):bD C f call S g ⟨some d, .call ⟨.value (.func eO),xs,ts⟩,ty,pos,bq,bJ⟩=some ⟨[(d,v')],seen,wr⟩:=by show(match C.path eO with|some p=>pP S _ p (xs.toList.map fun x=>un g (S.get C x))|none=>if rS C (.func eO)then qJ C f call S _ eO (xs.toList.map fun x=>un g (S.get C x))else _)=_;rw[p5];simp only;have e0:rS C (.func eO)=true:=by{simp[rS,hm,hm0]};subst hw hm hle hv;rw[e0,if_pos rfl];unfold qJ;simp only[ht,hc,hb,hi];simp only[Bool.and_eq_true]at h1 h3;rw[if_pos (by simp only[Bool.and_eq_true];exact⟨⟨⟨⟨⟨h1.1,h1.2⟩,h2⟩,h3.1⟩,h3.2⟩,hf⟩)];rfl
end
end
end Go.Ab
