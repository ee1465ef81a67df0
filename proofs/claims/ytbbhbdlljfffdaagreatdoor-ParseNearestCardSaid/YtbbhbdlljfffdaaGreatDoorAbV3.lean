import Derived.Test.YtbbhbdlljfffdaaGreatDoorAbV2
open Bool renaming and_eq_true→GE,false_eq_true→Ha,false_and→H3
open List renaming replicate→Hc,foldl→Hd,length_drop→Hm,take_of_length_le→H0,all_map→H1,all_eq_true→H2,length_cons→H4,drop_zero→IH,map_append→If
open Nat renaming ble→Hb,le_of_ble_eq_true→Hk,ble_eq_true_of_le→H5
open Option renaming bind_some→GT,map_some→Hn
set_option linter.all false
namespace Go.Ab
open Go
theorem Qt{t:TypeId}(e:cI):eC (fh t e)=true:=by cases e<;>rfl
theorem Rx{t:TypeId}{e:cI}:cS (fh t e)=fh t e:=by cases e<;>rfl
theorem IP{t:TypeId}{e:cI}{p:Id}:imp p (fh t e)=(fh t e,[]):=by cases e<;>rfl
theorem Uj{t:TypeId}{e:cI}{p:Id}{j:Nat}:dX p j [fh t e]=([fh t e],[]):=by cases e<;>rfl
/-! ### Owned cells become objects -/
section
variable{α:Type}{c:α→List U}{q:List α}{p:Id}{j:Nat}{l l0 l':List U}{v v':U}{wr:List (Id×Option Rows)}{rows:Rows}
theorem YP:bw p j []=([],[]):=rfl
theorem YO(hl:l=v::l0)(hv:bw p j [v]=([v],[]))(k:bw p (j+1) l0=(l',wr)):bw p j l=(v::l',wr):=by subst hl;cases v<;>simp_all[bw]
theorem YQ{m:Nat}(hl:l= .own (q.map c) m::l0)(k:bw p (j+1) l0=(l',wr)):bw p j l=(.rs (j::p) 0 m::l',(j::p,some (q.map c))::wr):=by subst hl;simp[bw,k]
theorem sE(h:bw p j l=(l',wr):=by repeat'(first|exact YP|(apply YO;exact rfl;(first|exact rfl|exact adw|exact Le))|(apply YQ;exact rfl)|(apply adx;exact rfl)|(apply ady;exact rfl))):bw p j l=(l',wr):=h
theorem Up{m:Nat}:imp p (.own (q.map c) m)=(.rs p 0 m,[(p,some (q.map c))]):=by simp[imp]
theorem Uo(h:bw p 0 l=(l',wr)):imp p (.agg l)=(.agg l',wr):=by simp[imp,h]
theorem Uq(h:bw p 0 l=(l',wr)):imp p (.ck l)=(.mp p 0 0,(p,some [l'])::wr):=by simp[imp,h]
theorem Ul:dX p j []=([],[]):=rfl
theorem Uk(hl:l=v::l0)(hv:dX p j [v]=([v],[]))(k:dX p (j+1) l0=(l',wr)):dX p j l=(v::l',wr):=by subst hl;cases v with|own rows m=>(simp[dX]at hv)|ck cells=>(simp[dX]at hv)|dJ rows=>(simp[dX]at hv)|agg cs=>(simp only[dX,List.append_nil,Prod.mk.injEq,List.cons.injEq,U.agg.injEq,and_true]at hv;simp[dX,k,hv.1,hv.2])|aE vs=>(simp[dX]at hv)|_=>simp[dX,k]
theorem Ui{w1 w2:List (Id×Option Rows)}{a a':List U}(hl:l= .agg a::l0)(h:bw (j::p) 0 a=(a',w1))(k:dX p (j+1) l0=(l',w2)):dX p j l=(.agg a'::l',w1++w2):=by subst hl;simp[dX,k,h]
theorem Us(h:dX p 0 l=(l',wr)):imp p (.aE l)=(.aE l',wr):=by simp[imp,h]
theorem tQ(h:imp p v=(v',wr):=by first|exact(rfl:imp _ (.val _)=(.val _,[]))|exact(rfl:imp _ (.sl _)=(.sl _,[]))|exact IP|exact Ur|exact Up|exact aaW|exact aaX|(apply Uo;exact sE)|(apply Uq;exact sE)|(apply Us;repeat'(first|exact Ul|(apply Uk;exact rfl;(first|exact rfl|exact Uj|exact aaV))|(apply aaU;exact rfl)|(apply aaT;exact rfl)|(apply Ui;exact rfl;exact sE)))|exact rfl):imp p v=(v',wr):=h
theorem Ve{n:Nat}{vs:List U}:aI n [] vs=⟨n,fun _=> .aU,fun _=>none⟩:=rfl
theorem Vd{n s:Nat}{t:Nat→U}{h:Id→Option (Option Rows)}{l:List Nat}{vs:List U}(hi:imp [s] v=(v,[]))(k:aI n l vs=⟨n,t,h⟩):aI n (s::l) (v::vs)=⟨n,ai t s v,h⟩:=by simp[aI,k,hi,aQ]
theorem Vc{n s:Nat}{t:Nat→U}{h:Id→Option (Option Rows)}{l:List Nat}{vs:List U}(hi:imp [s] v=(v',wr))(k:aI n l vs=⟨n,t,h⟩):aI n (s::l) (v::vs)=⟨n,ai t s v',aQ h wr⟩:=by simp[aI,k,hi]
theorem Dj{n:Nat}{t:Nat→U}{h:Id→Option (Option Rows)}{l:List Nat}{vs:List U}(k:aI n l vs=⟨n,t,h⟩:=by repeat'(first|exact Ve|(apply Vd;first|exact rfl|exact IP|exact Ur)|(apply Vc;exact tQ))):aI n l vs=⟨n,t,h⟩:=k
end
section
variable{C:aB}{f:FuncId}{call:eV}{c:Code}{Q:Exit×ah→Prop}{n:Nat}{t:Nat→U}{h:Id→Option (Option Rows)}{l:List Nat}{vs:List U}
theorem mk(k:W C f call c ⟨n,t,h⟩ Q)(hm:aI n l vs=⟨n,t,h⟩:=by exact Dj):W C f call c (aI n l vs) Q:=by rw[hm];exact k
theorem jN{e:Exit}(k:Q (e,⟨n,t,h⟩))(hm:aI n l vs=⟨n,t,h⟩:=by exact Dj):Q (e,aI n l vs):=by rw[hm];exact k
end
/-! ### Packing -/
def GP{α:Type}(a b:List α):List α:=b.take (min b.length a.length)++a.drop (min b.length a.length)
theorem Br{α:Type}(a b:List α):(GP a b).length=a.length:=by unfold GP;rw[List.length_append,List.length_take,Hm];omega
section
variable{L:Id→Option (Option Rows)}{n:Nat}{α:Type}{c:α→List U}{q:List α}{id:Id}{cs cs':List U}{ids is:List Id}{x v:U}
theorem pW [hc:lN c](q:List α):dz (q.map c)=true:=QY c q hc.fl
theorem ql{m m':Nat}(h:m=m':=by first|exact rfl|exact List.length_map _|(first|(with_reducible assumption)|assumption)|(symm;(first|(with_reducible assumption)|assumption))|(simp only[List.length_map,List.length_set,Br];done)|(simp only[List.length_map,List.length_set,Br];first|(first|(with_reducible assumption)|assumption)|(symm;(first|(with_reducible assumption)|assumption)))|(simp only[List.length_map,List.length_set,Br, *];done)):m=m':=h
theorem Xq{y:U×List Id}:∀{a:U},flat a=true→pk L (n+1) a=some y→y=(a,[]):=by intro a hf h;cases a with|agg cs=>(simp only[flat]at hf;simp[pk,gj,hf]at h;exact h.symm)|aE cs=>(simp only[flat]at hf;simp[pk,gj,hf]at h;exact h.symm)|own rs m=>(simp only[flat]at hf;simp[pk,hf]at h;exact h.symm)|ck cs=>(simp only[flat]at hf;simp[pk,hf]at h;exact h.symm)|fn k a b=>(simp only[pk]at h;split at h;·{simpa using h.symm};·cases h)|rs _ _ _=>(simp[flat]at hf)|mp _ _ _=>(simp[flat]at hf)|mr _=>(simp[flat]at hf)|cF _ _=>(simp[flat]at hf)|bQ=>(simp[flat]at hf)|_=>simp[pk]at h;exact h.symm
theorem HE:∀{cs:List U}{y:List U×List Id},cp cs=true→dF (pk L (n+1)) cs=some y→y=(cs,[])|[],y,_,h=>by{simp[dF]at h;exact h.symm}|c::cs,y,hf,h=>by simp only[cp,GE]at hf;simp only[dF,Option.bind_eq_some_iff,Option.map_eq_some_iff]at h;obtain⟨u,hu,v,hv,rfl⟩:=h;obtain rfl:=Xq hf.1 hu;obtain rfl:=HE hf.2 hv;rfl
theorem J3{y:List U×List Id}(h:dF (pk L (n+1)) cs=some y):gj (pk L (n+1)) cs=some y:=by unfold gj;split;·{rename_i hf;rw[HE hf h]};·exact h
theorem Xp{w:Value}(hx:x= .val w:=by exact rfl):pk L (n+1) x=some (.val w,[]):=by rw[hx];rfl
theorem Xo{r:Rows}(hx:x= .sl r:=by exact rfl):pk L (n+1) x=some (.sl r,[]):=by rw[hx];rfl
theorem Xm{r:List U}(hx:x= .aL r:=by exact rfl):pk L (n+1) x=some (.aL r,[]):=by rw[hx];rfl
theorem Xh{t:TypeId}{e:cI}(hx:x=fh t e:=by first|exact rfl|exact AA):pk L (n+1) x=some (fh t e,[]):=by rw[hx];cases e<;>rfl
theorem Xl(hx:x= .bQ:=by exact rfl):pk L (n+1) x=some (.own [] 0,[]):=by rw[hx];rfl
theorem Xn{m:Nat}[hc:lN c](hx:x= .rs id 0 m:=by exact rfl)(hh:L id=some (some (q.map c)):=by exact rfl)(hl:m=q.length:=by exact ql):pk L (n+1) x=some (.own (q.map c) q.length,[id]):=by rw[hx,hl];exact Xr hh (by simp) (pW q)
theorem Xg(hx:x= .agg cs:=by exact rfl)(hf:cp cs=true:=by exact rfl):pk L (n+1) x=some (.agg cs,[]):=by rw[hx];simp[pk,gj,hf]
theorem Xf(hx:x= .agg cs)(h:dF (pk L (n+1)) cs=some (cs',ids)):pk L (n+2) x=some (.agg cs',ids):=by rw[hx,show pk L (n+2) (.agg cs)=(gj (pk L (n+1)) cs).map fun x=>(.agg x.1,x.2)from rfl,J3 h];rfl
theorem Xk(hx:x= .mp id 0 0:=by exact rfl)(hh:L id=some (some [cs]):=by exact rfl)(hf:cp cs=true:=by exact rfl):pk L (n+1) x=some (.ck cs,[id]):=by rw[hx];simp[pk,gj,hh,hf]
theorem Xj(hx:x= .mp id 0 0)(hh:L id=some (some [cs]))(h:dF (pk L (n+1)) cs=some (cs',ids)):pk L (n+2) x=some (.ck cs',id::ids):=by have e:pk L (n+2) (.mp id 0 0)=match L id with|some (some [cs])=>if 0=0∧0=0 then(gj (pk L (n+1)) cs).map fun x=>(.ck x.1,id::x.2)else none|_=>none:=rfl;rw[hx,e,hh];simp only[and_self,if_true,J3 h];rfl
theorem Xi{k:Fn}{a b:List U}(hx:x= .fn k a b:=by exact rfl)(hf:(dG a&&dG b)=true:=by exact rfl):pk L (n+1) x=some (.fn k a b,[]):=by rw[hx];simp only[GE]at hf;simp[pk,hf.1,hf.2]
theorem vA{p:U→Option (U×List Id)}(hx:cs=[]:=by exact rfl):dF p cs=some ([],[]):=by rw[hx];rfl
theorem vz{p:U→Option (U×List Id)}{a b:U}{as bs:List U}{i1 i2:List Id}(hx:cs=a::as)(h:p a=some (b,i1))(k:dF p as=some (bs,i2)):dF p cs=some (b::bs,i1++i2):=by subst hx;simp[dF,h,k]
theorem Xu{t:Nat→U}:gQ L t []=some ([],[]):=rfl
theorem Xt{t:Nat→U}{s:Nat}{sl:List Nat}{vs:List U}(h1:pk L 9 (t s)=some (v,ids))(h2:gQ L t sl=some (vs,is)):gQ L t (s::sl)=some (v::vs,ids++is):=by rw[Xc,h1,GT,h2];rfl
end
/-! ### One row of a list, open -/
section
variable{α:Type}{c c':α→List U}{q:List α}{k:Nat}{x x':α}{r r':List U}
end
/-! ### Packing -/
section
variable{L:Id→Option (Option Rows)}{n m:Nat}{α:Type}{c c':α→List U}{q:List α}{k:Nat}{x x':α}{r r':List U}{id:Id}{ids:List Id}{v:U}
end
section
variable{L:Id→Option (Option Rows)}{n:Nat}{α:Type}{c:α→List U}{q:List α}{id:Id}{cs cs':List U}{ids is:List Id}{x v:U}
theorem jM{a:U}{y:Option (U×List Id)}(h:pk L n a=y:=by repeat'(first|exact Xp|exact Xh|exact abz|exact abv|exact Xo|exact Xn|exact abB|(apply abE;exact rfl;exact rfl;exact rfl;(first|(with_reducible assumption)|assumption);exact ql;rotate_left;exact rfl)|(apply abD;exact rfl;exact rfl;exact rfl;(first|(with_reducible assumption)|assumption);exact U4;rotate_left;exact rfl)|exact Xg|exact Xm|exact Xl|exact abw|exact Xk|exact abt|exact abA|exact abx|exact abG|exact Xi|exact abu|exact aby|exact abr|exact vA|(apply vz;exact rfl)|(apply Xf;exact rfl)|(apply Xj;exact rfl;exact rfl)|(apply abF;exact rfl)|(apply abC;exact rfl;exact rfl;exact rfl;exact rfl)|exact abX|(apply abW;exact rfl)|exact abp|(apply abq;exact rfl))):pk L n a=y:=h
theorem Ag{t:Nat→U}{sl:List Nat}{y:Option (List U×List Id)}(h:gQ L t sl=y:=by repeat'(first|exact Xu|(apply Xt;exact jM))):gQ L t sl=y:=h
theorem aD{o:Option (Bool×List Nat)}{slots:List Nat}{t:Nat→U}{vs:List U}(hk:o=some (false,slots):=by exact rfl)(hp:gQ L t slots=some (vs,is):=by exact Ag)(hn:de is=true:=by exact rfl):dj o ⟨n,t,L⟩=some (aI n slots vs):=by subst hk;show(gA ⟨n,t,L⟩ slots).map _=_;rw[XV,hp];simp[hn]
end
/-! ### The same with names kept -/
section
variable{n:Nat}{t t2:Nat→U}{h:Id→Option (Option Rows)}{slots r:List Nat}{l:List (Id×Id)}{hl y:List (Id×Rows)}{α:Type}{c:α→List U}{q:List α}
def dx(n:Nat)(l:List (Nat×U))(h:List (Id×Rows)):ah:=⟨n,cv (fun _=> .aU) l,gL h⟩
/-! Rows that are flat, cell by cell. -/
theorem Hu{α:Type}{c:α→List U}{q:List α}{m:Nat}[hc:lN c]:flat (.own (q.map c) m)=true:=by simp[flat,pW]
theorem Hr{r cs:List U}{a:U}(e:r=a::cs)(h1:flat a=true)(h2:cp cs=true):cp r=true:=by subst e;simp[cp,h1,h2]
theorem QM{rows:Rows}(e:rows=[]:=by exact rfl):dz rows=true:=by subst e;rfl
theorem QN{rows rs:Rows}{r:List U}(e:rows=r::rs)(h1:cp r=true)(h2:dz rs=true):dz rows=true:=by subst e;simp[dz,h1,h2]
theorem BD{rows:Rows}(k:dz rows=true:=by(repeat'(first|exact pW _|exact QM|(apply QN;exact rfl)|exact QK|(apply Hr;exact rfl)|exact rfl|exact QH|exact QL|exact Hu));first|done|fail):dz rows=true:=k
theorem Vg:kJ l t []=cv (fun _=> .aU) []:=rfl
theorem Vf{s:Nat}{v':U}{vs:List (Nat×U)}(he:ek l (t s)=v')(hr:kJ l t r=cv (fun _=> .aU) vs):kJ l t (s::r)=cv (fun _=> .aU) ((s,v')::vs):=by subst he;simp[kJ,hr,cv]
theorem Ep [hc:lN c]:jP l (q.map c)=some (q.map c):=by simp[jP,pW]
theorem Es{cs cs':List U}(hf:cp cs=false:=by exact rfl)(h:mu l cs=some cs':=by first|exact rfl|exact ab0):jP l [cs]=some [cs']:=by simp[jP,dz,hf,uF,h]
theorem Er{rows:Rows}(hf:dz rows=true:=by first|exact rfl|exact BD):jP l rows=some rows:=by simp[jP,hf]
end
section
variable{l:List (Id×Id)}{α:Type}{c:α→List U}{q:List α}{k:Nat}{x x':α}{r r':List U}
theorem XS{a:U}(h:flat a=true):qA l a=some a:=by cases a with|fn k as cs=>(simp only[qA];rw[AC (by simpa[flat]using h)])|rs _ _ _=>(simp[flat]at h)|mp _ _ _=>(simp[flat]at h)|mr _=>(simp[flat]at h)|bQ=>(simp[flat]at h)|_=>simp only[qA,uB];rw[AC h]
theorem xO:∀{as:List U},cp as=true→mu l as=some as|[],_=>rfl|a::as,h=>by simp only[cp,GE]at h;simp[mu,XS h.1,xO h.2]
end
section
variable{n:Nat}{t t2:Nat→U}{h:Id→Option (Option Rows)}{slots r:List Nat}{l:List (Id×Id)}{hl y:List (Id×Rows)}{α:Type}{c:α→List U}{q:List α}
theorem Tz{L:Id→Option (Option Rows)}:l6 L l []=some []:=rfl
theorem Ty{L:Id→Option (Option Rows)}{r:List (Id×Id)}{o k:Id}{rows aV:Rows}(h:L o=some (some rows))(hr:jP l rows=some aV)(hy:l6 L l r=some y):l6 L l ((o,k)::r)=some ((k,aV)::y):=by simp[l6,h,hr,hy]
theorem hnk{L:Id→Option (Option Rows)}{r:List (Id×Id)}(h:l6 L l r=some y:=by repeat'(first|exact Tz|(apply Ty;exact rfl;first|exact Ep|exact ab7 rfl|exact ab9 (by(first|(with_reducible assumption)|assumption))|exact Es|exact Er))):l6 L l r=some y:=h
theorem Vh{vs:List (Nat×U)}(h:kJ l t slots=cv (fun _=> .aU) vs:=by repeat'(first|exact Vg|(apply Vf;first|exact rfl|exact ab8))):kJ l t slots=cv (fun _=> .aU) vs:=h
def UA:U→Bool| .bQ=>true|_=>false
theorem Jr{y:ah}(e:(⟨n,t,h⟩:ah)=y:=by exact rfl):hM [] ⟨n,t,h⟩=y:=e
theorem VL{s:Nat}{sl:List Nat}{y:ah}(hs:UA (t s)=false)(k:hM sl ⟨n,t,h⟩=y):hM (s::sl) ⟨n,t,h⟩=y:=by have e:mZ ⟨n,t,h⟩ s=⟨n,t,h⟩:=by{simp only[mZ];split;·{rename_i h1 _;rw[h1]at hs;cases hs};·rfl};rw[hM,e];exact k
theorem VK{s:Nat}{sl:List Nat}{y:ah}(hs:t s= .bQ)(hh:h [s,s]=none)(k:hM sl ⟨n,ai t s (.rs [s,s] 0 0),ai h [s,s] (some (some []))⟩=y):hM (s::sl) ⟨n,t,h⟩=y:=by have e:mZ ⟨n,t,h⟩ s=⟨n,ai t s (.rs [s,s] 0 0),ai h [s,s] (some (some []))⟩:=by{simp only[mZ,hs,hh]};rw[hM,e];exact k
theorem VM{y:ah}(k:hM slots ⟨n,t,h⟩=y:=by repeat'(first|with_reducible exact Jr|(apply VL;first|exact rfl|exact aa7|exact aa8)|(apply VK;exact rfl;exact rfl)|exact Jr)):hM slots ⟨n,t,h⟩=y:=k
section
variable{keep:Id→Bool}{o:Id}{ol:List Id}{y0:Option ah}{rows aV:Rows}{ids:List Id}{r r':List U}{k:Nat}
theorem Px{α:Type}{g:α→Id}{y0:Option ah}(e:some (⟨n,t,h⟩:ah)=y0:=by exact rfl):gG keep (List.map g []) ⟨n,t,h⟩=y0:=e
theorem Vl(e:(de ids&& !ids.contains o)=true):(de ids&& !ids.contains o)=true:=e
theorem Pv(hh:h o=some (some rows))(hf:dz rows=true)(k:gG keep ol ⟨n,t,h⟩=y0):gG keep (o::ol) ⟨n,t,h⟩=y0:=by have e:mH keep ⟨n,t,h⟩ o=some ⟨n,t,h⟩:=by{simp only[mH,hh,hf,if_true]};rw[gG,e];exact k
theorem PB(hh:h o=some (some rows))(hf:dz rows=false)(hc:ef (iW h keep) rows=some (aV,ids))(hn:(de ids&& !ids.contains o)=true)(k:gG keep ol ⟨n,t,aQ h ((o,some aV)::ids.map fun i=>(i,none))⟩=y0):gG keep (o::ol) ⟨n,t,h⟩=y0:=by have e:mH keep ⟨n,t,h⟩ o=some ⟨n,t,aQ h ((o,some aV)::ids.map fun i=>(i,none))⟩:=by{simp only[mH,hh,hf,hc,hn,if_true];rfl};rw[gG,e];exact k
theorem GS(hf:cp r=false:=by exact rfl)(hc:dF (fz h keep) r=some (r',ids)):iW h keep r=some (r',ids):=by simp[iW,hf,hc]
theorem HC{p:List U→Option (List U×List Id)}(e:rows=[]:=by exact rfl):ef p rows=some ([],[]):=by subst e;rfl
theorem HD{p:List U→Option (List U×List Id)}{rs:Rows}{i1 i2:List Id}(e:rows=r::rs)(h1:p r=some (r',i1))(h2:ef p rs=some (aV,i2)):ef p rows=some (r'::aV,i1++i2):=by subst e;simp[ef,h1,h2]
theorem Bh{i:Id}{off len:Nat}{x:U}(hx:x= .rs i off len:=by exact rfl)(hk:keep i=true:=by exact rfl):fz h keep x=some (.rs i off len,[]):=by subst hx;simp[fz,hk]
theorem Bi{i:Id}{row off:Nat}{x:U}(hx:x= .mp i row off:=by exact rfl)(hk:keep i=true:=by exact rfl):fz h keep x=some (.mp i row off,[]):=by subst hx;simp[fz,hk]
theorem Bk{i:Id}{off len:Nat}{x x':U}(hx:x= .rs i off len:=by exact rfl)(hk:keep i=false:=by exact rfl)(hp:pk h 8 (.rs i off len)=some (x',ids)):fz h keep x=some (x',ids):=by subst hx;simp[fz,hk,hp]
theorem Bj{x:U}(hx:x= .bQ:=by exact rfl):fz h keep x=some (.own [] 0,[]):=by subst hx;rfl
theorem C8:∀{l:List U},cp l=true→tY keep l=true|[],_=>rfl|a::l,hf=>by simp only[cp,GE]at hf;simp only[tY,List.all_cons,GE];refine⟨?_,C8 hf.2⟩;cases a<;>first|exact hf.1|(simp[flat]at hf)
theorem vi{x:U}(hf:flat x=true):fz h keep x=some (x,[]):=by cases x with|fn k as cs=>(simp only[flat,GE]at hf;simp only[fz];rw[AC (by simp[C8 hf.1,C8 hf.2])])|rs _ _ _=>(simp[flat]at hf)|mp _ _ _=>(simp[flat]at hf)|mr _=>(simp[flat]at hf)|bQ=>(simp[flat]at hf)|_=>simp only[fz];rw[AC hf]
end
section
variable{α:Type}{c:α→List U}{q:List α}{k:Nat}{x x':α}{r r':List U}{ids:List Id}{keep:Id→Bool}{o:Id}{ol:List Id}{y0:Option ah}
end
theorem PD{keep:Id→Bool}{ol:List Id}{y0:Option ah}(k:gG keep ol ⟨n,t,h⟩=y0:=by repeat'(first|with_reducible exact ZJ|with_reducible exact Px|(apply Pv;exact rfl;first|exact pW _|exact rfl|exact BD)|(apply ZK;exact rfl;exact rfl;(first|(with_reducible assumption)|assumption);exact inferInstance)|(apply PB;exact rfl;exact rfl)|exact HC|(apply HD;exact rfl)|exact PY|(apply GS;exact rfl)|exact Bh|exact Bi|exact GC|exact Bj|(apply GF;exact rfl;exact rfl;exact jM)|(apply Bk;exact rfl;exact rfl;exact jM)|(apply GD;exact rfl;exact rfl;exact jM)|(apply vi;first|exact rfl|exact Hs|exact Hv|exact Ht)|exact GB|exact vA|(apply vz;exact rfl)|exact Vl rfl)):gG keep ol ⟨n,t,h⟩=y0:=k
/-! Names, one by one. -/
def I6:U→Bool| .fn _ as cs=> !(cp as&&cp cs)| .rs _ _ _=>true| .mp _ _ _=>true| .mr _=>true| .agg _=>true|_=>false
section
variable{L:Id→Option (Option Rows)}{m j:Nat}{p i:Id}{acc acc' kY y l:List (Id×Id)}{a:U}{as cs c9:List U}{S:ah}{s:Nat}{slots:List Nat}
theorem P4(hx:c9=[])(e:acc=y):ey L m p j acc c9=y:=by subst hx;cases m<;>exact e
theorem Qc(hx:c9=a::as)(hs:I6 a=false)(k:ey L m p (j+1) acc as=y):ey L (m+1) p j acc c9=y:=by subst hx;cases a with|fn f xs cs=>(simp only[I6,Bool.not_eq_false']at hs;simp only[ey,AC hs];exact k)|_=>first|exact k|cases hs
theorem Dm{i q:Id}(h:gK i=false)(h2:gK q=false):nV i q=q:=by simp[nV,h,h2]
theorem Dn{i q:Id}(h:gK i=true):nV i q=i:=by simp[nV,h]
variable{nm:Id}
theorem Qa{o n:Nat}(hx:c9= .rs i o n::as)(hn:(eP acc i).isSome=false)(hm:nV i (j::p)=nm)(hl:acc++[(i,nm)]=acc')(k:ey L m p (j+1) acc' as=y):ey L (m+1) p j acc c9=y:=by subst hx hl hm;simp only[ey,hn];exact k
theorem Qb{o n:Nat}(hx:c9= .rs i o n::as)(hn:(eP acc i).isSome=true)(k:ey L m p (j+1) acc as=y):ey L (m+1) p j acc c9=y:=by subst hx;simp only[ey,hn];exact k
theorem P7{o n:Nat}(hx:c9= .mp i o n::as)(hn:(eP acc i).isSome=false)(hh:L i=some (some [cs]))(hm:nV i (j::p)=nm)(hl:acc++[(i,nm)]=acc')(h1:ey L m (j::p) 0 acc' cs=kY)(k:ey L m p (j+1) kY as=y):ey L (m+1) p j acc c9=y:=by subst hx hl h1 hm;simp only[ey,hn,hh];exact k
theorem P8{o n:Nat}(hx:c9= .mp i o n::as)(hn:(eP acc i).isSome=true)(k:ey L m p (j+1) acc as=y):ey L (m+1) p j acc c9=y:=by subst hx;simp only[ey,hn];exact k
theorem P2(hx:c9= .agg cs::as)(h1:ey L m (j::p) 0 acc cs=kY)(k:ey L m p (j+1) kY as=y):ey L (m+1) p j acc c9=y:=by subst hx h1;simp only[ey];exact k
theorem P6{f:Fn}{xs:List U}(hx:c9= .fn f xs cs::as)(hf:(cp xs&&cp cs)=false)(h1:ey L m (j::p) 0 acc (xs++cs)=kY)(k:ey L m p (j+1) kY as=y):ey L (m+1) p j acc c9=y:=by subst hx h1;simp only[ey,hf];exact k
theorem VB(e:acc=l):Hd (fun acc s=>ey S.h 40 [s] 0 acc [S.t s]) acc []=l:=e
theorem VA(h:ey S.h 40 [s] 0 acc [S.t s]=acc')(k:Hd (fun acc s=>ey S.h 40 [s] 0 acc [S.t s]) acc' slots=l):Hd (fun acc s=>ey S.h 40 [s] 0 acc [S.t s]) acc (s::slots)=l:=by subst h;exact k
theorem Vz{K0:List Nat}(hs:slots=K0)(h:Hd (fun acc s=>ey S.h 40 [s] 0 acc [S.t s]) [] K0=l):names S slots=l:=by subst hs;exact h
theorem VC(h:names S slots=l:=by((with_reducible apply Vz);exact spine);repeat'(first|((with_reducible apply VB);exact rfl)|(with_reducible apply VA)|((with_reducible apply P4);(with_reducible exact rfl);exact rfl)|((with_reducible apply Qc);exact rfl;first|exact rfl|exact abd|exact abg)|((with_reducible apply Qa);exact rfl;exact rfl;(first|exact Dm rfl rfl|exact Dn rfl|exact Jq rfl rfl spine);exact spine)|((with_reducible apply Qb);exact rfl;exact rfl)|((with_reducible apply ZP);exact rfl;exact rfl;(first|exact Dm rfl rfl|exact Dn rfl|exact Jq rfl rfl spine);exact spine)|((with_reducible apply ZQ);exact rfl;exact rfl)|((with_reducible apply P8);exact rfl;exact rfl)|((with_reducible apply P7);exact rfl;exact rfl;exact rfl;(first|exact Dm rfl rfl|exact Dn rfl|exact Jq rfl rfl spine);exact spine)|((with_reducible apply P2);exact rfl)|((with_reducible apply P6);exact rfl;exact rfl))):names S slots=l:=h
end
theorem VJ{t0 t1:Nat→U}{h0 h1:Id→Option (Option Rows)}{vs:List (Nat×U)}(e0:hM slots ⟨n,t,h⟩=⟨n,t0,h0⟩:=by exact VM)(hn:names ⟨n,t0,h0⟩ slots=l:=by first|exact VC|exact spine)(e1:gG (oO l) (l.map (·.1)) ⟨n,t0,h0⟩=some ⟨n,t1,h1⟩:=by exact PD)(hd:(de (l.map (·.1))&&de (l.map (·.2))&&l.all (fun x=> !gK x.2||x.1==x.2))=true:=by exact rfl)(hh:l6 h1 l l=some hl:=by exact hnk)(ht:kJ l t1 slots=cv (fun _=> .aU) vs:=by exact Vh):norm ⟨n,t,h⟩ slots=some (dx n vs hl):=by subst hn;simp only[norm,xe,e0,e1,GT,oQ,hd,if_true,hh,Hn,ht,dx]
theorem bM{o:Option (Bool×List Nat)}{vs:List (Nat×U)}(hk:o=some (true,slots):=by exact rfl)(hm:norm ⟨n,t,h⟩ slots=some (dx n vs hl):=by exact VJ):dj o ⟨n,t,h⟩=some (dx n vs hl):=by subst hk;exact hm
end
section
variable{C:aB}{f:FuncId}{call:eV}{c:Code}{Q:Exit×ah→Prop}{n:Nat}{l:List (Nat×U)}{h:List (Id×Rows)}
theorem fe(k:W C f call c ⟨n,cv (fun _=> .aU) l,gL h⟩ Q):W C f call c (dx n l h) Q:=k
theorem qz{e:Exit}(k:Q (e,⟨n,cv (fun _=> .aU) l,gL h⟩)):Q (e,dx n l h):=k
end
section
variable{α:Type}{c c':α→List U}{q:List α}{as bs:List U}{L:Id→Option (Option Rows)}{n:Nat}
/-! Freezing -/
theorem RC [hc:ye c c']:cS (.own (q.map c) q.length)= .sl (q.map c'):=by have:gZ (q.map c)=q.map c':=by{induction q with|nil=>(rfl)|cons x q ih=>simp[gZ,hc.cS,ih]};simp only[cS,this];rw[H0 (by simp)]
theorem Rw{a b:U}(h:cS a=b)(k:gI as=bs):gI (a::as)=b::bs:=by simp[gI,h,k]
theorem Rv(h:gI as=bs):cS (.agg as)= .agg bs:=by simp[cS,h]
theorem RE(h:gI as=bs):cS (.aE as)= .aE bs:=by simp[cS,h]
theorem RD(h:gI as=bs):cS (.ck as)= .aL bs:=by simp[cS,h]
theorem vG{a b:U}(h:cS a=b:=by repeat'(first|exact(rfl:cS (.val _)= .val _)|exact Rx|exact aap|exact RC|exact aao|exact(rfl:cS (.sl _)= .sl _)|apply Rv|apply RE|apply RD|exact(rfl:gI []=[])|apply Rw|exact rfl)):cS a=b:=h
end
/-! ### Memory of one's own -/
def app{α:Type}(a b:List α):Option (List α):=if a.length+b.length≤4294967296 then some (a++b)else none
theorem Gl{α:Type}{a b r:List α}(h:app a b=some r):a.length+b.length≤4294967296∧r=a++b:=by unfold app at h;split at h;·{exact⟨‹_›,by simpa using h.symm⟩};·cases h
def zN{α:Type}(n:Int)(z:α):Option (List α):=if 0≤n∧n≤4294967296 then some (Hc n.toNat z)else none
theorem Eu{α:Type}{c:α→List U}{q:List α}[hc:pF c]:nZ (q.map c)=true:=by simp only[nZ,H1,H2];exact fun x _=>hc.ce x
section
variable{C:aB}{f:FuncId}{call:eV}{S:ah}{g:Bool}
variable{d:Nat}{ty:TypeId}{pos:String}{aM:Array Edge}{bp:Option (Nat×Bool)}{v v':U}
variable{x y z:Operand}{k:IntKind}{a b:Int}{T cM:TypeId}
theorem cU{cs:List U}[hz:om C T cs](hn:S.h [d]=none:=by exact rfl)(hJ:C.qI f d=[]:=by exact rfl):bn C f call S g ⟨some d, .alloc T,ty,pos,aM,bp⟩=some ⟨[(d, .mp [d] 0 0)],[],[([d],some [cs])]⟩:=by show ou C f S _ T=_;simp[ou,hz.LC,hn,hJ,qJ]
theorem nW{bb:Bool}{m:Nat}{cs:List U}[ha:cK C T bb m](hin:(C.dN f).contains d=false:=by exact rfl)(hx:un g (S.get C x)=v:=by exact gt)(hc:lS bb v=some cs:=by exact rfl)(hn:S.h [d]=none:=by exact rfl):bn C f call S g ⟨some d, .box T x,ty,pos,aM,bp⟩=some ⟨[(d, .mp [d] 0 0)],[],[([d],some [cs])]⟩:=by show mJ C f S _ T (un g (S.get C x))=_;simp only[mJ,ha.iH,hx,hc,dS,hin,H3,Ha,if_false];rw[AC (IU hn)];rfl
theorem cm{i off off' row m:Nat}{bb:Bool}{id:Id}[hf:Fd C T i off m bb](hx:un g (S.get C x)= .mp id row off':=by first|exact rfl|exact bN)(h0:Nat.blt 0 m=true:=by exact rfl):bn C f call S g ⟨some d, .fieldAddr T x i,ty,pos,aM,bp⟩=some ⟨[(d, .mp id row (off'+off))],[],[]⟩:=by show pQ C f _ T i (un g (S.get C x))=_;have h0':0<m:=of_decide_eq_true (kz h0);simp[pQ,hf.fd,hx,h0']
theorem Dc{bb:Bool}{m row off:Nat}{id:Id}{rows:Rows}{r cs:List U}(ha:iM C T=some bb)(hs:fE C T=some m)(hx:un g (S.get C x)= .mp id row off)(hh:S.h id=some (some rows))(hr:rows[row]? =some r)(hl:Hb (off+m) r.length=true)(hc:bw [d] 0 ((r.drop off).take m)=(cs,[]))(hv:gx bb cs=some v):bn C f call S g ⟨some d, .load T x,ty,pos,aM,bp⟩=some ⟨[(d,v)],[id],[]⟩:=by show iY C S _ T (un g (S.get C x))=_;rw[hx];have hl':off+m≤r.length:=Hk hl;simp only[iY,ha,hs,hh,hr,GT,AC hl',gd,hc,hv,List.isEmpty_nil,if_true,Hn];rfl
theorem UZ{bb:Bool}{m row off:Nat}{id:Id}{rows:Rows}{r cs:List U}{w:Id×Option Rows}{wr:List (Id×Option Rows)}(ha:iM C T=some bb)(hs:fE C T=some m)(hx:un g (S.get C x)= .mp id row off)(hh:S.h id=some (some rows))(hr:rows[row]? =some r)(hl:Hb (off+m) r.length=true)(hc:bw [d] 0 ((r.drop off).take m)=(cs,w::wr))(hf:fresh S.h (w::wr)=true)(hv:gx bb cs=some v):bn C f call S g ⟨some d, .load T x,ty,pos,aM,bp⟩=some ⟨[(d,v)],[id],(id,some (rows.set row (r.take off++cs++r.drop (off+m))))::w::wr⟩:=by show iY C S _ T (un g (S.get C x))=_;rw[hx];have hl':off+m≤r.length:=Hk hl;simp only[iY,ha,hs,hh,hr,GT,AC hl',gd,hc,hv,List.isEmpty_cons,Ha,if_false,hf,if_true,Hn];rfl
theorem uk{m row off:Nat}{id:Id}{α:Type}{c:α→List U}{q:List α}{r:α}{cs:List U}(hr:q[row]? =some r)[ha:cK C T false m](hx:un g (S.get C x)= .mp id row off:=by first|exact rfl|exact bN)(hh:S.h id=some (some (q.map c)):=by exact rfl)(hm:m=1:=by exact rfl)(hv:(c r).drop off=v::cs:=by exact rfl)(hu:bw [d] 0 [v]=([v],[]):=by first|exact rfl|exact Le):bn C f call S g ⟨some d, .load T x,ty,pos,aM,bp⟩=some ⟨[(d,v)],[id],[]⟩:=by subst hm;refine Dc (rows:=q.map c) (r:=c r) (cs:=[v]) ha.iH ha.sz hx hh (by simp[hr]) ?_ (by rw[hv];exact hu) rfl;have:=congrArg List.length hv;simp only[Hm,H4]at this;apply H5;omega
theorem cG{m off:Nat}{id:Id}{r cs:List U}[ha:cK C T false m](hx:un g (S.get C x)= .mp id 0 off:=by first|exact rfl|exact bN)(hh:S.h id=some (some [r]):=by exact rfl)(hm:m=1:=by exact rfl)(hv:r.drop off=v::cs:=by exact rfl)(hu:bw [d] 0 [v]=([v],[]):=by first|exact rfl|exact Le):bn C f call S g ⟨some d, .load T x,ty,pos,aM,bp⟩=some ⟨[(d,v)],[id],[]⟩:=by subst hm;refine Dc (rows:=[r]) (r:=r) (cs:=[v]) ha.iH ha.sz hx hh rfl ?_ (by rw[hv];exact hu) rfl;have:=congrArg List.length hv;simp only[Hm,H4]at this;apply H5;omega
theorem j7{m off:Nat}{id:Id}{r cs cs0:List U}[ha:cK C T true m](hx:un g (S.get C x)= .mp id 0 off:=by first|exact rfl|exact bN)(hh:S.h id=some (some [r]):=by exact rfl)(hl:Hb (off+m) r.length=true:=by exact rfl)(hv:(r.drop off).take m=cs0:=by exact spine)(hu:bw [d] 0 cs0=(cs,[]):=by exact sE):bn C f call S g ⟨some d, .load T x,ty,pos,aM,bp⟩=some ⟨[(d, .agg cs)],[id],[]⟩:=Dc (rows:=[r]) (r:=r) ha.iH ha.sz hx hh rfl hl (by rw[hv];exact hu) rfl
theorem VR{m off:Nat}{id:Id}{r r' cs cs0:List U}{w:Id×Option Rows}{wr:List (Id×Option Rows)}[ha:cK C T true m](hx:un g (S.get C x)= .mp id 0 off:=by first|exact rfl|exact bN)(hh:S.h id=some (some [r]):=by exact rfl)(hl:Hb (off+m) r.length=true:=by exact rfl)(hv:(r.drop off).take m=cs0:=by exact spine)(hu:bw [d] 0 cs0=(cs,w::wr):=by exact sE)(hq:r.take off++cs++r.drop (off+m)=r':=by exact spine)(hf:fresh S.h (w::wr)=true:=by exact rfl):bn C f call S g ⟨some d, .load T x,ty,pos,aM,bp⟩=some ⟨[(d, .agg cs)],[id],(id,some [r'])::w::wr⟩:=by subst hq;exact UZ (rows:=[r]) (r:=r) ha.iH ha.sz hx hh rfl hl (by rw[hv];exact hu) hf rfl
def Au(L:List Nat):Operand→Bool| .tmp ta=>L.contains ta|_=>false
theorem HM{a:Operand}(hin:Au (C.dN f) a=false):rj C f a=none:=by cases a with|tmp ta=>(simp only[Au]at hin;unfold rj;simp only;rw[Do (by rw[hin];simp)])|_=>rfl
theorem e3{bb:Bool}{m ta:Nat}{id:Id}{cs cs' r:List U}[ha:cK C T bb m](hin:(C.dN f).contains ta=true:=by exact rfl)(hx:un true (S.get C (.tmp ta))= .mp id 0 0:=by exact rfl)(hy:un true (S.get C y)=v:=by exact gt)(hc:lS bb v=some cs:=by exact rfl)(bx:cs.length=m:=by exact rfl)(hh:S.h id=some (some [r]):=by exact rfl)(hr:r.length=m:=by exact rfl)(hz:iN cs=cs':=by exact spine)(hi:dG cs'=true:=by exact rfl):bn C f call S true ⟨none, .store T (.tmp ta) y,ty,pos,aM,bp⟩=some ⟨[(ta, .aL cs')],[id],[(id,none)]⟩:=by show k4 C f S true _ T (.tmp ta) (un true (S.get C (.tmp ta))) (un true (S.get C y))=_;rw[hx,hy];have e:rj C f (.tmp ta)=some ta:=by{unfold rj;simp only;rw[AC hin]};subst hz;simp[k4,ha.iH,ha.sz,hc,bx,hh,hr,e,hi]
theorem bO{bb:Bool}{m off:Nat}{ao:Operand}{id:Id}{cs r r':List U}[ha:cK C T bb m](hin:Au (C.dN f) ao=false:=by exact rfl)(hx:un g (S.get C ao)= .mp id 0 off:=by exact rfl)(hy:un g (S.get C y)=v:=by exact gt)(hc:lS bb v=some cs:=by exact rfl)(bx:cs.length=m:=by exact rfl)(hh:S.h id=some (some [r]):=by exact rfl)(hl:Hb (off+m) r.length=true:=by exact rfl)(hq:r.take off++cs++r.drop (off+m)=r':=by exact spine):bn C f call S g ⟨none, .store T ao y,ty,pos,aM,bp⟩=some ⟨[],[id],[(id,some [r'])]⟩:=by show k4 C f S g _ T ao (un g (S.get C ao)) (un g (S.get C y))=_;rw[hx,hy];have hl':off+m≤r.length:=Hk hl;have e:=HM (f:=f) hin;subst hq;simp only[k4,ha.iH,ha.sz,hc];rw[Do (by simp[bx]),hh];simp only[List.getElem?_cons_zero,GT,AC hl',e];rfl
theorem Du{bb:Bool}{m row off:Nat}{ao:Operand}{id:Id}{cs:List U}{α:Type}{c:α→List U}{q:List α}{r:α}(hr:q[row]? =some r)(r':α)[ha:cK C T bb m](hin:Au (C.dN f) ao=false:=by exact rfl)(hx:un g (S.get C ao)= .mp id row off:=by exact rfl)(hy:un g (S.get C y)=v:=by exact gt)(hc:lS bb v=some cs:=by first|exact rfl|exact ZL)(bx:cs.length=m:=by exact rfl)(hh:S.h id=some (some (q.map c)):=by exact rfl)(hl:Hb (off+m) (c r).length=true:=by exact rfl)(hq:(c r).take off++cs++(c r).drop (off+m)=c r':=by exact rfl):bn C f call S g ⟨none, .store T ao y,ty,pos,aM,bp⟩=some ⟨[],[id],[(id,some ((q.set row r').map c))]⟩:=by show k4 C f S g _ T ao (un g (S.get C ao)) (un g (S.get C y))=_;rw[hx,hy];have hl':off+m≤(c r).length:=Hk hl;have e:=HM (f:=f) hin;have e2:(q.map c)[row]? =some (c r):=by{simp[hr]};simp only[k4,ha.iH,ha.sz,hc];rw[Do (by simp[bx]),hh];simp only[e2,GT,AC hl',e];rw[hq,List.map_set];rfl
theorem oR{e:TypeId}{m n:Nat}{bb:Bool}{α:Type}{c:α→List U}{q:List α}{i:Int}{r:α}{id:Id}(hi:idx q i=some r)[hu:cQ C T (.slice e)][hs:cK C e bb m](hx:un g (S.get C x)= .rs id 0 n:=by first|exact rfl|exact bN)(hh:S.h id=some (some (q.map c)):=by exact rfl)(hl:n=q.length:=by exact ql)(hy:un g (S.get C y)= .val (.int k i):=by first|exact rfl|exact bN)(hr:(c r).length=m:=by exact rfl):bn C f call S g ⟨some d, .indexAddr T x y,ty,pos,aM,bp⟩=some ⟨[(d, .mp id i.toNat 0)],[id],[]⟩:=by show k3 C S _ T (un g (S.get C x)) (dA (un g (S.get C y)))=_;have hb:=wK hi;have hn:=mb hi;subst hl;simp only[hx,hy,dA,k3,hu.ul,hs.sz];rw[AC hb,hh];simp[hn,hr]
section
variable{α:Type}{c:α→List U}{q q' r:List α}{id gv:Id}{e:TypeId}{m n n':Nat}{T cM:TypeId}
abbrev va:= @kr
theorem Gj{rx:U}{xs ys:Rows}{i1 i2:List Id}(hok:vb C e m=true)(hu:C.P.underlying T=some (.slice e))(hu1:C.P.underlying cM=some (.slice e))(hx:un g (S.get C x)=rx)(qf:rowsOf S.h rx=some (xs,i1))(hy:rowsOf S.h (un g (S.get C y))=some (ys,i2))(hl:ys.all (·.length==m)=true)(hcell:nZ ys=true)(hlen:xs.length+ys.length≤me)(hn:S.h [d]=none){s9:aT}(he:va S ⟨some d, .call ⟨.builtin .append,⟨[x,y]⟩,⟨[T,cM]⟩⟩,ty,pos,aM,bp⟩ d m rx xs ys i1 i2=some s9):jA C S ⟨some d, .call ⟨.builtin .append,⟨[x,y]⟩,⟨[T,cM]⟩⟩,ty,pos,aM,bp⟩ ⟨[T,cM]⟩ ([x,y].map fun x=>un g (S.get C x))=some s9:=by unfold vb at hok;split at hok;·{rename_i inf Co;simp only[GE,beq_iff_eq,decide_eq_true_eq]at hok;obtain⟨⟨⟨k1,k2⟩,dH⟩,gw⟩:=hok;subst k1;have e1:(#[T,cM]:Array TypeId)[0]? =some T:=rfl;have e2:(#[T,cM]:Array TypeId)[1]? =some cM:=rfl;simp only[List.map_cons,List.map_nil,jA,e1,e2,GT,hu1,sX,hu,Co,hx,qf,hy];rw[AC (by simp only[GE,decide_eq_true_eq];exact⟨⟨⟨⟨⟨⟨hl,k2⟩,dH⟩,gw⟩,hlen⟩,hcell⟩,by rw[hn];rfl⟩)];unfold va at he;exact he};·cases hok
theorem Om{rx:U}{xs ys:Rows}{i1 i2:List Id}(hok:vb C e m=true)(hu:C.P.underlying T=some (.slice e))(hu1:C.P.underlying cM=some (.slice e))(hx:un g (S.get C x)=rx)(qf:rowsOf S.h rx=some (xs,i1))(hy:rowsOf S.h (un g (S.get C y))=some (ys,i2))(hl:ys.all (·.length==m)=true)(hcell:nZ ys=true)(hlen:xs.length+ys.length≤me)(hn:S.h [d]=none)(hfz:(C.dN f).contains d=false){s9:aT}(he:va S ⟨some d, .call ⟨.builtin .append,⟨[x,y]⟩,⟨[T,cM]⟩⟩,ty,pos,aM,bp⟩ d m rx xs ys i1 i2=some s9):bn C f call S g ⟨some d, .call ⟨.builtin .append,⟨[x,y]⟩,⟨[T,cM]⟩⟩,ty,pos,aM,bp⟩=some s9:=by show(jA C S _ _ ([x,y].map fun x=>un g (S.get C x))).bind (mM C f _)=_;have key:jA C S ⟨some d, .call ⟨.builtin .append,⟨[x,y]⟩,⟨[T,cM]⟩⟩,ty,pos,aM,bp⟩ ⟨[T,cM]⟩ ([x,y].map fun x=>un g (S.get C x))=some s9:=Gj hok hu hu1 hx qf hy hl hcell hlen hn he;rw[key];simp only[GT,mM,dS,hfz,Ha,if_false]
theorem KK{L:Id→Option (Option Rows)}(hh:L id=some (some (q.map c))):rowsOf L (.rs id 0 q.length)=some (q.map c,[id]):=by show(match L id with|some (some rs)=>if 0+q.length≤rs.length then some ((rs.drop 0).take q.length,[id])else none|_=>none)=_;rw[hh];simp only;rw[AC (by simp),IH,H0 (by simp)]
theorem kK(hr:app q q'=some r)[hu:cQ C T (.slice e)][hu1:cQ C cM (.slice e)][hok:pq C e m](hx:un g (S.get C x)= .rs id 0 n:=by exact rfl)(hh:S.h id=some (some (q.map c)):=by exact rfl)(hlen:n=q.length:=by exact ql)(hy:un g (S.get C y)= .sl (q'.map c):=by exact rfl)(hl:∀x,(c x).length=m:=by exact fun _=>rfl)(hcell:nZ (q'.map c)=true:=by first|exact Eu|exact rfl)(hn:S.h [d]=none:=by exact rfl)(hfz:(C.dN f).contains d=false:=by exact rfl):bn C f call S g ⟨some d, .call ⟨.builtin .append,⟨[x,y]⟩,⟨[T,cM]⟩⟩,ty,pos,aM,bp⟩=some ⟨[(d, .rs [d] 0 r.length)],[id],[(id,none),([d],some (r.map c))]⟩:=by obtain⟨h1,rfl⟩:=Gl hr;subst hlen;refine Om hok.ao hu.ul hu1.ul hx (KK hh) (by rw[hy];rfl) (u6 hl) hcell (by simpa[me]using h1) hn hfz ?_;simp only[va,kr,hh];rw[AC (by simp only[GE];refine⟨⟨u6 hl,by simp⟩, ?_⟩;cases q<;>simp)];simp[put,If]
theorem Ju [SZ:pF c](hr:app q q'=some r)[hu:cQ C T (.slice e)][hu1:cQ C cM (.slice e)][hok:pq C e m](hx:un g (S.get C x)= .rs id 0 n:=by exact rfl)(hh:S.h id=some (some (q.map c)):=by exact rfl)(hlen:n=q.length:=by exact ql)(hy:un g (S.get C y)= .sl (q'.map c):=by exact rfl)(hl:∀x,(c x).length=m:=by exact fun _=>rfl)(hcell:nZ (q'.map c)=true:=by first|exact Eu|exact rfl)(hn:S.h [d]=none:=by exact rfl)(hfz:(C.dN f).contains d=true:=by exact rfl):bn C f call S g ⟨some d, .call ⟨.builtin .append,⟨[x,y]⟩,⟨[T,cM]⟩⟩,ty,pos,aM,bp⟩=some ⟨[(d, .sl (r.map c))],[id],[(id,none),([d],none)]⟩:=by obtain⟨h1,rfl⟩:=Gl hr;subst hlen;show(jA C S _ _ ([x,y].map fun x=>un g (S.get C x))).bind (mM C f _)=_;have key:jA C S ⟨some d, .call ⟨.builtin .append,⟨[x,y]⟩,⟨[T,cM]⟩⟩,ty,pos,aM,bp⟩ ⟨[T,cM]⟩ ([x,y].map fun x=>un g (S.get C x))=some ⟨[(d, .rs [d] 0 (q++q').length)],[id],[(id,none),([d],some ((q++q').map c))]⟩:=by{refine Gj hok.ao hu.ul hu1.ul hx (KK hh) (by rw[hy];rfl) (u6 hl) hcell (by simpa[me]using h1) hn ?_;simp only[va,kr,hh];rw[AC (by simp only[GE];refine⟨⟨u6 hl,by simp⟩, ?_⟩;cases q<;>simp)];simp[put,If]};have hi:iw ((q++q').map c)=true:=by{simp only[iw,H1,H2];exact fun x _=>SZ.im x};rw[key];simp only[GT,mM,dS,hfz,if_true,hi,and_self,put]
end
theorem Jy{e:TypeId}{m:Nat}{α:Type}{c:α→List U}{cD:α}{eT:List U}{nn:Int}{r:List α}(hr:zN nn cD=some r)(CS:c cD=eT)[hu:cQ C T (.slice e)][hok:pq C e m][hz:om C e eT](hx:un g (S.get C x)= .val (.int k nn):=by exact rfl)(hy:un g (S.get C y)= .val (.int k nn):=by exact rfl)(hzl:eT.length=m:=by exact rfl)(hn:S.h [d]=none:=by exact rfl):bn C f call S g ⟨some d, .makeSlice T x y,ty,pos,aM,bp⟩=some ⟨[(d, .rs [d] 0 r.length)],[],[([d],some (r.map c))]⟩:=by show oy C S _ T (un g (S.get C x)) (un g (S.get C y))=_;unfold zN at hr;split at hr;·{rename_i hp;obtain rfl:Hc nn.toNat cD=r:=by{simpa using hr};have hok:=hok.ao;unfold vb at hok;split at hok;·{rename_i inf Co;simp only[Bool.and_eq_true,beq_iff_eq,decide_eq_true_eq]at hok;obtain⟨⟨⟨k1,k2⟩,dH⟩,gw⟩:=hok;simp only[hx,hy,oy,hu.ul,dA,hz.LC,Co];rw[AC (by simp only[Bool.and_eq_true,decide_eq_true_eq];exact⟨⟨⟨⟨by omega,by omega⟩,dH⟩,by omega⟩,by rw[hn];rfl⟩)];simp[put,CS]};·cases hok};·cases hr
theorem OU{e:TypeId}{bb:Bool}{m len:Nat}{eT:List U}{ps:List (Nat×U)}{rows:Rows}(hu:C.P.underlying T=some (.slice e))(hz:sF C e=some eT)(ha:iM C e=some bb)(hs:fE C e=some m)(h0:(decide (0<m)&&decide (m=eT.length)&&decide (len*m≤1000))=true)(hf:oB m bb (Hc len eT) ps=some rows):sZ C T len ps=some rows:=by simp only[sZ,hu,hz,ha,hs,h0,if_true,hf]
theorem eK{e:TypeId}{bb:Bool}{m len:Nat}{eT:List U}{p:List (Nat×Operand)}{ps:List (Nat×U)}{rows aV:Rows}[hu:cQ C T (.slice e)][hz:iU C e eT][ha:cK C e bb m](hin:(C.dN f).contains d=true:=by exact rfl)(h0:(decide (0<m)&&decide (m=eT.length)&&decide (len*m≤1000))=true:=by exact rfl)(hq:(p.map fun p=>(p.1,un g (S.get C p.2)))=ps:=by exact Ah)(hf:oB m bb (Hc len eT) ps=some rows:=by exact rfl)(tP:rows.map iN=aV:=by exact spine)(hi:iw aV=true:=by exact rfl):bn C f call S g ⟨some d, .buildSlice T len ⟨p⟩,ty,pos,aM,bp⟩=some ⟨[(d, .sl aV)],[],[]⟩:=by show mK C f S _ T len (p.map fun p=>(p.1,un g (S.get C p.2)))=_;rw[hq];have hb:=OU hu.ul hz.eT ha.iH ha.sz h0 hf;unfold mK;rw[Do (by simp[Bd,hb,tP,hi])];simp only[ow,hu.ul,hz.eT,ha.iH,ha.sz,h0,if_true,hf,dS,hin,tP,hi,Bool.and_self];rfl
theorem xh{e:TypeId}{bb:Bool}{m len:Nat}{eT:List U}{p:List (Nat×Operand)}{ps:List (Nat×U)}{rows aV:Rows}[hu:cQ C T (.slice e)][hz:iU C e eT][ha:cK C e bb m](hin:(C.dN f).contains d=false:=by exact rfl)(h0:(decide (0<m)&&decide (m=eT.length)&&decide (len*m≤1000))=true:=by exact rfl)(hq:(p.map fun p=>(p.1,un g (S.get C p.2)))=ps:=by exact Ah)(hf:oB m bb (Hc len eT) ps=some rows:=by exact rfl)(hs:rows=aV:=by exact spine)(hn:S.h [d]=none:=by exact rfl):bn C f call S g ⟨some d, .buildSlice T len ⟨p⟩,ty,pos,aM,bp⟩=some ⟨[(d, .rs [d] 0 len)],[],[([d],some aV)]⟩:=by show mK C f S _ T len (p.map fun p=>(p.1,un g (S.get C p.2)))=_;subst hs;rw[hq];unfold mK;rw[Do (by simp[Bd,dS];intro h;simp[h]at hin)];simp only[ow,hu.ul,hz.eT,ha.iH,ha.sz,h0,if_true,hf,dS,hin,H3,Ha,if_false];rw[AC (IU hn)];rfl
/-! ### Calls -/
section
variable{L:Id→Option (Option Rows)}{n m:Nat}{α:Type}{c c':α→List U}{q:List α}{id:Id}{as bs cs cs':List U}{is i2:List Id}{x u:U}
theorem Gx{a:U}(h:eC a=true):bV L (n+1) a=some (a,[]):=by cases a with|agg cs=>(simp only[eC]at h;simp[bV,ig,h])|aE cs=>(simp only[eC]at h;simp[bV,ig,h])|fn k a b=>(simp only[eC,GE]at h;simp[bV,ig,h])|_=>first|rfl|simp[eC]at h
theorem O2{w:Value}(hx:x= .val w:=by exact rfl):bV L (n+1) x=some (.val w,[]):=by rw[hx];rfl
theorem O1{r:Rows}(hx:x= .sl r:=by exact rfl):bV L (n+1) x=some (.sl r,[]):=by rw[hx];rfl
theorem OZ(hx:x= .bQ:=by exact rfl):bV L (n+1) x=some (.sl [],[]):=by rw[hx];rfl
theorem OX{t:TypeId}{e:cI}(hx:x=fh t e:=by first|exact rfl|exact AA):bV L (n+1) x=some (fh t e,[]):=by rw[hx];exact Gx (Qt e)
theorem OY(hx:x=u:=by exact gt)(hi:eC u=true:=by exact rfl):bV L (n+1) x=some (u,[]):=by rw[hx];exact Gx hi
theorem O0 [hc:pF c](hx:x= .rs id 0 m:=by exact rfl)(hh:L id=some (some (q.map c)):=by exact rfl)(hl:m=q.length:=by exact ql):bV L (n+1) x=some (.sl (q.map c),[id]):=by subst hx hl;have hi':iw (q.map c)=true:=by{simp only[iw,H1,H2];exact fun x _=>hc.im x};have e:((q.map c).drop 0).take q.length=q.map c:=by{rw[IH,H0 (by simp)]};have e0:bV L (n+1) (.rs id 0 q.length)=match L id with|some (some rs)=>if 0+q.length≤rs.length then(lQ (bV L n) ((rs.drop 0).take q.length)).map fun x=>(.sl x.1,id::x.2)else none|_=>none:=rfl;rw[e0,hh];simp only;rw[AC (by simp),e];simp[lQ,hi']
theorem OW(hx:x= .agg cs)(hi:dG cs=false)(h:dF (bV L n) cs=some (cs',is)):bV L (n+1) x=some (.agg cs',is):=by subst hx;simp[bV,ig,hi,h]
end
/-! ### Borrowing lists whose elements own memory -/
class Y7{α:Type}(c:α→List U)(c':outParam (α→List U)):Prop where bV:∀L n x,dF (bV L (n+2)) (c x)=some (c' x,[])abk:∀x,dG (c x)=false
section
variable{L:Id→Option (Option Rows)}{n m:Nat}{α:Type}{c c':α→List U}{q:List α}{k:Nat}{x x':α}{r r':List U}{id:Id}{ids:List Id}{v:U}
end
section
variable{α:Type}{c c':α→List U}{q:List α}{L:Id→Option (Option Rows)}{n:Nat}{id:Id}{as bs cs cs':List U}{x:U}{is i2:List Id}
theorem Bg{y:Option (U×List Id)}(h:bV L n x=y:=by repeat'(first|exact O2|exact Zj|exact Zk|(apply Zl;exact rfl)|exact OX|exact Zy|exact O1|exact O0|exact ZA|exact ZE|exact ZD|(apply ZB;exact rfl;exact rfl;exact rfl;(first|(with_reducible assumption)|assumption);exact ql;exact inferInstance;rotate_left;exact rfl)|(apply ZC;exact rfl;exact rfl;exact rfl;(first|(with_reducible assumption)|assumption);exact U4;exact inferInstance;rotate_left;exact rfl)|exact OY|exact Zx|exact OZ|exact Zo|exact Zz|exact Zr|exact Zu|exact Zw|exact Zv|exact Zs|exact Zq|exact Zt|exact Zn|exact vA|(apply vz;exact rfl)|(apply OW;exact rfl;exact rfl)|(apply Zp;exact rfl;exact rfl;exact rfl)|(apply Zm;exact rfl))):bV L n x=y:=h
theorem OT(h:as=[]:=by exact rfl):nB L as=some ([],[]):=by subst h;rfl
theorem OS{a b:U}{z:List Id}(ha:cs=a::as)(h1:bV L 9 a=some (b,is))(h2:nB L as=some (bs,i2))(hz:is++i2=z):nB L cs=some (b::bs,z):=by subst ha hz;unfold nB at*;simp[dF,h1,h2]
theorem blk{y:Option (List U×List Id)}(h:nB L as=y:=by repeat'(first|exact OT|(apply OS;exact rfl;exact Bg)|exact rfl)):nB L as=y:=h
theorem YB{ms:List Nat}(h:as=[]:=by exact rfl):hO L ms as=some ([],[],[],[]):=by subst h;cases ms<;>rfl
section
variable{ms:List Nat}{a b b':U}{i s t z:List Id}
theorem YA{u:List Id}(ha:cs=a::as)(h:pk L 9 a=some (b,i))(k:hO L ms as=some (bs,s,t,z))(hu:i++t=u):hO L (1::ms) cs=some (b::bs,s,u,z):=by subst ha hu;simp[hO,k,h]
theorem YC{u:List Id}(ha:cs=a::as)(h:bV L 9 a=some (b,i))(k:hO L ms as=some (bs,s,t,z))(hu:i++s=u):hO L (0::ms) cs=some (b::bs,u,t,z):=by subst ha hu;simp[hO,k,h]
end
theorem YD{ms:List Nat}{y:Option (List U×List Id×List Id×List Id)}(h:hO L ms as=y:=by repeat'(first|exact YB|(apply YA;exact rfl;exact jM)|(apply YC;exact rfl;exact Bg)|(apply acJ;exact rfl;exact jM;exact vG)|(apply acK;exact rfl;exact Bg)|exact rfl)):hO L ms as=y:=h
/-! Nothing from elsewhere -/
end
section
variable{cj:Operand}{ts:Array TypeId}{dc:FuncId}{as bs cs args:List U}{seen:List Id}{r:U}{wr:List (Id×Option Rows)}{xs:Array Operand}
theorem BP(hfo:un g (S.get C cj)= .fn (.func dc) as bs)(dm:C.fP dc=false):kD C (un g (S.get C cj))=none:=by rw[hfo];simp[kD,dm]
theorem By{d':Option Tmp}(h:kD C (un g (S.get C cj))=none):bn C f call S g ⟨d', .call ⟨.value cj,xs,ts⟩,ty,pos,aM,bp⟩=(match pathOf C cj with|some p=>pU S ⟨d', .call ⟨.value cj,xs,ts⟩,ty,pos,aM,bp⟩ p (xs.toList.map fun x=>un g (S.get C x))|none=>if uL C cj then(match(generalizing:=false)cj with| .func k=>nD C f call S ⟨d', .call ⟨.value cj,xs,ts⟩,ty,pos,aM,bp⟩ k (xs.toList.map fun x=>un g (S.get C x))|_=>none)else nC C f call S ⟨d', .call ⟨.value cj,xs,ts⟩,ty,pos,aM,bp⟩ (un g (S.get C cj)) (xs.toList.map fun x=>un g (S.get C x))):=by show(match kD C (un g (S.get C cj))with|some x=>mG C f call S _ x.1 (x.2.1++(xs.toList.map fun x=>un g (S.get C x))++x.2.2)|none=>_)=_;rw[h];first|rfl|(cases cj<;>rfl)
theorem dh(hc:call dc args=some (r,[]))(hfo:un g (S.get C cj)= .fn (.func dc) as bs:=by exact rfl)(hb:nB S.h (as++(xs.toList.map fun x=>un g (S.get C x))++bs)=some (args,seen):=by exact blk)(hm:(seen.isEmpty||mine r)=true:=by first|exact rfl|exact Je)(hz:(C.dN f).contains d=false:=by exact rfl)(hi:imp [d] r=(v',wr):=by exact tQ)(hf:fresh S.h wr=true:=by exact rfl)(ht:uL C cj=false:=by exact rfl)(rS:pathOf C cj=none:=by exact rfl)(hlk:C.look dc=false:=by exact rfl)(dm:C.fP dc=false:=by exact rfl):bn C f call S g ⟨some d, .call ⟨.value cj,xs,ts⟩,ty,pos,aM,bp⟩=some ⟨[(d,v')],seen,wr⟩:=by rw[By (BP hfo dm)];rw[rS];simp only;rw[ht];simp only[Ha,if_false];rw[hfo];simp only[nC,hlk,hb,hc,dS,hz,Ha,if_false];rw[Do (by cases seen with|nil=>(simp)|cons a l=>simp at hm;simp[hm]),hi];simp only[hf,if_true];rfl
theorem bY(hc:call dc args=some (r,[]))(hfo:un g (S.get C cj)= .fn (.func dc) as bs:=by exact rfl)(hb:nB S.h (as++(xs.toList.map fun x=>un g (S.get C x))++bs)=some (args,seen):=by exact blk)(hm:(seen.isEmpty||mine r)=true:=by first|exact rfl|exact Je)(hz:(C.dN f).contains d=true:=by exact rfl)(hv:cS r=v:=by exact vG)(hi:imp [d] v=(v',wr):=by exact tQ)(hf:fresh S.h wr=true:=by exact rfl)(ht:uL C cj=false:=by exact rfl)(rS:pathOf C cj=none:=by exact rfl)(hlk:C.look dc=false:=by exact rfl)(dm:C.fP dc=false:=by exact rfl):bn C f call S g ⟨some d, .call ⟨.value cj,xs,ts⟩,ty,pos,aM,bp⟩=some ⟨[(d,v')],seen,wr⟩:=by rw[By (BP hfo dm)];rw[rS];simp only;rw[ht];simp only[Ha,if_false];rw[hfo];simp only[nC,hlk,Ha,if_false,hb,hc,dS,hz,if_true,hv];rw[Do (by cases seen with|nil=>(simp)|cons a l=>simp at hm;simp[hm]),hi];simp only[hf,if_true];rfl
theorem Pb{ms bL:List Nat}{outs:List U}{tk cT:List Id}{back:List (Id×Option Rows)}{js:List (Id×Option Rows)}(hm:C.ue dc=ms)(hm0:ms.isEmpty=false)(hle:C.bL dc=bL)(ht:hO S.h ms (xs.toList.map fun x=>un g (S.get C x))=some (args,seen,tk,cT))(hc:call dc args=some (r,outs))(hv:(if dS C f (some d)then cS r else r)=v)(hb:fM S.h (xs.toList.map fun x=>un g (S.get C x)) bL outs=some back)(h1:(de (tk++cT)&&pN seen (tk++cT))=true)(h2:(seen.isEmpty||mine r&&outs.all mine)=true)(h3:(de (back.map (·.1))&&(back.all fun x=>tk.contains x.1))=true)(hi:imp [d] v=(v',js))(hf:fresh S.h js=true)(hw:js++(back++(tk++cT).map fun i=>(i,none))=wr)(rS:C.path dc=none)(dm:C.fP dc=false:=by exact rfl):bn C f call S g ⟨some d, .call ⟨.value (.func dc),xs,ts⟩,ty,pos,aM,bp⟩=some ⟨[(d,v')],seen,wr⟩:=by rw[By (BP (as:=[]) (bs:=[]) rfl dm)];simp only[pathOf,rS];have e0:uL C (.func dc)=true:=by{simp[uL,hm,hm0]};subst hw hm hle hv;rw[e0,AC rfl];unfold nD;simp only[ht,hc,hb,hi];simp only[GE]at h1 h3;rw[AC (by simp only[GE];exact⟨⟨⟨⟨⟨h1.1,h1.2⟩,h2⟩,h3.1⟩,h3.2⟩,hf⟩)];rfl
end
end
end Go.Ab
