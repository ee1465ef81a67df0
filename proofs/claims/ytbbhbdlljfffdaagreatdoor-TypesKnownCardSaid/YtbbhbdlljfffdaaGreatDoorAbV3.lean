import Derived.Test.YtbbhbdlljfffdaaGreatDoorAbV2
open Bool renaming and_eq_true→AC,false_eq_true→GE,false_and→H5
open List renaming replicate→Hc,foldl→Hd,take_of_length_le→Hk,all_map→Hm,all_eq_true→Hn,length_drop→H0,drop_zero→H1,map_cons→H2,length_set→H3,length_map→H4,length_cons→IH,map_append→Ix,map_take→Kd
open Nat renaming ble→GT,le_of_ble_eq_true→Hb,ble_eq_true_of_le→If
open Option renaming bind_some→Do,map_some→Ha
set_option linter.all false
namespace Go.Ab
open Go
theorem Zq{t:TypeId}(e:dj):fo (gu t e)=true:=by cases e<;>rfl
theorem aav{t:TypeId}{e:dj}:dG (gu t e)=gu t e:=by cases e<;>rfl
theorem Qm{t:TypeId}{e:dj}{p:Id}:imp p (gu t e)=(gu t e,[]):=by cases e<;>rfl
theorem adH{t:TypeId}{e:dj}{p:Id}{j:Nat}:eU p j [gu t e]=([gu t e],[]):=by cases e<;>rfl
/-! ### Owned cells become objects -/
section
variable{α:Type}{c:α→List U}{q:List α}{p:Id}{j:Nat}{l l0 l':List U}{v v':U}{wr:List (Id×Option Rows)}{rows:Rows}
theorem ajc:bU p j []=([],[]):=rfl
theorem aja(hl:l=v::l0)(hv:bU p j [v]=([v],[]))(k:bU p (j+1) l0=(l',wr)):bU p j l=(v::l',wr):=by subst hl;cases v<;>simp_all[bU]
theorem ajd{m:Nat}(hl:l= .own (q.map c) m::l0)(k:bU p (j+1) l0=(l',wr)):bU p j l=(.rs (j::p) 0 m::l',(j::p,some (q.map c))::wr):=by subst hl;simp[bU,k]
theorem ajb(hl:l= .ey rows::l0)(k:bU p (j+1) l0=(l',wr)):bU p j l=(.mr (j::p)::l',(j::p,some rows)::wr):=by subst hl;simp[bU,k]
theorem sY(h:bU p j l=(l',wr):=by repeat'(first|exact ajc|(apply aja;exact rfl;(first|exact rfl|exact an2|exact Tm))|(apply ajd;exact rfl)|(apply an3;exact rfl)|(apply ajb;exact rfl))):bU p j l=(l',wr):=h
theorem adN{m:Nat}:imp p (.own (q.map c) m)=(.rs p 0 m,[(p,some (q.map c))]):=by simp[imp]
theorem adM(h:bU p 0 l=(l',wr)):imp p (.agg l)=(.agg l',wr):=by simp[imp,h]
theorem adO(h:bU p 0 l=(l',wr)):imp p (.aT l)=(.mp p 0 0,(p,some [l'])::wr):=by simp[imp,h]
theorem adJ:eU p j []=([],[]):=rfl
theorem adI(hl:l=v::l0)(hv:eU p j [v]=([v],[]))(k:eU p (j+1) l0=(l',wr)):eU p j l=(v::l',wr):=by subst hl;cases v with|own rows m=>(simp[eU]at hv)|aT cells=>(simp[eU]at hv)|ey rows=>(simp[eU]at hv)|agg cs=>(simp only[eU,List.append_nil,Prod.mk.injEq,List.cons.injEq,U.agg.injEq,and_true]at hv;simp[eU,k,hv.1,hv.2])|aS vs=>(simp[eU]at hv)|_=>simp[eU,k]
theorem adG{w1 w2:List (Id×Option Rows)}{a a':List U}(hl:l= .agg a::l0)(h:bU (j::p) 0 a=(a',w1))(k:eU p (j+1) l0=(l',w2)):eU p j l=(.agg a'::l',w1++w2):=by subst hl;simp[eU,k,h]
theorem adQ(h:eU p 0 l=(l',wr)):imp p (.aS l)=(.aS l',wr):=by simp[imp,h]
theorem wH(h:imp p v=(v',wr):=by first|exact(rfl:imp _ (.val _)=(.val _,[]))|exact(rfl:imp _ (.sl _)=(.sl _,[]))|exact Qm|exact adP|exact adN|exact alz|exact alA|(apply adM;exact sY)|(apply adO;exact sY)|(apply adQ;repeat'(first|exact adJ|(apply adI;exact rfl;(first|exact rfl|exact adH|exact aly))|(apply alx;exact rfl)|(apply alw;exact rfl)|(apply adG;exact rfl;exact sY)))|exact rfl):imp p v=(v',wr):=h
theorem aeP{n:Nat}{vs:List U}:aL n [] vs=⟨n,fun _=> .br,fun _=>none⟩:=rfl
theorem aeO{n s:Nat}{t:Nat→U}{h:Id→Option (Option Rows)}{l:List Nat}{vs:List U}(hi:imp [s] v=(v,[]))(k:aL n l vs=⟨n,t,h⟩):aL n (s::l) (v::vs)=⟨n,ak t s v,h⟩:=by simp[aL,k,hi,bp]
theorem aeN{n s:Nat}{t:Nat→U}{h:Id→Option (Option Rows)}{l:List Nat}{vs:List U}(hi:imp [s] v=(v',wr))(k:aL n l vs=⟨n,t,h⟩):aL n (s::l) (v::vs)=⟨n,ak t s v',bp h wr⟩:=by simp[aL,k,hi]
theorem Fz{n:Nat}{t:Nat→U}{h:Id→Option (Option Rows)}{l:List Nat}{vs:List U}(k:aL n l vs=⟨n,t,h⟩:=by repeat'(first|exact aeP|(apply aeO;first|exact rfl|exact Qm|exact adP)|(apply aeN;exact wH))):aL n l vs=⟨n,t,h⟩:=k
end
section
variable{C:aG}{f:FuncId}{call:fL}{c:Code}{Q:Exit×ah→Prop}{n:Nat}{t:Nat→U}{h:Id→Option (Option Rows)}{l:List Nat}{vs:List U}
theorem mk(k:W C f call c ⟨n,t,h⟩ Q)(hm:aL n l vs=⟨n,t,h⟩:=by exact Fz):W C f call c (aL n l vs) Q:=by rw[hm];exact k
theorem fP{e:Exit}(k:Q (e,⟨n,t,h⟩))(hm:aL n l vs=⟨n,t,h⟩:=by exact Fz):Q (e,aL n l vs):=by rw[hm];exact k
end
/-! ### Packing -/
def N6{α:Type}(a b:List α):List α:=b.take (min b.length a.length)++a.drop (min b.length a.length)
theorem AR{α:Type}(a b:List α):(N6 a b).length=a.length:=by unfold N6;rw[List.length_append,List.length_take,H0];omega
section
variable{L:Id→Option (Option Rows)}{n:Nat}{α:Type}{c:α→List U}{q:List α}{id:Id}{cs cs':List U}{ids is:List Id}{x v:U}
theorem nG [hc:iA c](q:List α):en (q.map c)=true:=ZU c q hc.fl
theorem um{m m':Nat}(h:m=m':=by first|exact rfl|exact List.length_map _|(first|(with_reducible assumption)|assumption)|(symm;(first|(with_reducible assumption)|assumption))|(simp only[List.length_map,List.length_set,AR];done)|(simp only[List.length_map,List.length_set,AR];first|(first|(with_reducible assumption)|assumption)|(symm;(first|(with_reducible assumption)|assumption)))|(simp only[List.length_map,List.length_set,AR, *];done)):m=m':=h
theorem ahd{y:U×List Id}:∀{a:U},flat a=true→pk L (n+1) a=some y→y=(a,[]):=by intro a hf h;cases a with|agg cs=>(simp only[flat]at hf;simp[pk,gR,hf]at h;exact h.symm)|aS cs=>(simp only[flat]at hf;simp[pk,gR,hf]at h;exact h.symm)|own rs m=>(simp only[flat]at hf;simp[pk,hf]at h;exact h.symm)|aT cs=>(simp only[flat]at hf;simp[pk,hf]at h;exact h.symm)|fn k a b=>(simp only[pk]at h;split at h;·{simpa using h.symm};·cases h)|rs _ _ _=>(simp[flat]at hf)|mp _ _ _=>(simp[flat]at hf)|mr _=>(simp[flat]at hf)|c8 _ _=>(simp[flat]at hf)|cw=>(simp[flat]at hf)|_=>simp[pk]at h;exact h.symm
theorem O5:∀{cs:List U}{y:List U×List Id},cM cs=true→dM (pk L (n+1)) cs=some y→y=(cs,[])|[],y,_,h=>by{simp[dM]at h;exact h.symm}|c::cs,y,hf,h=>by simp only[cM,AC]at hf;simp only[dM,Option.bind_eq_some_iff,Option.map_eq_some_iff]at h;obtain⟨u,hu,v,hv,rfl⟩:=h;obtain rfl:=ahd hf.1 hu;obtain rfl:=O5 hf.2 hv;rfl
theorem K7{y:List U×List Id}(h:dM (pk L (n+1)) cs=some y):gR (pk L (n+1)) cs=some y:=by unfold gR;split;·{rename_i hf;rw[O5 hf h]};·exact h
theorem ahc{w:Value}(hx:x= .val w:=by exact rfl):pk L (n+1) x=some (.val w,[]):=by rw[hx];rfl
theorem ahb{r:Rows}(hx:x= .sl r:=by exact rfl):pk L (n+1) x=some (.sl r,[]):=by rw[hx];rfl
theorem ag5{r:List U}(hx:x= .aD r:=by exact rfl):pk L (n+1) x=some (.aD r,[]):=by rw[hx];rfl
theorem agX{t:TypeId}{e:dj}(hx:x=gu t e:=by first|exact rfl|exact Gt):pk L (n+1) x=some (gu t e,[]):=by rw[hx];cases e<;>rfl
theorem ag3(hx:x= .cw:=by exact rfl):pk L (n+1) x=some (.own [] 0,[]):=by rw[hx];rfl
theorem ag8{m:Nat}[hc:iA c](hx:x= .rs id 0 m:=by exact rfl)(hh:L id=some (some (q.map c)):=by exact rfl)(hl:m=q.length:=by exact um):pk L (n+1) x=some (.own (q.map c) q.length,[id]):=by rw[hx,hl];exact R1 hh (by simp) (nG q)
theorem ag6{m:Nat}[hc:iA c](hl:m≤q.length)(hx:x= .rs id 0 m:=by exact rfl)(hh:L id=some (some (q.map c)):=by exact rfl):pk L (n+1) x=some (.own (q.map c) m,[id]):=by rw[hx];exact R1 hh (by simpa using hl) (nG q)
theorem ag4{m:Nat}[hc:iA c](hx:x= .own (q.map c) m:=by exact rfl):pk L (n+1) x=some (.own (q.map c) m,[]):=by rw[hx];simp[pk,nG]
theorem agW(hx:x= .agg cs:=by exact rfl)(hf:cM cs=true:=by exact rfl):pk L (n+1) x=some (.agg cs,[]):=by rw[hx];simp[pk,gR,hf]
theorem agV(hx:x= .agg cs)(h:dM (pk L (n+1)) cs=some (cs',ids)):pk L (n+2) x=some (.agg cs',ids):=by rw[hx,show pk L (n+2) (.agg cs)=(gR (pk L (n+1)) cs).map fun x=>(.agg x.1,x.2)from rfl,K7 h];rfl
theorem ag1(hx:x= .mp id 0 0:=by exact rfl)(hh:L id=some (some [cs]):=by exact rfl)(hf:cM cs=true:=by exact rfl):pk L (n+1) x=some (.aT cs,[id]):=by rw[hx];simp[pk,gR,hh,hf]
theorem agZ(hx:x= .mp id 0 0)(hh:L id=some (some [cs]))(h:dM (pk L (n+1)) cs=some (cs',ids)):pk L (n+2) x=some (.aT cs',id::ids):=by have e:pk L (n+2) (.mp id 0 0)=match L id with|some (some [cs])=>if 0=0∧0=0 then(gR (pk L (n+1)) cs).map fun x=>(.aT x.1,id::x.2)else none|_=>none:=rfl;rw[hx,e,hh];simp only[and_self,if_true,K7 h];rfl
theorem ag0{TE:α}[hc:iA c](hx:x= .mp id 0 0:=by exact rfl)(hh:L id=some (some [c TE]):=by exact rfl):pk L (n+1) x=some (.aT (c TE),[id]):=by rw[hx];simp[pk,gR,hh,hc.fl]
theorem ag2{rows:Rows}(hx:x= .mr id:=by exact rfl)(hh:L id=some (some rows):=by exact rfl):pk L (n+1) x=some (.ey rows,[id]):=by rw[hx];simp[pk,hh]
theorem agY{k:Fn}{a b:List U}(hx:x= .fn k a b:=by exact rfl)(hf:(eA a&&eA b)=true:=by exact rfl):pk L (n+1) x=some (.fn k a b,[]):=by rw[hx];simp only[AC]at hf;simp[pk,hf.1,hf.2]
theorem yw{p:U→Option (U×List Id)}(hx:cs=[]:=by exact rfl):dM p cs=some ([],[]):=by rw[hx];rfl
theorem A7{p:U→Option (U×List Id)}{a b:U}{as bs:List U}{i1 i2:List Id}(hx:cs=a::as)(h:p a=some (b,i1))(k:dM p as=some (bs,i2)):dM p cs=some (b::bs,i1++i2):=by subst hx;simp[dM,h,k]
theorem ahg{t:Nat→U}:jD L t []=some ([],[]):=rfl
theorem ahf{t:Nat→U}{s:Nat}{sl:List Nat}{vs:List U}(h1:pk L 9 (t s)=some (v,ids))(h2:jD L t sl=some (vs,is)):jD L t (s::sl)=some (v::vs,ids++is):=by rw[agU,h1,Do,h2];rfl
end
/-! ### One row of a list, open -/
section
variable{α:Type}{c c':α→List U}{q:List α}{k:Nat}{x x':α}{r r':List U}
theorem Gf(h:q[k]? =some x):(q.map c)[k]? =some (c x):=by simp[h]
theorem S0:(q.map c).set k r=(q.map c).set k r:=rfl
theorem LF:((q.map c).set k r).set k r'=(q.map c).set k r':=List.set_set ..
theorem ain:(q.map c).set k (c x)=(q.set k x).map c:=by rw[List.map_set]
theorem O9{p:List U→Option (List U×List Id)}{ids:List Id}(hp:∀y,p (c y)=some (c y,[]))(hr:p r=some (r',ids)):∀{q:List α}{k:Nat}{x:α},q[k]? =some x→dN p ((q.map c).set k r)=some ((q.map c).set k r',ids)|[],k,x,h=>by{simp at h}|y::q,0,x,h=>by{have key:∀q:List α,dN p (q.map c)=some (q.map c,[]):=by{intro q;induction q with|nil=>(rfl)|cons z q ih=>simp[dN,hp,ih]};simp[dN,hr,key]}|y::q,k+1,x,h=>by have ih:=O9 hp hr (q:=q) (k:=k) (x:=x) (by simpa using h);simp only[H2,List.set_cons_succ,dN,hp,Do,ih,Ha,List.nil_append]
theorem OY(hf:cM r=false):∀{q:List α}{k:Nat}{x:α},q[k]? =some x→en ((q.map c).set k r)=false|[],k,x,h=>by{simp at h}|y::q,0,x,h=>by{simp[en,hf]}|y::q,k+1,x,h=>by have ih:=OY hf (q:=q) (k:=k) (x:=x) (by simpa using h);simp[en,ih]
end
/-! ### Packing -/
section
variable{L:Id→Option (Option Rows)}{n m:Nat}{α:Type}{c c':α→List U}{q:List α}{k:Nat}{x x':α}{r r':List U}{id:Id}{ids:List Id}{v:U}
theorem wS{a b:Nat}(h:a≤b:=by first|exact Nat.le_refl _|(first|(with_reducible assumption)|assumption)|(simp only[List.length_set,AR];first|exact Nat.le_refl _|(first|(with_reducible assumption)|assumption))|(simp only[List.length_set,AR];omega)):a≤b:=h
theorem RZ [hc:iA c](hx:v= .rs id 0 m)(hh:L id=some (some ((q.map c).set k r)))(hf:cM r=false)(hk:q[k]? =some x)(hm:m≤q.length)(hr:dM (pk L (n+1)) r=some (r',ids))(hr':r'=c x'):pk L (n+2) v=some (.own ((q.set k x').map c) m,id::ids):=by subst hr';rw[hx];have e:pk L (n+2) (.rs id 0 m)=match L id with|some (some rs)=>if 0=0∧m≤rs.length then(lz (pk L (n+1)) rs).map fun x=>(.own x.1 m,id::x.2)else none|_=>none:=rfl;rw[e,hh];simp only[H3,H4,true_and,if_pos hm];have h2:lz (pk L (n+1)) ((q.map c).set k r)=some ((q.map c).set k (c x'),ids):=by{unfold lz;rw[if_neg (by rw[OY hf hk];simp)];exact O9 (fun y=>by simp[gR,hc.fl]) (K7 hr) hk};rw[h2,ain];rfl
theorem aha [hc:iA c](hx:v= .rs id 0 m)(hh:L id=some (some ((q.map c).set k r)))(hf:cM r=false)(hk:q[k]? =some x)(hm:m=q.length)(hr:dM (pk L (n+1)) r=some (r',ids))(hr':r'=c x'):pk L (n+2) v=some (.own ((q.set k x').map c) (q.set k x').length,id::ids):=by rw[H3,←hm];exact RZ hx hh hf hk (by omega) hr hr'
theorem ag9{rows bn:Rows}(hx:v= .rs id 0 m)(hh:L id=some (some rows))(hm:GT m rows.length=true)(hf:en rows=false)(hr:dN (gR (pk L n)) rows=some (bn,ids)):pk L (n+1) v=some (.own bn m,id::ids):=by rw[hx];have e:pk L (n+1) (.rs id 0 m)=match L id with|some (some rs)=>if 0=0∧m≤rs.length then(lz (pk L n) rs).map fun x=>(.own x.1 m,id::x.2)else none|_=>none:=rfl;rw[e,hh];have hm':m≤rows.length:=Hb hm;simp only[true_and,if_pos hm',lz,hf,GE,if_false,hr,Ha]
theorem ahl{p:List U→Option (List U×List Id)}{rows:Rows}(e:rows=[]:=by exact rfl):dN p rows=some ([],[]):=by subst e;rfl
theorem ahk{p:List U→Option (List U×List Id)}{rows rs rs':Rows}{i1 i2:List Id}(e:rows=r::rs)(h1:p r=some (r',i1))(h2:dN p rs=some (rs',i2)):dN p rows=some (r'::rs',i1++i2):=by subst e;simp[dN,h1,h2]
theorem ag7 [hc:iA c](hx:v= .rs id 0 m:=by exact rfl)(hh:L id=some (some (q.map c)):=by exact rfl)(hm:m≤q.length:=by exact wS):pk L (n+1) v=some (.own (q.map c) m,[id]):=ag6 hm hx hh
end
section
variable{L:Id→Option (Option Rows)}{n:Nat}{α:Type}{c:α→List U}{q:List α}{id:Id}{cs cs':List U}{ids is:List Id}{x v:U}
theorem lV{a:U}{y:Option (U×List Id)}(h:pk L n a=y:=by repeat'(first|exact ahc|exact agX|exact al9|exact al6|exact ahb|exact ag8|exact ag7|(apply aha;exact rfl;exact rfl;exact rfl;(first|(with_reducible assumption)|assumption);exact um;rotate_left;exact rfl)|(apply RZ;exact rfl;exact rfl;exact rfl;(first|(with_reducible assumption)|assumption);exact wS;rotate_left;exact rfl)|exact agW|exact ag5|exact ag3|exact ag4|exact ag1|exact ag0|exact ama|exact al7|exact amc|exact agY|exact ag2|exact al8|exact al5|exact yw|(apply A7;exact rfl)|(apply agV;exact rfl)|(apply agZ;exact rfl;exact rfl)|(apply amb;exact rfl)|(apply ag9;exact rfl;exact rfl;exact rfl;exact rfl)|exact ahl|(apply ahk;exact rfl)|exact al3|(apply al4;exact rfl))):pk L n a=y:=h
theorem F2{t:Nat→U}{sl:List Nat}{y:Option (List U×List Id)}(h:jD L t sl=y:=by repeat'(first|exact ahg|(apply ahf;exact lV))):jD L t sl=y:=h
theorem an{o:Option (Bool×List Nat)}{slots:List Nat}{t:Nat→U}{vs:List U}(hk:o=some (false,slots):=by exact rfl)(hp:jD L t slots=some (vs,is):=by exact F2)(hn:dP is=true:=by exact rfl):dm o ⟨n,t,L⟩=some (aL n slots vs):=by subst hk;show(jl ⟨n,t,L⟩ slots).map _=_;rw[ahL,hp];simp[hn]
end
/-! ### The same with names kept -/
section
variable{n:Nat}{t t2:Nat→U}{h:Id→Option (Option Rows)}{slots r:List Nat}{l:List (Id×Id)}{hl y:List (Id×Rows)}{α:Type}{c:α→List U}{q:List α}
def dR(n:Nat)(l:List (Nat×U))(h:List (Id×Rows)):ah:=⟨n,cW (fun _=> .br) l,jh h⟩
/-! Rows that are flat, cell by cell. -/
theorem OU{α:Type}{c:α→List U}{q:List α}{m:Nat}[hc:iA c]:flat (.own (q.map c) m)=true:=by simp[flat,nG]
theorem OR{r cs:List U}{a:U}(e:r=a::cs)(h1:flat a=true)(h2:cM cs=true):cM r=true:=by subst e;simp[cM,h1,h2]
theorem ZL{rows:Rows}(e:rows=[]:=by exact rfl):en rows=true:=by subst e;rfl
theorem ZM{rows rs:Rows}{r:List U}(e:rows=r::rs)(h1:cM r=true)(h2:en rs=true):en rows=true:=by subst e;simp[en,h1,h2]
theorem Ig{rows:Rows}(k:en rows=true:=by(repeat'(first|exact nG _|exact ZL|(apply ZM;exact rfl)|exact ZJ|(apply OR;exact rfl)|exact rfl|exact ZG|exact ZK|exact OU));first|done|fail):en rows=true:=k
theorem aeS:nc l t []=cW (fun _=> .br) []:=rfl
theorem aeR{s:Nat}{v':U}{vs:List (Nat×U)}(he:eZ l (t s)=v')(hr:nc l t r=cW (fun _=> .br) vs):nc l t (s::r)=cW (fun _=> .br) ((s,v')::vs):=by subst he;simp[nc,hr,cW]
theorem Lt [hc:iA c]:lX l (q.map c)=some (q.map c):=by simp[lX,nG]
theorem Lv{cs cs':List U}(hf:cM cs=false:=by exact rfl)(h:oY l cs=some cs':=by first|exact rfl|exact amx):lX l [cs]=some [cs']:=by simp[lX,en,hf,zP,h]
theorem Lu{rows:Rows}(hf:en rows=true:=by first|exact rfl|exact Ig):lX l rows=some rows:=by simp[lX,hf]
end
section
variable{l:List (Id×Id)}{α:Type}{c:α→List U}{q:List α}{k:Nat}{x x':α}{r r':List U}
theorem ahI{a:U}(h:flat a=true):uG l a=some a:=by cases a with|fn k as cs=>(simp only[uG];rw[if_pos (by simpa[flat]using h)])|rs _ _ _=>(simp[flat]at h)|mp _ _ _=>(simp[flat]at h)|mr _=>(simp[flat]at h)|cw=>(simp[flat]at h)|_=>simp only[uG,zL];rw[if_pos h]
theorem C3:∀{as:List U},cM as=true→oY l as=some as|[],_=>rfl|a::as,h=>by simp only[cM,AC]at h;simp[oY,ahI h.1,C3 h.2]
end
section
variable{n:Nat}{t t2:Nat→U}{h:Id→Option (Option Rows)}{slots r:List Nat}{l:List (Id×Id)}{hl y:List (Id×Rows)}{α:Type}{c:α→List U}{q:List α}
theorem acN{L:Id→Option (Option Rows)}:oJ L l []=some []:=rfl
theorem acM{L:Id→Option (Option Rows)}{r:List (Id×Id)}{o k:Id}{rows bn:Rows}(h:L o=some (some rows))(hr:lX l rows=some bn)(hy:oJ L l r=some y):oJ L l ((o,k)::r)=some ((k,bn)::y):=by simp[oJ,h,hr,hy]
theorem hnk{L:Id→Option (Option Rows)}{r:List (Id×Id)}(h:oJ L l r=some y:=by repeat'(first|exact acN|(apply acM;exact rfl;first|exact Lt|exact amE rfl|exact amG (by(first|(with_reducible assumption)|assumption))|exact Lv|exact Lu))):oJ L l r=some y:=h
theorem aeT{vs:List (Nat×U)}(h:nc l t slots=cW (fun _=> .br) vs:=by repeat'(first|exact aeS|(apply aeR;first|exact rfl|exact amF))):nc l t slots=cW (fun _=> .br) vs:=h
def adY:U→Bool| .cw=>true|_=>false
theorem Re{y:ah}(e:(⟨n,t,h⟩:ah)=y:=by exact rfl):j3 [] ⟨n,t,h⟩=y:=e
theorem afk{s:Nat}{sl:List Nat}{y:ah}(hs:adY (t s)=false)(k:j3 sl ⟨n,t,h⟩=y):j3 (s::sl) ⟨n,t,h⟩=y:=by have e:qa ⟨n,t,h⟩ s=⟨n,t,h⟩:=by{simp only[qa];split;·{rename_i h1 _;rw[h1]at hs;cases hs};·rfl};rw[j3,e];exact k
theorem afj{s:Nat}{sl:List Nat}{y:ah}(hs:t s= .cw)(hh:h [s,s]=none)(k:j3 sl ⟨n,ak t s (.rs [s,s] 0 0),ak h [s,s] (some (some []))⟩=y):j3 (s::sl) ⟨n,t,h⟩=y:=by have e:qa ⟨n,t,h⟩ s=⟨n,ak t s (.rs [s,s] 0 0),ak h [s,s] (some (some []))⟩:=by{simp only[qa,hs,hh]};rw[j3,e];exact k
theorem afl{y:ah}(k:j3 slots ⟨n,t,h⟩=y:=by repeat'(first|with_reducible exact Re|(apply afk;first|exact rfl|exact alK|exact alL)|(apply afj;exact rfl;exact rfl)|exact Re)):j3 slots ⟨n,t,h⟩=y:=k
section
variable{keep:Id→Bool}{o:Id}{ol:List Id}{y0:Option ah}{rows bn:Rows}{ids:List Id}{r r':List U}{k:Nat}
theorem Yo{α:Type}{g:α→Id}{y0:Option ah}(e:some (⟨n,t,h⟩:ah)=y0:=by exact rfl):js keep (List.map g []) ⟨n,t,h⟩=y0:=e
theorem ae1(e:(dP ids&& !ids.contains o)=true):(dP ids&& !ids.contains o)=true:=e
theorem Ym(hh:h o=some (some rows))(hf:en rows=true)(k:js keep ol ⟨n,t,h⟩=y0):js keep (o::ol) ⟨n,t,h⟩=y0:=by have e:pH keep ⟨n,t,h⟩ o=some ⟨n,t,h⟩:=by{simp only[pH,hh,hf,if_true]};rw[js,e];exact k
theorem Ys(hh:h o=some (some rows))(hf:en rows=false)(hc:dN (kV h keep) rows=some (bn,ids))(hn:(dP ids&& !ids.contains o)=true)(k:js keep ol ⟨n,t,bp h ((o,some bn)::ids.map fun i=>(i,none))⟩=y0):js keep (o::ol) ⟨n,t,h⟩=y0:=by have e:pH keep ⟨n,t,h⟩ o=some ⟨n,t,bp h ((o,some bn)::ids.map fun i=>(i,none))⟩:=by{simp only[pH,hh,hf,hc,hn,if_true];rfl};rw[js,e];exact k
theorem Oa(hf:cM r=false:=by exact rfl)(hc:dM (gD h keep) r=some (r',ids)):kV h keep r=some (r',ids):=by simp[kV,hf,hc]
theorem O3{p:List U→Option (List U×List Id)}(e:rows=[]:=by exact rfl):dN p rows=some ([],[]):=by subst e;rfl
theorem O4{p:List U→Option (List U×List Id)}{rs:Rows}{i1 i2:List Id}(e:rows=r::rs)(h1:p r=some (r',i1))(h2:dN p rs=some (bn,i2)):dN p rows=some (r'::bn,i1++i2):=by subst e;simp[dN,h1,h2]
theorem HC{i:Id}{off len:Nat}{x:U}(hx:x= .rs i off len:=by exact rfl)(hk:keep i=true:=by exact rfl):gD h keep x=some (.rs i off len,[]):=by subst hx;simp[gD,hk]
theorem HD{i:Id}{row off:Nat}{x:U}(hx:x= .mp i row off:=by exact rfl)(hk:keep i=true:=by exact rfl):gD h keep x=some (.mp i row off,[]):=by subst hx;simp[gD,hk]
theorem HF{i:Id}{off len:Nat}{x x':U}(hx:x= .rs i off len:=by exact rfl)(hk:keep i=false:=by exact rfl)(hp:pk h 8 (.rs i off len)=some (x',ids)):gD h keep x=some (x',ids):=by subst hx;simp[gD,hk,hp]
theorem HE{x:U}(hx:x= .cw:=by exact rfl):gD h keep x=some (.own [] 0,[]):=by subst hx;rfl
theorem J5:∀{l:List U},cM l=true→zc keep l=true|[],_=>rfl|a::l,hf=>by simp only[cM,AC]at hf;simp only[zc,List.all_cons,AC];refine⟨?_,J5 hf.2⟩;cases a<;>first|exact hf.1|(simp[flat]at hf)
theorem AN{x:U}(hf:flat x=true):gD h keep x=some (x,[]):=by cases x with|fn k as cs=>(simp only[flat,AC]at hf;simp only[gD];rw[if_pos (by simp[J5 hf.1,J5 hf.2])])|rs _ _ _=>(simp[flat]at hf)|mp _ _ _=>(simp[flat]at hf)|mr _=>(simp[flat]at hf)|cw=>(simp[flat]at hf)|_=>simp only[gD];rw[if_pos hf]
end
section
variable{α:Type}{c:α→List U}{q:List α}{k:Nat}{x x':α}{r r':List U}{ids:List Id}{keep:Id→Bool}{o:Id}{ol:List Id}{y0:Option ah}
end
theorem Yu{keep:Id→Bool}{ol:List Id}{y0:Option ah}(k:js keep ol ⟨n,t,h⟩=y0:=by repeat'(first|with_reducible exact aj4|with_reducible exact Yo|(apply Ym;exact rfl;first|exact nG _|exact rfl|exact Ig)|(apply aj5;exact rfl;exact rfl;(first|(with_reducible assumption)|assumption);exact inferInstance)|(apply Ys;exact rfl;exact rfl)|exact O3|(apply O4;exact rfl)|exact YO|(apply Oa;exact rfl)|exact HC|exact HD|exact NS|exact HE|(apply NU;exact rfl;exact rfl;exact lV)|(apply HF;exact rfl;exact rfl;exact lV)|(apply NT;exact rfl;exact rfl;exact lV)|(apply AN;first|exact rfl|exact OS|exact OV|exact OT)|exact NR|exact yw|(apply A7;exact rfl)|exact ae1 rfl)):js keep ol ⟨n,t,h⟩=y0:=k
/-! Names, one by one. -/
def QI:U→Bool| .fn _ as cs=> !(cM as&&cM cs)| .rs _ _ _=>true| .mp _ _ _=>true| .mr _=>true| .agg _=>true|_=>false
section
variable{L:Id→Option (Option Rows)}{m j:Nat}{p i:Id}{acc acc' ny y l:List (Id×Id)}{a:U}{as cs ec:List U}{S:ah}{s:Nat}{slots:List Nat}
theorem YW(hx:ec=[])(e:acc=y):fh L m p j acc ec=y:=by subst hx;cases m<;>exact e
theorem Y4(hx:ec=a::as)(hs:QI a=false)(k:fh L m p (j+1) acc as=y):fh L (m+1) p j acc ec=y:=by subst hx;cases a with|fn f xs cs=>(simp only[QI,Bool.not_eq_false']at hs;simp only[fh,if_pos hs];exact k)|_=>first|exact k|cases hs
theorem Kr{i q:Id}(h:jy i=false)(h2:jy q=false):ri i q=q:=by simp[ri,h,h2]
theorem Ks{i q:Id}(h:jy i=true):ri i q=i:=by simp[ri,h]
variable{nm:Id}
theorem Y2{o n:Nat}(hx:ec= .rs i o n::as)(hn:(fR acc i).isSome=false)(hm:ri i (j::p)=nm)(hl:acc++[(i,nm)]=acc')(k:fh L m p (j+1) acc' as=y):fh L (m+1) p j acc ec=y:=by subst hx hl hm;simp only[fh,hn];exact k
theorem Y3{o n:Nat}(hx:ec= .rs i o n::as)(hn:(fR acc i).isSome=true)(k:fh L m p (j+1) acc as=y):fh L (m+1) p j acc ec=y:=by subst hx;simp only[fh,hn];exact k
theorem YZ{o n:Nat}(hx:ec= .mp i o n::as)(hn:(fR acc i).isSome=false)(hh:L i=some (some [cs]))(hm:ri i (j::p)=nm)(hl:acc++[(i,nm)]=acc')(h1:fh L m (j::p) 0 acc' cs=ny)(k:fh L m p (j+1) ny as=y):fh L (m+1) p j acc ec=y:=by subst hx hl h1 hm;simp only[fh,hn,hh];exact k
theorem Y0{o n:Nat}(hx:ec= .mp i o n::as)(hn:(fR acc i).isSome=true)(k:fh L m p (j+1) acc as=y):fh L (m+1) p j acc ec=y:=by subst hx;simp only[fh,hn];exact k
theorem YU(hx:ec= .agg cs::as)(h1:fh L m (j::p) 0 acc cs=ny)(k:fh L m p (j+1) ny as=y):fh L (m+1) p j acc ec=y:=by subst hx h1;simp only[fh];exact k
theorem YY{f:Fn}{xs:List U}(hx:ec= .fn f xs cs::as)(hf:(cM xs&&cM cs)=false)(h1:fh L m (j::p) 0 acc (xs++cs)=ny)(k:fh L m p (j+1) ny as=y):fh L (m+1) p j acc ec=y:=by subst hx h1;simp only[fh,hf];exact k
theorem ae9(e:acc=l):Hd (fun acc s=>fh S.h 40 [s] 0 acc [S.t s]) acc []=l:=e
theorem ae8(h:fh S.h 40 [s] 0 acc [S.t s]=acc')(k:Hd (fun acc s=>fh S.h 40 [s] 0 acc [S.t s]) acc' slots=l):Hd (fun acc s=>fh S.h 40 [s] 0 acc [S.t s]) acc (s::slots)=l:=by subst h;exact k
theorem ae7{S3:List Nat}(hs:slots=S3)(h:Hd (fun acc s=>fh S.h 40 [s] 0 acc [S.t s]) [] S3=l):names S slots=l:=by subst hs;exact h
theorem afa(h:names S slots=l:=by((with_reducible apply ae7);exact spine);repeat'(first|((with_reducible apply ae9);exact rfl)|(with_reducible apply ae8)|((with_reducible apply YW);(with_reducible exact rfl);exact rfl)|((with_reducible apply Y4);exact rfl;first|exact rfl|exact alQ|exact alT)|((with_reducible apply Y2);exact rfl;exact rfl;(first|exact Kr rfl rfl|exact Ks rfl|exact Rd rfl rfl spine);exact spine)|((with_reducible apply Y3);exact rfl;exact rfl)|((with_reducible apply aka);exact rfl;exact rfl;(first|exact Kr rfl rfl|exact Ks rfl|exact Rd rfl rfl spine);exact spine)|((with_reducible apply akb);exact rfl;exact rfl)|((with_reducible apply Y0);exact rfl;exact rfl)|((with_reducible apply YZ);exact rfl;exact rfl;exact rfl;(first|exact Kr rfl rfl|exact Ks rfl|exact Rd rfl rfl spine);exact spine)|((with_reducible apply YU);exact rfl)|((with_reducible apply YY);exact rfl;exact rfl))):names S slots=l:=h
end
theorem afi{t0 t1:Nat→U}{h0 h1:Id→Option (Option Rows)}{vs:List (Nat×U)}(e0:j3 slots ⟨n,t,h⟩=⟨n,t0,h0⟩:=by exact afl)(hn:names ⟨n,t0,h0⟩ slots=l:=by first|exact afa|exact spine)(e1:js (sF l) (l.map (·.1)) ⟨n,t0,h0⟩=some ⟨n,t1,h1⟩:=by exact Yu)(hd:(dP (l.map (·.1))&&dP (l.map (·.2))&&l.all (fun x=> !jy x.2||x.1==x.2))=true:=by exact rfl)(hh:oJ h1 l l=some hl:=by exact hnk)(ht:nc l t1 slots=cW (fun _=> .br) vs:=by exact aeT):norm ⟨n,t,h⟩ slots=some (dR n vs hl):=by subst hn;simp only[norm,CA,e0,e1,Do,sK,hd,if_true,hh,Ha,ht,dR]
theorem cy{o:Option (Bool×List Nat)}{vs:List (Nat×U)}(hk:o=some (true,slots):=by exact rfl)(hm:norm ⟨n,t,h⟩ slots=some (dR n vs hl):=by exact afi):dm o ⟨n,t,h⟩=some (dR n vs hl):=by subst hk;exact hm
end
section
variable{C:aG}{f:FuncId}{call:fL}{c:Code}{Q:Exit×ah→Prop}{n:Nat}{l:List (Nat×U)}{h:List (Id×Rows)}
theorem gp(k:W C f call c ⟨n,cW (fun _=> .br) l,jh h⟩ Q):W C f call c (dR n l h) Q:=k
theorem qi{e:Exit}(k:Q (e,⟨n,cW (fun _=> .br) l,jh h⟩)):Q (e,dR n l h):=k
end
section
variable{α:Type}{c c':α→List U}{q:List α}{as bs:List U}{L:Id→Option (Option Rows)}{n:Nat}
/-! Freezing -/
theorem aaA [hc:DJ c c']:dG (.own (q.map c) q.length)= .sl (q.map c'):=by have:jT (q.map c)=q.map c':=by{induction q with|nil=>(rfl)|cons x q ih=>simp[jT,hc.dG,ih]};simp only[dG,this];rw[Hk (by simp)]
theorem aau{a b:U}(h:dG a=b)(k:ju as=bs):ju (a::as)=b::bs:=by simp[ju,h,k]
theorem aat(h:ju as=bs):dG (.agg as)= .agg bs:=by simp[dG,h]
theorem aaC(h:ju as=bs):dG (.aS as)= .aS bs:=by simp[dG,h]
theorem aaB(h:ju as=bs):dG (.aT as)= .aD bs:=by simp[dG,h]
theorem Bd{a b:U}(h:dG a=b:=by repeat'(first|exact(rfl:dG (.val _)= .val _)|exact aav|exact akQ|exact aaA|exact akP|exact(rfl:dG (.sl _)= .sl _)|apply aat|apply aaC|apply aaB|exact(rfl:ju []=[])|apply aau|exact rfl)):dG a=b:=h
end
/-! ### Memory of one's own -/
def app{α:Type}(a b:List α):Option (List α):=if a.length+b.length≤4294967296 then some (a++b)else none
theorem D6{α:Type}{a b r:List α}(h:app a b=some r):a.length+b.length≤4294967296∧r=a++b:=by unfold app at h;split at h;·{exact⟨‹_›,by simpa using h.symm⟩};·cases h
def ng{α:Type}(n:Int)(z:α):Option (List α):=if 0≤n∧n≤4294967296 then some (Hc n.toNat z)else none
theorem Lx{α:Type}{c:α→List U}{q:List α}[hc:o9 c]:qj (q.map c)=true:=by simp only[qj,Hm,Hn];exact fun x _=>hc.ce x
section
variable{C:aG}{f:FuncId}{call:fL}{S:ah}{g:Bool}
variable{d:Nat}{ty:TypeId}{pos:String}{aV:Array Edge}{bB:Option (Nat×Bool)}{v v':U}
variable{x y z:Operand}{k:IntKind}{a b:Int}{T aJ:TypeId}
theorem cz{cs:List U}[hz:ou C T cs](hn:S.h [d]=none:=by exact rfl)(jX:C.uV f d=[]:=by exact rfl):bA C f call S g ⟨some d, .alloc T,ty,pos,aV,bB⟩=some ⟨[(d, .mp [d] 0 0)],[],[([d],some [cs])]⟩:=by show r3 C f S _ T=_;simp[r3,hz.TL,hn,jX,uW]
theorem qd{bb:Bool}{m:Nat}{cs:List U}[ha:cU C T bb m](hin:(C.eD f).contains d=false:=by exact rfl)(hx:un g (S.get C x)=v:=by exact gt)(hc:ox bb v=some cs:=by exact rfl)(hn:S.h [d]=none:=by exact rfl):bA C f call S g ⟨some d, .box T x,ty,pos,aV,bB⟩=some ⟨[(d, .mp [d] 0 0)],[],[([d],some [cs])]⟩:=by show pK C f S _ T (un g (S.get C x))=_;simp only[pK,ha.jP,hx,hc,eJ,hin,H5,GE,if_false];rw[if_pos (Qr hn)];rfl
theorem bM{i off off' row m:Nat}{bb:Bool}{id:Id}[hf:Fd C T i off m bb](hx:un g (S.get C x)= .mp id row off':=by first|exact rfl|exact cp)(h0:Nat.blt 0 m=true:=by exact rfl):bA C f call S g ⟨some d, .fieldAddr T x i,ty,pos,aV,bB⟩=some ⟨[(d, .mp id row (off'+off))],[],[]⟩:=by show tD C f _ T i (un g (S.get C x))=_;have h0':0<m:=of_decide_eq_true (lG h0);simp[tD,hf.fd,hx,h0']
theorem J9{bb:Bool}{m row off:Nat}{id:Id}{rows:Rows}{r cs:List U}(ha:kI C T=some bb)(hs:gJ C T=some m)(hx:un g (S.get C x)= .mp id row off)(hh:S.h id=some (some rows))(hr:rows[row]? =some r)(hl:GT (off+m) r.length=true)(hc:bU [d] 0 ((r.drop off).take m)=(cs,[]))(hv:iL bb cs=some v):bA C f call S g ⟨some d, .load T x,ty,pos,aV,bB⟩=some ⟨[(d,v)],[id],[]⟩:=by show kY C S _ T (un g (S.get C x))=_;rw[hx];have hl':off+m≤r.length:=Hb hl;simp only[kY,ha,hs,hh,hr,Do,if_pos hl',iF,hc,hv,List.isEmpty_nil,if_true,Ha];rfl
theorem Ka{bb:Bool}{m row off:Nat}{id:Id}{rows:Rows}{r cs:List U}{w:Id×Option Rows}{wr:List (Id×Option Rows)}(ha:kI C T=some bb)(hs:gJ C T=some m)(hx:un g (S.get C x)= .mp id row off)(hh:S.h id=some (some rows))(hr:rows[row]? =some r)(hl:GT (off+m) r.length=true)(hc:bU [d] 0 ((r.drop off).take m)=(cs,w::wr))(hf:fresh S.h (w::wr)=true)(hv:iL bb cs=some v):bA C f call S g ⟨some d, .load T x,ty,pos,aV,bB⟩=some ⟨[(d,v)],[id],(id,some (rows.set row (r.take off++cs++r.drop (off+m))))::w::wr⟩:=by show kY C S _ T (un g (S.get C x))=_;rw[hx];have hl':off+m≤r.length:=Hb hl;simp only[kY,ha,hs,hh,hr,Do,if_pos hl',iF,hc,hv,List.isEmpty_cons,GE,if_false,hf,if_true,Ha];rfl
theorem zw{m row off:Nat}{id:Id}{α:Type}{c:α→List U}{q:List α}{r:α}{cs:List U}(hr:q[row]? =some r)[ha:cU C T false m](hx:un g (S.get C x)= .mp id row off:=by first|exact rfl|exact cp)(hh:S.h id=some (some (q.map c)):=by exact rfl)(hm:m=1:=by exact rfl)(hv:(c r).drop off=v::cs:=by exact rfl)(hu:bU [d] 0 [v]=([v],[]):=by first|exact rfl|exact Tm):bA C f call S g ⟨some d, .load T x,ty,pos,aV,bB⟩=some ⟨[(d,v)],[id],[]⟩:=by subst hm;refine J9 (rows:=q.map c) (r:=c r) (cs:=[v]) ha.jP ha.sz hx hh (by simp[hr]) ?_ (by rw[hv];exact hu) rfl;have:=congrArg List.length hv;simp only[H0,IH]at this;apply If;omega
theorem cl{m off:Nat}{id:Id}{r cs:List U}[ha:cU C T false m](hx:un g (S.get C x)= .mp id 0 off:=by first|exact rfl|exact cp)(hh:S.h id=some (some [r]):=by exact rfl)(hm:m=1:=by exact rfl)(hv:r.drop off=v::cs:=by exact rfl)(hu:bU [d] 0 [v]=([v],[]):=by first|exact rfl|exact Tm):bA C f call S g ⟨some d, .load T x,ty,pos,aV,bB⟩=some ⟨[(d,v)],[id],[]⟩:=by subst hm;refine J9 (rows:=[r]) (r:=r) (cs:=[v]) ha.jP ha.sz hx hh rfl ?_ (by rw[hv];exact hu) rfl;have:=congrArg List.length hv;simp only[H0,IH]at this;apply If;omega
theorem nZ{m off:Nat}{id:Id}{r cs cs0:List U}[ha:cU C T true m](hx:un g (S.get C x)= .mp id 0 off:=by first|exact rfl|exact cp)(hh:S.h id=some (some [r]):=by exact rfl)(hl:GT (off+m) r.length=true:=by exact rfl)(hv:(r.drop off).take m=cs0:=by exact spine)(hu:bU [d] 0 cs0=(cs,[]):=by exact sY):bA C f call S g ⟨some d, .load T x,ty,pos,aV,bB⟩=some ⟨[(d, .agg cs)],[id],[]⟩:=J9 (rows:=[r]) (r:=r) ha.jP ha.sz hx hh rfl hl (by rw[hv];exact hu) rfl
theorem Kw{m off:Nat}{id:Id}{r r' cs cs0:List U}{w:Id×Option Rows}{wr:List (Id×Option Rows)}[ha:cU C T false m](hx:un g (S.get C x)= .mp id 0 off:=by first|exact rfl|exact cp)(hh:S.h id=some (some [r]):=by exact rfl)(hm:m=1:=by exact rfl)(hl:GT (off+1) r.length=true:=by exact rfl)(hv:(r.drop off).take 1=cs0:=by exact spine)(hu:bU [d] 0 cs0=(cs,w::wr):=by exact sY)(I2:cs=[v]:=by exact rfl)(hq:r.take off++cs++r.drop (off+1)=r':=by exact spine)(hf:fresh S.h (w::wr)=true:=by exact rfl):bA C f call S g ⟨some d, .load T x,ty,pos,aV,bB⟩=some ⟨[(d,v)],[id],(id,some [r'])::w::wr⟩:=by subst hm hq;exact Ka (rows:=[r]) (r:=r) ha.jP ha.sz hx hh rfl hl (by rw[hv];exact hu) hf (by rw[I2];rfl)
theorem aft{m off:Nat}{id:Id}{r r' cs cs0:List U}{w:Id×Option Rows}{wr:List (Id×Option Rows)}[ha:cU C T true m](hx:un g (S.get C x)= .mp id 0 off:=by first|exact rfl|exact cp)(hh:S.h id=some (some [r]):=by exact rfl)(hl:GT (off+m) r.length=true:=by exact rfl)(hv:(r.drop off).take m=cs0:=by exact spine)(hu:bU [d] 0 cs0=(cs,w::wr):=by exact sY)(hq:r.take off++cs++r.drop (off+m)=r':=by exact spine)(hf:fresh S.h (w::wr)=true:=by exact rfl):bA C f call S g ⟨some d, .load T x,ty,pos,aV,bB⟩=some ⟨[(d, .agg cs)],[id],(id,some [r'])::w::wr⟩:=by subst hq;exact Ka (rows:=[r]) (r:=r) ha.jP ha.sz hx hh rfl hl (by rw[hv];exact hu) hf rfl
def Gp(L:List Nat):Operand→Bool| .tmp ta=>L.contains ta|_=>false
theorem Pj{a:Operand}(hin:Gp (C.eD f) a=false):vL C f a=none:=by cases a with|tmp ta=>(simp only[Gp]at hin;unfold vL;simp only;rw[if_neg (by rw[hin];simp)])|_=>rfl
theorem dI{bb:Bool}{m ta:Nat}{id:Id}{cs cs' r:List U}[ha:cU C T bb m](hin:(C.eD f).contains ta=true:=by exact rfl)(hx:un true (S.get C (.tmp ta))= .mp id 0 0:=by exact rfl)(hy:un true (S.get C y)=v:=by exact gt)(hc:ox bb v=some cs:=by exact rfl)(b8:cs.length=m:=by exact rfl)(hh:S.h id=some (some [r]):=by exact rfl)(hr:r.length=m:=by exact rfl)(hz:kK cs=cs':=by exact spine)(hi:eA cs'=true:=by exact rfl):bA C f call S true ⟨none, .store T (.tmp ta) y,ty,pos,aV,bB⟩=some ⟨[(ta, .aD cs')],[id],[(id,none)]⟩:=by show nE C f S true _ T (.tmp ta) (un true (S.get C (.tmp ta))) (un true (S.get C y))=_;rw[hx,hy];have e:vL C f (.tmp ta)=some ta:=by{unfold vL;simp only;rw[if_pos hin]};subst hz;simp[nE,ha.jP,ha.sz,hc,b8,hh,hr,e,hi]
theorem bw{bb:Bool}{m off:Nat}{ao:Operand}{id:Id}{cs r r':List U}[ha:cU C T bb m](hin:Gp (C.eD f) ao=false:=by exact rfl)(hx:un g (S.get C ao)= .mp id 0 off:=by exact rfl)(hy:un g (S.get C y)=v:=by exact gt)(hc:ox bb v=some cs:=by exact rfl)(b8:cs.length=m:=by exact rfl)(hh:S.h id=some (some [r]):=by exact rfl)(hl:GT (off+m) r.length=true:=by exact rfl)(hq:r.take off++cs++r.drop (off+m)=r':=by exact spine):bA C f call S g ⟨none, .store T ao y,ty,pos,aV,bB⟩=some ⟨[],[id],[(id,some [r'])]⟩:=by show nE C f S g _ T ao (un g (S.get C ao)) (un g (S.get C y))=_;rw[hx,hy];have hl':off+m≤r.length:=Hb hl;have e:=Pj (f:=f) hin;subst hq;simp only[nE,ha.jP,ha.sz,hc];rw[if_neg (by simp[b8]),hh];simp only[List.getElem?_cons_zero,Do,if_pos hl',e];rfl
theorem uv{bb:Bool}{m row off:Nat}{ao:Operand}{id:Id}{cs:List U}{α:Type}{c:α→List U}{q:List α}{r:α}(hr:q[row]? =some r)(r':α)[ha:cU C T bb m](hin:Gp (C.eD f) ao=false:=by exact rfl)(hx:un g (S.get C ao)= .mp id row off:=by exact rfl)(hy:un g (S.get C y)=v:=by exact gt)(hc:ox bb v=some cs:=by first|exact rfl|exact aj6)(b8:cs.length=m:=by exact rfl)(hh:S.h id=some (some (q.map c)):=by exact rfl)(hl:GT (off+m) (c r).length=true:=by exact rfl)(hq:(c r).take off++cs++(c r).drop (off+m)=c r':=by exact rfl):bA C f call S g ⟨none, .store T ao y,ty,pos,aV,bB⟩=some ⟨[],[id],[(id,some ((q.set row r').map c))]⟩:=by show nE C f S g _ T ao (un g (S.get C ao)) (un g (S.get C y))=_;rw[hx,hy];have hl':off+m≤(c r).length:=Hb hl;have e:=Pj (f:=f) hin;have e2:(q.map c)[row]? =some (c r):=by{simp[hr]};simp only[nE,ha.jP,ha.sz,hc];rw[if_neg (by simp[b8]),hh];simp only[e2,Do,if_pos hl',e];rw[hq,List.map_set];rfl
theorem nh{e:TypeId}{m n:Nat}{bb:Bool}{α:Type}{c:α→List U}{q:List α}{i:Int}{r:α}{id:Id}(hi:idx q i=some r)[hu:c9 C T (.slice e)][hs:cU C e bb m](hx:un g (S.get C x)= .rs id 0 n:=by first|exact rfl|exact cp)(hh:S.h id=some (some (q.map c)):=by exact rfl)(hl:n=q.length:=by exact um)(hy:un g (S.get C y)= .val (.int k i):=by first|exact rfl|exact cp)(hr:(c r).length=m:=by exact rfl):bA C f call S g ⟨some d, .indexAddr T x y,ty,pos,aV,bB⟩=some ⟨[(d, .mp id i.toNat 0)],[id],[]⟩:=by show mc C S _ T (un g (S.get C x)) (eo (un g (S.get C y)))=_;have hb:=y2 hi;have hn:=jY hi;subst hl;simp only[hx,hy,eo,mc,hu.ul,hs.sz];rw[if_pos hb,hh];simp[hn,hr]
section
variable{α:Type}{c:α→List U}{q q' r:List α}{id gw:Id}{e:TypeId}{m n n':Nat}{T aJ:TypeId}
abbrev xY:= @l8
theorem Np{rx:U}{xs ys:Rows}{i1 i2:List Id}(hok:AI C e m=true)(hu:C.P.underlying T=some (.slice e))(hu1:C.P.underlying aJ=some (.slice e))(hx:un g (S.get C x)=rx)(ue:rowsOf S.h rx=some (xs,i1))(hy:rowsOf S.h (un g (S.get C y))=some (ys,i2))(hl:ys.all (·.length==m)=true)(hcell:qj ys=true)(hlen:xs.length+ys.length≤nV)(hn:S.h [d]=none){ym:bq}(he:xY S ⟨some d, .call ⟨.builtin .append,⟨[x,y]⟩,⟨[T,aJ]⟩⟩,ty,pos,aV,bB⟩ d m rx xs ys i1 i2=some ym):lH C S ⟨some d, .call ⟨.builtin .append,⟨[x,y]⟩,⟨[T,aJ]⟩⟩,ty,pos,aV,bB⟩ ⟨[T,aJ]⟩ ([x,y].map fun x=>un g (S.get C x))=some ym:=by unfold AI at hok;split at hok;·{rename_i inf Jd;simp only[AC,beq_iff_eq,decide_eq_true_eq]at hok;obtain⟨⟨⟨k1,k2⟩,ep⟩,gO⟩:=hok;subst k1;have e1:(#[T,aJ]:Array TypeId)[0]? =some T:=rfl;have e2:(#[T,aJ]:Array TypeId)[1]? =some aJ:=rfl;simp only[H2,List.map_nil,lH,e1,e2,Do,hu1,xZ,hu,Jd,hx,ue,hy];rw[if_pos (by simp only[AC,decide_eq_true_eq];exact⟨⟨⟨⟨⟨⟨hl,k2⟩,ep⟩,gO⟩,hlen⟩,hcell⟩,by rw[hn];rfl⟩)];unfold xY at he;exact he};·cases hok
theorem No{rx:U}{xs ys:Rows}{i1 i2:List Id}(hok:AI C e m=true)(hu:C.P.underlying T=some (.slice e))(hu1:C.P.underlying aJ=some (.slice e))(hx:un g (S.get C x)=rx)(ue:rowsOf S.h rx=some (xs,i1))(hy:rowsOf S.h (un g (S.get C y))=some (ys,i2))(hl:ys.all (·.length==m)=true)(hcell:qj ys=true)(hlen:xs.length+ys.length≤nV)(hn:S.h [d]=none)(hfz:(C.eD f).contains d=false){ym:bq}(he:xY S ⟨some d, .call ⟨.builtin .append,⟨[x,y]⟩,⟨[T,aJ]⟩⟩,ty,pos,aV,bB⟩ d m rx xs ys i1 i2=some ym):bA C f call S g ⟨some d, .call ⟨.builtin .append,⟨[x,y]⟩,⟨[T,aJ]⟩⟩,ty,pos,aV,bB⟩=some ym:=by show(lH C S _ _ ([x,y].map fun x=>un g (S.get C x))).bind (pP C f _)=_;have key:lH C S ⟨some d, .call ⟨.builtin .append,⟨[x,y]⟩,⟨[T,aJ]⟩⟩,ty,pos,aV,bB⟩ ⟨[T,aJ]⟩ ([x,y].map fun x=>un g (S.get C x))=some ym:=Np hok hu hu1 hx ue hy hl hcell hlen hn he;rw[key];simp only[Do,pP,eJ,hfz,GE,if_false]
theorem SI{L:Id→Option (Option Rows)}(hh:L id=some (some (q.map c))):rowsOf L (.rs id 0 q.length)=some (q.map c,[id]):=by show(match L id with|some (some rs)=>if 0+q.length≤rs.length then some ((rs.drop 0).take q.length,[id])else none|_=>none)=_;rw[hh];simp only;rw[if_pos (by simp),H1,Hk (by simp)]
theorem lq(hr:app q q'=some r)[hu:c9 C T (.slice e)][hu1:c9 C aJ (.slice e)][hok:qt C e m](hx:un g (S.get C x)= .rs id 0 n:=by exact rfl)(hh:S.h id=some (some (q.map c)):=by exact rfl)(hlen:n=q.length:=by exact um)(hy:un g (S.get C y)= .sl (q'.map c):=by exact rfl)(hl:∀x,(c x).length=m:=by exact fun _=>rfl)(hcell:qj (q'.map c)=true:=by first|exact Lx|exact rfl)(hn:S.h [d]=none:=by exact rfl)(hfz:(C.eD f).contains d=false:=by exact rfl):bA C f call S g ⟨some d, .call ⟨.builtin .append,⟨[x,y]⟩,⟨[T,aJ]⟩⟩,ty,pos,aV,bB⟩=some ⟨[(d, .rs [d] 0 r.length)],[id],[(id,none),([d],some (r.map c))]⟩:=by obtain⟨h1,rfl⟩:=D6 hr;subst hlen;refine No hok.ao hu.ul hu1.ul hx (SI hh) (by rw[hy];rfl) (vm hl) hcell (by simpa[nV]using h1) hn hfz ?_;simp only[xY,l8,hh];rw[if_pos (by simp only[AC];refine⟨⟨vm hl,by simp⟩, ?_⟩;cases q<;>simp)];simp[put,Ix]
theorem Ri [abT:o9 c](hr:app q q'=some r)[hu:c9 C T (.slice e)][hu1:c9 C aJ (.slice e)][hok:qt C e m](hx:un g (S.get C x)= .rs id 0 n:=by exact rfl)(hh:S.h id=some (some (q.map c)):=by exact rfl)(hlen:n=q.length:=by exact um)(hy:un g (S.get C y)= .sl (q'.map c):=by exact rfl)(hl:∀x,(c x).length=m:=by exact fun _=>rfl)(hcell:qj (q'.map c)=true:=by first|exact Lx|exact rfl)(hn:S.h [d]=none:=by exact rfl)(hfz:(C.eD f).contains d=true:=by exact rfl):bA C f call S g ⟨some d, .call ⟨.builtin .append,⟨[x,y]⟩,⟨[T,aJ]⟩⟩,ty,pos,aV,bB⟩=some ⟨[(d, .sl (r.map c))],[id],[(id,none),([d],none)]⟩:=by obtain⟨h1,rfl⟩:=D6 hr;subst hlen;show(lH C S _ _ ([x,y].map fun x=>un g (S.get C x))).bind (pP C f _)=_;have key:lH C S ⟨some d, .call ⟨.builtin .append,⟨[x,y]⟩,⟨[T,aJ]⟩⟩,ty,pos,aV,bB⟩ ⟨[T,aJ]⟩ ([x,y].map fun x=>un g (S.get C x))=some ⟨[(d, .rs [d] 0 (q++q').length)],[id],[(id,none),([d],some ((q++q').map c))]⟩:=by{refine Np hok.ao hu.ul hu1.ul hx (SI hh) (by rw[hy];rfl) (vm hl) hcell (by simpa[nV]using h1) hn ?_;simp only[xY,l8,hh];rw[if_pos (by simp only[AC];refine⟨⟨vm hl,by simp⟩, ?_⟩;cases q<;>simp)];simp[put,Ix]};have hi:iJ ((q++q').map c)=true:=by{simp only[iJ,Hm,Hn];exact fun x _=>abT.im x};rw[key];simp only[Do,pP,eJ,hfz,if_true,hi,and_self,put]
end
theorem FJ{e:TypeId}{m:Nat}{α:Type}{c:α→List U}{cT:α}{fU:List U}{nn:Int}{r:List α}(hr:ng nn cT=some r)(JI:c cT=fU)[hu:c9 C T (.slice e)][hok:qt C e m][hz:ou C e fU](hx:un g (S.get C x)= .val (.int k nn):=by exact rfl)(hy:un g (S.get C y)= .val (.int k nn):=by exact rfl)(hzl:fU.length=m:=by exact rfl)(hn:S.h [d]=none:=by exact rfl):bA C f call S g ⟨some d, .makeSlice T x y,ty,pos,aV,bB⟩=some ⟨[(d, .rs [d] 0 r.length)],[],[([d],some (r.map c))]⟩:=by show r7 C S _ T (un g (S.get C x)) (un g (S.get C y))=_;unfold ng at hr;split at hr;·{rename_i hp;obtain rfl:Hc nn.toNat cT=r:=by{simpa using hr};have hok:=hok.ao;unfold AI at hok;split at hok;·{rename_i inf Jd;simp only[Bool.and_eq_true,beq_iff_eq,decide_eq_true_eq]at hok;obtain⟨⟨⟨k1,k2⟩,ep⟩,gO⟩:=hok;simp only[hx,hy,r7,hu.ul,eo,hz.TL,Jd];rw[if_pos (by simp only[Bool.and_eq_true,decide_eq_true_eq];exact⟨⟨⟨⟨by omega,by omega⟩,ep⟩,by omega⟩,by rw[hn];rfl⟩)];simp[put,JI]};·cases hok};·cases hr
theorem XI{e:TypeId}{bb:Bool}{m len:Nat}{fU:List U}{ps:List (Nat×U)}{rows:Rows}(hu:C.P.underlying T=some (.slice e))(hz:xE C e=some fU)(ha:kI C e=some bb)(hs:gJ C e=some m)(h0:(decide (0<m)&&decide (m=fU.length)&&decide (len*m≤1000))=true)(hf:r9 m bb (Hc len fU) ps=some rows):x8 C T len ps=some rows:=by simp only[x8,hu,hz,ha,hs,h0,if_true,hf]
theorem fy{e:TypeId}{bb:Bool}{m len:Nat}{fU:List U}{p:List (Nat×Operand)}{ps:List (Nat×U)}{rows bn:Rows}[hu:c9 C T (.slice e)][hz:jO C e fU][ha:cU C e bb m](hin:(C.eD f).contains d=true:=by exact rfl)(h0:(decide (0<m)&&decide (m=fU.length)&&decide (len*m≤1000))=true:=by exact rfl)(hq:(p.map fun p=>(p.1,un g (S.get C p.2)))=ps:=by exact F3)(hf:r9 m bb (Hc len fU) ps=some rows:=by exact rfl)(yZ:rows.map kK=bn:=by exact spine)(hi:iJ bn=true:=by exact rfl):bA C f call S g ⟨some d, .buildSlice T len ⟨p⟩,ty,pos,aV,bB⟩=some ⟨[(d, .sl bn)],[],[]⟩:=by show pL C f S _ T len (p.map fun p=>(p.1,un g (S.get C p.2)))=_;rw[hq];have hb:=XI hu.ul hz.fU ha.jP ha.sz h0 hf;unfold pL;rw[if_neg (by simp[Hx,hb,yZ,hi])];simp only[r5,hu.ul,hz.fU,ha.jP,ha.sz,h0,if_true,hf,eJ,hin,yZ,hi,Bool.and_self];rfl
theorem sL{e:TypeId}{bb:Bool}{m len:Nat}{fU:List U}{p:List (Nat×Operand)}{ps:List (Nat×U)}{rows bn:Rows}[hu:c9 C T (.slice e)][hz:jO C e fU][ha:cU C e bb m](hin:(C.eD f).contains d=false:=by exact rfl)(h0:(decide (0<m)&&decide (m=fU.length)&&decide (len*m≤1000))=true:=by exact rfl)(hq:(p.map fun p=>(p.1,un g (S.get C p.2)))=ps:=by exact F3)(hf:r9 m bb (Hc len fU) ps=some rows:=by exact rfl)(hs:rows=bn:=by exact spine)(hn:S.h [d]=none:=by exact rfl):bA C f call S g ⟨some d, .buildSlice T len ⟨p⟩,ty,pos,aV,bB⟩=some ⟨[(d, .rs [d] 0 len)],[],[([d],some bn)]⟩:=by show pL C f S _ T len (p.map fun p=>(p.1,un g (S.get C p.2)))=_;subst hs;rw[hq];unfold pL;rw[if_neg (by simp[Hx,eJ];intro h;simp[h]at hin)];simp only[r5,hu.ul,hz.fU,ha.jP,ha.sz,h0,if_true,hf,eJ,hin,H5,GE,if_false];rw[if_pos (Qr hn)];rfl
/-! ### Calls -/
section
variable{L:Id→Option (Option Rows)}{n m:Nat}{α:Type}{c c':α→List U}{q:List α}{id:Id}{as bs cs cs':List U}{is i2:List Id}{x u:U}
theorem NL{a:U}(h:fo a=true):ck L (n+1) a=some (a,[]):=by cases a with|agg cs=>(simp only[fo]at h;simp[ck,ia,h])|aS cs=>(simp only[fo]at h;simp[ck,ia,h])|fn k a b=>(simp only[fo,AC]at h;simp[ck,ia,h])|_=>first|rfl|simp[fo]at h
theorem NK{w:Value}(hx:x= .val w:=by exact rfl):ck L (n+1) x=some (.val w,[]):=by rw[hx];rfl
theorem NJ{r:Rows}(hx:x= .sl r:=by exact rfl):ck L (n+1) x=some (.sl r,[]):=by rw[hx];rfl
theorem XP(hx:x= .cw:=by exact rfl):ck L (n+1) x=some (.sl [],[]):=by rw[hx];rfl
theorem NC{t:TypeId}{e:dj}(hx:x=gu t e:=by first|exact rfl|exact Gt):ck L (n+1) x=some (gu t e,[]):=by rw[hx];exact NL (Zq e)
theorem XM(hx:x=u:=by exact gt)(hi:fo u=true:=by exact rfl):ck L (n+1) x=some (u,[]):=by rw[hx];exact NL hi
theorem XU [hc:o9 c](hx:x= .rs id 0 m:=by exact rfl)(hh:L id=some (some (q.map c)):=by exact rfl)(hl:m=q.length:=by exact um):ck L (n+1) x=some (.sl (q.map c),[id]):=by subst hx hl;have hi':iJ (q.map c)=true:=by{simp only[iJ,Hm,Hn];exact fun x _=>hc.im x};have e:((q.map c).drop 0).take q.length=q.map c:=by{rw[H1,Hk (by simp)]};have e0:ck L (n+1) (.rs id 0 q.length)=match L id with|some (some rs)=>if 0+q.length≤rs.length then(kT (ck L n) ((rs.drop 0).take q.length)).map fun x=>(.sl x.1,id::x.2)else none|_=>none:=rfl;rw[e0,hh];simp only;rw[if_pos (by simp),e];simp[kT,hi']
theorem XO(hx:x= .mp id 0 0)(hh:L id=some (some [cs]))(hi:eA cs=false)(h:dM (ck L n) cs=some (cs',is)):ck L (n+1) x=some (.aD cs',id::is):=by subst hx;have e0:ck L (n+1) (.mp id 0 0)=match L id with|some (some rs)=>(match rs[0]? with|some r=>if 0≤r.length then(ia (ck L n) (r.drop 0)).map fun x=>(.aD x.1,id::x.2)else none|none=>none)|_=>none:=rfl;rw[e0,hh];simp[ia,hi,h]
theorem NF{rows:Rows}(hx:x= .ey rows:=by exact rfl):ck L (n+1) x=some (.im rows,[]):=by subst hx;rfl
theorem XK(hx:x= .agg cs)(hi:eA cs=false)(h:dM (ck L n) cs=some (cs',is)):ck L (n+1) x=some (.agg cs',is):=by subst hx;simp[ck,ia,hi,h]
theorem ND [hc:o9 c](hx:x= .own (q.map c) q.length:=by exact rfl):ck L (n+1) x=some (.sl (q.map c),[]):=by have hi':iJ (q.map c)=true:=by{simp only[iJ,Hm,Hn];exact fun x _=>hc.im x};subst hx;simp only[ck];rw[Hk (by simp)];simp[kT,hi']
end
/-! ### Borrowing lists whose elements own memory -/
class xG{α:Type}(c:α→List U)(c':outParam (α→List U)):Prop where ck:∀L n x,dM (ck L (n+2)) (c x)=some (c' x,[])Rb:∀x,eA (c x)=false
section
variable{L:Id→Option (Option Rows)}{n m:Nat}{α:Type}{c c':α→List U}{q:List α}{k:Nat}{x x':α}{r r':List U}{id:Id}{ids:List Id}{v:U}
theorem XL [hb:xG c c'](x:α):ia (ck L (n+2)) (c x)=some (c' x,[]):=by simp[ia,hb.Rb,hb.ck]
theorem O7 [hb:xG c c']:∀q:List α,dN (ia (ck L (n+2))) (q.map c)=some (q.map c',[])|[]=>rfl|x::q=>by simp[dN,XL (c:=c) (c':=c') x,O7 q]
theorem NH [hb:xG c c'](q:List α):kT (ck L (n+2)) (q.map c)=some (q.map c',[]):=by unfold kT;cases q with|nil=>(simp[iJ])|cons x q=>rw[if_neg (by simp[iJ,hb.Rb])];exact O7 _
theorem XV [hb:xG c c'](hx:v= .rs id 0 m:=by exact rfl)(hh:L id=some (some (q.map c)):=by exact rfl)(hm:m≤q.length:=by exact wS):ck L (n+3) v=some (.sl ((q.take m).map c'),[id]):=by subst hx;have e:ck L (n+3) (.rs id 0 m)=match L id with|some (some rs)=>if 0+m≤rs.length then(kT (ck L (n+2)) ((rs.drop 0).take m)).map fun x=>(.sl x.1,id::x.2)else none|_=>none:=rfl;rw[e,hh];simp only[H4,Nat.zero_add,if_pos hm,H1];rw[←Kd,NH];rfl
theorem XQ [hb:xG c c'](hx:v= .own (q.map c) m:=by exact rfl):ck L (n+3) v=some (.sl ((q.take m).map c'),[]):=by subst hx;have e:ck L (n+3) (.own (q.map c) m)=(kT (ck L (n+2)) ((q.map c).take m)).map fun x=>(.sl x.1,x.2):=rfl;rw[e,←Kd,NH];rfl
end
section
variable{α:Type}{c c':α→List U}{q:List α}{L:Id→Option (Option Rows)}{n:Nat}{id:Id}{as bs cs cs':List U}{x:U}{is i2:List Id}
theorem HA{y:Option (U×List Id)}(h:ck L n x=y:=by repeat'(first|exact NK|exact ajO|exact ajP|(apply ajQ;exact rfl)|exact NC|exact XT|exact NJ|exact XU|exact ajX|exact aj0|exact XV|(apply ajY;exact rfl;exact rfl;exact rfl;(first|(with_reducible assumption)|assumption);exact um;exact inferInstance;rotate_left;exact rfl)|(apply ajZ;exact rfl;exact rfl;exact rfl;(first|(with_reducible assumption)|assumption);exact wS;exact inferInstance;rotate_left;exact rfl)|exact XM|exact XS|exact XP|exact ajS|exact ajW|exact ND|exact ajV|exact XR|exact XQ|exact ajU|exact ajT|exact NF|exact XN|exact yw|(apply A7;exact rfl)|(apply XK;exact rfl;exact rfl)|(apply XO;exact rfl;exact rfl;exact rfl)|(apply ajR;exact rfl))):ck L n x=y:=h
theorem ZX{p:U→Option (U×List Id)}{cs as bs:List U}{a b:U}(hx:cs=a::as)(h:p a=some (b,[]))(k:dM p as=some (bs,[])):dM p cs=some (b::bs,[]):=by subst hx;simp[dM,h,k]
theorem XW{cs cs':List U}(h:dM (ck L n) cs=some (cs',[]):=by repeat'(first|exact yw|(apply ZX;exact rfl)|exact NK|exact NC|exact XT|exact NJ|exact XS|exact ND|exact XR|exact NF|exact XN)):dM (ck L n) cs=some (cs',[]):=h
theorem XG(h:as=[]:=by exact rfl):qE L as=some ([],[]):=by subst h;rfl
theorem XF{a b:U}{z:List Id}(ha:cs=a::as)(h1:ck L 9 a=some (b,is))(h2:qE L as=some (bs,i2))(hz:is++i2=z):qE L cs=some (b::bs,z):=by subst ha hz;unfold qE at*;simp[dM,h1,h2]
theorem blk{y:Option (List U×List Id)}(h:qE L as=y:=by repeat'(first|exact XG|(apply XF;exact rfl;exact HA)|exact rfl)):qE L as=y:=h
theorem aiJ{ms:List Nat}(h:as=[]:=by exact rfl):jF L ms as=some ([],[],[],[]):=by subst h;cases ms<;>rfl
section
variable{ms:List Nat}{a b b':U}{i s t z:List Id}
theorem aiI{u:List Id}(ha:cs=a::as)(h:pk L 9 a=some (b,i))(k:jF L ms as=some (bs,s,t,z))(hu:i++t=u):jF L (1::ms) cs=some (b::bs,s,u,z):=by subst ha hu;simp[jF,k,h]
theorem aiK{u:List Id}(ha:cs=a::as)(h:ck L 9 a=some (b,i))(k:jF L ms as=some (bs,s,t,z))(hu:i++s=u):jF L (0::ms) cs=some (b::bs,u,t,z):=by subst ha hu;simp[jF,k,h]
end
theorem Tg{ms:List Nat}{y:Option (List U×List Id×List Id×List Id)}(h:jF L ms as=y:=by repeat'(first|exact aiJ|(apply aiI;exact rfl;exact lV)|(apply aiK;exact rfl;exact HA)|(apply ang;exact rfl;exact lV;exact Bd)|(apply anh;exact rfl;exact HA)|exact rfl)):jF L ms as=y:=h
/-! Nothing from elsewhere -/
theorem aeK{m:Nat}[hc:My c]:mine (.own (q.map c) m)=true:=by have:zm (q.map c)=true:=by{induction q with|nil=>(rfl)|cons x q ih=>simp[zm,hc.mi,ih]};simp[mine,this]
theorem aeI(h:jA as=true):mine (.agg as)=true:=by simp[mine,h]
theorem aeJ{a:U}(h:mine a=true)(k:jA as=true):jA (a::as)=true:=by simp[jA,h,k]
theorem Fu{a:U}(h:mine a=true:=by repeat'(first|exact(rfl:mine (.val _)=true)|exact alU|exact aeK|apply aeI|apply alW|apply alV|exact(rfl:jA []=true)|apply aeJ|exact rfl)):mine a=true:=h
end
section
variable{cQ:Operand}{ts:Array TypeId}{dr:FuncId}{as bs cs args:List U}{seen:List Id}{r:U}{wr:List (Id×Option Rows)}{xs:Array Operand}
theorem Iw(hfo:un g (S.get C cQ)= .fn (.func dr) as bs)(ef:C.gM dr=false):mR C (un g (S.get C cQ))=none:=by rw[hfo];simp[mR,ef]
theorem H8{d':Option Tmp}(h:mR C (un g (S.get C cQ))=none):bA C f call S g ⟨d', .call ⟨.value cQ,xs,ts⟩,ty,pos,aV,bB⟩=(match pathOf C cQ with|some p=>tH S ⟨d', .call ⟨.value cQ,xs,ts⟩,ty,pos,aV,bB⟩ p (xs.toList.map fun x=>un g (S.get C x))|none=>if zZ C cQ then(match(generalizing:=false)cQ with| .func k=>qJ C f call S ⟨d', .call ⟨.value cQ,xs,ts⟩,ty,pos,aV,bB⟩ k (xs.toList.map fun x=>un g (S.get C x))|_=>none)else qI C f call S ⟨d', .call ⟨.value cQ,xs,ts⟩,ty,pos,aV,bB⟩ (un g (S.get C cQ)) (xs.toList.map fun x=>un g (S.get C x))):=by show(match mR C (un g (S.get C cQ))with|some x=>pG C f call S _ x.1 (x.2.1++(xs.toList.map fun x=>un g (S.get C x))++x.2.2)|none=>_)=_;rw[h];first|rfl|(cases cQ<;>rfl)
theorem cE(hc:call dr args=some (r,[]))(hfo:un g (S.get C cQ)= .fn (.func dr) as bs:=by exact rfl)(hb:qE S.h (as++(xs.toList.map fun x=>un g (S.get C x))++bs)=some (args,seen):=by exact blk)(hm:(seen.isEmpty||mine r)=true:=by first|exact rfl|exact Fu)(hz:(C.eD f).contains d=false:=by exact rfl)(hi:imp [d] r=(v',wr):=by exact wH)(hf:fresh S.h wr=true:=by exact rfl)(ht:zZ C cQ=false:=by exact rfl)(nQ:pathOf C cQ=none:=by exact rfl)(hlk:C.look dr=false:=by exact rfl)(ef:C.gM dr=false:=by exact rfl):bA C f call S g ⟨some d, .call ⟨.value cQ,xs,ts⟩,ty,pos,aV,bB⟩=some ⟨[(d,v')],seen,wr⟩:=by rw[H8 (Iw hfo ef)];rw[nQ];simp only;rw[ht];simp only[GE,if_false];rw[hfo];simp only[qI,hlk,hb,hc,eJ,hz,GE,if_false];rw[if_neg (by cases seen with|nil=>(simp)|cons a l=>simp at hm;simp[hm]),hi];simp only[hf,if_true];rfl
theorem bG(hc:call dr args=some (r,[]))(hfo:un g (S.get C cQ)= .fn (.func dr) as bs:=by exact rfl)(hb:qE S.h (as++(xs.toList.map fun x=>un g (S.get C x))++bs)=some (args,seen):=by exact blk)(hm:(seen.isEmpty||mine r)=true:=by first|exact rfl|exact Fu)(hz:(C.eD f).contains d=true:=by exact rfl)(hv:dG r=v:=by exact Bd)(hi:imp [d] v=(v',wr):=by exact wH)(hf:fresh S.h wr=true:=by exact rfl)(ht:zZ C cQ=false:=by exact rfl)(nQ:pathOf C cQ=none:=by exact rfl)(hlk:C.look dr=false:=by exact rfl)(ef:C.gM dr=false:=by exact rfl):bA C f call S g ⟨some d, .call ⟨.value cQ,xs,ts⟩,ty,pos,aV,bB⟩=some ⟨[(d,v')],seen,wr⟩:=by rw[H8 (Iw hfo ef)];rw[nQ];simp only;rw[ht];simp only[GE,if_false];rw[hfo];simp only[qI,hlk,GE,if_false,hb,hc,eJ,hz,if_true,hv];rw[if_neg (by cases seen with|nil=>(simp)|cons a l=>simp at hm;simp[hm]),hi];simp only[hf,if_true];rfl
theorem NP{ms cv:List Nat}{outs:List U}{tk di:List Id}{back:List (Id×Option Rows)}{jG:List (Id×Option Rows)}(hm:C.wX dr=ms)(hm0:ms.isEmpty=false)(hle:C.cv dr=cv)(ht:jF S.h ms (xs.toList.map fun x=>un g (S.get C x))=some (args,seen,tk,di))(hc:call dr args=some (r,outs))(hv:(if eJ C f (some d)then dG r else r)=v)(hb:gH S.h (xs.toList.map fun x=>un g (S.get C x)) cv outs=some back)(h1:(dP (tk++di)&&rY seen (tk++di))=true)(h2:(seen.isEmpty||mine r&&outs.all mine)=true)(h3:(dP (back.map (·.1))&&(back.all fun x=>tk.contains x.1))=true)(hi:imp [d] v=(v',jG))(hf:fresh S.h jG=true)(hw:jG++(back++(tk++di).map fun i=>(i,none))=wr)(nQ:C.path dr=none)(ef:C.gM dr=false:=by exact rfl):bA C f call S g ⟨some d, .call ⟨.value (.func dr),xs,ts⟩,ty,pos,aV,bB⟩=some ⟨[(d,v')],seen,wr⟩:=by rw[H8 (Iw (as:=[]) (bs:=[]) rfl ef)];simp only[pathOf,nQ];have e0:zZ C (.func dr)=true:=by{simp[zZ,hm,hm0]};subst hw hm hle hv;rw[e0,if_pos rfl];unfold qJ;simp only[ht,hc,hb,hi];simp only[AC]at h1 h3;rw[if_pos (by simp only[AC];exact⟨⟨⟨⟨⟨h1.1,h1.2⟩,h2⟩,h3.1⟩,h3.2⟩,hf⟩)];rfl
end
end
end Go.Ab
