import Derived.Test.YtbbhbdlljfffdaaGreatDoorAbV2
open Bool renaming and_eq_true→GE,false_eq_true→Ha,false_and→Kd
open List renaming replicate→Hc,foldl→Hm,take_of_length_le→Hn,all_map→H0,all_eq_true→H1,length_drop→H2,drop_zero→H3,map_cons→IH,length_set→If,length_map→Ix,length_cons→Lk,map_append→PP,map_take→PQ
open Nat renaming ble→Hb,le_of_ble_eq_true→Hk,ble_eq_true_of_le→PH
open Option renaming bind_some→GT,map_some→Hd,bind_eq_some_iff→H4,map_eq_some_iff→H5
set_option linter.all false
namespace Go.Ab
open Go
theorem abc{t:TypeId}(e:dA):fA (gN t e)=true:=by cases e<;>rfl
theorem Qn{t:TypeId}{e:dA}:dF (gN t e)=gN t e:=by cases e<;>rfl
theorem Qq{e:Option Int}:dF (iP e)=iP e:=by cases e<;>rfl
theorem M6{e:Option Int}{p:Id}{j:Nat}:bT p j [iP e]=([iP e],[]):=by cases e<;>rfl
theorem Rx{t:TypeId}{e:dA}{p:Id}:imp p (gN t e)=(gN t e,[]):=by cases e<;>rfl
theorem Rz{e:Option Int}{p:Id}:imp p (iP e)=(iP e,[]):=by cases e<;>rfl
theorem afm{t:TypeId}{e:dA}{p:Id}{j:Nat}:eW p j [gN t e]=([gN t e],[]):=by cases e<;>rfl
/-! ### Owned cells become objects -/
section
variable{α:Type}{c:α→List U}{q:List α}{p:Id}{j:Nat}{l l0 l':List U}{v v':U}{wr:List (Id×Option Rows)}{rows:Rows}
theorem akY:bT p j []=([],[]):=rfl
theorem akW(hl:l=v::l0)(hv:bT p j [v]=([v],[]))(k:bT p (j+1) l0=(l',wr)):bT p j l=(v::l',wr):=by subst hl;cases v<;>simp_all[bT]
theorem akZ{m:Nat}(hl:l= .own (q.map c) m::l0)(k:bT p (j+1) l0=(l',wr)):bT p j l=(.rs (j::p) 0 m::l',(j::p,some (q.map c))::wr):=by subst hl;simp[bT,k]
theorem akX(hl:l= .ey rows::l0)(k:bT p (j+1) l0=(l',wr)):bT p j l=(.mr (j::p)::l',(j::p,some rows)::wr):=by subst hl;simp[bT,k]
theorem tS(h:bT p j l=(l',wr):=by repeat'(first|exact akY|(apply akW;exact rfl;(first|exact rfl|exact apN|exact M6))|(apply akZ;exact rfl)|(apply apO;exact rfl)|(apply akX;exact rfl))):bT p j l=(l',wr):=h
theorem aft{m:Nat}:imp p (.own (q.map c) m)=(.rs p 0 m,[(p,some (q.map c))]):=by simp[imp]
theorem afs(h:bT p 0 l=(l',wr)):imp p (.agg l)=(.agg l',wr):=by simp[imp,h]
theorem afu(h:bT p 0 l=(l',wr)):imp p (.aS l)=(.mp p 0 0,(p,some [l'])::wr):=by simp[imp,h]
theorem afo:eW p j []=([],[]):=rfl
theorem afn(hl:l=v::l0)(hv:eW p j [v]=([v],[]))(k:eW p (j+1) l0=(l',wr)):eW p j l=(v::l',wr):=by subst hl;cases v with|own rows m=>(simp[eW]at hv)|aS cells=>(simp[eW]at hv)|ey rows=>(simp[eW]at hv)|agg cs=>(simp only[eW,List.append_nil,Prod.mk.injEq,List.cons.injEq,U.agg.injEq,and_true]at hv;simp[eW,k,hv.1,hv.2])|aY vs=>(simp[eW]at hv)|_=>simp[eW,k]
theorem afp{m:Nat}(hl:l= .own (q.map c) m::l0)(k:eW p (j+1) l0=(l',wr)):eW p j l=(.rs (j::p) 0 m::l',(j::p,some (q.map c))::wr):=by subst hl;simp[eW,k]
theorem afl{w1 w2:List (Id×Option Rows)}{a a':List U}(hl:l= .agg a::l0)(h:bT (j::p) 0 a=(a',w1))(k:eW p (j+1) l0=(l',w2)):eW p j l=(.agg a'::l',w1++w2):=by subst hl;simp[eW,k,h]
theorem afv(h:eW p 0 l=(l',wr)):imp p (.aY l)=(.aY l',wr):=by simp[imp,h]
theorem xD(h:imp p v=(v',wr):=by first|exact(rfl:imp _ (.val _)=(.val _,[]))|exact(rfl:imp _ (.sl _)=(.sl _,[]))|exact Rx|exact Rz|exact aft|exact ank|exact anl|(apply afs;exact tS)|(apply afu;exact tS)|(apply afv;repeat'(first|exact afo|(apply afn;exact rfl;(first|exact rfl|exact afm|exact anj))|(apply afp;exact rfl)|(apply ani;exact rfl)|(apply afl;exact rfl;exact tS)))|exact rfl):imp p v=(v',wr):=h
theorem agx{n:Nat}{vs:List U}:aJ n [] vs=⟨n,fun _=> .bB,fun _=>none⟩:=rfl
theorem agw{n s:Nat}{t:Nat→U}{h:Id→Option (Option Rows)}{l:List Nat}{vs:List U}(hi:imp [s] v=(v,[]))(k:aJ n l vs=⟨n,t,h⟩):aJ n (s::l) (v::vs)=⟨n,an t s v,h⟩:=by simp[aJ,k,hi,bu]
theorem agv{n s:Nat}{t:Nat→U}{h:Id→Option (Option Rows)}{l:List Nat}{vs:List U}(hi:imp [s] v=(v',wr))(k:aJ n l vs=⟨n,t,h⟩):aJ n (s::l) (v::vs)=⟨n,an t s v',bu h wr⟩:=by simp[aJ,k,hi]
theorem GK{n:Nat}{t:Nat→U}{h:Id→Option (Option Rows)}{l:List Nat}{vs:List U}(k:aJ n l vs=⟨n,t,h⟩:=by repeat'(first|exact agx|(apply agw;first|exact rfl|exact Rx|exact Rz)|(apply agv;exact xD))):aJ n l vs=⟨n,t,h⟩:=k
end
section
variable{C:aL}{f:FuncId}{call:gd}{c:Code}{Q:Exit×ah→Prop}{n:Nat}{t:Nat→U}{h:Id→Option (Option Rows)}{l:List Nat}{vs:List U}
theorem mk(k:W C f call c ⟨n,t,h⟩ Q)(hm:aJ n l vs=⟨n,t,h⟩:=by exact GK):W C f call c (aJ n l vs) Q:=by rw[hm];exact k
theorem eY{e:Exit}(k:Q (e,⟨n,t,h⟩))(hm:aJ n l vs=⟨n,t,h⟩:=by exact GK):Q (e,aJ n l vs):=by rw[hm];exact k
end
/-! ### Packing -/
def O1{α:Type}(a b:List α):List α:=b.take (min b.length a.length)++a.drop (min b.length a.length)
theorem B1{α:Type}(a b:List α):(O1 a b).length=a.length:=by unfold O1;rw[List.length_append,List.length_take,H2];omega
section
variable{L:Id→Option (Option Rows)}{n:Nat}{α:Type}{c:α→List U}{q:List α}{id:Id}{cs cs':List U}{ids is:List Id}{x v:U}
theorem ov [hc:iw c](q:List α):ei (q.map c)=true:=abH c q hc.fl
theorem qG{m m':Nat}(h:m=m':=by first|exact rfl|exact List.length_map _|(first|(with_reducible assumption)|assumption)|(symm;(first|(with_reducible assumption)|assumption))|(simp only[List.length_map,List.length_set,B1];done)|(simp only[List.length_map,List.length_set,B1];first|(first|(with_reducible assumption)|assumption)|(symm;(first|(with_reducible assumption)|assumption)))|(simp only[List.length_map,List.length_set,B1, *];done)):m=m':=h
theorem aiR{y:U×List Id}:∀{a:U},flat a=true→pk L (n+1) a=some y→y=(a,[]):=by intro a hf h;cases a with|agg cs=>(simp only[flat]at hf;simp[pk,fI,hf]at h;exact h.symm)|aY cs=>(simp only[flat]at hf;simp[pk,fI,hf]at h;exact h.symm)|own rs m=>(simp only[flat]at hf;simp[pk,hf]at h;exact h.symm)|aS cs=>(simp only[flat]at hf;simp[pk,hf]at h;exact h.symm)|fn k a b=>(simp only[pk]at h;split at h;·{simpa using h.symm};·cases h)|rs _ _ _=>(simp[flat]at hf)|mp _ _ _=>(simp[flat]at hf)|mr _=>(simp[flat]at hf)|dw _ _=>(simp[flat]at hf)|cz=>(simp[flat]at hf)|_=>simp[pk]at h;exact h.symm
theorem P7:∀{cs:List U}{y:List U×List Id},cY cs=true→dQ (pk L (n+1)) cs=some y→y=(cs,[])|[],y,_,h=>by{simp[dQ]at h;exact h.symm}|c::cs,y,hf,h=>by simp only[cY,GE]at hf;simp only[dQ,H4,H5]at h;obtain⟨u,hu,v,hv,rfl⟩:=h;obtain rfl:=aiR hf.1 hu;obtain rfl:=P7 hf.2 hv;rfl
theorem Hf{y:List U×List Id}(h:dQ (pk L (n+1)) cs=some y):fI (pk L (n+1)) cs=some y:=by unfold fI;split;·{rename_i hf;rw[P7 hf h]};·exact h
theorem Qa:∀{rs:Rows}{y:Rows×List Id},ei rs=true→dr (fI (pk L (n+1))) rs=some y→y=(rs,[])|[],y,_,h=>by{simp[dr]at h;exact h.symm}|r::rs,y,hf,h=>by simp only[ei,GE]at hf;simp only[dr,H4,H5]at h;obtain⟨u,hu,v,hv,rfl⟩:=h;obtain rfl:u=(r,[]):=by{simp[fI,hf.1]at hu;exact hu.symm};obtain rfl:=Qa hf.2 hv;rfl
theorem aiM{rows:Rows}{y:Rows×List Id}(h:dr (fI (pk L (n+1))) rows=some y):jj (pk L (n+1)) rows=some y:=by unfold jj;split;·{rename_i hf;rw[Qa hf h]};·exact h
theorem Tt{w:Value}(hx:x= .val w:=by exact rfl):pk L (n+1) x=some (.val w,[]):=by rw[hx];rfl
theorem Ts{r:Rows}(hx:x= .sl r:=by exact rfl):pk L (n+1) x=some (.sl r,[]):=by rw[hx];rfl
theorem Tm{r:List U}(hx:x= .aA r:=by exact rfl):pk L (n+1) x=some (.aA r,[]):=by rw[hx];rfl
theorem aiH{t:TypeId}{e:dA}(hx:x=gN t e:=by first|exact rfl|exact HE):pk L (n+1) x=some (gN t e,[]):=by rw[hx];cases e<;>rfl
theorem aiL{e:Option Int}(hx:x=iP e:=by first|exact rfl|exact yG):pk L (n+1) x=some (iP e,[]):=by rw[hx];cases e<;>rfl
theorem Tk(hx:x= .cz:=by exact rfl):pk L (n+1) x=some (.own [] 0,[]):=by rw[hx];rfl
theorem Tq{m:Nat}[hc:iw c](hx:x= .rs id 0 m:=by exact rfl)(hh:L id=some (some (q.map c)):=by exact rfl)(hl:m=q.length:=by exact qG):pk L (n+1) x=some (.own (q.map c) q.length,[id]):=by rw[hx,hl];exact Tu hh (by simp) (ov q)
theorem aiN{m:Nat}[hc:iw c](hl:m≤q.length)(hx:x= .rs id 0 m:=by exact rfl)(hh:L id=some (some (q.map c)):=by exact rfl):pk L (n+1) x=some (.own (q.map c) m,[id]):=by rw[hx];exact Tu hh (by simpa using hl) (ov q)
theorem Tl{m:Nat}[hc:iw c](hx:x= .own (q.map c) m:=by exact rfl):pk L (n+1) x=some (.own (q.map c) m,[]):=by rw[hx];simp[pk,ov]
theorem Te(hx:x= .agg cs:=by exact rfl)(hf:cY cs=true:=by exact rfl):pk L (n+1) x=some (.agg cs,[]):=by rw[hx];simp[pk,fI,hf]
theorem Td(hx:x= .agg cs)(h:dQ (pk L (n+1)) cs=some (cs',ids)):pk L (n+2) x=some (.agg cs',ids):=by rw[hx,show pk L (n+2) (.agg cs)=(fI (pk L (n+1)) cs).map fun x=>(.agg x.1,x.2)from rfl,Hf h];rfl
theorem Ti(hx:x= .mp id 0 0:=by exact rfl)(hh:L id=some (some [cs]):=by exact rfl)(hf:cY cs=true:=by exact rfl):pk L (n+1) x=some (.aS cs,[id]):=by rw[hx];simp[pk,fI,hh,hf]
theorem Tg(hx:x= .mp id 0 0)(hh:L id=some (some [cs]))(h:dQ (pk L (n+1)) cs=some (cs',ids)):pk L (n+2) x=some (.aS cs',id::ids):=by have e:pk L (n+2) (.mp id 0 0)=match L id with|some (some [cs])=>if 0=0∧0=0 then(fI (pk L (n+1)) cs).map fun x=>(.aS x.1,id::x.2)else none|_=>none:=rfl;rw[hx,e,hh];simp only[and_self,if_true,Hf h];rfl
theorem Th{Va:α}[hc:iw c](hx:x= .mp id 0 0:=by exact rfl)(hh:L id=some (some [c Va]):=by exact rfl):pk L (n+1) x=some (.aS (c Va),[id]):=by rw[hx];simp[pk,fI,hh,hc.fl]
theorem Tj{rows:Rows}(hx:x= .mr id:=by exact rfl)(hh:L id=some (some rows):=by exact rfl):pk L (n+1) x=some (.ey rows,[id]):=by rw[hx];simp[pk,hh]
theorem Tf{k:Fn}{a b:List U}(hx:x= .fn k a b:=by exact rfl)(hf:(eu a&&eu b)=true:=by exact rfl):pk L (n+1) x=some (.fn k a b,[]):=by rw[hx];simp only[GE]at hf;simp[pk,hf.1,hf.2]
theorem wS{p:U→Option (U×List Id)}(hx:cs=[]:=by exact rfl):dQ p cs=some ([],[]):=by rw[hx];rfl
theorem zE{p:U→Option (U×List Id)}{a b:U}{as bs:List U}{i1 i2:List Id}(hx:cs=a::as)(h:p a=some (b,i1))(k:dQ p as=some (bs,i2)):dQ p cs=some (b::bs,i1++i2):=by subst hx;simp[dQ,h,k]
theorem aiU{t:Nat→U}:jZ L t []=some ([],[]):=rfl
theorem aiT{t:Nat→U}{s:Nat}{sl:List Nat}{vs:List U}(h1:pk L 9 (t s)=some (v,ids))(h2:jZ L t sl=some (vs,is)):jZ L t (s::sl)=some (v::vs,ids++is):=by rw[aiF,h1,GT,h2];rfl
end
/-! ### One row of a list, open -/
section
variable{α:Type}{c c':α→List U}{q:List α}{k:Nat}{x x':α}{r r':List U}
theorem Ht(h:q[k]? =some x):(q.map c)[k]? =some (c x):=by simp[h]
theorem Us:(q.map c).set k r=(q.map c).set k r:=rfl
theorem Mv:((q.map c).set k r).set k r'=(q.map c).set k r':=List.set_set ..
theorem aj6:(q.map c).set k (c x)=(q.set k x).map c:=by rw[List.map_set]
theorem Qc{p:List U→Option (List U×List Id)}{ids:List Id}(hp:∀y,p (c y)=some (c y,[]))(hr:p r=some (r',ids)):∀{q:List α}{k:Nat}{x:α},q[k]? =some x→dr p ((q.map c).set k r)=some ((q.map c).set k r',ids)|[],k,x,h=>by{simp at h}|y::q,0,x,h=>by{have key:∀q:List α,dr p (q.map c)=some (q.map c,[]):=by{intro q;induction q with|nil=>(rfl)|cons z q ih=>simp[dr,hp,ih]};simp[dr,hr,key]}|y::q,k+1,x,h=>by have ih:=Qc hp hr (q:=q) (k:=k) (x:=x) (by simpa using h);simp only[IH,List.set_cons_succ,dr,hp,GT,ih,Hd,List.nil_append]
theorem P0(hf:cY r=false):∀{q:List α}{k:Nat}{x:α},q[k]? =some x→ei ((q.map c).set k r)=false|[],k,x,h=>by{simp at h}|y::q,0,x,h=>by{simp[ei,hf]}|y::q,k+1,x,h=>by have ih:=P0 hf (q:=q) (k:=k) (x:=x) (by simpa using h);simp[ei,ih]
end
/-! ### Packing -/
section
variable{L:Id→Option (Option Rows)}{n m:Nat}{α:Type}{c c':α→List U}{q:List α}{k:Nat}{x x':α}{r r':List U}{id:Id}{ids:List Id}{v:U}
theorem uX{a b:Nat}(h:a≤b:=by first|exact Nat.le_refl _|(first|(with_reducible assumption)|assumption)|(simp only[List.length_set,B1];first|exact Nat.le_refl _|(first|(with_reducible assumption)|assumption))|(simp only[List.length_set,B1];omega)):a≤b:=h
theorem L0 [hc:iw c](hx:v= .rs id 0 m)(hh:L id=some (some ((q.map c).set k r)))(hf:cY r=false)(hk:q[k]? =some x)(hm:m≤q.length)(hr:dQ (pk L (n+1)) r=some (r',ids))(hr':r'=c x'):pk L (n+2) v=some (.own ((q.set k x').map c) m,id::ids):=by subst hr';rw[hx];have e:pk L (n+2) (.rs id 0 m)=match L id with|some (some rs)=>if 0=0∧m≤rs.length then(jj (pk L (n+1)) rs).map fun x=>(.own x.1 m,id::x.2)else none|_=>none:=rfl;rw[e,hh];simp only[If,Ix,true_and,AC hm];have h2:jj (pk L (n+1)) ((q.map c).set k r)=some ((q.map c).set k (c x'),ids):=by{unfold jj;rw[Do (by rw[P0 hf hk];simp)];exact Qc (fun y=>by simp[fI,hc.fl]) (Hf hr) hk};rw[h2,aj6];rfl
theorem Tr [hc:iw c](hx:v= .rs id 0 m)(hh:L id=some (some ((q.map c).set k r)))(hf:cY r=false)(hk:q[k]? =some x)(hm:m=q.length)(hr:dQ (pk L (n+1)) r=some (r',ids))(hr':r'=c x'):pk L (n+2) v=some (.own ((q.set k x').map c) (q.set k x').length,id::ids):=by rw[If,←hm];exact L0 hx hh hf hk (by omega) hr hr'
theorem aiP{rows br:Rows}(hx:v= .rs id 0 m)(hh:L id=some (some rows))(hm:Hb m rows.length=true)(hf:ei rows=false)(hr:dr (fI (pk L n)) rows=some (br,ids)):pk L (n+1) v=some (.own br m,id::ids):=by rw[hx];have e:pk L (n+1) (.rs id 0 m)=match L id with|some (some rs)=>if 0=0∧m≤rs.length then(jj (pk L n) rs).map fun x=>(.own x.1 m,id::x.2)else none|_=>none:=rfl;rw[e,hh];have hm':m≤rows.length:=Hk hm;simp only[true_and,AC hm',jj,hf,Ha,if_false,hr,Hd]
theorem ai3{p:List U→Option (List U×List Id)}{rows:Rows}(e:rows=[]:=by exact rfl):dr p rows=some ([],[]):=by subst e;rfl
theorem ai2{p:List U→Option (List U×List Id)}{rows rs rs':Rows}{i1 i2:List Id}(e:rows=r::rs)(h1:p r=some (r',i1))(h2:dr p rs=some (rs',i2)):dr p rows=some (r'::rs',i1++i2):=by subst e;simp[dr,h1,h2]
theorem Tp [hc:iw c](hx:v= .rs id 0 m:=by exact rfl)(hh:L id=some (some (q.map c)):=by exact rfl)(hm:m≤q.length:=by exact uX):pk L (n+1) v=some (.own (q.map c) m,[id]):=aiN hm hx hh
end
section
variable{L:Id→Option (Option Rows)}{n:Nat}{α:Type}{c:α→List U}{q:List α}{id:Id}{cs cs':List U}{ids is:List Id}{x v:U}
theorem mE{a:U}{y:Option (U×List Id)}(h:pk L n a=y:=by repeat'(first|exact Tt|exact aiH|exact aiL|exact anQ|exact Ts|exact Tq|exact Tp|(apply Tr;exact rfl;exact rfl;exact rfl;(first|(with_reducible assumption)|assumption);exact qG;rotate_left;exact rfl)|(apply L0;exact rfl;exact rfl;exact rfl;(first|(with_reducible assumption)|assumption);exact uX;rotate_left;exact rfl)|exact Te|exact Tm|exact Tk|exact Tl|exact Ti|exact Th|exact aiO|exact aiJ|exact aiQ|exact Tf|exact Tj|exact aiK|exact aiI|exact wS|(apply zE;exact rfl)|(apply Td;exact rfl)|(apply Tg;exact rfl;exact rfl)|(apply anR;exact rfl)|(apply aiP;exact rfl;exact rfl;exact rfl;exact rfl)|exact ai3|(apply ai2;exact rfl)|exact anN|(apply anP;exact rfl))):pk L n a=y:=h
theorem Hi{t:Nat→U}{sl:List Nat}{y:Option (List U×List Id)}(h:jZ L t sl=y:=by repeat'(first|exact aiU|(apply aiT;exact mE))):jZ L t sl=y:=h
theorem ak{o:Option (Bool×List Nat)}{slots:List Nat}{t:Nat→U}{vs:List U}(hk:o=some (false,slots):=by exact rfl)(hp:jZ L t slots=some (vs,is):=by exact Hi)(hn:dV is=true:=by exact rfl):dB o ⟨n,t,L⟩=some (aJ n slots vs):=by subst hk;show(jF ⟨n,t,L⟩ slots).map _=_;rw[ajz,hp];simp[hn]
end
/-! ### The same with names kept -/
section
variable{n:Nat}{t t2:Nat→U}{h:Id→Option (Option Rows)}{slots r:List Nat}{l:List (Id×Id)}{hl y:List (Id×Rows)}{α:Type}{c:α→List U}{q:List α}
def dS(n:Nat)(l:List (Nat×U))(h:List (Id×Rows)):ah:=⟨n,c8 (fun _=> .bB) l,jB h⟩
/-! Rows that are flat, cell by cell. -/
theorem PW{α:Type}{c:α→List U}{q:List α}{m:Nat}[hc:iw c]:flat (.own (q.map c) m)=true:=by simp[flat,ov]
theorem PT{r cs:List U}{a:U}(e:r=a::cs)(h1:flat a=true)(h2:cY cs=true):cY r=true:=by subst e;simp[cY,h1,h2]
theorem aby{rows:Rows}(e:rows=[]:=by exact rfl):ei rows=true:=by subst e;rfl
theorem abz{rows rs:Rows}{r:List U}(e:rows=r::rs)(h1:cY r=true)(h2:ei rs=true):ei rows=true:=by subst e;simp[ei,h1,h2]
theorem Jd{rows:Rows}(k:ei rows=true:=by(repeat'(first|exact ov _|exact aby|(apply abz;exact rfl)|exact abw|(apply PT;exact rfl)|exact rfl|exact abt|exact abx|exact PW));first|done|fail):ei rows=true:=k
theorem agA:nU l t []=c8 (fun _=> .bB) []:=rfl
theorem agz{s:Nat}{v':U}{vs:List (Nat×U)}(he:fo l (t s)=v')(hr:nU l t r=c8 (fun _=> .bB) vs):nU l t (s::r)=c8 (fun _=> .bB) ((s,v')::vs):=by subst he;simp[nU,hr,c8]
theorem ajm:ld l []=some []:=rfl
theorem ajl{cs as bs:List U}{a b:U}(hx:cs=a::as)(h1:qR l a=some b)(h2:ld l as=some bs):ld l cs=some (b::bs):=by subst hx;simp[ld,h1,h2]
theorem ajq{i k:Id}{x:U}{off m m':Nat}(hx:x= .rs i off m:=by exact rfl)(hk:ga l i=some k:=by exact rfl)(hm:m=m':=by exact qG):qR l x=some (.rs k off m'):=by subst hx hm;simp[qR,yd,hk]
theorem ajn{cs cs':List U}(h:ld l cs=some cs':=by repeat'(first|exact ajm|(apply ajl;exact rfl)|exact ajq|exact rfl)):ld l cs=some cs':=h
theorem Mj [hc:iw c]:mG l (q.map c)=some (q.map c):=by simp[mG,ov]
theorem Ml{cs cs':List U}(hf:cY cs=false:=by exact rfl)(h:ld l cs=some cs':=by first|exact rfl|exact ajn):mG l [cs]=some [cs']:=by simp[mG,ei,hf,AW,h]
theorem Mk{rows:Rows}(hf:ei rows=true:=by first|exact rfl|exact Jd):mG l rows=some rows:=by simp[mG,hf]
end
section
variable{l:List (Id×Id)}{α:Type}{c:α→List U}{q:List α}{k:Nat}{x x':α}{r r':List U}
theorem ajw{a:U}(h:flat a=true):qR l a=some a:=by cases a with|fn k as cs=>(simp only[qR];rw[AC (by simpa[flat]using h)])|rs _ _ _=>(simp[flat]at h)|mp _ _ _=>(simp[flat]at h)|mr _=>(simp[flat]at h)|cz=>(simp[flat]at h)|_=>simp only[qR,yd];rw[AC h]
theorem D2:∀{as:List U},cY as=true→ld l as=some as|[],_=>rfl|a::as,h=>by simp only[cY,GE]at h;simp[ld,ajw h.1,D2 h.2]
end
section
variable{n:Nat}{t t2:Nat→U}{h:Id→Option (Option Rows)}{slots r:List Nat}{l:List (Id×Id)}{hl y:List (Id×Rows)}{α:Type}{c:α→List U}{q:List α}
theorem aex{L:Id→Option (Option Rows)}:pM L l []=some []:=rfl
theorem aew{L:Id→Option (Option Rows)}{r:List (Id×Id)}{o k:Id}{rows br:Rows}(h:L o=some (some rows))(hr:mG l rows=some br)(hy:pM L l r=some y):pM L l ((o,k)::r)=some ((k,br)::y):=by simp[pM,h,hr,hy]
theorem hnk{L:Id→Option (Option Rows)}{r:List (Id×Id)}(h:pM L l r=some y:=by repeat'(first|exact aex|(apply aew;exact rfl;first|exact Mj|exact aoj rfl|exact aol (by(first|(with_reducible assumption)|assumption))|exact Ml|exact Mk))):pM L l r=some y:=h
theorem agB{vs:List (Nat×U)}(h:nU l t slots=c8 (fun _=> .bB) vs:=by repeat'(first|exact agA|(apply agz;first|exact rfl|exact aok))):nU l t slots=c8 (fun _=> .bB) vs:=h
def afE:U→Bool| .cz=>true|_=>false
theorem Sq{y:ah}(e:(⟨n,t,h⟩:ah)=y:=by exact rfl):ko [] ⟨n,t,h⟩=y:=e
theorem ag1{s:Nat}{sl:List Nat}{y:ah}(hs:afE (t s)=false)(k:ko sl ⟨n,t,h⟩=y):ko (s::sl) ⟨n,t,h⟩=y:=by have e:qI ⟨n,t,h⟩ s=⟨n,t,h⟩:=by{simp only[qI];split;·{rename_i h1 _;rw[h1]at hs;cases hs};·rfl};rw[ko,e];exact k
theorem ag0{s:Nat}{sl:List Nat}{y:ah}(hs:t s= .cz)(hh:h [s,s]=none)(k:ko sl ⟨n,an t s (.rs [s,s] 0 0),an h [s,s] (some (some []))⟩=y):ko (s::sl) ⟨n,t,h⟩=y:=by have e:qI ⟨n,t,h⟩ s=⟨n,an t s (.rs [s,s] 0 0),an h [s,s] (some (some []))⟩:=by{simp only[qI,hs,hh]};rw[ko,e];exact k
theorem ag2{y:ah}(k:ko slots ⟨n,t,h⟩=y:=by repeat'(first|with_reducible exact Sq|(apply ag1;first|exact rfl|exact anv|exact anw)|(apply ag0;exact rfl;exact rfl)|exact Sq)):ko slots ⟨n,t,h⟩=y:=k
section
variable{keep:Id→Bool}{o:Id}{ol:List Id}{y0:Option ah}{rows br:Rows}{ids:List Id}{r r':List U}{k:Nat}
theorem Z0{α:Type}{g:α→Id}{y0:Option ah}(e:some (⟨n,t,h⟩:ah)=y0:=by exact rfl):jP keep (List.map g []) ⟨n,t,h⟩=y0:=e
theorem agI(e:(dV ids&& !ids.contains o)=true):(dV ids&& !ids.contains o)=true:=e
theorem ZY(hh:h o=some (some rows))(hf:ei rows=true)(k:jP keep ol ⟨n,t,h⟩=y0):jP keep (o::ol) ⟨n,t,h⟩=y0:=by have e:ql keep ⟨n,t,h⟩ o=some ⟨n,t,h⟩:=by{simp only[ql,hh,hf,if_true]};rw[jP,e];exact k
theorem Z4(hh:h o=some (some rows))(hf:ei rows=false)(hc:dr (lA h keep) rows=some (br,ids))(hn:(dV ids&& !ids.contains o)=true)(k:jP keep ol ⟨n,t,bu h ((o,some br)::ids.map fun i=>(i,none))⟩=y0):jP keep (o::ol) ⟨n,t,h⟩=y0:=by have e:ql keep ⟨n,t,h⟩ o=some ⟨n,t,bu h ((o,some br)::ids.map fun i=>(i,none))⟩:=by{simp only[ql,hh,hf,hc,hn,if_true];rfl};rw[jP,e];exact k
theorem O5(hf:cY r=false:=by exact rfl)(hc:dQ (gU h keep) r=some (r',ids)):lA h keep r=some (r',ids):=by simp[lA,hf,hc]
theorem P5{p:List U→Option (List U×List Id)}(e:rows=[]:=by exact rfl):dr p rows=some ([],[]):=by subst e;rfl
theorem P6{p:List U→Option (List U×List Id)}{rs:Rows}{i1 i2:List Id}(e:rows=r::rs)(h1:p r=some (r',i1))(h2:dr p rs=some (br,i2)):dr p rows=some (r'::br,i1++i2):=by subst e;simp[dr,h1,h2]
theorem IM{i:Id}{off len:Nat}{x:U}(hx:x= .rs i off len:=by exact rfl)(hk:keep i=true:=by exact rfl):gU h keep x=some (.rs i off len,[]):=by subst hx;simp[gU,hk]
theorem IN{i:Id}{row off:Nat}{x:U}(hx:x= .mp i row off:=by exact rfl)(hk:keep i=true:=by exact rfl):gU h keep x=some (.mp i row off,[]):=by subst hx;simp[gU,hk]
theorem IQ{i:Id}{off len:Nat}{x x':U}(hx:x= .rs i off len:=by exact rfl)(hk:keep i=false:=by exact rfl)(hp:pk h 8 (.rs i off len)=some (x',ids)):gU h keep x=some (x',ids):=by subst hx;simp[gU,hk,hp]
theorem IP{x:U}(hx:x= .cz:=by exact rfl):gU h keep x=some (.own [] 0,[]):=by subst hx;rfl
theorem KX:∀{l:List U},cY l=true→Aq keep l=true|[],_=>rfl|a::l,hf=>by simp only[cY,GE]at hf;simp only[Aq,List.all_cons,GE];refine⟨?_,KX hf.2⟩;cases a<;>first|exact hf.1|(simp[flat]at hf)
theorem BT{x:U}(hf:flat x=true):gU h keep x=some (x,[]):=by cases x with|fn k as cs=>(simp only[flat,GE]at hf;simp only[gU];rw[AC (by simp[KX hf.1,KX hf.2])])|rs _ _ _=>(simp[flat]at hf)|mp _ _ _=>(simp[flat]at hf)|mr _=>(simp[flat]at hf)|cz=>(simp[flat]at hf)|_=>simp only[gU];rw[AC hf]
end
section
variable{α:Type}{c:α→List U}{q:List α}{k:Nat}{x x':α}{r r':List U}{ids:List Id}{keep:Id→Bool}{o:Id}{ol:List Id}{y0:Option ah}
end
theorem Z6{keep:Id→Bool}{ol:List Id}{y0:Option ah}(k:jP keep ol ⟨n,t,h⟩=y0:=by repeat'(first|with_reducible exact alM|with_reducible exact Z0|(apply ZY;exact rfl;first|exact ov _|exact rfl|exact Jd)|(apply alN;exact rfl;exact rfl;(first|(with_reducible assumption)|assumption);exact inferInstance)|(apply Z4;exact rfl;exact rfl)|exact P5|(apply P6;exact rfl)|exact aaw|(apply O5;exact rfl)|exact IM|exact IN|exact ON|exact IP|(apply OP;exact rfl;exact rfl;exact mE)|(apply IQ;exact rfl;exact rfl;exact mE)|(apply OO;exact rfl;exact rfl;exact mE)|(apply BT;first|exact rfl|exact PU|exact PX|exact PV)|exact OM|exact wS|(apply zE;exact rfl)|exact agI rfl)):jP keep ol ⟨n,t,h⟩=y0:=k
/-! Names, one by one. -/
def RU:U→Bool| .fn _ as cs=> !(cY as&&cY cs)| .rs _ _ _=>true| .mp _ _ _=>true| .mr _=>true| .agg _=>true|_=>false
section
variable{L:Id→Option (Option Rows)}{m j:Nat}{p i:Id}{acc acc' od y l:List (Id×Id)}{a:U}{as cs eo:List U}{S:ah}{s:Nat}{slots:List Nat}
theorem aaF(hx:eo=[])(e:acc=y):fE L m p j acc eo=y:=by subst hx;cases m<;>exact e
theorem aaN(hx:eo=a::as)(hs:RU a=false)(k:fE L m p (j+1) acc as=y):fE L (m+1) p j acc eo=y:=by subst hx;cases a with|fn f xs cs=>(simp only[RU,Bool.not_eq_false']at hs;simp only[fE,AC hs];exact k)|_=>first|exact k|cases hs
theorem Lf{i q:Id}(h:jU i=false)(h2:jU q=false):r5 i q=q:=by simp[r5,h,h2]
theorem Lg{i q:Id}(h:jU i=true):r5 i q=i:=by simp[r5,h]
variable{nm:Id}
theorem aaL{o n:Nat}(hx:eo= .rs i o n::as)(hn:(ga acc i).isSome=false)(hm:r5 i (j::p)=nm)(hl:acc++[(i,nm)]=acc')(k:fE L m p (j+1) acc' as=y):fE L (m+1) p j acc eo=y:=by subst hx hl hm;simp only[fE,hn];exact k
theorem aaM{o n:Nat}(hx:eo= .rs i o n::as)(hn:(ga acc i).isSome=true)(k:fE L m p (j+1) acc as=y):fE L (m+1) p j acc eo=y:=by subst hx;simp only[fE,hn];exact k
theorem aaI{o n:Nat}(hx:eo= .mp i o n::as)(hn:(ga acc i).isSome=false)(hh:L i=some (some [cs]))(hm:r5 i (j::p)=nm)(hl:acc++[(i,nm)]=acc')(h1:fE L m (j::p) 0 acc' cs=od)(k:fE L m p (j+1) od as=y):fE L (m+1) p j acc eo=y:=by subst hx hl h1 hm;simp only[fE,hn,hh];exact k
theorem aaJ{o n:Nat}(hx:eo= .mp i o n::as)(hn:(ga acc i).isSome=true)(k:fE L m p (j+1) acc as=y):fE L (m+1) p j acc eo=y:=by subst hx;simp only[fE,hn];exact k
theorem aaD(hx:eo= .agg cs::as)(h1:fE L m (j::p) 0 acc cs=od)(k:fE L m p (j+1) od as=y):fE L (m+1) p j acc eo=y:=by subst hx h1;simp only[fE];exact k
theorem aaH{f:Fn}{xs:List U}(hx:eo= .fn f xs cs::as)(hf:(cY xs&&cY cs)=false)(h1:fE L m (j::p) 0 acc (xs++cs)=od)(k:fE L m p (j+1) od as=y):fE L (m+1) p j acc eo=y:=by subst hx h1;simp only[fE,hf];exact k
theorem agQ(e:acc=l):Hm (fun acc s=>fE S.h 40 [s] 0 acc [S.t s]) acc []=l:=e
theorem agP(h:fE S.h 40 [s] 0 acc [S.t s]=acc')(k:Hm (fun acc s=>fE S.h 40 [s] 0 acc [S.t s]) acc' slots=l):Hm (fun acc s=>fE S.h 40 [s] 0 acc [S.t s]) acc (s::slots)=l:=by subst h;exact k
theorem agO{Uu:List Nat}(hs:slots=Uu)(h:Hm (fun acc s=>fE S.h 40 [s] 0 acc [S.t s]) [] Uu=l):names S slots=l:=by subst hs;exact h
theorem agR(h:names S slots=l:=by((with_reducible apply agO);exact spine);repeat'(first|((with_reducible apply agQ);exact rfl)|(with_reducible apply agP)|((with_reducible apply aaF);(with_reducible exact rfl);exact rfl)|((with_reducible apply aaN);exact rfl;first|exact rfl|exact anC|exact anF)|((with_reducible apply aaL);exact rfl;exact rfl;(first|exact Lf rfl rfl|exact Lg rfl|exact So rfl rfl spine);exact spine)|((with_reducible apply aaM);exact rfl;exact rfl)|((with_reducible apply alR);exact rfl;exact rfl;(first|exact Lf rfl rfl|exact Lg rfl|exact So rfl rfl spine);exact spine)|((with_reducible apply alS);exact rfl;exact rfl)|((with_reducible apply aaJ);exact rfl;exact rfl)|((with_reducible apply aaI);exact rfl;exact rfl;exact rfl;(first|exact Lf rfl rfl|exact Lg rfl|exact So rfl rfl spine);exact spine)|((with_reducible apply aaD);exact rfl)|((with_reducible apply aaH);exact rfl;exact rfl))):names S slots=l:=h
end
theorem agZ{t0 t1:Nat→U}{h0 h1:Id→Option (Option Rows)}{vs:List (Nat×U)}(e0:ko slots ⟨n,t,h⟩=⟨n,t0,h0⟩:=by exact ag2)(hn:names ⟨n,t0,h0⟩ slots=l:=by first|exact agR|exact spine)(e1:jP (tr l) (l.map (·.1)) ⟨n,t0,h0⟩=some ⟨n,t1,h1⟩:=by exact Z6)(hd:(dV (l.map (·.1))&&dV (l.map (·.2))&&l.all (fun x=> !jU x.2||x.1==x.2))=true:=by exact rfl)(hh:pM h1 l l=some hl:=by exact hnk)(ht:nU l t1 slots=c8 (fun _=> .bB) vs:=by exact agB):norm ⟨n,t,h⟩ slots=some (dS n vs hl):=by subst hn;simp only[norm,Dx,e0,e1,GT,tA,hd,if_true,hh,Hd,ht,dS]
theorem cw{o:Option (Bool×List Nat)}{vs:List (Nat×U)}(hk:o=some (true,slots):=by exact rfl)(hm:norm ⟨n,t,h⟩ slots=some (dS n vs hl):=by exact agZ):dB o ⟨n,t,h⟩=some (dS n vs hl):=by subst hk;exact hm
end
section
variable{C:aL}{f:FuncId}{call:gd}{c:Code}{Q:Exit×ah→Prop}{n:Nat}{l:List (Nat×U)}{h:List (Id×Rows)}
theorem gl(k:W C f call c ⟨n,c8 (fun _=> .bB) l,jB h⟩ Q):W C f call c (dS n l h) Q:=k
theorem qQ{e:Exit}(k:Q (e,⟨n,c8 (fun _=> .bB) l,jB h⟩)):Q (e,dS n l h):=k
end
section
variable{α:Type}{c c':α→List U}{q:List α}{as bs:List U}{L:Id→Option (Option Rows)}{n:Nat}
/-! Freezing -/
theorem Qo [hc:yR c c']:dF (.own (q.map c) q.length)= .sl (q.map c'):=by have:gV (q.map c)=q.map c':=by{induction q with|nil=>(rfl)|cons x q ih=>simp[gV,hc.dF,ih]};simp only[dF,this];rw[Hn (by simp)]
theorem Qm{a b:U}(h:dF a=b)(k:iZ as=bs):iZ (a::as)=b::bs:=by simp[iZ,h,k]
theorem Ql(h:iZ as=bs):dF (.agg as)= .agg bs:=by simp[dF,h]
theorem Qr(h:iZ as=bs):dF (.aY as)= .aY bs:=by simp[dF,h]
theorem Qp(h:iZ as=bs):dF (.aS as)= .aA bs:=by simp[dF,h]
theorem Cj{a b:U}(h:dF a=b:=by repeat'(first|exact(rfl:dF (.val _)= .val _)|exact Qn|exact Qq|exact Qo|exact acq|exact(rfl:dF (.sl _)= .sl _)|apply Ql|apply Qr|apply Qp|exact(rfl:iZ []=[])|apply Qm|exact rfl)):dF a=b:=h
theorem acs:gV []=[]:=rfl
theorem acr{r r':List U}{rs rs':Rows}(h:iZ r=r')(k:gV rs=rs'):gV (r::rs)=r'::rs':=by simp[gV,h,k]
theorem acv{a b:Rows}(h:gV a=b:=by repeat'(first|exact acs|apply acr|exact(rfl:dF (.val _)= .val _)|exact Qn|exact Qq|exact Qo|exact acq|exact(rfl:dF (.sl _)= .sl _)|apply Ql|apply Qr|apply Qp|exact(rfl:iZ []=[])|apply Qm|exact rfl)):gV a=b:=h
theorem ai4{rows:Rows}{y:Rows×List Id}(h:dr (fI (pk L (n+1))) rows=some y):jj (pk L (n+1)) rows=some y:=aiM h
theorem abO:dr (fI (pk L n)) []=some ([],[]):=rfl
theorem abN{r r':List U}{rs rs':Rows}{i1 i2:List Id}{z:List Id}(h:fI (pk L n) r=some (r',i1))(k:dr (fI (pk L n)) rs=some (rs',i2))(hz:i1++i2=z):dr (fI (pk L n)) (r::rs)=some (r'::rs',z):=by subst hz;simp[dr,h,k]
theorem aiG{r:List U}{y:List U×List Id}(h:dQ (pk L (n+1)) r=some y):fI (pk L (n+1)) r=some y:=Hf h
theorem ai9{rows:Rows}{y:Option (Rows×List Id)}(h:jj (pk L n) rows=y:=by repeat'(first|exact aoa|apply ai4|exact abO|apply abN|exact anO|apply aiG|exact Tt|exact Ts|exact Tq|exact Tp|(apply Tr;exact rfl;exact rfl;exact rfl;(first|(with_reducible assumption)|assumption);exact qG;rotate_left;exact rfl)|(apply L0;exact rfl;exact rfl;exact rfl;(first|(with_reducible assumption)|assumption);exact uX;rotate_left;exact rfl)|exact Te|exact Tm|exact Tk|exact Tl|exact Ti|exact Th|exact aiO|exact aiJ|exact aiQ|exact Tf|exact Tj|exact aiK|exact aiI|exact wS|(apply zE;exact rfl)|(apply Td;exact rfl)|(apply Tg;exact rfl;exact rfl)|exact rfl)):jj (pk L n) rows=y:=h
end
/-! ### Memory of one's own -/
def app{α:Type}(a b:List α):Option (List α):=if a.length+b.length≤4294967296 then some (a++b)else none
theorem Fa{α:Type}{a b r:List α}(h:app a b=some r):a.length+b.length≤4294967296∧r=a++b:=by unfold app at h;split at h;·{exact⟨‹_›,by simpa using h.symm⟩};·cases h
def lS{α:Type}(n:Int)(z:α):Option (List α):=if 0≤n∧n≤4294967296 then some (Hc n.toNat z)else none
theorem Mm{α:Type}{c:α→List U}{q:List α}[hc:oa c]:qS (q.map c)=true:=by simp only[qS,H0,H1];exact fun x _=>hc.ce x
section
variable{C:aL}{f:FuncId}{call:gd}{S:ah}{g:Bool}
variable{d:Nat}{ty:TypeId}{pos:String}{aZ:Array Edge}{bx:Option (Nat×Bool)}{v v':U}
variable{x y z:Operand}{k:IntKind}{a b:Int}{T aQ:TypeId}
theorem bS{cs:List U}[hz:kS C T cs](hn:S.h [d]=none:=by exact rfl)(kn:C.vI f d=[]:=by exact rfl):bw C f call S g ⟨some d, .alloc T,ty,pos,aZ,bx⟩=some ⟨[(d, .mp [d] 0 0)],[],[([d],some [cs])]⟩:=by show sQ C f S _ T=_;simp[sQ,hz.Vg,hn,kn,vJ]
theorem qM{bb:Bool}{m:Nat}{cs:List U}[ha:cM C T bb m](hin:(C.eF f).contains d=false:=by exact rfl)(hx:un g (S.get C x)=v:=by exact gt)(hc:oh bb v=some cs:=by exact rfl)(hn:S.h [d]=none:=by exact rfl):bw C f call S g ⟨some d, .box T x,ty,pos,aZ,bx⟩=some ⟨[(d, .mp [d] 0 0)],[],[([d],some [cs])]⟩:=by show qo C f S _ T (un g (S.get C x))=_;simp only[qo,ha.jN,hx,hc,eL,hin,Kd,Ha,if_false];rw[AC (RD hn)];rfl
theorem b9{i off off' row m:Nat}{bb:Bool}{id:Id}[hf:Fd C T i off m bb](hx:un g (S.get C x)= .mp id row off':=by first|exact rfl|exact bU)(h0:Nat.blt 0 m=true:=by exact rfl):bw C f call S g ⟨some d, .fieldAddr T x i,ty,pos,aZ,bx⟩=some ⟨[(d, .mp id row (off'+off))],[],[]⟩:=by show rG C f _ T i (un g (S.get C x))=_;have h0':0<m:=of_decide_eq_true (lq h0);simp[rG,hf.fd,hx,h0']
theorem K1{bb:Bool}{m row off:Nat}{id:Id}{rows:Rows}{r cs:List U}(ha:k3 C T=some bb)(hs:hO C T=some m)(hx:un g (S.get C x)= .mp id row off)(hh:S.h id=some (some rows))(hr:rows[row]? =some r)(hl:Hb (off+m) r.length=true)(hc:bT [d] 0 ((r.drop off).take m)=(cs,[]))(hv:jd bb cs=some v):bw C f call S g ⟨some d, .load T x,ty,pos,aZ,bx⟩=some ⟨[(d,v)],[id],[]⟩:=by show lD C S _ T (un g (S.get C x))=_;rw[hx];have hl':off+m≤r.length:=Hk hl;simp only[lD,ha,hs,hh,hr,GT,AC hl',iY,hc,hv,List.isEmpty_nil,if_true,Hd];rfl
theorem K2{bb:Bool}{m row off:Nat}{id:Id}{rows:Rows}{r cs:List U}{w:Id×Option Rows}{wr:List (Id×Option Rows)}(ha:k3 C T=some bb)(hs:hO C T=some m)(hx:un g (S.get C x)= .mp id row off)(hh:S.h id=some (some rows))(hr:rows[row]? =some r)(hl:Hb (off+m) r.length=true)(hc:bT [d] 0 ((r.drop off).take m)=(cs,w::wr))(hf:fresh S.h (w::wr)=true)(hv:jd bb cs=some v):bw C f call S g ⟨some d, .load T x,ty,pos,aZ,bx⟩=some ⟨[(d,v)],[id],(id,some (rows.set row (r.take off++cs++r.drop (off+m))))::w::wr⟩:=by show lD C S _ T (un g (S.get C x))=_;rw[hx];have hl':off+m≤r.length:=Hk hl;simp only[lD,ha,hs,hh,hr,GT,AC hl',iY,hc,hv,List.isEmpty_cons,Ha,if_false,hf,if_true,Hd];rfl
theorem xW{m row off:Nat}{id:Id}{α:Type}{c:α→List U}{q:List α}{r:α}{cs:List U}(hr:q[row]? =some r)[ha:cM C T false m](hx:un g (S.get C x)= .mp id row off:=by first|exact rfl|exact bU)(hh:S.h id=some (some (q.map c)):=by exact rfl)(hm:m=1:=by exact rfl)(hv:(c r).drop off=v::cs:=by exact rfl)(hu:bT [d] 0 [v]=([v],[]):=by first|exact rfl|exact M6):bw C f call S g ⟨some d, .load T x,ty,pos,aZ,bx⟩=some ⟨[(d,v)],[id],[]⟩:=by subst hm;refine K1 (rows:=q.map c) (r:=c r) (cs:=[v]) ha.jN ha.sz hx hh (by simp[hr]) ?_ (by rw[hv];exact hu) rfl;have:=congrArg List.length hv;simp only[H2,Lk]at this;apply PH;omega
theorem bM{m off:Nat}{id:Id}{r cs:List U}[ha:cM C T false m](hx:un g (S.get C x)= .mp id 0 off:=by first|exact rfl|exact bU)(hh:S.h id=some (some [r]):=by exact rfl)(hm:m=1:=by exact rfl)(hv:r.drop off=v::cs:=by exact rfl)(hu:bT [d] 0 [v]=([v],[]):=by first|exact rfl|exact M6):bw C f call S g ⟨some d, .load T x,ty,pos,aZ,bx⟩=some ⟨[(d,v)],[id],[]⟩:=by subst hm;refine K1 (rows:=[r]) (r:=r) (cs:=[v]) ha.jN ha.sz hx hh rfl ?_ (by rw[hv];exact hu) rfl;have:=congrArg List.length hv;simp only[H2,Lk]at this;apply PH;omega
theorem pY{m off:Nat}{id:Id}{r cs cs0:List U}[ha:cM C T true m](hx:un g (S.get C x)= .mp id 0 off:=by first|exact rfl|exact bU)(hh:S.h id=some (some [r]):=by exact rfl)(hl:Hb (off+m) r.length=true:=by exact rfl)(hv:(r.drop off).take m=cs0:=by exact spine)(hu:bT [d] 0 cs0=(cs,[]):=by exact tS):bw C f call S g ⟨some d, .load T x,ty,pos,aZ,bx⟩=some ⟨[(d, .agg cs)],[id],[]⟩:=K1 (rows:=[r]) (r:=r) ha.jN ha.sz hx hh rfl hl (by rw[hv];exact hu) rfl
theorem Ln{m off:Nat}{id:Id}{r r' cs cs0:List U}{w:Id×Option Rows}{wr:List (Id×Option Rows)}[ha:cM C T false m](hx:un g (S.get C x)= .mp id 0 off:=by first|exact rfl|exact bU)(hh:S.h id=some (some [r]):=by exact rfl)(hm:m=1:=by exact rfl)(hl:Hb (off+1) r.length=true:=by exact rfl)(hv:(r.drop off).take 1=cs0:=by exact spine)(hu:bT [d] 0 cs0=(cs,w::wr):=by exact tS)(JV:cs=[v]:=by exact rfl)(hq:r.take off++cs++r.drop (off+1)=r':=by exact spine)(hf:fresh S.h (w::wr)=true:=by exact rfl):bw C f call S g ⟨some d, .load T x,ty,pos,aZ,bx⟩=some ⟨[(d,v)],[id],(id,some [r'])::w::wr⟩:=by subst hm hq;exact K2 (rows:=[r]) (r:=r) ha.jN ha.sz hx hh rfl hl (by rw[hv];exact hu) hf (by rw[JV];rfl)
theorem ahc{m off:Nat}{id:Id}{r r' cs cs0:List U}{w:Id×Option Rows}{wr:List (Id×Option Rows)}[ha:cM C T true m](hx:un g (S.get C x)= .mp id 0 off:=by first|exact rfl|exact bU)(hh:S.h id=some (some [r]):=by exact rfl)(hl:Hb (off+m) r.length=true:=by exact rfl)(hv:(r.drop off).take m=cs0:=by exact spine)(hu:bT [d] 0 cs0=(cs,w::wr):=by exact tS)(hq:r.take off++cs++r.drop (off+m)=r':=by exact spine)(hf:fresh S.h (w::wr)=true:=by exact rfl):bw C f call S g ⟨some d, .load T x,ty,pos,aZ,bx⟩=some ⟨[(d, .agg cs)],[id],(id,some [r'])::w::wr⟩:=by subst hq;exact K2 (rows:=[r]) (r:=r) ha.jN ha.sz hx hh rfl hl (by rw[hv];exact hu) hf rfl
def HB(L:List Nat):Operand→Bool| .tmp ta=>L.contains ta|_=>false
theorem Qk{a:Operand}(hin:HB (C.eF f) a=false):wU C f a=none:=by cases a with|tmp ta=>(simp only[HB]at hin;unfold wU;simp only;rw[Do (by rw[hin];simp)])|_=>rfl
theorem dh{bb:Bool}{m ta:Nat}{id:Id}{cs cs' r:List U}[ha:cM C T bb m](hin:(C.eF f).contains ta=true:=by exact rfl)(hx:un true (S.get C (.tmp ta))= .mp id 0 0:=by exact rfl)(hy:un true (S.get C y)=v:=by exact gt)(hc:oh bb v=some cs:=by exact rfl)(ck:cs.length=m:=by exact rfl)(hh:S.h id=some (some [r]):=by exact rfl)(hr:r.length=m:=by exact rfl)(hz:kH cs=cs':=by exact spine)(hi:eu cs'=true:=by exact rfl):bw C f call S true ⟨none, .store T (.tmp ta) y,ty,pos,aZ,bx⟩=some ⟨[(ta, .aA cs')],[id],[(id,none)]⟩:=by show ou C f S true _ T (.tmp ta) (un true (S.get C (.tmp ta))) (un true (S.get C y))=_;rw[hx,hy];have e:wU C f (.tmp ta)=some ta:=by{unfold wU;simp only;rw[AC hin]};subst hz;simp[ou,ha.jN,ha.sz,hc,ck,hh,hr,e,hi]
theorem aX{bb:Bool}{m off:Nat}{ao:Operand}{id:Id}{cs r r':List U}[ha:cM C T bb m](hin:HB (C.eF f) ao=false:=by exact rfl)(hx:un g (S.get C ao)= .mp id 0 off:=by exact rfl)(hy:un g (S.get C y)=v:=by exact gt)(hc:oh bb v=some cs:=by exact rfl)(ck:cs.length=m:=by exact rfl)(hh:S.h id=some (some [r]):=by exact rfl)(hl:Hb (off+m) r.length=true:=by exact rfl)(hq:r.take off++cs++r.drop (off+m)=r':=by exact spine):bw C f call S g ⟨none, .store T ao y,ty,pos,aZ,bx⟩=some ⟨[],[id],[(id,some [r'])]⟩:=by show ou C f S g _ T ao (un g (S.get C ao)) (un g (S.get C y))=_;rw[hx,hy];have hl':off+m≤r.length:=Hk hl;have e:=Qk (f:=f) hin;subst hq;simp only[ou,ha.jN,ha.sz,hc];rw[Do (by simp[ck]),hh];simp only[List.getElem?_cons_zero,GT,AC hl',e];rfl
theorem aam{e:Option Int}:oh false (iP e)=some [iP e]:=by cases e<;>rfl
theorem mB{bb:Bool}{m row off:Nat}{ao:Operand}{id:Id}{cs:List U}{α:Type}{c:α→List U}{q:List α}{r:α}(hr:q[row]? =some r)(r':α)[ha:cM C T bb m](hin:HB (C.eF f) ao=false:=by exact rfl)(hx:un g (S.get C ao)= .mp id row off:=by exact rfl)(hy:un g (S.get C y)=v:=by exact gt)(hc:oh bb v=some cs:=by first|exact rfl|exact aam)(ck:cs.length=m:=by exact rfl)(hh:S.h id=some (some (q.map c)):=by exact rfl)(hl:Hb (off+m) (c r).length=true:=by exact rfl)(hq:(c r).take off++cs++(c r).drop (off+m)=c r':=by exact rfl):bw C f call S g ⟨none, .store T ao y,ty,pos,aZ,bx⟩=some ⟨[],[id],[(id,some ((q.set row r').map c))]⟩:=by show ou C f S g _ T ao (un g (S.get C ao)) (un g (S.get C y))=_;rw[hx,hy];have hl':off+m≤(c r).length:=Hk hl;have e:=Qk (f:=f) hin;have e2:(q.map c)[row]? =some (c r):=by{simp[hr]};simp only[ou,ha.jN,ha.sz,hc];rw[Do (by simp[ck]),hh];simp only[e2,GT,AC hl',e];rw[hq,List.map_set];rfl
theorem jf{e:TypeId}{m n:Nat}{bb:Bool}{α:Type}{c:α→List U}{q:List α}{i:Int}{r:α}{id:Id}(hi:idx q i=some r)[hu:c7 C T (.slice e)][hs:cM C e bb m](hx:un g (S.get C x)= .rs id 0 n:=by first|exact rfl|exact bU)(hh:S.h id=some (some (q.map c)):=by exact rfl)(hl:n=q.length:=by exact qG)(hy:un g (S.get C y)= .val (.int k i):=by first|exact rfl|exact bU)(hr:(c r).length=m:=by exact rfl):bw C f call S g ⟨some d, .indexAddr T x y,ty,pos,aZ,bx⟩=some ⟨[(d, .mp id i.toNat 0)],[id],[]⟩:=by show mQ C S _ T (un g (S.get C x)) (eB (un g (S.get C y)))=_;have hb:=Ag hi;have hn:=gH hi;subst hl;simp only[hx,hy,eB,mQ,hu.ul,hs.sz];rw[AC hb,hh];simp[hn,hr]
section
variable{α:Type}{c:α→List U}{q q' r:List α}{id fX:Id}{e:TypeId}{m n n':Nat}{T aQ:TypeId}
abbrev y8:= @mL
theorem Oh{rx:U}{xs ys:Rows}{i1 i2:List Id}(hok:BO C e m=true)(hu:C.P.underlying T=some (.slice e))(hu1:C.P.underlying aQ=some (.slice e))(hx:un g (S.get C x)=rx)(uQ:rowsOf S.h rx=some (xs,i1))(hy:rowsOf S.h (un g (S.get C y))=some (ys,i2))(hl:ys.all (·.length==m)=true)(hcell:qS ys=true)(hlen:xs.length+ys.length≤oJ)(hn:S.h [d]=none){zw:bz}(he:y8 S ⟨some d, .call ⟨.builtin .append,⟨[x,y]⟩,⟨[T,aQ]⟩⟩,ty,pos,aZ,bx⟩ d m rx xs ys i1 i2=some zw):l8 C S ⟨some d, .call ⟨.builtin .append,⟨[x,y]⟩,⟨[T,aQ]⟩⟩,ty,pos,aZ,bx⟩ ⟨[T,aQ]⟩ ([x,y].map fun x=>un g (S.get C x))=some zw:=by unfold BO at hok;split at hok;·{rename_i inf J7;simp only[GE,beq_iff_eq,decide_eq_true_eq]at hok;obtain⟨⟨⟨k1,k2⟩,dG⟩,iK⟩:=hok;subst k1;have e1:(#[T,aQ]:Array TypeId)[0]? =some T:=rfl;have e2:(#[T,aQ]:Array TypeId)[1]? =some aQ:=rfl;simp only[IH,List.map_nil,l8,e1,e2,GT,hu1,y9,hu,J7,hx,uQ,hy];rw[AC (by simp only[GE,decide_eq_true_eq];exact⟨⟨⟨⟨⟨⟨hl,k2⟩,dG⟩,iK⟩,hlen⟩,hcell⟩,by rw[hn];rfl⟩)];unfold y8 at he;exact he};·cases hok
theorem Og{rx:U}{xs ys:Rows}{i1 i2:List Id}(hok:BO C e m=true)(hu:C.P.underlying T=some (.slice e))(hu1:C.P.underlying aQ=some (.slice e))(hx:un g (S.get C x)=rx)(uQ:rowsOf S.h rx=some (xs,i1))(hy:rowsOf S.h (un g (S.get C y))=some (ys,i2))(hl:ys.all (·.length==m)=true)(hcell:qS ys=true)(hlen:xs.length+ys.length≤oJ)(hn:S.h [d]=none)(hfz:(C.eF f).contains d=false){zw:bz}(he:y8 S ⟨some d, .call ⟨.builtin .append,⟨[x,y]⟩,⟨[T,aQ]⟩⟩,ty,pos,aZ,bx⟩ d m rx xs ys i1 i2=some zw):bw C f call S g ⟨some d, .call ⟨.builtin .append,⟨[x,y]⟩,⟨[T,aQ]⟩⟩,ty,pos,aZ,bx⟩=some zw:=by show(l8 C S _ _ ([x,y].map fun x=>un g (S.get C x))).bind (qs C f _)=_;have key:l8 C S ⟨some d, .call ⟨.builtin .append,⟨[x,y]⟩,⟨[T,aQ]⟩⟩,ty,pos,aZ,bx⟩ ⟨[T,aQ]⟩ ([x,y].map fun x=>un g (S.get C x))=some zw:=Oh hok hu hu1 hx uQ hy hl hcell hlen hn he;rw[key];simp only[GT,qs,eL,hfz,Ha,if_false]
theorem Ub{L:Id→Option (Option Rows)}(hh:L id=some (some (q.map c))):rowsOf L (.rs id 0 q.length)=some (q.map c,[id]):=by show(match L id with|some (some rs)=>if 0+q.length≤rs.length then some ((rs.drop 0).take q.length,[id])else none|_=>none)=_;rw[hh];simp only;rw[AC (by simp),H3,Hn (by simp)]
theorem k6(hr:app q q'=some r)[hu:c7 C T (.slice e)][hu1:c7 C aQ (.slice e)][hok:oY C e m](hx:un g (S.get C x)= .rs id 0 n:=by exact rfl)(hh:S.h id=some (some (q.map c)):=by exact rfl)(hlen:n=q.length:=by exact qG)(hy:un g (S.get C y)= .sl (q'.map c):=by exact rfl)(hl:∀x,(c x).length=m:=by exact fun _=>rfl)(hcell:qS (q'.map c)=true:=by first|exact Mm|exact rfl)(hn:S.h [d]=none:=by exact rfl)(hfz:(C.eF f).contains d=false:=by exact rfl):bw C f call S g ⟨some d, .call ⟨.builtin .append,⟨[x,y]⟩,⟨[T,aQ]⟩⟩,ty,pos,aZ,bx⟩=some ⟨[(d, .rs [d] 0 r.length)],[id],[(id,none),([d],some (r.map c))]⟩:=by obtain⟨h1,rfl⟩:=Fa hr;subst hlen;refine Og hok.ao hu.ul hu1.ul hx (Ub hh) (by rw[hy];rfl) (wh hl) hcell (by simpa[oJ]using h1) hn hfz ?_;simp only[y8,mL,hh];rw[AC (by simp only[GE];refine⟨⟨wh hl,by simp⟩, ?_⟩;cases q<;>simp)];simp[put,PP]
theorem Sv [adN:oa c](hr:app q q'=some r)[hu:c7 C T (.slice e)][hu1:c7 C aQ (.slice e)][hok:oY C e m](hx:un g (S.get C x)= .rs id 0 n:=by exact rfl)(hh:S.h id=some (some (q.map c)):=by exact rfl)(hlen:n=q.length:=by exact qG)(hy:un g (S.get C y)= .sl (q'.map c):=by exact rfl)(hl:∀x,(c x).length=m:=by exact fun _=>rfl)(hcell:qS (q'.map c)=true:=by first|exact Mm|exact rfl)(hn:S.h [d]=none:=by exact rfl)(hfz:(C.eF f).contains d=true:=by exact rfl):bw C f call S g ⟨some d, .call ⟨.builtin .append,⟨[x,y]⟩,⟨[T,aQ]⟩⟩,ty,pos,aZ,bx⟩=some ⟨[(d, .sl (r.map c))],[id],[(id,none),([d],none)]⟩:=by obtain⟨h1,rfl⟩:=Fa hr;subst hlen;show(l8 C S _ _ ([x,y].map fun x=>un g (S.get C x))).bind (qs C f _)=_;have key:l8 C S ⟨some d, .call ⟨.builtin .append,⟨[x,y]⟩,⟨[T,aQ]⟩⟩,ty,pos,aZ,bx⟩ ⟨[T,aQ]⟩ ([x,y].map fun x=>un g (S.get C x))=some ⟨[(d, .rs [d] 0 (q++q').length)],[id],[(id,none),([d],some ((q++q').map c))]⟩:=by{refine Oh hok.ao hu.ul hu1.ul hx (Ub hh) (by rw[hy];rfl) (wh hl) hcell (by simpa[oJ]using h1) hn ?_;simp only[y8,mL,hh];rw[AC (by simp only[GE];refine⟨⟨wh hl,by simp⟩, ?_⟩;cases q<;>simp)];simp[put,PP]};have hi:iJ ((q++q').map c)=true:=by{simp only[iJ,H0,H1];exact fun x _=>adN.im x};rw[key];simp only[GT,qs,eL,hfz,if_true,hi,and_self,put]
end
theorem DA{e:TypeId}{m:Nat}{α:Type}{c:α→List U}{cX:α}{fB:List U}{nn:Int}{r:List α}(hr:lS nn cX=some r)(KE:c cX=fB)[hu:c7 C T (.slice e)][hok:oY C e m][hz:kS C e fB](hx:un g (S.get C x)= .val (.int k nn):=by exact rfl)(hy:un g (S.get C y)= .val (.int k nn):=by exact rfl)(hzl:fB.length=m:=by exact rfl)(hn:S.h [d]=none:=by exact rfl):bw C f call S g ⟨some d, .makeSlice T x y,ty,pos,aZ,bx⟩=some ⟨[(d, .rs [d] 0 r.length)],[],[([d],some (r.map c))]⟩:=by show sU C S _ T (un g (S.get C x)) (un g (S.get C y))=_;unfold lS at hr;split at hr;·{rename_i hp;obtain rfl:Hc nn.toNat cX=r:=by{simpa using hr};have hok:=hok.ao;unfold BO at hok;split at hok;·{rename_i inf J7;simp only[Bool.and_eq_true,beq_iff_eq,decide_eq_true_eq]at hok;obtain⟨⟨⟨k1,k2⟩,dG⟩,iK⟩:=hok;simp only[hx,hy,sU,hu.ul,eB,hz.Vg,J7];rw[AC (by simp only[Bool.and_eq_true,decide_eq_true_eq];exact⟨⟨⟨⟨by omega,by omega⟩,dG⟩,by omega⟩,by rw[hn];rfl⟩)];simp[put,KE]};·cases hok};·cases hr
theorem Ov{e:TypeId}{bb:Bool}{m len:Nat}{fB:List U}{ps:List (Nat×U)}{rows:Rows}(hu:C.P.underlying T=some (.slice e))(hz:yL C e=some fB)(ha:k3 C e=some bb)(hs:hO C e=some m)(h0:(decide (0<m)&&decide (m=fB.length)&&decide (len*m≤1000))=true)(hf:rK m bb (Hc len fB) ps=some rows):ze C T len ps=some rows:=by simp only[ze,hu,hz,ha,hs,h0,if_true,hf]
theorem fH{e:TypeId}{bb:Bool}{m len:Nat}{fB:List U}{p:List (Nat×Operand)}{ps:List (Nat×U)}{rows br:Rows}[hu:c7 C T (.slice e)][hz:jt C e fB][ha:cM C e bb m](hin:(C.eF f).contains d=true:=by exact rfl)(h0:(decide (0<m)&&decide (m=fB.length)&&decide (len*m≤1000))=true:=by exact rfl)(hq:(p.map fun p=>(p.1,un g (S.get C p.2)))=ps:=by exact DX)(hf:rK m bb (Hc len fB) ps=some rows:=by exact rfl)(uT:rows.map kH=br:=by exact spine)(hi:iJ br=true:=by exact rfl):bw C f call S g ⟨some d, .buildSlice T len ⟨p⟩,ty,pos,aZ,bx⟩=some ⟨[(d, .sl br)],[],[]⟩:=by show oo C f S _ T len (p.map fun p=>(p.1,un g (S.get C p.2)))=_;rw[hq];have hb:=Ov hu.ul hz.fB ha.jN ha.sz h0 hf;unfold oo;rw[Do (by simp[Fi,hb,uT,hi])];simp only[sR,hu.ul,hz.fB,ha.jN,ha.sz,h0,if_true,hf,eL,hin,uT,hi,Bool.and_self];rfl
theorem tC{e:TypeId}{bb:Bool}{m len:Nat}{fB:List U}{p:List (Nat×Operand)}{ps:List (Nat×U)}{rows br:Rows}[hu:c7 C T (.slice e)][hz:jt C e fB][ha:cM C e bb m](hin:(C.eF f).contains d=false:=by exact rfl)(h0:(decide (0<m)&&decide (m=fB.length)&&decide (len*m≤1000))=true:=by exact rfl)(hq:(p.map fun p=>(p.1,un g (S.get C p.2)))=ps:=by exact DX)(hf:rK m bb (Hc len fB) ps=some rows:=by exact rfl)(hs:rows=br:=by exact spine)(hn:S.h [d]=none:=by exact rfl):bw C f call S g ⟨some d, .buildSlice T len ⟨p⟩,ty,pos,aZ,bx⟩=some ⟨[(d, .rs [d] 0 len)],[],[([d],some br)]⟩:=by show oo C f S _ T len (p.map fun p=>(p.1,un g (S.get C p.2)))=_;subst hs;rw[hq];unfold oo;rw[Do (by simp[Fi,eL];intro h;simp[h]at hin)];simp only[sR,hu.ul,hz.fB,ha.jN,ha.sz,h0,if_true,hf,eL,hin,Kd,Ha,if_false];rw[AC (RD hn)];rfl
theorem ag7{e:TypeId}{bb:Bool}{m len:Nat}{fB:List U}{p:List (Nat×Operand)}{ps:List (Nat×U)}{rows br Ur:Rows}{ids:List Id}{wr:List (Id×Option Rows)}[hu:c7 C T (.slice e)][hz:jt C e fB][ha:cM C e bb m](hin:(C.eF f).contains d=true:=by exact rfl)(h0:(decide (0<m)&&decide (m=fB.length)&&decide (len*m≤1000))=true:=by exact rfl)(hq:(p.map fun p=>(p.1,un g (S.get C p.2)))=ps:=by exact DX)(hf:rK m bb (Hc len fB) ps=some rows:=by exact rfl)(hi:iJ (rows.map kH)=false:=by exact rfl)(hp:jj (pk S.h 8) rows=some (br,ids):=by exact ai9)(hn:dV ids=true:=by exact rfl)(uT:gV br=Ur:=by exact acv)(hw:ids.map (fun i=>(i,none))=wr:=by exact spine):bw C f call S g ⟨some d, .buildSlice T len ⟨p⟩,ty,pos,aZ,bx⟩=some ⟨[(d, .sl Ur)],ids,wr⟩:=by show oo C f S _ T len (p.map fun p=>(p.1,un g (S.get C p.2)))=_;rw[hq];have hb:=Ov hu.ul hz.fB ha.jN ha.sz h0 hf;subst uT hw;unfold oo;rw[AC (by simp only[Fi,eL,hin,hb,hi];rfl)];simp only[zy,hb,hp,hn,if_true];rfl
/-! ### Calls -/
section
variable{L:Id→Option (Option Rows)}{n m:Nat}{α:Type}{c c':α→List U}{q:List α}{id:Id}{as bs cs cs':List U}{is i2:List Id}{x u:U}
theorem OE{a:U}(h:fA a=true):cj L (n+1) a=some (a,[]):=by cases a with|agg cs=>(simp only[fA]at h;simp[cj,gx,h])|aY cs=>(simp only[fA]at h;simp[cj,gx,h])|fn k a b=>(simp only[fA,GE]at h;simp[cj,gx,h])|_=>first|rfl|simp[fA]at h
theorem OD{w:Value}(hx:x= .val w:=by exact rfl):cj L (n+1) x=some (.val w,[]):=by rw[hx];rfl
theorem OC{r:Rows}(hx:x= .sl r:=by exact rfl):cj L (n+1) x=some (.sl r,[]):=by rw[hx];rfl
theorem Zr(hx:x= .cz:=by exact rfl):cj L (n+1) x=some (.sl [],[]):=by rw[hx];rfl
theorem Ow{t:TypeId}{e:dA}(hx:x=gN t e:=by first|exact rfl|exact HE):cj L (n+1) x=some (gN t e,[]):=by rw[hx];exact OE (abc e)
theorem Zo(hx:x=u:=by exact gt)(hi:fA u=true:=by exact rfl):cj L (n+1) x=some (u,[]):=by rw[hx];exact OE hi
theorem Zw [hc:oa c](hx:x= .rs id 0 m:=by exact rfl)(hh:L id=some (some (q.map c)):=by exact rfl)(hl:m=q.length:=by exact qG):cj L (n+1) x=some (.sl (q.map c),[id]):=by subst hx hl;have hi':iJ (q.map c)=true:=by{simp only[iJ,H0,H1];exact fun x _=>hc.im x};have e:((q.map c).drop 0).take q.length=q.map c:=by{rw[H3,Hn (by simp)]};have e0:cj L (n+1) (.rs id 0 q.length)=match L id with|some (some rs)=>if 0+q.length≤rs.length then(lu (cj L n) ((rs.drop 0).take q.length)).map fun x=>(.sl x.1,id::x.2)else none|_=>none:=rfl;rw[e0,hh];simp only;rw[AC (by simp),e];simp[lu,hi']
theorem Zq(hx:x= .mp id 0 0)(hh:L id=some (some [cs]))(hi:eu cs=false)(h:dQ (cj L n) cs=some (cs',is)):cj L (n+1) x=some (.aA cs',id::is):=by subst hx;have e0:cj L (n+1) (.mp id 0 0)=match L id with|some (some rs)=>(match rs[0]? with|some r=>if 0≤r.length then(gx (cj L n) (r.drop 0)).map fun x=>(.aA x.1,id::x.2)else none|none=>none)|_=>none:=rfl;rw[e0,hh];simp[gx,hi,h]
theorem Oy{rows:Rows}(hx:x= .ey rows:=by exact rfl):cj L (n+1) x=some (.im rows,[]):=by subst hx;rfl
theorem Zj(hx:x= .agg cs)(hi:eu cs=false)(h:dQ (cj L n) cs=some (cs',is)):cj L (n+1) x=some (.agg cs',is):=by subst hx;simp[cj,gx,hi,h]
theorem Ox [hc:oa c](hx:x= .own (q.map c) q.length:=by exact rfl):cj L (n+1) x=some (.sl (q.map c),[]):=by have hi':iJ (q.map c)=true:=by{simp only[iJ,H0,H1];exact fun x _=>hc.im x};subst hx;simp only[cj];rw[Hn (by simp)];simp[lu,hi']
end
/-! ### Borrowing lists whose elements own memory -/
class yN{α:Type}(c:α→List U)(c':outParam (α→List U)):Prop where cj:∀L n x,dQ (cj L (n+2)) (c x)=some (c' x,[])Sm:∀x,eu (c x)=false
section
variable{L:Id→Option (Option Rows)}{n m:Nat}{α:Type}{c c':α→List U}{q:List α}{k:Nat}{x x':α}{r r':List U}{id:Id}{ids:List Id}{v:U}
theorem Zl [hb:yN c c'](x:α):gx (cj L (n+2)) (c x)=some (c' x,[]):=by simp[gx,hb.Sm,hb.cj]
theorem P9 [hb:yN c c']:∀q:List α,dr (gx (cj L (n+2))) (q.map c)=some (q.map c',[])|[]=>rfl|x::q=>by simp[dr,Zl (c:=c) (c':=c') x,P9 q]
theorem OA [hb:yN c c'](q:List α):lu (cj L (n+2)) (q.map c)=some (q.map c',[]):=by unfold lu;cases q with|nil=>(simp[iJ])|cons x q=>rw[Do (by simp[iJ,hb.Sm])];exact P9 _
theorem Zx [hb:yN c c'](hx:v= .rs id 0 m:=by exact rfl)(hh:L id=some (some (q.map c)):=by exact rfl)(hm:m≤q.length:=by exact uX):cj L (n+3) v=some (.sl ((q.take m).map c'),[id]):=by subst hx;have e:cj L (n+3) (.rs id 0 m)=match L id with|some (some rs)=>if 0+m≤rs.length then(lu (cj L (n+2)) ((rs.drop 0).take m)).map fun x=>(.sl x.1,id::x.2)else none|_=>none:=rfl;rw[e,hh];simp only[Ix,Nat.zero_add,AC hm,H3];rw[←PQ,OA];rfl
theorem Zs [hb:yN c c'](hx:v= .own (q.map c) m:=by exact rfl):cj L (n+3) v=some (.sl ((q.take m).map c'),[]):=by subst hx;have e:cj L (n+3) (.own (q.map c) m)=(lu (cj L (n+2)) ((q.map c).take m)).map fun x=>(.sl x.1,x.2):=rfl;rw[e,←PQ,OA];rfl
end
section
variable{α:Type}{c c':α→List U}{q:List α}{L:Id→Option (Option Rows)}{n:Nat}{id:Id}{as bs cs cs':List U}{x:U}{is i2:List Id}
theorem Zk:gx (cj L n) []=some ([],[]):=by simp[gx,eu]
theorem Zm{cs cs':List U}{is:List Id}(hi:eu cs=false)(h:dQ (cj L n) cs=some (cs',is)):gx (cj L n) cs=some (cs',is):=by simp[gx,hi,h]
theorem Zn{k:Fn}{as bs as' bs':List U}{i1 i2:List Id}(hx:x= .fn k as bs)(h1:gx (cj L n) as=some (as',i1))(h2:gx (cj L n) bs=some (bs',i2)):cj L (n+1) x=some (.fn k as' bs',i1++i2):=by subst hx;simp[cj,h1,h2]
theorem II{y:Option (U×List Id)}(h:cj L n x=y:=by repeat'(first|exact OD|exact Zk|exact alz|(apply Zm;exact rfl)|exact Ow|exact Zv|exact OC|exact Zw|exact alF|exact alI|exact Zx|(apply alG;exact rfl;exact rfl;exact rfl;(first|(with_reducible assumption)|assumption);exact qG;exact inferInstance;rotate_left;exact rfl)|(apply alH;exact rfl;exact rfl;exact rfl;(first|(with_reducible assumption)|assumption);exact uX;exact inferInstance;rotate_left;exact rfl)|exact Zo|exact Zu|exact Zr|exact alA|exact alE|exact Ox|exact alD|exact Zt|exact Zs|exact alC|exact alB|exact Oy|exact Zp|exact wS|(apply zE;exact rfl)|(apply Zj;exact rfl;exact rfl)|(apply Zq;exact rfl;exact rfl;exact rfl)|(apply Zn;exact rfl))):cj L n x=y:=h
theorem abK{p:U→Option (U×List Id)}{cs as bs:List U}{a b:U}(hx:cs=a::as)(h:p a=some (b,[]))(k:dQ p as=some (bs,[])):dQ p cs=some (b::bs,[]):=by subst hx;simp[dQ,h,k]
theorem Zy{cs cs':List U}(h:dQ (cj L n) cs=some (cs',[]):=by repeat'(first|exact wS|(apply abK;exact rfl)|exact OD|exact Ow|exact Zv|exact OC|exact Zu|exact Ox|exact Zt|exact Oy|exact Zp)):dQ (cj L n) cs=some (cs',[]):=h
theorem Zg(h:as=[]:=by exact rfl):rz L as=some ([],[]):=by subst h;rfl
theorem Zf{a b:U}{z:List Id}(ha:cs=a::as)(h1:cj L 9 a=some (b,is))(h2:rz L as=some (bs,i2))(hz:is++i2=z):rz L cs=some (b::bs,z):=by subst ha hz;unfold rz at*;simp[dQ,h1,h2]
theorem blk{y:Option (List U×List Id)}(h:rz L as=y:=by repeat'(first|exact Zg|(apply Zf;exact rfl;exact II)|exact rfl)):rz L as=y:=h
theorem akv{ms:List Nat}(h:as=[]:=by exact rfl):j4 L ms as=some ([],[],[],[]):=by subst h;cases ms<;>rfl
section
variable{ms:List Nat}{a b b':U}{i s t z:List Id}
theorem aku{u:List Id}(ha:cs=a::as)(h:pk L 9 a=some (b,i))(k:j4 L ms as=some (bs,s,t,z))(hu:i++t=u):j4 L (1::ms) cs=some (b::bs,s,u,z):=by subst ha hu;simp[j4,k,h]
theorem akw{u:List Id}(ha:cs=a::as)(h:cj L 9 a=some (b,i))(k:j4 L ms as=some (bs,s,t,z))(hu:i++s=u):j4 L (0::ms) cs=some (b::bs,u,t,z):=by subst ha hu;simp[j4,k,h]
end
theorem UI{ms:List Nat}{y:Option (List U×List Id×List Id×List Id)}(h:j4 L ms as=y:=by repeat'(first|exact akv|(apply aku;exact rfl;exact mE)|(apply akw;exact rfl;exact II)|(apply aoY;exact rfl;exact mE;exact Cj)|(apply aoZ;exact rfl;exact II)|exact rfl)):j4 L ms as=y:=h
/-! Nothing from elsewhere -/
end
section
variable{cN:Operand}{ts:Array TypeId}{dx:FuncId}{as bs cs args:List U}{seen:List Id}{r:U}{wr:List (Id×Option Rows)}{xs:Array Operand}
theorem FY(hfo:un g (S.get C cN)= .fn (.func dx) as bs)(dZ:C.gW dx=false):nK C (un g (S.get C cN))=none:=by rw[hfo];simp[nK,dZ]
theorem Fz{d':Option Tmp}(h:nK C (un g (S.get C cN))=none):bw C f call S g ⟨d', .call ⟨.value cN,xs,ts⟩,ty,pos,aZ,bx⟩=(match pathOf C cN with|some p=>uy S ⟨d', .call ⟨.value cN,xs,ts⟩,ty,pos,aZ,bx⟩ p (xs.toList.map fun x=>un g (S.get C x))|none=>if yy C cN then(match(generalizing:=false)cN with| .func k=>rC C f call S ⟨d', .call ⟨.value cN,xs,ts⟩,ty,pos,aZ,bx⟩ k (xs.toList.map fun x=>un g (S.get C x))|_=>none)else qj C f call S ⟨d', .call ⟨.value cN,xs,ts⟩,ty,pos,aZ,bx⟩ (un g (S.get C cN)) (xs.toList.map fun x=>un g (S.get C x))):=by show(match nK C (un g (S.get C cN))with|some x=>qk C f call S _ x.1 (x.2.1++(xs.toList.map fun x=>un g (S.get C x))++x.2.2)|none=>_)=_;rw[h];first|rfl|(cases cN<;>rfl)
theorem cn(hc:call dx args=some (r,[]))(hfo:un g (S.get C cN)= .fn (.func dx) as bs:=by exact rfl)(hb:rz S.h (as++(xs.toList.map fun x=>un g (S.get C x))++bs)=some (args,seen):=by exact blk)(hm:(seen.isEmpty||mine r)=true:=by first|exact rfl|exact K9)(hz:(C.eF f).contains d=false:=by exact rfl)(hi:imp [d] r=(v',wr):=by exact xD)(hf:fresh S.h wr=true:=by exact rfl)(ht:yy C cN=false:=by exact rfl)(mX:pathOf C cN=none:=by exact rfl)(hlk:C.look dx=false:=by exact rfl)(dZ:C.gW dx=false:=by exact rfl):bw C f call S g ⟨some d, .call ⟨.value cN,xs,ts⟩,ty,pos,aZ,bx⟩=some ⟨[(d,v')],seen,wr⟩:=by rw[Fz (FY hfo dZ)];rw[mX];simp only;rw[ht];simp only[Ha,if_false];rw[hfo];simp only[qj,hlk,hb,hc,eL,hz,Ha,if_false];rw[Do (by cases seen with|nil=>(simp)|cons a l=>simp at hm;simp[hm]),hi];simp only[hf,if_true];rfl
theorem bH(hc:call dx args=some (r,[]))(hfo:un g (S.get C cN)= .fn (.func dx) as bs:=by exact rfl)(hb:rz S.h (as++(xs.toList.map fun x=>un g (S.get C x))++bs)=some (args,seen):=by exact blk)(hm:(seen.isEmpty||mine r)=true:=by first|exact rfl|exact K9)(hz:(C.eF f).contains d=true:=by exact rfl)(hv:dF r=v:=by exact Cj)(hi:imp [d] v=(v',wr):=by exact xD)(hf:fresh S.h wr=true:=by exact rfl)(ht:yy C cN=false:=by exact rfl)(mX:pathOf C cN=none:=by exact rfl)(hlk:C.look dx=false:=by exact rfl)(dZ:C.gW dx=false:=by exact rfl):bw C f call S g ⟨some d, .call ⟨.value cN,xs,ts⟩,ty,pos,aZ,bx⟩=some ⟨[(d,v')],seen,wr⟩:=by rw[Fz (FY hfo dZ)];rw[mX];simp only;rw[ht];simp only[Ha,if_false];rw[hfo];simp only[qj,hlk,Ha,if_false,hb,hc,eL,hz,if_true,hv];rw[Do (by cases seen with|nil=>(simp)|cons a l=>simp at hm;simp[hm]),hi];simp only[hf,if_true];rfl
theorem OK{ms cA:List Nat}{outs:List U}{tk dz:List Id}{back:List (Id×Option Rows)}{j5:List (Id×Option Rows)}(hm:C.xR dx=ms)(hm0:ms.isEmpty=false)(hle:C.cA dx=cA)(ht:j4 S.h ms (xs.toList.map fun x=>un g (S.get C x))=some (args,seen,tk,dz))(hc:call dx args=some (r,outs))(hv:(if eL C f (some d)then dF r else r)=v)(hb:hJ S.h (xs.toList.map fun x=>un g (S.get C x)) cA outs=some back)(h1:(dV (tk++dz)&&sN seen (tk++dz))=true)(h2:(seen.isEmpty||mine r&&outs.all mine)=true)(h3:(dV (back.map (·.1))&&(back.all fun x=>tk.contains x.1))=true)(hi:imp [d] v=(v',j5))(hf:fresh S.h j5=true)(hw:j5++(back++(tk++dz).map fun i=>(i,none))=wr)(mX:C.path dx=none)(dZ:C.gW dx=false:=by exact rfl):bw C f call S g ⟨some d, .call ⟨.value (.func dx),xs,ts⟩,ty,pos,aZ,bx⟩=some ⟨[(d,v')],seen,wr⟩:=by rw[Fz (FY (as:=[]) (bs:=[]) rfl dZ)];simp only[pathOf,mX];have e0:yy C (.func dx)=true:=by{simp[yy,hm,hm0]};subst hw hm hle hv;rw[e0,AC rfl];unfold rC;simp only[ht,hc,hb,hi];simp only[GE]at h1 h3;rw[AC (by simp only[GE];exact⟨⟨⟨⟨⟨h1.1,h1.2⟩,h2⟩,h3.1⟩,h3.2⟩,hf⟩)];rfl
end
end
end Go.Ab
