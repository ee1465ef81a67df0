import Derived.Test.YtbbhbdlljfffdaaGreatDoorAbV2
open Bool renaming and_eq_true→AC,false_eq_true→GE,false_and→H5
open List renaming replicate→Hc,foldl→Hd,take_of_length_le→Hk,all_map→Hm,all_eq_true→Hn,length_drop→H0,drop_zero→H1,map_cons→H2,length_set→H3,length_map→H4,length_cons→IH,map_append→Ix,map_take→Kd
open Nat renaming ble→GT,le_of_ble_eq_true→Hb,ble_eq_true_of_le→If
open Option renaming bind_some→Do,map_some→Ha
set_option linter.all false
namespace Go.Ab
open Go
theorem Zu{t:TypeId}(e:dm):ff (gC t e)=true:=by cases e<;>rfl
theorem aaB{t:TypeId}{e:dm}:dJ (gC t e)=gC t e:=by cases e<;>rfl
theorem Qt{t:TypeId}{e:dm}{p:Id}:imp p (gC t e)=(gC t e,[]):=by cases e<;>rfl
theorem adO{t:TypeId}{e:dm}{p:Id}{j:Nat}:eT p j [gC t e]=([gC t e],[]):=by cases e<;>rfl
/-! ### Owned cells become objects -/
section
variable{α:Type}{c:α→List U}{q:List α}{p:Id}{j:Nat}{l l0 l':List U}{v v':U}{wr:List (Id×Option Rows)}{rows:Rows}
theorem ajt:bM p j []=([],[]):=rfl
theorem ajr(hl:l=v::l0)(hv:bM p j [v]=([v],[]))(k:bM p (j+1) l0=(l',wr)):bM p j l=(v::l',wr):=by subst hl;cases v<;>simp_all[bM]
theorem aju{m:Nat}(hl:l= .own (q.map c) m::l0)(k:bM p (j+1) l0=(l',wr)):bM p j l=(.rs (j::p) 0 m::l',(j::p,some (q.map c))::wr):=by subst hl;simp[bM,k]
theorem ajs(hl:l= .ep rows::l0)(k:bM p (j+1) l0=(l',wr)):bM p j l=(.mr (j::p)::l',(j::p,some rows)::wr):=by subst hl;simp[bM,k]
theorem tv(h:bM p j l=(l',wr):=by repeat'(first|exact ajt|(apply ajr;exact rfl;(first|exact rfl|exact aod|exact Ty))|(apply aju;exact rfl)|(apply aoe;exact rfl)|(apply ajs;exact rfl))):bM p j l=(l',wr):=h
theorem adU{m:Nat}:imp p (.own (q.map c) m)=(.rs p 0 m,[(p,some (q.map c))]):=by simp[imp]
theorem adT(h:bM p 0 l=(l',wr)):imp p (.agg l)=(.agg l',wr):=by simp[imp,h]
theorem adV(h:bM p 0 l=(l',wr)):imp p (.aU l)=(.mp p 0 0,(p,some [l'])::wr):=by simp[imp,h]
theorem adQ:eT p j []=([],[]):=rfl
theorem adP(hl:l=v::l0)(hv:eT p j [v]=([v],[]))(k:eT p (j+1) l0=(l',wr)):eT p j l=(v::l',wr):=by subst hl;cases v with|own rows m=>(simp[eT]at hv)|aU cells=>(simp[eT]at hv)|ep rows=>(simp[eT]at hv)|agg cs=>(simp only[eT,List.append_nil,Prod.mk.injEq,List.cons.injEq,U.agg.injEq,and_true]at hv;simp[eT,k,hv.1,hv.2])|aT vs=>(simp[eT]at hv)|_=>simp[eT,k]
theorem adN{w1 w2:List (Id×Option Rows)}{a a':List U}(hl:l= .agg a::l0)(h:bM (j::p) 0 a=(a',w1))(k:eT p (j+1) l0=(l',w2)):eT p j l=(.agg a'::l',w1++w2):=by subst hl;simp[eT,k,h]
theorem adX(h:eT p 0 l=(l',wr)):imp p (.aT l)=(.aT l',wr):=by simp[imp,h]
theorem wZ(h:imp p v=(v',wr):=by first|exact(rfl:imp _ (.val _)=(.val _,[]))|exact(rfl:imp _ (.sl _)=(.sl _,[]))|exact Qt|exact adW|exact adU|exact alK|exact alL|(apply adT;exact tv)|(apply adV;exact tv)|(apply adX;repeat'(first|exact adQ|(apply adP;exact rfl;(first|exact rfl|exact adO|exact alJ))|(apply alI;exact rfl)|(apply alH;exact rfl)|(apply adN;exact rfl;exact tv)))|exact rfl):imp p v=(v',wr):=h
theorem ae1{n:Nat}{vs:List U}:aO n [] vs=⟨n,fun _=> .bp,fun _=>none⟩:=rfl
theorem ae0{n s:Nat}{t:Nat→U}{h:Id→Option (Option Rows)}{l:List Nat}{vs:List U}(hi:imp [s] v=(v,[]))(k:aO n l vs=⟨n,t,h⟩):aO n (s::l) (v::vs)=⟨n,ak t s v,h⟩:=by simp[aO,k,hi,bk]
theorem aeZ{n s:Nat}{t:Nat→U}{h:Id→Option (Option Rows)}{l:List Nat}{vs:List U}(hi:imp [s] v=(v',wr))(k:aO n l vs=⟨n,t,h⟩):aO n (s::l) (v::vs)=⟨n,ak t s v',bk h wr⟩:=by simp[aO,k,hi]
theorem FC{n:Nat}{t:Nat→U}{h:Id→Option (Option Rows)}{l:List Nat}{vs:List U}(k:aO n l vs=⟨n,t,h⟩:=by repeat'(first|exact ae1|(apply ae0;first|exact rfl|exact Qt|exact adW)|(apply aeZ;exact wZ))):aO n l vs=⟨n,t,h⟩:=k
end
section
variable{C:aF}{f:FuncId}{call:fO}{c:Code}{Q:Exit×ah→Prop}{n:Nat}{t:Nat→U}{h:Id→Option (Option Rows)}{l:List Nat}{vs:List U}
theorem mk(k:W C f call c ⟨n,t,h⟩ Q)(hm:aO n l vs=⟨n,t,h⟩:=by exact FC):W C f call c (aO n l vs) Q:=by rw[hm];exact k
theorem gx{e:Exit}(k:Q (e,⟨n,t,h⟩))(hm:aO n l vs=⟨n,t,h⟩:=by exact FC):Q (e,aO n l vs):=by rw[hm];exact k
end
/-! ### Packing -/
def N6{α:Type}(a b:List α):List α:=b.take (min b.length a.length)++a.drop (min b.length a.length)
theorem A6{α:Type}(a b:List α):(N6 a b).length=a.length:=by unfold N6;rw[List.length_append,List.length_take,H0];omega
section
variable{L:Id→Option (Option Rows)}{n:Nat}{α:Type}{c:α→List U}{q:List α}{id:Id}{cs cs':List U}{ids is:List Id}{x v:U}
theorem nT [hc:iH c](q:List α):ef (q.map c)=true:=ZZ c q hc.fl
theorem uG{m m':Nat}(h:m=m':=by first|exact rfl|exact List.length_map _|(first|(with_reducible assumption)|assumption)|(symm;(first|(with_reducible assumption)|assumption))|(simp only[List.length_map,List.length_set,A6];done)|(simp only[List.length_map,List.length_set,A6];first|(first|(with_reducible assumption)|assumption)|(symm;(first|(with_reducible assumption)|assumption)))|(simp only[List.length_map,List.length_set,A6, *];done)):m=m':=h
theorem ahn{y:U×List Id}:∀{a:U},flat a=true→pk L (n+1) a=some y→y=(a,[]):=by intro a hf h;cases a with|agg cs=>(simp only[flat]at hf;simp[pk,gY,hf]at h;exact h.symm)|aT cs=>(simp only[flat]at hf;simp[pk,gY,hf]at h;exact h.symm)|own rs m=>(simp only[flat]at hf;simp[pk,hf]at h;exact h.symm)|aU cs=>(simp only[flat]at hf;simp[pk,hf]at h;exact h.symm)|fn k a b=>(simp only[pk]at h;split at h;·{simpa using h.symm};·cases h)|rs _ _ _=>(simp[flat]at hf)|mp _ _ _=>(simp[flat]at hf)|mr _=>(simp[flat]at hf)|c8 _ _=>(simp[flat]at hf)|cu=>(simp[flat]at hf)|_=>simp[pk]at h;exact h.symm
theorem O7:∀{cs:List U}{y:List U×List Id},cK cs=true→dN (pk L (n+1)) cs=some y→y=(cs,[])|[],y,_,h=>by{simp[dN]at h;exact h.symm}|c::cs,y,hf,h=>by simp only[cK,AC]at hf;simp only[dN,Option.bind_eq_some_iff,Option.map_eq_some_iff]at h;obtain⟨u,hu,v,hv,rfl⟩:=h;obtain rfl:=ahn hf.1 hu;obtain rfl:=O7 hf.2 hv;rfl
theorem Lc{y:List U×List Id}(h:dN (pk L (n+1)) cs=some y):gY (pk L (n+1)) cs=some y:=by unfold gY;split;·{rename_i hf;rw[O7 hf h]};·exact h
theorem ahm{w:Value}(hx:x= .val w:=by exact rfl):pk L (n+1) x=some (.val w,[]):=by rw[hx];rfl
theorem ahl{r:Rows}(hx:x= .sl r:=by exact rfl):pk L (n+1) x=some (.sl r,[]):=by rw[hx];rfl
theorem ahf{r:List U}(hx:x= .aI r:=by exact rfl):pk L (n+1) x=some (.aI r,[]):=by rw[hx];rfl
theorem ag7{t:TypeId}{e:dm}(hx:x=gC t e:=by first|exact rfl|exact Gy):pk L (n+1) x=some (gC t e,[]):=by rw[hx];cases e<;>rfl
theorem ahd(hx:x= .cu:=by exact rfl):pk L (n+1) x=some (.own [] 0,[]):=by rw[hx];rfl
theorem ahi{m:Nat}[hc:iH c](hx:x= .rs id 0 m:=by exact rfl)(hh:L id=some (some (q.map c)):=by exact rfl)(hl:m=q.length:=by exact uG):pk L (n+1) x=some (.own (q.map c) q.length,[id]):=by rw[hx,hl];exact R9 hh (by simp) (nT q)
theorem ahg{m:Nat}[hc:iH c](hl:m≤q.length)(hx:x= .rs id 0 m:=by exact rfl)(hh:L id=some (some (q.map c)):=by exact rfl):pk L (n+1) x=some (.own (q.map c) m,[id]):=by rw[hx];exact R9 hh (by simpa using hl) (nT q)
theorem ahe{m:Nat}[hc:iH c](hx:x= .own (q.map c) m:=by exact rfl):pk L (n+1) x=some (.own (q.map c) m,[]):=by rw[hx];simp[pk,nT]
theorem ag6(hx:x= .agg cs:=by exact rfl)(hf:cK cs=true:=by exact rfl):pk L (n+1) x=some (.agg cs,[]):=by rw[hx];simp[pk,gY,hf]
theorem ag5(hx:x= .agg cs)(h:dN (pk L (n+1)) cs=some (cs',ids)):pk L (n+2) x=some (.agg cs',ids):=by rw[hx,show pk L (n+2) (.agg cs)=(gY (pk L (n+1)) cs).map fun x=>(.agg x.1,x.2)from rfl,Lc h];rfl
theorem ahb(hx:x= .mp id 0 0:=by exact rfl)(hh:L id=some (some [cs]):=by exact rfl)(hf:cK cs=true:=by exact rfl):pk L (n+1) x=some (.aU cs,[id]):=by rw[hx];simp[pk,gY,hh,hf]
theorem ag9(hx:x= .mp id 0 0)(hh:L id=some (some [cs]))(h:dN (pk L (n+1)) cs=some (cs',ids)):pk L (n+2) x=some (.aU cs',id::ids):=by have e:pk L (n+2) (.mp id 0 0)=match L id with|some (some [cs])=>if 0=0∧0=0 then(gY (pk L (n+1)) cs).map fun x=>(.aU x.1,id::x.2)else none|_=>none:=rfl;rw[hx,e,hh];simp only[and_self,if_true,Lc h];rfl
theorem aha{TQ:α}[hc:iH c](hx:x= .mp id 0 0:=by exact rfl)(hh:L id=some (some [c TQ]):=by exact rfl):pk L (n+1) x=some (.aU (c TQ),[id]):=by rw[hx];simp[pk,gY,hh,hc.fl]
theorem ahc{rows:Rows}(hx:x= .mr id:=by exact rfl)(hh:L id=some (some rows):=by exact rfl):pk L (n+1) x=some (.ep rows,[id]):=by rw[hx];simp[pk,hh]
theorem ag8{k:Fn}{a b:List U}(hx:x= .fn k a b:=by exact rfl)(hf:(ew a&&ew b)=true:=by exact rfl):pk L (n+1) x=some (.fn k a b,[]):=by rw[hx];simp only[AC]at hf;simp[pk,hf.1,hf.2]
theorem yM{p:U→Option (U×List Id)}(hx:cs=[]:=by exact rfl):dN p cs=some ([],[]):=by rw[hx];rfl
theorem Bl{p:U→Option (U×List Id)}{a b:U}{as bs:List U}{i1 i2:List Id}(hx:cs=a::as)(h:p a=some (b,i1))(k:dN p as=some (bs,i2)):dN p cs=some (b::bs,i1++i2):=by subst hx;simp[dN,h,k]
theorem ahq{t:Nat→U}:jN L t []=some ([],[]):=rfl
theorem ahp{t:Nat→U}{s:Nat}{sl:List Nat}{vs:List U}(h1:pk L 9 (t s)=some (v,ids))(h2:jN L t sl=some (vs,is)):jN L t (s::sl)=some (v::vs,ids++is):=by rw[ag3,h1,Do,h2];rfl
end
/-! ### One row of a list, open -/
section
variable{α:Type}{c c':α→List U}{q:List α}{k:Nat}{x x':α}{r r':List U}
theorem Gl(h:q[k]? =some x):(q.map c)[k]? =some (c x):=by simp[h]
theorem Ta:(q.map c).set k r=(q.map c).set k r:=rfl
theorem LJ:((q.map c).set k r).set k r'=(q.map c).set k r':=List.set_set ..
theorem aiu:(q.map c).set k (c x)=(q.set k x).map c:=by rw[List.map_set]
theorem Pb{p:List U→Option (List U×List Id)}{ids:List Id}(hp:∀y,p (c y)=some (c y,[]))(hr:p r=some (r',ids)):∀{q:List α}{k:Nat}{x:α},q[k]? =some x→dO p ((q.map c).set k r)=some ((q.map c).set k r',ids)|[],k,x,h=>by{simp at h}|y::q,0,x,h=>by{have key:∀q:List α,dO p (q.map c)=some (q.map c,[]):=by{intro q;induction q with|nil=>(rfl)|cons z q ih=>simp[dO,hp,ih]};simp[dO,hr,key]}|y::q,k+1,x,h=>by have ih:=Pb hp hr (q:=q) (k:=k) (x:=x) (by simpa using h);simp only[H2,List.set_cons_succ,dO,hp,Do,ih,Ha,List.nil_append]
theorem O0(hf:cK r=false):∀{q:List α}{k:Nat}{x:α},q[k]? =some x→ef ((q.map c).set k r)=false|[],k,x,h=>by{simp at h}|y::q,0,x,h=>by{simp[ef,hf]}|y::q,k+1,x,h=>by have ih:=O0 hf (q:=q) (k:=k) (x:=x) (by simpa using h);simp[ef,ih]
end
/-! ### Packing -/
section
variable{L:Id→Option (Option Rows)}{n m:Nat}{α:Type}{c c':α→List U}{q:List α}{k:Nat}{x x':α}{r r':List U}{id:Id}{ids:List Id}{v:U}
theorem xd{a b:Nat}(h:a≤b:=by first|exact Nat.le_refl _|(first|(with_reducible assumption)|assumption)|(simp only[List.length_set,A6];first|exact Nat.le_refl _|(first|(with_reducible assumption)|assumption))|(simp only[List.length_set,A6];omega)):a≤b:=h
theorem R8 [hc:iH c](hx:v= .rs id 0 m)(hh:L id=some (some ((q.map c).set k r)))(hf:cK r=false)(hk:q[k]? =some x)(hm:m≤q.length)(hr:dN (pk L (n+1)) r=some (r',ids))(hr':r'=c x'):pk L (n+2) v=some (.own ((q.set k x').map c) m,id::ids):=by subst hr';rw[hx];have e:pk L (n+2) (.rs id 0 m)=match L id with|some (some rs)=>if 0=0∧m≤rs.length then(lO (pk L (n+1)) rs).map fun x=>(.own x.1 m,id::x.2)else none|_=>none:=rfl;rw[e,hh];simp only[H3,H4,true_and,if_pos hm];have h2:lO (pk L (n+1)) ((q.map c).set k r)=some ((q.map c).set k (c x'),ids):=by{unfold lO;rw[if_neg (by rw[O0 hf hk];simp)];exact Pb (fun y=>by simp[gY,hc.fl]) (Lc hr) hk};rw[h2,aiu];rfl
theorem ahk [hc:iH c](hx:v= .rs id 0 m)(hh:L id=some (some ((q.map c).set k r)))(hf:cK r=false)(hk:q[k]? =some x)(hm:m=q.length)(hr:dN (pk L (n+1)) r=some (r',ids))(hr':r'=c x'):pk L (n+2) v=some (.own ((q.set k x').map c) (q.set k x').length,id::ids):=by rw[H3,←hm];exact R8 hx hh hf hk (by omega) hr hr'
theorem ahj{rows bh:Rows}(hx:v= .rs id 0 m)(hh:L id=some (some rows))(hm:GT m rows.length=true)(hf:ef rows=false)(hr:dO (gY (pk L n)) rows=some (bh,ids)):pk L (n+1) v=some (.own bh m,id::ids):=by rw[hx];have e:pk L (n+1) (.rs id 0 m)=match L id with|some (some rs)=>if 0=0∧m≤rs.length then(lO (pk L n) rs).map fun x=>(.own x.1 m,id::x.2)else none|_=>none:=rfl;rw[e,hh];have hm':m≤rows.length:=Hb hm;simp only[true_and,if_pos hm',lO,hf,GE,if_false,hr,Ha]
theorem ahw{p:List U→Option (List U×List Id)}{rows:Rows}(e:rows=[]:=by exact rfl):dO p rows=some ([],[]):=by subst e;rfl
theorem ahv{p:List U→Option (List U×List Id)}{rows rs rs':Rows}{i1 i2:List Id}(e:rows=r::rs)(h1:p r=some (r',i1))(h2:dO p rs=some (rs',i2)):dO p rows=some (r'::rs',i1++i2):=by subst e;simp[dO,h1,h2]
theorem ahh [hc:iH c](hx:v= .rs id 0 m:=by exact rfl)(hh:L id=some (some (q.map c)):=by exact rfl)(hm:m≤q.length:=by exact xd):pk L (n+1) v=some (.own (q.map c) m,[id]):=ahg hm hx hh
end
section
variable{L:Id→Option (Option Rows)}{n:Nat}{α:Type}{c:α→List U}{q:List α}{id:Id}{cs cs':List U}{ids is:List Id}{x v:U}
theorem mh{a:U}{y:Option (U×List Id)}(h:pk L n a=y:=by repeat'(first|exact ahm|exact ag7|exact amk|exact amh|exact ahl|exact ahi|exact ahh|(apply ahk;exact rfl;exact rfl;exact rfl;(first|(with_reducible assumption)|assumption);exact uG;rotate_left;exact rfl)|(apply R8;exact rfl;exact rfl;exact rfl;(first|(with_reducible assumption)|assumption);exact xd;rotate_left;exact rfl)|exact ag6|exact ahf|exact ahd|exact ahe|exact ahb|exact aha|exact aml|exact ami|exact amn|exact ag8|exact ahc|exact amj|exact amg|exact yM|(apply Bl;exact rfl)|(apply ag5;exact rfl)|(apply ag9;exact rfl;exact rfl)|(apply amm;exact rfl)|(apply ahj;exact rfl;exact rfl;exact rfl;exact rfl)|exact ahw|(apply ahv;exact rfl)|exact ame|(apply amf;exact rfl))):pk L n a=y:=h
theorem Ga{t:Nat→U}{sl:List Nat}{y:Option (List U×List Id)}(h:jN L t sl=y:=by repeat'(first|exact ahq|(apply ahp;exact mh))):jN L t sl=y:=h
theorem au{o:Option (Bool×List Nat)}{slots:List Nat}{t:Nat→U}{vs:List U}(hk:o=some (false,slots):=by exact rfl)(hp:jN L t slots=some (vs,is):=by exact Ga)(hn:dQ is=true:=by exact rfl):dn o ⟨n,t,L⟩=some (aO n slots vs):=by subst hk;show(jv ⟨n,t,L⟩ slots).map _=_;rw[ahW,hp];simp[hn]
end
/-! ### The same with names kept -/
section
variable{n:Nat}{t t2:Nat→U}{h:Id→Option (Option Rows)}{slots r:List Nat}{l:List (Id×Id)}{hl y:List (Id×Rows)}{α:Type}{c:α→List U}{q:List α}
def dR(n:Nat)(l:List (Nat×U))(h:List (Id×Rows)):ah:=⟨n,cT (fun _=> .bp) l,jq h⟩
/-! Rows that are flat, cell by cell. -/
theorem OW{α:Type}{c:α→List U}{q:List α}{m:Nat}[hc:iH c]:flat (.own (q.map c) m)=true:=by simp[flat,nT]
theorem OT{r cs:List U}{a:U}(e:r=a::cs)(h1:flat a=true)(h2:cK cs=true):cK r=true:=by subst e;simp[cK,h1,h2]
theorem ZQ{rows:Rows}(e:rows=[]:=by exact rfl):ef rows=true:=by subst e;rfl
theorem ZR{rows rs:Rows}{r:List U}(e:rows=r::rs)(h1:cK r=true)(h2:ef rs=true):ef rows=true:=by subst e;simp[ef,h1,h2]
theorem Ia{rows:Rows}(k:ef rows=true:=by(repeat'(first|exact nT _|exact ZQ|(apply ZR;exact rfl)|exact ZO|(apply OT;exact rfl)|exact rfl|exact ZL|exact ZP|exact OW));first|done|fail):ef rows=true:=k
theorem ae3:ny l t []=cT (fun _=> .bp) []:=rfl
theorem ae2{s:Nat}{v':U}{vs:List (Nat×U)}(he:eY l (t s)=v')(hr:ny l t r=cT (fun _=> .bp) vs):ny l t (s::r)=cT (fun _=> .bp) ((s,v')::vs):=by subst he;simp[ny,hr,cT]
theorem Lx [hc:iH c]:mm l (q.map c)=some (q.map c):=by simp[mm,nT]
theorem Lz{cs cs':List U}(hf:cK cs=false:=by exact rfl)(h:pF l cs=some cs':=by first|exact rfl|exact amI):mm l [cs]=some [cs']:=by simp[mm,ef,hf,Ad,h]
theorem Ly{rows:Rows}(hf:ef rows=true:=by first|exact rfl|exact Ia):mm l rows=some rows:=by simp[mm,hf]
end
section
variable{l:List (Id×Id)}{α:Type}{c:α→List U}{q:List α}{k:Nat}{x x':α}{r r':List U}
theorem ahT{a:U}(h:flat a=true):uY l a=some a:=by cases a with|fn k as cs=>(simp only[uY];rw[if_pos (by simpa[flat]using h)])|rs _ _ _=>(simp[flat]at h)|mp _ _ _=>(simp[flat]at h)|mr _=>(simp[flat]at h)|cu=>(simp[flat]at h)|_=>simp only[uY,z7];rw[if_pos h]
theorem Da:∀{as:List U},cK as=true→pF l as=some as|[],_=>rfl|a::as,h=>by simp only[cK,AC]at h;simp[pF,ahT h.1,Da h.2]
end
section
variable{n:Nat}{t t2:Nat→U}{h:Id→Option (Option Rows)}{slots r:List Nat}{l:List (Id×Id)}{hl y:List (Id×Rows)}{α:Type}{c:α→List U}{q:List α}
theorem acZ{L:Id→Option (Option Rows)}:oY L l []=some []:=rfl
theorem acY{L:Id→Option (Option Rows)}{r:List (Id×Id)}{o k:Id}{rows bh:Rows}(h:L o=some (some rows))(hr:mm l rows=some bh)(hy:oY L l r=some y):oY L l ((o,k)::r)=some ((k,bh)::y):=by simp[oY,h,hr,hy]
theorem hnk{L:Id→Option (Option Rows)}{r:List (Id×Id)}(h:oY L l r=some y:=by repeat'(first|exact acZ|(apply acY;exact rfl;first|exact Lx|exact amP rfl|exact amR (by(first|(with_reducible assumption)|assumption))|exact Lz|exact Ly))):oY L l r=some y:=h
theorem ae4{vs:List (Nat×U)}(h:ny l t slots=cT (fun _=> .bp) vs:=by repeat'(first|exact ae3|(apply ae2;first|exact rfl|exact amQ))):ny l t slots=cT (fun _=> .bp) vs:=h
def ad5:U→Bool| .cu=>true|_=>false
theorem Ro{y:ah}(e:(⟨n,t,h⟩:ah)=y:=by exact rfl):ki [] ⟨n,t,h⟩=y:=e
theorem afu{s:Nat}{sl:List Nat}{y:ah}(hs:ad5 (t s)=false)(k:ki sl ⟨n,t,h⟩=y):ki (s::sl) ⟨n,t,h⟩=y:=by have e:qp ⟨n,t,h⟩ s=⟨n,t,h⟩:=by{simp only[qp];split;·{rename_i h1 _;rw[h1]at hs;cases hs};·rfl};rw[ki,e];exact k
theorem aft{s:Nat}{sl:List Nat}{y:ah}(hs:t s= .cu)(hh:h [s,s]=none)(k:ki sl ⟨n,ak t s (.rs [s,s] 0 0),ak h [s,s] (some (some []))⟩=y):ki (s::sl) ⟨n,t,h⟩=y:=by have e:qp ⟨n,t,h⟩ s=⟨n,ak t s (.rs [s,s] 0 0),ak h [s,s] (some (some []))⟩:=by{simp only[qp,hs,hh]};rw[ki,e];exact k
theorem afv{y:ah}(k:ki slots ⟨n,t,h⟩=y:=by repeat'(first|with_reducible exact Ro|(apply afu;first|exact rfl|exact alV|exact alW)|(apply aft;exact rfl;exact rfl)|exact Ro)):ki slots ⟨n,t,h⟩=y:=k
section
variable{keep:Id→Bool}{o:Id}{ol:List Id}{y0:Option ah}{rows bh:Rows}{ids:List Id}{r r':List U}{k:Nat}
theorem Yo{α:Type}{g:α→Id}{y0:Option ah}(e:some (⟨n,t,h⟩:ah)=y0:=by exact rfl):jC keep (List.map g []) ⟨n,t,h⟩=y0:=e
theorem afa(e:(dQ ids&& !ids.contains o)=true):(dQ ids&& !ids.contains o)=true:=e
theorem Ym(hh:h o=some (some rows))(hf:ef rows=true)(k:jC keep ol ⟨n,t,h⟩=y0):jC keep (o::ol) ⟨n,t,h⟩=y0:=by have e:p0 keep ⟨n,t,h⟩ o=some ⟨n,t,h⟩:=by{simp only[p0,hh,hf,if_true]};rw[jC,e];exact k
theorem Ys(hh:h o=some (some rows))(hf:ef rows=false)(hc:dO (lz h keep) rows=some (bh,ids))(hn:(dQ ids&& !ids.contains o)=true)(k:jC keep ol ⟨n,t,bk h ((o,some bh)::ids.map fun i=>(i,none))⟩=y0):jC keep (o::ol) ⟨n,t,h⟩=y0:=by have e:p0 keep ⟨n,t,h⟩ o=some ⟨n,t,bk h ((o,some bh)::ids.map fun i=>(i,none))⟩:=by{simp only[p0,hh,hf,hc,hn,if_true];rfl};rw[jC,e];exact k
theorem Oa(hf:cK r=false:=by exact rfl)(hc:dN (gL h keep) r=some (r',ids)):lz h keep r=some (r',ids):=by simp[lz,hf,hc]
theorem O5{p:List U→Option (List U×List Id)}(e:rows=[]:=by exact rfl):dO p rows=some ([],[]):=by subst e;rfl
theorem O6{p:List U→Option (List U×List Id)}{rs:Rows}{i1 i2:List Id}(e:rows=r::rs)(h1:p r=some (r',i1))(h2:dO p rs=some (bh,i2)):dO p rows=some (r'::bh,i1++i2):=by subst e;simp[dO,h1,h2]
theorem HB{i:Id}{off len:Nat}{x:U}(hx:x= .rs i off len:=by exact rfl)(hk:keep i=true:=by exact rfl):gL h keep x=some (.rs i off len,[]):=by subst hx;simp[gL,hk]
theorem HC{i:Id}{row off:Nat}{x:U}(hx:x= .mp i row off:=by exact rfl)(hk:keep i=true:=by exact rfl):gL h keep x=some (.mp i row off,[]):=by subst hx;simp[gL,hk]
theorem HE{i:Id}{off len:Nat}{x x':U}(hx:x= .rs i off len:=by exact rfl)(hk:keep i=false:=by exact rfl)(hp:pk h 8 (.rs i off len)=some (x',ids)):gL h keep x=some (x',ids):=by subst hx;simp[gL,hk,hp]
theorem HD{x:U}(hx:x= .cu:=by exact rfl):gL h keep x=some (.own [] 0,[]):=by subst hx;rfl
theorem J9:∀{l:List U},cK l=true→zB keep l=true|[],_=>rfl|a::l,hf=>by simp only[cK,AC]at hf;simp only[zB,List.all_cons,AC];refine⟨?_,J9 hf.2⟩;cases a<;>first|exact hf.1|(simp[flat]at hf)
theorem A2{x:U}(hf:flat x=true):gL h keep x=some (x,[]):=by cases x with|fn k as cs=>(simp only[flat,AC]at hf;simp only[gL];rw[if_pos (by simp[J9 hf.1,J9 hf.2])])|rs _ _ _=>(simp[flat]at hf)|mp _ _ _=>(simp[flat]at hf)|mr _=>(simp[flat]at hf)|cu=>(simp[flat]at hf)|_=>simp only[gL];rw[if_pos hf]
end
section
variable{α:Type}{c:α→List U}{q:List α}{k:Nat}{x x':α}{r r':List U}{ids:List Id}{keep:Id→Bool}{o:Id}{ol:List Id}{y0:Option ah}
end
theorem Yu{keep:Id→Bool}{ol:List Id}{y0:Option ah}(k:jC keep ol ⟨n,t,h⟩=y0:=by repeat'(first|with_reducible exact akc|with_reducible exact Yo|(apply Ym;exact rfl;first|exact nT _|exact rfl|exact Ia)|(apply akd;exact rfl;exact rfl;(first|(with_reducible assumption)|assumption);exact inferInstance)|(apply Ys;exact rfl;exact rfl)|exact O5|(apply O6;exact rfl)|exact YO|(apply Oa;exact rfl)|exact HB|exact HC|exact NS|exact HD|(apply NU;exact rfl;exact rfl;exact mh)|(apply HE;exact rfl;exact rfl;exact mh)|(apply NT;exact rfl;exact rfl;exact mh)|(apply A2;first|exact rfl|exact OU|exact OX|exact OV)|exact NR|exact yM|(apply Bl;exact rfl)|exact afa rfl)):jC keep ol ⟨n,t,h⟩=y0:=k
/-! Names, one by one. -/
def QW:U→Bool| .fn _ as cs=> !(cK as&&cK cs)| .rs _ _ _=>true| .mp _ _ _=>true| .mr _=>true| .agg _=>true|_=>false
section
variable{L:Id→Option (Option Rows)}{m j:Nat}{p i:Id}{acc acc' nM y l:List (Id×Id)}{a:U}{as cs dX:List U}{S:ah}{s:Nat}{slots:List Nat}
theorem YX(hx:dX=[])(e:acc=y):e8 L m p j acc dX=y:=by subst hx;cases m<;>exact e
theorem Y5(hx:dX=a::as)(hs:QW a=false)(k:e8 L m p (j+1) acc as=y):e8 L (m+1) p j acc dX=y:=by subst hx;cases a with|fn f xs cs=>(simp only[QW,Bool.not_eq_false']at hs;simp only[e8,if_pos hs];exact k)|_=>first|exact k|cases hs
theorem Kx{i q:Id}(h:jI i=false)(h2:jI q=false):rK i q=q:=by simp[rK,h,h2]
theorem Ky{i q:Id}(h:jI i=true):rK i q=i:=by simp[rK,h]
variable{nm:Id}
theorem Y3{o n:Nat}(hx:dX= .rs i o n::as)(hn:(fU acc i).isSome=false)(hm:rK i (j::p)=nm)(hl:acc++[(i,nm)]=acc')(k:e8 L m p (j+1) acc' as=y):e8 L (m+1) p j acc dX=y:=by subst hx hl hm;simp only[e8,hn];exact k
theorem Y4{o n:Nat}(hx:dX= .rs i o n::as)(hn:(fU acc i).isSome=true)(k:e8 L m p (j+1) acc as=y):e8 L (m+1) p j acc dX=y:=by subst hx;simp only[e8,hn];exact k
theorem Y0{o n:Nat}(hx:dX= .mp i o n::as)(hn:(fU acc i).isSome=false)(hh:L i=some (some [cs]))(hm:rK i (j::p)=nm)(hl:acc++[(i,nm)]=acc')(h1:e8 L m (j::p) 0 acc' cs=nM)(k:e8 L m p (j+1) nM as=y):e8 L (m+1) p j acc dX=y:=by subst hx hl h1 hm;simp only[e8,hn,hh];exact k
theorem Y1{o n:Nat}(hx:dX= .mp i o n::as)(hn:(fU acc i).isSome=true)(k:e8 L m p (j+1) acc as=y):e8 L (m+1) p j acc dX=y:=by subst hx;simp only[e8,hn];exact k
theorem YV(hx:dX= .agg cs::as)(h1:e8 L m (j::p) 0 acc cs=nM)(k:e8 L m p (j+1) nM as=y):e8 L (m+1) p j acc dX=y:=by subst hx h1;simp only[e8];exact k
theorem YZ{f:Fn}{xs:List U}(hx:dX= .fn f xs cs::as)(hf:(cK xs&&cK cs)=false)(h1:e8 L m (j::p) 0 acc (xs++cs)=nM)(k:e8 L m p (j+1) nM as=y):e8 L (m+1) p j acc dX=y:=by subst hx h1;simp only[e8,hf];exact k
theorem afj(e:acc=l):Hd (fun acc s=>e8 S.h 40 [s] 0 acc [S.t s]) acc []=l:=e
theorem afi(h:e8 S.h 40 [s] 0 acc [S.t s]=acc')(k:Hd (fun acc s=>e8 S.h 40 [s] 0 acc [S.t s]) acc' slots=l):Hd (fun acc s=>e8 S.h 40 [s] 0 acc [S.t s]) acc (s::slots)=l:=by subst h;exact k
theorem afh{Td:List Nat}(hs:slots=Td)(h:Hd (fun acc s=>e8 S.h 40 [s] 0 acc [S.t s]) [] Td=l):names S slots=l:=by subst hs;exact h
theorem afk(h:names S slots=l:=by((with_reducible apply afh);exact spine);repeat'(first|((with_reducible apply afj);exact rfl)|(with_reducible apply afi)|((with_reducible apply YX);(with_reducible exact rfl);exact rfl)|((with_reducible apply Y5);exact rfl;first|exact rfl|exact al1|exact al4)|((with_reducible apply Y3);exact rfl;exact rfl;(first|exact Kx rfl rfl|exact Ky rfl|exact Rn rfl rfl spine);exact spine)|((with_reducible apply Y4);exact rfl;exact rfl)|((with_reducible apply aki);exact rfl;exact rfl;(first|exact Kx rfl rfl|exact Ky rfl|exact Rn rfl rfl spine);exact spine)|((with_reducible apply akj);exact rfl;exact rfl)|((with_reducible apply Y1);exact rfl;exact rfl)|((with_reducible apply Y0);exact rfl;exact rfl;exact rfl;(first|exact Kx rfl rfl|exact Ky rfl|exact Rn rfl rfl spine);exact spine)|((with_reducible apply YV);exact rfl)|((with_reducible apply YZ);exact rfl;exact rfl))):names S slots=l:=h
end
theorem afs{t0 t1:Nat→U}{h0 h1:Id→Option (Option Rows)}{vs:List (Nat×U)}(e0:ki slots ⟨n,t,h⟩=⟨n,t0,h0⟩:=by exact afv)(hn:names ⟨n,t0,h0⟩ slots=l:=by first|exact afk|exact spine)(e1:jC (s3 l) (l.map (·.1)) ⟨n,t0,h0⟩=some ⟨n,t1,h1⟩:=by exact Yu)(hd:(dQ (l.map (·.1))&&dQ (l.map (·.2))&&l.all (fun x=> !jI x.2||x.1==x.2))=true:=by exact rfl)(hh:oY h1 l l=some hl:=by exact hnk)(ht:ny l t1 slots=cT (fun _=> .bp) vs:=by exact ae4):norm ⟨n,t,h⟩ slots=some (dR n vs hl):=by subst hn;simp only[norm,CI,e0,e1,Do,s7,hd,if_true,hh,Ha,ht,dR]
theorem cv{o:Option (Bool×List Nat)}{vs:List (Nat×U)}(hk:o=some (true,slots):=by exact rfl)(hm:norm ⟨n,t,h⟩ slots=some (dR n vs hl):=by exact afs):dn o ⟨n,t,h⟩=some (dR n vs hl):=by subst hk;exact hm
end
section
variable{C:aF}{f:FuncId}{call:fO}{c:Code}{Q:Exit×ah→Prop}{n:Nat}{l:List (Nat×U)}{h:List (Id×Rows)}
theorem gA(k:W C f call c ⟨n,cT (fun _=> .bp) l,jq h⟩ Q):W C f call c (dR n l h) Q:=k
theorem qy{e:Exit}(k:Q (e,⟨n,cT (fun _=> .bp) l,jq h⟩)):Q (e,dR n l h):=k
end
section
variable{α:Type}{c c':α→List U}{q:List α}{as bs:List U}{L:Id→Option (Option Rows)}{n:Nat}
/-! Freezing -/
theorem aaG [hc:DM c c']:dJ (.own (q.map c) q.length)= .sl (q.map c'):=by have:j5 (q.map c)=q.map c':=by{induction q with|nil=>(rfl)|cons x q ih=>simp[j5,hc.dJ,ih]};simp only[dJ,this];rw[Hk (by simp)]
theorem aaA{a b:U}(h:dJ a=b)(k:jE as=bs):jE (a::as)=b::bs:=by simp[jE,h,k]
theorem aaz(h:jE as=bs):dJ (.agg as)= .agg bs:=by simp[dJ,h]
theorem aaI(h:jE as=bs):dJ (.aT as)= .aT bs:=by simp[dJ,h]
theorem aaH(h:jE as=bs):dJ (.aU as)= .aI bs:=by simp[dJ,h]
theorem Br{a b:U}(h:dJ a=b:=by repeat'(first|exact(rfl:dJ (.val _)= .val _)|exact aaB|exact akY|exact aaG|exact akX|exact(rfl:dJ (.sl _)= .sl _)|apply aaz|apply aaI|apply aaH|exact(rfl:jE []=[])|apply aaA|exact rfl)):dJ a=b:=h
end
/-! ### Memory of one's own -/
def app{α:Type}(a b:List α):Option (List α):=if a.length+b.length≤4294967296 then some (a++b)else none
theorem Ea{α:Type}{a b r:List α}(h:app a b=some r):a.length+b.length≤4294967296∧r=a++b:=by unfold app at h;split at h;·{exact⟨‹_›,by simpa using h.symm⟩};·cases h
def nA{α:Type}(n:Int)(z:α):Option (List α):=if 0≤n∧n≤4294967296 then some (Hc n.toNat z)else none
theorem LB{α:Type}{c:α→List U}{q:List α}[hc:pS c]:qz (q.map c)=true:=by simp only[qz,Hm,Hn];exact fun x _=>hc.ce x
section
variable{C:aF}{f:FuncId}{call:fO}{S:ah}{g:Bool}
variable{d:Nat}{ty:TypeId}{pos:String}{aV:Array Edge}{bD:Option (Nat×Bool)}{v v':U}
variable{x y z:Operand}{k:IntKind}{a b:Int}{T an:TypeId}
theorem cz{cs:List U}[hz:oJ C T cs](hn:S.h [d]=none:=by exact rfl)(j9:C.vo f d=[]:=by exact rfl):bC C f call S g ⟨some d, .alloc T,ty,pos,aV,bD⟩=some ⟨[(d, .mp [d] 0 0)],[],[([d],some [cs])]⟩:=by show sy C f S _ T=_;simp[sy,hz.TW,hn,j9,vp]
theorem qt{bb:Bool}{m:Nat}{cs:List U}[ha:cR C T bb m](hin:(C.eD f).contains d=false:=by exact rfl)(hx:un g (S.get C x)=v:=by exact gt)(hc:oO bb v=some cs:=by exact rfl)(hn:S.h [d]=none:=by exact rfl):bC C f call S g ⟨some d, .box T x,ty,pos,aV,bD⟩=some ⟨[(d, .mp [d] 0 0)],[],[([d],some [cs])]⟩:=by show p6 C f S _ T (un g (S.get C x))=_;simp only[p6,ha.jZ,hx,hc,eK,hin,H5,GE,if_false];rw[if_pos (Qy hn)];rfl
theorem bB{i off off' row m:Nat}{bb:Bool}{id:Id}[hf:Fd C T i off m bb](hx:un g (S.get C x)= .mp id row off':=by first|exact rfl|exact ck)(h0:Nat.blt 0 m=true:=by exact rfl):bC C f call S g ⟨some d, .fieldAddr T x i,ty,pos,aV,bD⟩=some ⟨[(d, .mp id row (off'+off))],[],[]⟩:=by show tT C f _ T i (un g (S.get C x))=_;have h0':0<m:=of_decide_eq_true (lU h0);simp[tT,hf.fd,hx,h0']
theorem Kf{bb:Bool}{m row off:Nat}{id:Id}{rows:Rows}{r cs:List U}(ha:kV C T=some bb)(hs:gQ C T=some m)(hx:un g (S.get C x)= .mp id row off)(hh:S.h id=some (some rows))(hr:rows[row]? =some r)(hl:GT (off+m) r.length=true)(hc:bM [d] 0 ((r.drop off).take m)=(cs,[]))(hv:iR bb cs=some v):bC C f call S g ⟨some d, .load T x,ty,pos,aV,bD⟩=some ⟨[(d,v)],[id],[]⟩:=by show lB C S _ T (un g (S.get C x))=_;rw[hx];have hl':off+m≤r.length:=Hb hl;simp only[lB,ha,hs,hh,hr,Do,if_pos hl',iL,hc,hv,List.isEmpty_nil,if_true,Ha];rfl
theorem Kg{bb:Bool}{m row off:Nat}{id:Id}{rows:Rows}{r cs:List U}{w:Id×Option Rows}{wr:List (Id×Option Rows)}(ha:kV C T=some bb)(hs:gQ C T=some m)(hx:un g (S.get C x)= .mp id row off)(hh:S.h id=some (some rows))(hr:rows[row]? =some r)(hl:GT (off+m) r.length=true)(hc:bM [d] 0 ((r.drop off).take m)=(cs,w::wr))(hf:fresh S.h (w::wr)=true)(hv:iR bb cs=some v):bC C f call S g ⟨some d, .load T x,ty,pos,aV,bD⟩=some ⟨[(d,v)],[id],(id,some (rows.set row (r.take off++cs++r.drop (off+m))))::w::wr⟩:=by show lB C S _ T (un g (S.get C x))=_;rw[hx];have hl':off+m≤r.length:=Hb hl;simp only[lB,ha,hs,hh,hr,Do,if_pos hl',iL,hc,hv,List.isEmpty_cons,GE,if_false,hf,if_true,Ha];rfl
theorem zP{m row off:Nat}{id:Id}{α:Type}{c:α→List U}{q:List α}{r:α}{cs:List U}(hr:q[row]? =some r)[ha:cR C T false m](hx:un g (S.get C x)= .mp id row off:=by first|exact rfl|exact ck)(hh:S.h id=some (some (q.map c)):=by exact rfl)(hm:m=1:=by exact rfl)(hv:(c r).drop off=v::cs:=by exact rfl)(hu:bM [d] 0 [v]=([v],[]):=by first|exact rfl|exact Ty):bC C f call S g ⟨some d, .load T x,ty,pos,aV,bD⟩=some ⟨[(d,v)],[id],[]⟩:=by subst hm;refine Kf (rows:=q.map c) (r:=c r) (cs:=[v]) ha.jZ ha.sz hx hh (by simp[hr]) ?_ (by rw[hv];exact hu) rfl;have:=congrArg List.length hv;simp only[H0,IH]at this;apply If;omega
theorem b6{m off:Nat}{id:Id}{r cs:List U}[ha:cR C T false m](hx:un g (S.get C x)= .mp id 0 off:=by first|exact rfl|exact ck)(hh:S.h id=some (some [r]):=by exact rfl)(hm:m=1:=by exact rfl)(hv:r.drop off=v::cs:=by exact rfl)(hu:bM [d] 0 [v]=([v],[]):=by first|exact rfl|exact Ty):bC C f call S g ⟨some d, .load T x,ty,pos,aV,bD⟩=some ⟨[(d,v)],[id],[]⟩:=by subst hm;refine Kf (rows:=[r]) (r:=r) (cs:=[v]) ha.jZ ha.sz hx hh rfl ?_ (by rw[hv];exact hu) rfl;have:=congrArg List.length hv;simp only[H0,IH]at this;apply If;omega
theorem og{m off:Nat}{id:Id}{r cs cs0:List U}[ha:cR C T true m](hx:un g (S.get C x)= .mp id 0 off:=by first|exact rfl|exact ck)(hh:S.h id=some (some [r]):=by exact rfl)(hl:GT (off+m) r.length=true:=by exact rfl)(hv:(r.drop off).take m=cs0:=by exact spine)(hu:bM [d] 0 cs0=(cs,[]):=by exact tv):bC C f call S g ⟨some d, .load T x,ty,pos,aV,bD⟩=some ⟨[(d, .agg cs)],[id],[]⟩:=Kf (rows:=[r]) (r:=r) ha.jZ ha.sz hx hh rfl hl (by rw[hv];exact hu) rfl
theorem KC{m off:Nat}{id:Id}{r r' cs cs0:List U}{w:Id×Option Rows}{wr:List (Id×Option Rows)}[ha:cR C T false m](hx:un g (S.get C x)= .mp id 0 off:=by first|exact rfl|exact ck)(hh:S.h id=some (some [r]):=by exact rfl)(hm:m=1:=by exact rfl)(hl:GT (off+1) r.length=true:=by exact rfl)(hv:(r.drop off).take 1=cs0:=by exact spine)(hu:bM [d] 0 cs0=(cs,w::wr):=by exact tv)(I2:cs=[v]:=by exact rfl)(hq:r.take off++cs++r.drop (off+1)=r':=by exact spine)(hf:fresh S.h (w::wr)=true:=by exact rfl):bC C f call S g ⟨some d, .load T x,ty,pos,aV,bD⟩=some ⟨[(d,v)],[id],(id,some [r'])::w::wr⟩:=by subst hm hq;exact Kg (rows:=[r]) (r:=r) ha.jZ ha.sz hx hh rfl hl (by rw[hv];exact hu) hf (by rw[I2];rfl)
theorem afC{m off:Nat}{id:Id}{r r' cs cs0:List U}{w:Id×Option Rows}{wr:List (Id×Option Rows)}[ha:cR C T true m](hx:un g (S.get C x)= .mp id 0 off:=by first|exact rfl|exact ck)(hh:S.h id=some (some [r]):=by exact rfl)(hl:GT (off+m) r.length=true:=by exact rfl)(hv:(r.drop off).take m=cs0:=by exact spine)(hu:bM [d] 0 cs0=(cs,w::wr):=by exact tv)(hq:r.take off++cs++r.drop (off+m)=r':=by exact spine)(hf:fresh S.h (w::wr)=true:=by exact rfl):bC C f call S g ⟨some d, .load T x,ty,pos,aV,bD⟩=some ⟨[(d, .agg cs)],[id],(id,some [r'])::w::wr⟩:=by subst hq;exact Kg (rows:=[r]) (r:=r) ha.jZ ha.sz hx hh rfl hl (by rw[hv];exact hu) hf rfl
def Gu(L:List Nat):Operand→Bool| .tmp ta=>L.contains ta|_=>false
theorem Pk{a:Operand}(hin:Gu (C.eD f) a=false):wk C f a=none:=by cases a with|tmp ta=>(simp only[Gu]at hin;unfold wk;simp only;rw[if_neg (by rw[hin];simp)])|_=>rfl
theorem eA{bb:Bool}{m ta:Nat}{id:Id}{cs cs' r:List U}[ha:cR C T bb m](hin:(C.eD f).contains ta=true:=by exact rfl)(hx:un true (S.get C (.tmp ta))= .mp id 0 0:=by exact rfl)(hy:un true (S.get C y)=v:=by exact gt)(hc:oO bb v=some cs:=by exact rfl)(bZ:cs.length=m:=by exact rfl)(hh:S.h id=some (some [r]):=by exact rfl)(hr:r.length=m:=by exact rfl)(hz:kZ cs=cs':=by exact spine)(hi:ew cs'=true:=by exact rfl):bC C f call S true ⟨none, .store T (.tmp ta) y,ty,pos,aV,bD⟩=some ⟨[(ta, .aI cs')],[id],[(id,none)]⟩:=by show nR C f S true _ T (.tmp ta) (un true (S.get C (.tmp ta))) (un true (S.get C y))=_;rw[hx,hy];have e:wk C f (.tmp ta)=some ta:=by{unfold wk;simp only;rw[if_pos hin]};subst hz;simp[nR,ha.jZ,ha.sz,hc,bZ,hh,hr,e,hi]
theorem bt{bb:Bool}{m off:Nat}{ao:Operand}{id:Id}{cs r r':List U}[ha:cR C T bb m](hin:Gu (C.eD f) ao=false:=by exact rfl)(hx:un g (S.get C ao)= .mp id 0 off:=by exact rfl)(hy:un g (S.get C y)=v:=by exact gt)(hc:oO bb v=some cs:=by exact rfl)(bZ:cs.length=m:=by exact rfl)(hh:S.h id=some (some [r]):=by exact rfl)(hl:GT (off+m) r.length=true:=by exact rfl)(hq:r.take off++cs++r.drop (off+m)=r':=by exact spine):bC C f call S g ⟨none, .store T ao y,ty,pos,aV,bD⟩=some ⟨[],[id],[(id,some [r'])]⟩:=by show nR C f S g _ T ao (un g (S.get C ao)) (un g (S.get C y))=_;rw[hx,hy];have hl':off+m≤r.length:=Hb hl;have e:=Pk (f:=f) hin;subst hq;simp only[nR,ha.jZ,ha.sz,hc];rw[if_neg (by simp[bZ]),hh];simp only[List.getElem?_cons_zero,Do,if_pos hl',e];rfl
theorem uL{bb:Bool}{m row off:Nat}{ao:Operand}{id:Id}{cs:List U}{α:Type}{c:α→List U}{q:List α}{r:α}(hr:q[row]? =some r)(r':α)[ha:cR C T bb m](hin:Gu (C.eD f) ao=false:=by exact rfl)(hx:un g (S.get C ao)= .mp id row off:=by exact rfl)(hy:un g (S.get C y)=v:=by exact gt)(hc:oO bb v=some cs:=by first|exact rfl|exact ake)(bZ:cs.length=m:=by exact rfl)(hh:S.h id=some (some (q.map c)):=by exact rfl)(hl:GT (off+m) (c r).length=true:=by exact rfl)(hq:(c r).take off++cs++(c r).drop (off+m)=c r':=by exact rfl):bC C f call S g ⟨none, .store T ao y,ty,pos,aV,bD⟩=some ⟨[],[id],[(id,some ((q.set row r').map c))]⟩:=by show nR C f S g _ T ao (un g (S.get C ao)) (un g (S.get C y))=_;rw[hx,hy];have hl':off+m≤(c r).length:=Hb hl;have e:=Pk (f:=f) hin;have e2:(q.map c)[row]? =some (c r):=by{simp[hr]};simp only[nR,ha.jZ,ha.sz,hc];rw[if_neg (by simp[bZ]),hh];simp only[e2,Do,if_pos hl',e];rw[hq,List.map_set];rfl
theorem nB{e:TypeId}{m n:Nat}{bb:Bool}{α:Type}{c:α→List U}{q:List α}{i:Int}{r:α}{id:Id}(hi:idx q i=some r)[hu:c9 C T (.slice e)][hs:cR C e bb m](hx:un g (S.get C x)= .rs id 0 n:=by first|exact rfl|exact ck)(hh:S.h id=some (some (q.map c)):=by exact rfl)(hl:n=q.length:=by exact uG)(hy:un g (S.get C y)= .val (.int k i):=by first|exact rfl|exact ck)(hr:(c r).length=m:=by exact rfl):bC C f call S g ⟨some d, .indexAddr T x y,ty,pos,aV,bD⟩=some ⟨[(d, .mp id i.toNat 0)],[id],[]⟩:=by show mD C S _ T (un g (S.get C x)) (ei (un g (S.get C y)))=_;have hb:=zm hi;have hn:=kf hi;subst hl;simp only[hx,hy,ei,mD,hu.ul,hs.sz];rw[if_pos hb,hh];simp[hn,hr]
section
variable{α:Type}{c:α→List U}{q q' r:List α}{id gE:Id}{e:TypeId}{m n n':Nat}{T an:TypeId}
abbrev yj:= @mA
theorem Nq{rx:U}{xs ys:Rows}{i1 i2:List Id}(hok:AX C e m=true)(hu:C.P.underlying T=some (.slice e))(hu1:C.P.underlying an=some (.slice e))(hx:un g (S.get C x)=rx)(uy:rowsOf S.h rx=some (xs,i1))(hy:rowsOf S.h (un g (S.get C y))=some (ys,i2))(hl:ys.all (·.length==m)=true)(hcell:qz ys=true)(hlen:xs.length+ys.length≤oa)(hn:S.h [d]=none){yG:bn}(he:yj S ⟨some d, .call ⟨.builtin .append,⟨[x,y]⟩,⟨[T,an]⟩⟩,ty,pos,aV,bD⟩ d m rx xs ys i1 i2=some yG):lV C S ⟨some d, .call ⟨.builtin .append,⟨[x,y]⟩,⟨[T,an]⟩⟩,ty,pos,aV,bD⟩ ⟨[T,an]⟩ ([x,y].map fun x=>un g (S.get C x))=some yG:=by unfold AX at hok;split at hok;·{rename_i inf Jh;simp only[AC,beq_iff_eq,decide_eq_true_eq]at hok;obtain⟨⟨⟨k1,k2⟩,dL⟩,ie⟩:=hok;subst k1;have e1:(#[T,an]:Array TypeId)[0]? =some T:=rfl;have e2:(#[T,an]:Array TypeId)[1]? =some an:=rfl;simp only[H2,List.map_nil,lV,e1,e2,Do,hu1,yl,hu,Jh,hx,uy,hy];rw[if_pos (by simp only[AC,decide_eq_true_eq];exact⟨⟨⟨⟨⟨⟨hl,k2⟩,dL⟩,ie⟩,hlen⟩,hcell⟩,by rw[hn];rfl⟩)];unfold yj at he;exact he};·cases hok
theorem Np{rx:U}{xs ys:Rows}{i1 i2:List Id}(hok:AX C e m=true)(hu:C.P.underlying T=some (.slice e))(hu1:C.P.underlying an=some (.slice e))(hx:un g (S.get C x)=rx)(uy:rowsOf S.h rx=some (xs,i1))(hy:rowsOf S.h (un g (S.get C y))=some (ys,i2))(hl:ys.all (·.length==m)=true)(hcell:qz ys=true)(hlen:xs.length+ys.length≤oa)(hn:S.h [d]=none)(hfz:(C.eD f).contains d=false){yG:bn}(he:yj S ⟨some d, .call ⟨.builtin .append,⟨[x,y]⟩,⟨[T,an]⟩⟩,ty,pos,aV,bD⟩ d m rx xs ys i1 i2=some yG):bC C f call S g ⟨some d, .call ⟨.builtin .append,⟨[x,y]⟩,⟨[T,an]⟩⟩,ty,pos,aV,bD⟩=some yG:=by show(lV C S _ _ ([x,y].map fun x=>un g (S.get C x))).bind (qb C f _)=_;have key:lV C S ⟨some d, .call ⟨.builtin .append,⟨[x,y]⟩,⟨[T,an]⟩⟩,ty,pos,aV,bD⟩ ⟨[T,an]⟩ ([x,y].map fun x=>un g (S.get C x))=some yG:=Nq hok hu hu1 hx uy hy hl hcell hlen hn he;rw[key];simp only[Do,qb,eK,hfz,GE,if_false]
theorem SS{L:Id→Option (Option Rows)}(hh:L id=some (some (q.map c))):rowsOf L (.rs id 0 q.length)=some (q.map c,[id]):=by show(match L id with|some (some rs)=>if 0+q.length≤rs.length then some ((rs.drop 0).take q.length,[id])else none|_=>none)=_;rw[hh];simp only;rw[if_pos (by simp),H1,Hk (by simp)]
theorem k3(hr:app q q'=some r)[hu:c9 C T (.slice e)][hu1:c9 C an (.slice e)][hok:qI C e m](hx:un g (S.get C x)= .rs id 0 n:=by exact rfl)(hh:S.h id=some (some (q.map c)):=by exact rfl)(hlen:n=q.length:=by exact uG)(hy:un g (S.get C y)= .sl (q'.map c):=by exact rfl)(hl:∀x,(c x).length=m:=by exact fun _=>rfl)(hcell:qz (q'.map c)=true:=by first|exact LB|exact rfl)(hn:S.h [d]=none:=by exact rfl)(hfz:(C.eD f).contains d=false:=by exact rfl):bC C f call S g ⟨some d, .call ⟨.builtin .append,⟨[x,y]⟩,⟨[T,an]⟩⟩,ty,pos,aV,bD⟩=some ⟨[(d, .rs [d] 0 r.length)],[id],[(id,none),([d],some (r.map c))]⟩:=by obtain⟨h1,rfl⟩:=Ea hr;subst hlen;refine Np hok.ao hu.ul hu1.ul hx (SS hh) (by rw[hy];rfl) (vM hl) hcell (by simpa[oa]using h1) hn hfz ?_;simp only[yj,mA,hh];rw[if_pos (by simp only[AC];refine⟨⟨vM hl,by simp⟩, ?_⟩;cases q<;>simp)];simp[put,Ix]
theorem Rr [ab6:pS c](hr:app q q'=some r)[hu:c9 C T (.slice e)][hu1:c9 C an (.slice e)][hok:qI C e m](hx:un g (S.get C x)= .rs id 0 n:=by exact rfl)(hh:S.h id=some (some (q.map c)):=by exact rfl)(hlen:n=q.length:=by exact uG)(hy:un g (S.get C y)= .sl (q'.map c):=by exact rfl)(hl:∀x,(c x).length=m:=by exact fun _=>rfl)(hcell:qz (q'.map c)=true:=by first|exact LB|exact rfl)(hn:S.h [d]=none:=by exact rfl)(hfz:(C.eD f).contains d=true:=by exact rfl):bC C f call S g ⟨some d, .call ⟨.builtin .append,⟨[x,y]⟩,⟨[T,an]⟩⟩,ty,pos,aV,bD⟩=some ⟨[(d, .sl (r.map c))],[id],[(id,none),([d],none)]⟩:=by obtain⟨h1,rfl⟩:=Ea hr;subst hlen;show(lV C S _ _ ([x,y].map fun x=>un g (S.get C x))).bind (qb C f _)=_;have key:lV C S ⟨some d, .call ⟨.builtin .append,⟨[x,y]⟩,⟨[T,an]⟩⟩,ty,pos,aV,bD⟩ ⟨[T,an]⟩ ([x,y].map fun x=>un g (S.get C x))=some ⟨[(d, .rs [d] 0 (q++q').length)],[id],[(id,none),([d],some ((q++q').map c))]⟩:=by{refine Nq hok.ao hu.ul hu1.ul hx (SS hh) (by rw[hy];rfl) (vM hl) hcell (by simpa[oa]using h1) hn ?_;simp only[yj,mA,hh];rw[if_pos (by simp only[AC];refine⟨⟨vM hl,by simp⟩, ?_⟩;cases q<;>simp)];simp[put,Ix]};have hi:iQ ((q++q').map c)=true:=by{simp only[iQ,Hm,Hn];exact fun x _=>ab6.im x};rw[key];simp only[Do,qb,eK,hfz,if_true,hi,and_self,put]
end
theorem FO{e:TypeId}{m:Nat}{α:Type}{c:α→List U}{cQ:α}{fY:List U}{nn:Int}{r:List α}(hr:nA nn cQ=some r)(JQ:c cQ=fY)[hu:c9 C T (.slice e)][hok:qI C e m][hz:oJ C e fY](hx:un g (S.get C x)= .val (.int k nn):=by exact rfl)(hy:un g (S.get C y)= .val (.int k nn):=by exact rfl)(hzl:fY.length=m:=by exact rfl)(hn:S.h [d]=none:=by exact rfl):bC C f call S g ⟨some d, .makeSlice T x y,ty,pos,aV,bD⟩=some ⟨[(d, .rs [d] 0 r.length)],[],[([d],some (r.map c))]⟩:=by show sD C S _ T (un g (S.get C x)) (un g (S.get C y))=_;unfold nA at hr;split at hr;·{rename_i hp;obtain rfl:Hc nn.toNat cQ=r:=by{simpa using hr};have hok:=hok.ao;unfold AX at hok;split at hok;·{rename_i inf Jh;simp only[Bool.and_eq_true,beq_iff_eq,decide_eq_true_eq]at hok;obtain⟨⟨⟨k1,k2⟩,dL⟩,ie⟩:=hok;simp only[hx,hy,sD,hu.ul,ei,hz.TW,Jh];rw[if_pos (by simp only[Bool.and_eq_true,decide_eq_true_eq];exact⟨⟨⟨⟨by omega,by omega⟩,dL⟩,by omega⟩,by rw[hn];rfl⟩)];simp[put,JQ]};·cases hok};·cases hr
theorem XH{e:TypeId}{bb:Bool}{m len:Nat}{fY:List U}{ps:List (Nat×U)}{rows:Rows}(hu:C.P.underlying T=some (.slice e))(hz:xT C e=some fY)(ha:kV C e=some bb)(hs:gQ C e=some m)(h0:(decide (0<m)&&decide (m=fY.length)&&decide (len*m≤1000))=true)(hf:sF m bb (Hc len fY) ps=some rows):yu C T len ps=some rows:=by simp only[yu,hu,hz,ha,hs,h0,if_true,hf]
theorem fj{e:TypeId}{bb:Bool}{m len:Nat}{fY:List U}{p:List (Nat×Operand)}{ps:List (Nat×U)}{rows bh:Rows}[hu:c9 C T (.slice e)][hz:jY C e fY][ha:cR C e bb m](hin:(C.eD f).contains d=true:=by exact rfl)(h0:(decide (0<m)&&decide (m=fY.length)&&decide (len*m≤1000))=true:=by exact rfl)(hq:(p.map fun p=>(p.1,un g (S.get C p.2)))=ps:=by exact Gb)(hf:sF m bb (Hc len fY) ps=some rows:=by exact rfl)(zl:rows.map kZ=bh:=by exact spine)(hi:iQ bh=true:=by exact rfl):bC C f call S g ⟨some d, .buildSlice T len ⟨p⟩,ty,pos,aV,bD⟩=some ⟨[(d, .sl bh)],[],[]⟩:=by show p7 C f S _ T len (p.map fun p=>(p.1,un g (S.get C p.2)))=_;rw[hq];have hb:=XH hu.ul hz.fY ha.jZ ha.sz h0 hf;unfold p7;rw[if_neg (by simp[Hv,hb,zl,hi])];simp only[sB,hu.ul,hz.fY,ha.jZ,ha.sz,h0,if_true,hf,eK,hin,zl,hi,Bool.and_self];rfl
theorem s8{e:TypeId}{bb:Bool}{m len:Nat}{fY:List U}{p:List (Nat×Operand)}{ps:List (Nat×U)}{rows bh:Rows}[hu:c9 C T (.slice e)][hz:jY C e fY][ha:cR C e bb m](hin:(C.eD f).contains d=false:=by exact rfl)(h0:(decide (0<m)&&decide (m=fY.length)&&decide (len*m≤1000))=true:=by exact rfl)(hq:(p.map fun p=>(p.1,un g (S.get C p.2)))=ps:=by exact Gb)(hf:sF m bb (Hc len fY) ps=some rows:=by exact rfl)(hs:rows=bh:=by exact spine)(hn:S.h [d]=none:=by exact rfl):bC C f call S g ⟨some d, .buildSlice T len ⟨p⟩,ty,pos,aV,bD⟩=some ⟨[(d, .rs [d] 0 len)],[],[([d],some bh)]⟩:=by show p7 C f S _ T len (p.map fun p=>(p.1,un g (S.get C p.2)))=_;subst hs;rw[hq];unfold p7;rw[if_neg (by simp[Hv,eK];intro h;simp[h]at hin)];simp only[sB,hu.ul,hz.fY,ha.jZ,ha.sz,h0,if_true,hf,eK,hin,H5,GE,if_false];rw[if_pos (Qy hn)];rfl
/-! ### Calls -/
section
variable{L:Id→Option (Option Rows)}{n m:Nat}{α:Type}{c c':α→List U}{q:List α}{id:Id}{as bs cs cs':List U}{is i2:List Id}{x u:U}
theorem NL{a:U}(h:ff a=true):b9 L (n+1) a=some (a,[]):=by cases a with|agg cs=>(simp only[ff]at h;simp[b9,iy,h])|aT cs=>(simp only[ff]at h;simp[b9,iy,h])|fn k a b=>(simp only[ff,AC]at h;simp[b9,iy,h])|_=>first|rfl|simp[ff]at h
theorem NK{w:Value}(hx:x= .val w:=by exact rfl):b9 L (n+1) x=some (.val w,[]):=by rw[hx];rfl
theorem NJ{r:Rows}(hx:x= .sl r:=by exact rfl):b9 L (n+1) x=some (.sl r,[]):=by rw[hx];rfl
theorem XO(hx:x= .cu:=by exact rfl):b9 L (n+1) x=some (.sl [],[]):=by rw[hx];rfl
theorem NC{t:TypeId}{e:dm}(hx:x=gC t e:=by first|exact rfl|exact Gy):b9 L (n+1) x=some (gC t e,[]):=by rw[hx];exact NL (Zu e)
theorem XL(hx:x=u:=by exact gt)(hi:ff u=true:=by exact rfl):b9 L (n+1) x=some (u,[]):=by rw[hx];exact NL hi
theorem XT [hc:pS c](hx:x= .rs id 0 m:=by exact rfl)(hh:L id=some (some (q.map c)):=by exact rfl)(hl:m=q.length:=by exact uG):b9 L (n+1) x=some (.sl (q.map c),[id]):=by subst hx hl;have hi':iQ (q.map c)=true:=by{simp only[iQ,Hm,Hn];exact fun x _=>hc.im x};have e:((q.map c).drop 0).take q.length=q.map c:=by{rw[H1,Hk (by simp)]};have e0:b9 L (n+1) (.rs id 0 q.length)=match L id with|some (some rs)=>if 0+q.length≤rs.length then(lp (b9 L n) ((rs.drop 0).take q.length)).map fun x=>(.sl x.1,id::x.2)else none|_=>none:=rfl;rw[e0,hh];simp only;rw[if_pos (by simp),e];simp[lp,hi']
theorem XN(hx:x= .mp id 0 0)(hh:L id=some (some [cs]))(hi:ew cs=false)(h:dN (b9 L n) cs=some (cs',is)):b9 L (n+1) x=some (.aI cs',id::is):=by subst hx;have e0:b9 L (n+1) (.mp id 0 0)=match L id with|some (some rs)=>(match rs[0]? with|some r=>if 0≤r.length then(iy (b9 L n) (r.drop 0)).map fun x=>(.aI x.1,id::x.2)else none|none=>none)|_=>none:=rfl;rw[e0,hh];simp[iy,hi,h]
theorem NF{rows:Rows}(hx:x= .ep rows:=by exact rfl):b9 L (n+1) x=some (.im rows,[]):=by subst hx;rfl
theorem XJ(hx:x= .agg cs)(hi:ew cs=false)(h:dN (b9 L n) cs=some (cs',is)):b9 L (n+1) x=some (.agg cs',is):=by subst hx;simp[b9,iy,hi,h]
theorem ND [hc:pS c](hx:x= .own (q.map c) q.length:=by exact rfl):b9 L (n+1) x=some (.sl (q.map c),[]):=by have hi':iQ (q.map c)=true:=by{simp only[iQ,Hm,Hn];exact fun x _=>hc.im x};subst hx;simp only[b9];rw[Hk (by simp)];simp[lp,hi']
end
/-! ### Borrowing lists whose elements own memory -/
class xV{α:Type}(c:α→List U)(c':outParam (α→List U)):Prop where b9:∀L n x,dN (b9 L (n+2)) (c x)=some (c' x,[])Rl:∀x,ew (c x)=false
section
variable{L:Id→Option (Option Rows)}{n m:Nat}{α:Type}{c c':α→List U}{q:List α}{k:Nat}{x x':α}{r r':List U}{id:Id}{ids:List Id}{v:U}
theorem XK [hb:xV c c'](x:α):iy (b9 L (n+2)) (c x)=some (c' x,[]):=by simp[iy,hb.Rl,hb.b9]
theorem O9 [hb:xV c c']:∀q:List α,dO (iy (b9 L (n+2))) (q.map c)=some (q.map c',[])|[]=>rfl|x::q=>by simp[dO,XK (c:=c) (c':=c') x,O9 q]
theorem NH [hb:xV c c'](q:List α):lp (b9 L (n+2)) (q.map c)=some (q.map c',[]):=by unfold lp;cases q with|nil=>(simp[iQ])|cons x q=>rw[if_neg (by simp[iQ,hb.Rl])];exact O9 _
theorem XU [hb:xV c c'](hx:v= .rs id 0 m:=by exact rfl)(hh:L id=some (some (q.map c)):=by exact rfl)(hm:m≤q.length:=by exact xd):b9 L (n+3) v=some (.sl ((q.take m).map c'),[id]):=by subst hx;have e:b9 L (n+3) (.rs id 0 m)=match L id with|some (some rs)=>if 0+m≤rs.length then(lp (b9 L (n+2)) ((rs.drop 0).take m)).map fun x=>(.sl x.1,id::x.2)else none|_=>none:=rfl;rw[e,hh];simp only[H4,Nat.zero_add,if_pos hm,H1];rw[←Kd,NH];rfl
theorem XP [hb:xV c c'](hx:v= .own (q.map c) m:=by exact rfl):b9 L (n+3) v=some (.sl ((q.take m).map c'),[]):=by subst hx;have e:b9 L (n+3) (.own (q.map c) m)=(lp (b9 L (n+2)) ((q.map c).take m)).map fun x=>(.sl x.1,x.2):=rfl;rw[e,←Kd,NH];rfl
end
section
variable{α:Type}{c c':α→List U}{q:List α}{L:Id→Option (Option Rows)}{n:Nat}{id:Id}{as bs cs cs':List U}{x:U}{is i2:List Id}
theorem Hy{y:Option (U×List Id)}(h:b9 L n x=y:=by repeat'(first|exact NK|exact ajW|exact ajX|(apply ajY;exact rfl)|exact NC|exact XS|exact NJ|exact XT|exact aj5|exact aj8|exact XU|(apply aj6;exact rfl;exact rfl;exact rfl;(first|(with_reducible assumption)|assumption);exact uG;exact inferInstance;rotate_left;exact rfl)|(apply aj7;exact rfl;exact rfl;exact rfl;(first|(with_reducible assumption)|assumption);exact xd;exact inferInstance;rotate_left;exact rfl)|exact XL|exact XR|exact XO|exact aj0|exact aj4|exact ND|exact aj3|exact XQ|exact XP|exact aj2|exact aj1|exact NF|exact XM|exact yM|(apply Bl;exact rfl)|(apply XJ;exact rfl;exact rfl)|(apply XN;exact rfl;exact rfl;exact rfl)|(apply ajZ;exact rfl))):b9 L n x=y:=h
theorem Z2{p:U→Option (U×List Id)}{cs as bs:List U}{a b:U}(hx:cs=a::as)(h:p a=some (b,[]))(k:dN p as=some (bs,[])):dN p cs=some (b::bs,[]):=by subst hx;simp[dN,h,k]
theorem XV{cs cs':List U}(h:dN (b9 L n) cs=some (cs',[]):=by repeat'(first|exact yM|(apply Z2;exact rfl)|exact NK|exact NC|exact XS|exact NJ|exact XR|exact ND|exact XQ|exact NF|exact XM)):dN (b9 L n) cs=some (cs',[]):=h
theorem XF(h:as=[]:=by exact rfl):qT L as=some ([],[]):=by subst h;rfl
theorem XE{a b:U}{z:List Id}(ha:cs=a::as)(h1:b9 L 9 a=some (b,is))(h2:qT L as=some (bs,i2))(hz:is++i2=z):qT L cs=some (b::bs,z):=by subst ha hz;unfold qT at*;simp[dN,h1,h2]
theorem blk{y:Option (List U×List Id)}(h:qT L as=y:=by repeat'(first|exact XF|(apply XE;exact rfl;exact Hy)|exact rfl)):qT L as=y:=h
theorem aiS{ms:List Nat}(h:as=[]:=by exact rfl):jP L ms as=some ([],[],[],[]):=by subst h;cases ms<;>rfl
section
variable{ms:List Nat}{a b b':U}{i s t z:List Id}
theorem aiR{u:List Id}(ha:cs=a::as)(h:pk L 9 a=some (b,i))(k:jP L ms as=some (bs,s,t,z))(hu:i++t=u):jP L (1::ms) cs=some (b::bs,s,u,z):=by subst ha hu;simp[jP,k,h]
theorem aiT{u:List Id}(ha:cs=a::as)(h:b9 L 9 a=some (b,i))(k:jP L ms as=some (bs,s,t,z))(hu:i++s=u):jP L (0::ms) cs=some (b::bs,u,t,z):=by subst ha hu;simp[jP,k,h]
end
theorem Tq{ms:List Nat}{y:Option (List U×List Id×List Id×List Id)}(h:jP L ms as=y:=by repeat'(first|exact aiS|(apply aiR;exact rfl;exact mh)|(apply aiT;exact rfl;exact Hy)|(apply anr;exact rfl;exact mh;exact Br)|(apply ans;exact rfl;exact Hy)|exact rfl)):jP L ms as=y:=h
/-! Nothing from elsewhere -/
theorem aeW{m:Nat}[hc:MC c]:mine (.own (q.map c) m)=true:=by have:zI (q.map c)=true:=by{induction q with|nil=>(rfl)|cons x q ih=>simp[zI,hc.mi,ih]};simp[mine,this]
theorem aeU(h:jK as=true):mine (.agg as)=true:=by simp[mine,h]
theorem aeV{a:U}(h:mine a=true)(k:jK as=true):jK (a::as)=true:=by simp[jK,h,k]
theorem Fx{a:U}(h:mine a=true:=by repeat'(first|exact(rfl:mine (.val _)=true)|exact al5|exact aeW|apply aeU|apply al7|apply al6|exact(rfl:jK []=true)|apply aeV|exact rfl)):mine a=true:=h
end
section
variable{cN:Operand}{ts:Array TypeId}{dr:FuncId}{as bs cs args:List U}{seen:List Id}{r:U}{wr:List (Id×Option Rows)}{xs:Array Operand}
theorem Iq(hfo:un g (S.get C cN)= .fn (.func dr) as bs)(dY:C.gU dr=false):nq C (un g (S.get C cN))=none:=by rw[hfo];simp[nq,dY]
theorem HY{d':Option Tmp}(h:nq C (un g (S.get C cN))=none):bC C f call S g ⟨d', .call ⟨.value cN,xs,ts⟩,ty,pos,aV,bD⟩=(match pathOf C cN with|some p=>tX S ⟨d', .call ⟨.value cN,xs,ts⟩,ty,pos,aV,bD⟩ p (xs.toList.map fun x=>un g (S.get C x))|none=>if Ao C cN then(match(generalizing:=false)cN with| .func k=>qY C f call S ⟨d', .call ⟨.value cN,xs,ts⟩,ty,pos,aV,bD⟩ k (xs.toList.map fun x=>un g (S.get C x))|_=>none)else qX C f call S ⟨d', .call ⟨.value cN,xs,ts⟩,ty,pos,aV,bD⟩ (un g (S.get C cN)) (xs.toList.map fun x=>un g (S.get C x))):=by show(match nq C (un g (S.get C cN))with|some x=>pZ C f call S _ x.1 (x.2.1++(xs.toList.map fun x=>un g (S.get C x))++x.2.2)|none=>_)=_;rw[h];first|rfl|(cases cN<;>rfl)
theorem cB(hc:call dr args=some (r,[]))(hfo:un g (S.get C cN)= .fn (.func dr) as bs:=by exact rfl)(hb:qT S.h (as++(xs.toList.map fun x=>un g (S.get C x))++bs)=some (args,seen):=by exact blk)(hm:(seen.isEmpty||mine r)=true:=by first|exact rfl|exact Fx)(hz:(C.eD f).contains d=false:=by exact rfl)(hi:imp [d] r=(v',wr):=by exact wZ)(hf:fresh S.h wr=true:=by exact rfl)(ht:Ao C cN=false:=by exact rfl)(n4:pathOf C cN=none:=by exact rfl)(hlk:C.look dr=false:=by exact rfl)(dY:C.gU dr=false:=by exact rfl):bC C f call S g ⟨some d, .call ⟨.value cN,xs,ts⟩,ty,pos,aV,bD⟩=some ⟨[(d,v')],seen,wr⟩:=by rw[HY (Iq hfo dY)];rw[n4];simp only;rw[ht];simp only[GE,if_false];rw[hfo];simp only[qX,hlk,hb,hc,eK,hz,GE,if_false];rw[if_neg (by cases seen with|nil=>(simp)|cons a l=>simp at hm;simp[hm]),hi];simp only[hf,if_true];rfl
theorem bU(hc:call dr args=some (r,[]))(hfo:un g (S.get C cN)= .fn (.func dr) as bs:=by exact rfl)(hb:qT S.h (as++(xs.toList.map fun x=>un g (S.get C x))++bs)=some (args,seen):=by exact blk)(hm:(seen.isEmpty||mine r)=true:=by first|exact rfl|exact Fx)(hz:(C.eD f).contains d=true:=by exact rfl)(hv:dJ r=v:=by exact Br)(hi:imp [d] v=(v',wr):=by exact wZ)(hf:fresh S.h wr=true:=by exact rfl)(ht:Ao C cN=false:=by exact rfl)(n4:pathOf C cN=none:=by exact rfl)(hlk:C.look dr=false:=by exact rfl)(dY:C.gU dr=false:=by exact rfl):bC C f call S g ⟨some d, .call ⟨.value cN,xs,ts⟩,ty,pos,aV,bD⟩=some ⟨[(d,v')],seen,wr⟩:=by rw[HY (Iq hfo dY)];rw[n4];simp only;rw[ht];simp only[GE,if_false];rw[hfo];simp only[qX,hlk,GE,if_false,hb,hc,eK,hz,if_true,hv];rw[if_neg (by cases seen with|nil=>(simp)|cons a l=>simp at hm;simp[hm]),hi];simp only[hf,if_true];rfl
theorem NP{ms ct:List Nat}{outs:List U}{tk dj:List Id}{back:List (Id×Option Rows)}{jR:List (Id×Option Rows)}(hm:C.xk dr=ms)(hm0:ms.isEmpty=false)(hle:C.ct dr=ct)(ht:jP S.h ms (xs.toList.map fun x=>un g (S.get C x))=some (args,seen,tk,dj))(hc:call dr args=some (r,outs))(hv:(if eK C f (some d)then dJ r else r)=v)(hb:gO S.h (xs.toList.map fun x=>un g (S.get C x)) ct outs=some back)(h1:(dQ (tk++dj)&&sr seen (tk++dj))=true)(h2:(seen.isEmpty||mine r&&outs.all mine)=true)(h3:(dQ (back.map (·.1))&&(back.all fun x=>tk.contains x.1))=true)(hi:imp [d] v=(v',jR))(hf:fresh S.h jR=true)(hw:jR++(back++(tk++dj).map fun i=>(i,none))=wr)(n4:C.path dr=none)(dY:C.gU dr=false:=by exact rfl):bC C f call S g ⟨some d, .call ⟨.value (.func dr),xs,ts⟩,ty,pos,aV,bD⟩=some ⟨[(d,v')],seen,wr⟩:=by rw[HY (Iq (as:=[]) (bs:=[]) rfl dY)];simp only[pathOf,n4];have e0:Ao C (.func dr)=true:=by{simp[Ao,hm,hm0]};subst hw hm hle hv;rw[e0,if_pos rfl];unfold qY;simp only[ht,hc,hb,hi];simp only[AC]at h1 h3;rw[if_pos (by simp only[AC];exact⟨⟨⟨⟨⟨h1.1,h1.2⟩,h2⟩,h3.1⟩,h3.2⟩,hf⟩)];rfl
end
end
end Go.Ab
