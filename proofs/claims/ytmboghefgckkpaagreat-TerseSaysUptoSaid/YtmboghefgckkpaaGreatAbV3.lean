import Derived.Test.YtmboghefgckkpaaGreatAbV2
namespace Go.Ab
open Go
theorem ae7{e:Option Int}:eC (lC e)=lC e:=by cases e<;>rfl
theorem Ug{e:Option Int}{p:Id}:imp p (lC e)=(lC e,[]):=by cases e<;>rfl
/-! ### Owned cells become objects -/
section
variable{α:Type}{c:α→List aa}{q:List α}{p:Id}{j:Nat}{l l0 l':List aa}{v v':aa}{wr:List (Id×Option Rows)}{rows:Rows}
theorem an1:bZ p j []=([],[]):=rfl
theorem anZ(hl:l=v::l0)(hv:bZ p j [v]=([v],[]))(k:bZ p (j+1) l0=(l',wr)):bZ p j l=(v::l',wr):=by subst hl;cases v<;>simp_all[bZ]
theorem an2{m:Nat}(hl:l= .own (q.map c) m::l0)(k:bZ p (j+1) l0=(l',wr)):bZ p j l=(.rs (j::p) 0 m::l',(j::p,some (q.map c))::wr):=by subst hl;simp[bZ,k]
theorem an0(hl:l= .eO rows::l0)(k:bZ p (j+1) l0=(l',wr)):bZ p j l=(.mr (j::p)::l',(j::p,some rows)::wr):=by subst hl;simp[bZ,k]
theorem yd(h:bZ p j l=(l',wr):=by repeat'(first|exact an1|(apply anZ;exact rfl;(first|exact rfl|exact ath|exact Xk))|(apply an2;exact rfl)|(apply ati;exact rfl)|(apply an0;exact rfl))):bZ p j l=(l',wr):=h
theorem aiv{m:Nat}:imp p (.own (q.map c) m)=(.rs p 0 m,[(p,some (q.map c))]):=by simp[imp]
theorem ait(h:bZ p 0 l=(l',wr)):imp p (.agg l)=(.agg l',wr):=by simp[imp,h]
theorem aiw(h:bZ p 0 l=(l',wr)):imp p (.aL l)=(.mp p 0 0,(p,some [l'])::wr):=by simp[imp,h]
theorem aip:fJ p j []=([],[]):=rfl
theorem aio(hl:l=v::l0)(hv:fJ p j [v]=([v],[]))(k:fJ p (j+1) l0=(l',wr)):fJ p j l=(v::l',wr):=by subst hl;cases v with|own rows m=>(simp[fJ]at hv)|aL cells=>(simp[fJ]at hv)|eO rows=>(simp[fJ]at hv)|agg cs=>(simp only[fJ,List.append_nil,Prod.mk.injEq,List.cons.injEq,aa.agg.injEq,and_true]at hv;simp[fJ,k,hv.1,hv.2])|bG vs=>(simp[fJ]at hv)|_=>simp[fJ,k]
theorem aiq{m:Nat}(hl:l= .own (q.map c) m::l0)(k:fJ p (j+1) l0=(l',wr)):fJ p j l=(.rs (j::p) 0 m::l',(j::p,some (q.map c))::wr):=by subst hl;simp[fJ,k]
theorem aix(h:fJ p 0 l=(l',wr)):imp p (.bG l)=(.bG l',wr):=by simp[imp,h]
theorem zG(h:imp p v=(v',wr):=by first|exact(rfl:imp _ (.val _)=(.val _,[]))|exact(rfl:imp _ (.sl _)=(.sl _,[]))|exact aiu|exact Ug|exact aiv|exact aqE|exact aqF|(apply ait;exact yd)|(apply aiw;exact yd)|(apply aix;repeat'(first|exact aip|(apply aio;exact rfl;(first|exact rfl|exact aqB|exact aqD))|(apply aiq;exact rfl)|(apply aqC;exact rfl)|(apply aqA;exact rfl;exact yd)))|exact rfl):imp p v=(v',wr):=h
theorem ajc{n:Nat}{vs:List aa}:aG n [] vs=⟨n,fun _=> .bH,fun _=>none⟩:=rfl
theorem ajb{n s:Nat}{t:Nat→aa}{h:Id→Option (Option Rows)}{l:List Nat}{vs:List aa}(hi:imp [s] v=(v,[]))(k:aG n l vs=⟨n,t,h⟩):aG n (s::l) (v::vs)=⟨n,aC t s v,h⟩:=by simp[aG,k,hi,bD]
theorem aja{n s:Nat}{t:Nat→aa}{h:Id→Option (Option Rows)}{l:List Nat}{vs:List aa}(hi:imp [s] v=(v',wr))(k:aG n l vs=⟨n,t,h⟩):aG n (s::l) (v::vs)=⟨n,aC t s v',bD h wr⟩:=by simp[aG,k,hi]
theorem Km{n:Nat}{t:Nat→aa}{h:Id→Option (Option Rows)}{l:List Nat}{vs:List aa}(k:aG n l vs=⟨n,t,h⟩:=by repeat'(first|exact ajc|(apply ajb;first|exact rfl|exact aiu|exact Ug)|(apply aja;exact zG))):aG n l vs=⟨n,t,h⟩:=k
end
section
variable{C:aU}{f:FuncId}{call:hM}{c:Code}{Q:Exit×an→Prop}{n:Nat}{t:Nat→aa}{h:Id→Option (Option Rows)}{l:List Nat}{vs:List aa}
theorem mk(k:W C f call c ⟨n,t,h⟩ Q)(hm:aG n l vs=⟨n,t,h⟩:=by exact Km):W C f call c (aG n l vs) Q:=by rw[hm];exact k
theorem dQ{e:Exit}(k:Q (e,⟨n,t,h⟩))(hm:aG n l vs=⟨n,t,h⟩:=by exact Km):Q (e,aG n l vs):=by rw[hm];exact k
end
/-! ### Packing -/
def RK{α:Type}(a b:List α):List α:=b.take (min b.length a.length)++a.drop (min b.length a.length)
theorem E8{α:Type}(a b:List α):(RK a b).length=a.length:=by unfold RK;rw[List.length_append,List.length_take,List.length_drop];omega
section
variable{L:Id→Option (Option Rows)}{n:Nat}{α:Type}{c:α→List aa}{q:List α}{id:Id}{cs cs':List aa}{ids is:List Id}{x v:aa}
theorem qX [hc:jF c](q:List α):eX (q.map c)=true:=aew c q hc.di
theorem uj{m m':Nat}(h:m=m':=by first|exact rfl|exact List.length_map _|(first|(with_reducible assumption)|assumption)|(symm;(first|(with_reducible assumption)|assumption))|(simp only[List.length_map,List.length_set,E8];done)|(simp only[List.length_map,List.length_set,E8];first|(first|(with_reducible assumption)|assumption)|(symm;(first|(with_reducible assumption)|assumption)))|(simp only[List.length_map,List.length_set,E8, *];done)):m=m':=h
theorem alx{y:aa×List Id}:∀{a:aa},flat a=true→pk L (n+1) a=some y→y=(a,[]):=by intro a hf h;cases a with|agg cs=>(simp only[flat]at hf;simp[pk,iF,hf]at h;exact h.symm)|bG cs=>(simp only[flat]at hf;simp[pk,iF,hf]at h;exact h.symm)|own rs m=>(simp only[flat]at hf;simp[pk,hf]at h;exact h.symm)|aL cs=>(simp only[flat]at hf;simp[pk,hf]at h;exact h.symm)|fn k a b=>(simp only[pk]at h;split at h;·{simpa using h.symm};·cases h)|rs _ _ _=>(simp[flat]at hf)|mp _ _ _=>(simp[flat]at hf)|mr _=>(simp[flat]at hf)|dM _ _=>(simp[flat]at hf)|cE=>(simp[flat]at hf)|_=>simp[pk]at h;exact h.symm
theorem SP:∀{cs:List aa}{y:List aa×List Id},de cs=true→ew (pk L (n+1)) cs=some y→y=(cs,[])|[],y,_,h=>by{simp[ew]at h;exact h.symm}|c::cs,y,hf,h=>by simp only[de,Bool.and_eq_true]at hf;simp only[ew,Option.bind_eq_some_iff,Option.map_eq_some_iff]at h;obtain⟨u,hu,v,hv,rfl⟩:=h;obtain rfl:=alx hf.1 hu;obtain rfl:=SP hf.2 hv;rfl
theorem OK{y:List aa×List Id}(h:ew (pk L (n+1)) cs=some y):iF (pk L (n+1)) cs=some y:=by unfold iF;split;·{rename_i hf;rw[SP hf h]};·exact h
theorem alw{w:Value}(hx:x= .val w:=by exact rfl):pk L (n+1) x=some (.val w,[]):=by rw[hx];rfl
theorem alv{r:Rows}(hx:x= .sl r:=by exact rfl):pk L (n+1) x=some (.sl r,[]):=by rw[hx];rfl
theorem aln{r:List aa}(hx:x= .ax r:=by exact rfl):pk L (n+1) x=some (.ax r,[]):=by rw[hx];rfl
theorem alo{e:Option Int}(hx:x=lC e:=by first|exact rfl|exact D8):pk L (n+1) x=some (lC e,[]):=by rw[hx];cases e<;>rfl
theorem alk(hx:x= .cE:=by exact rfl):pk L (n+1) x=some (.own [] 0,[]):=by rw[hx];rfl
theorem alr{m:Nat}[hc:jF c](hx:x= .rs id 0 m:=by exact rfl)(hh:L id=some (some (q.map c)):=by exact rfl)(hl:m=q.length:=by exact uj):pk L (n+1) x=some (.own (q.map c) q.length,[id]):=by rw[hx,hl];exact VS hh (by simp) (qX q)
theorem alp{m:Nat}[hc:jF c](hl:m≤q.length)(hx:x= .rs id 0 m:=by exact rfl)(hh:L id=some (some (q.map c)):=by exact rfl):pk L (n+1) x=some (.own (q.map c) m,[id]):=by rw[hx];exact VS hh (by simpa using hl) (qX q)
theorem alm{m:Nat}[hc:jF c](hx:x= .own (q.map c) m:=by exact rfl):pk L (n+1) x=some (.own (q.map c) m,[]):=by rw[hx];simp[pk,qX]
theorem ale(hx:x= .agg cs:=by exact rfl)(hf:de cs=true:=by exact rfl):pk L (n+1) x=some (.agg cs,[]):=by rw[hx];simp[pk,iF,hf]
theorem ald(hx:x= .agg cs)(h:ew (pk L (n+1)) cs=some (cs',ids)):pk L (n+2) x=some (.agg cs',ids):=by rw[hx,show pk L (n+2) (.agg cs)=(iF (pk L (n+1)) cs).map fun x=>(.agg x.1,x.2)from rfl,OK h];rfl
theorem ali(hx:x= .mp id 0 0:=by exact rfl)(hh:L id=some (some [cs]):=by exact rfl)(hf:de cs=true:=by exact rfl):pk L (n+1) x=some (.aL cs,[id]):=by rw[hx];simp[pk,iF,hh,hf]
theorem alg(hx:x= .mp id 0 0)(hh:L id=some (some [cs]))(h:ew (pk L (n+1)) cs=some (cs',ids)):pk L (n+2) x=some (.aL cs',id::ids):=by have e:pk L (n+2) (.mp id 0 0)=match L id with|some (some [cs])=>if 0=0∧0=0 then(iF (pk L (n+1)) cs).map fun x=>(.aL x.1,id::x.2)else none|_=>none:=rfl;rw[hx,e,hh];simp only[and_self,if_true,OK h];rfl
theorem alh{X2:α}[hc:jF c](hx:x= .mp id 0 0:=by exact rfl)(hh:L id=some (some [c X2]):=by exact rfl):pk L (n+1) x=some (.aL (c X2),[id]):=by rw[hx];simp[pk,iF,hh,hc.di]
theorem alj{rows:Rows}(hx:x= .mr id:=by exact rfl)(hh:L id=some (some rows):=by exact rfl):pk L (n+1) x=some (.eO rows,[id]):=by rw[hx];simp[pk,hh]
theorem alf{k:Fn}{a b:List aa}(hx:x= .fn k a b:=by exact rfl)(hf:(eJ a&&eJ b)=true:=by exact rfl):pk L (n+1) x=some (.fn k a b,[]):=by rw[hx];simp only[Bool.and_eq_true]at hf;simp[pk,hf.1,hf.2]
theorem BF{p:aa→Option (aa×List Id)}(hx:cs=[]:=by exact rfl):ew p cs=some ([],[]):=by rw[hx];rfl
theorem Fl{p:aa→Option (aa×List Id)}{a b:aa}{as bs:List aa}{i1 i2:List Id}(hx:cs=a::as)(h:p a=some (b,i1))(k:ew p as=some (bs,i2)):ew p cs=some (b::bs,i1++i2):=by subst hx;simp[ew,h,k]
theorem alA{t:Nat→aa}:kr L t []=some ([],[]):=rfl
theorem alz{t:Nat→aa}{s:Nat}{sl:List Nat}{vs:List aa}(h1:pk L 9 (t s)=some (v,ids))(h2:kr L t sl=some (vs,is)):kr L t (s::sl)=some (v::vs,ids++is):=by rw[alc,h1,Option.bind_some,h2];rfl
end
/-! ### One row of a list, open -/
section
variable{α:Type}{c c':α→List aa}{q:List α}{k:Nat}{x x':α}{r r':List aa}
theorem KT(h:q[k]? =some x):(q.map c)[k]? =some (c x):=by simp[h]
theorem WJ:(q.map c).set k r=(q.map c).set k r:=rfl
theorem Pd:((q.map c).set k r).set k r'=(q.map c).set k r':=List.set_set ..
theorem amS:(q.map c).set k (c x)=(q.set k x).map c:=by rw[List.map_set]
theorem SU{p:List aa→Option (List aa×List Id)}{ids:List Id}(hp:∀y,p (c y)=some (c y,[]))(hr:p r=some (r',ids)):∀{q:List α}{k:Nat}{x:α},q[k]? =some x→eB p ((q.map c).set k r)=some ((q.map c).set k r',ids)|[],k,x,h=>by{simp at h}|y::q,0,x,h=>by{have key:∀q:List α,eB p (q.map c)=some (q.map c,[]):=by{intro q;induction q with|nil=>(rfl)|cons z q ih=>simp[eB,hp,ih]};simp[eB,hr,key]}|y::q,k+1,x,h=>by have ih:=SU hp hr (q:=q) (k:=k) (x:=x) (by simpa using h);simp only[List.map_cons,List.set_cons_succ,eB,hp,Option.bind_some,ih,Option.map_some,List.nil_append]
theorem SJ(hf:de r=false):∀{q:List α}{k:Nat}{x:α},q[k]? =some x→eX ((q.map c).set k r)=false|[],k,x,h=>by{simp at h}|y::q,0,x,h=>by{simp[eX,hf]}|y::q,k+1,x,h=>by have ih:=SJ hf (q:=q) (k:=k) (x:=x) (by simpa using h);simp[eX,ih]
end
/-! ### Packing -/
section
variable{L:Id→Option (Option Rows)}{n m:Nat}{α:Type}{c c':α→List aa}{q:List α}{k:Nat}{x x':α}{r r':List aa}{id:Id}{ids:List Id}{v:aa}
theorem zW{a b:Nat}(h:a≤b:=by first|exact Nat.le_refl _|(first|(with_reducible assumption)|assumption)|(simp only[List.length_set,E8];first|exact Nat.le_refl _|(first|(with_reducible assumption)|assumption))|(simp only[List.length_set,E8];omega)):a≤b:=h
theorem VR [hc:jF c](hx:v= .rs id 0 m)(hh:L id=some (some ((q.map c).set k r)))(hf:de r=false)(hk:q[k]? =some x)(hm:m≤q.length)(hr:ew (pk L (n+1)) r=some (r',ids))(hr':r'=c x'):pk L (n+2) v=some (.own ((q.set k x').map c) m,id::ids):=by subst hr';rw[hx];have e:pk L (n+2) (.rs id 0 m)=match L id with|some (some rs)=>if 0=0∧m≤rs.length then(mP (pk L (n+1)) rs).map fun x=>(.own x.1 m,id::x.2)else none|_=>none:=rfl;rw[e,hh];simp only[List.length_set,List.length_map,true_and,if_pos hm];have h2:mP (pk L (n+1)) ((q.map c).set k r)=some ((q.map c).set k (c x'),ids):=by{unfold mP;rw[if_neg (by rw[SJ hf hk];simp)];exact SU (fun y=>by simp[iF,hc.di]) (OK hr) hk};rw[h2,amS];rfl
theorem alu [hc:jF c](hx:v= .rs id 0 m)(hh:L id=some (some ((q.map c).set k r)))(hf:de r=false)(hk:q[k]? =some x)(hm:m=q.length)(hr:ew (pk L (n+1)) r=some (r',ids))(hr':r'=c x'):pk L (n+2) v=some (.own ((q.set k x').map c) (q.set k x').length,id::ids):=by rw[List.length_set,←hm];exact VR hx hh hf hk (by omega) hr hr'
theorem als{rows bB:Rows}(hx:v= .rs id 0 m)(hh:L id=some (some rows))(hm:Nat.ble m rows.length=true)(hf:eX rows=false)(hr:eB (iF (pk L n)) rows=some (bB,ids)):pk L (n+1) v=some (.own bB m,id::ids):=by rw[hx];have e:pk L (n+1) (.rs id 0 m)=match L id with|some (some rs)=>if 0=0∧m≤rs.length then(mP (pk L n) rs).map fun x=>(.own x.1 m,id::x.2)else none|_=>none:=rfl;rw[e,hh];have hm':m≤rows.length:=Nat.le_of_ble_eq_true hm;simp only[true_and,if_pos hm',mP,hf,Bool.false_eq_true,if_false,hr,Option.map_some]
theorem alJ{p:List aa→Option (List aa×List Id)}{rows:Rows}(e:rows=[]:=by exact rfl):eB p rows=some ([],[]):=by subst e;rfl
theorem alI{p:List aa→Option (List aa×List Id)}{rows rs rs':Rows}{i1 i2:List Id}(e:rows=r::rs)(h1:p r=some (r',i1))(h2:eB p rs=some (rs',i2)):eB p rows=some (r'::rs',i1++i2):=by subst e;simp[eB,h1,h2]
theorem alq [hc:jF c](hx:v= .rs id 0 m:=by exact rfl)(hh:L id=some (some (q.map c)):=by exact rfl)(hm:m≤q.length:=by exact zW):pk L (n+1) v=some (.own (q.map c) m,[id]):=alp hm hx hh
end
section
variable{L:Id→Option (Option Rows)}{n:Nat}{α:Type}{c:α→List aa}{q:List α}{id:Id}{cs cs':List aa}{ids is:List Id}{x v:aa}
theorem n9{a:aa}{y:Option (aa×List Id)}(h:pk L n a=y:=by repeat'(first|exact alw|exact aro|exact alo|exact arq|exact alv|exact alr|exact alq|(apply alu;exact rfl;exact rfl;exact rfl;(first|(with_reducible assumption)|assumption);exact uj;rotate_left;exact rfl)|(apply VR;exact rfl;exact rfl;exact rfl;(first|(with_reducible assumption)|assumption);exact zW;rotate_left;exact rfl)|exact ale|exact aln|exact alk|exact alm|exact ali|exact alh|exact aru|exact ars|exact arw|exact alf|exact alj|exact art|exact arp|exact BF|(apply Fl;exact rfl)|(apply ald;exact rfl)|(apply alg;exact rfl;exact rfl)|(apply arv;exact rfl)|(apply als;exact rfl;exact rfl;exact rfl;exact rfl)|exact alJ|(apply alI;exact rfl)|exact arl|(apply arn;exact rfl))):pk L n a=y:=h
theorem KG{t:Nat→aa}{sl:List Nat}{y:Option (List aa×List Id)}(h:kr L t sl=y:=by repeat'(first|exact alA|(apply alz;exact n9))):kr L t sl=y:=h
theorem ak{o:Option (Bool×List Nat)}{slots:List Nat}{t:Nat→aa}{vs:List aa}(hk:o=some (false,slots):=by exact rfl)(hp:kr L t slots=some (vs,is):=by exact KG)(hn:eR is=true:=by exact rfl):eH o ⟨n,t,L⟩=some (aG n slots vs):=by subst hk;show(jU ⟨n,t,L⟩ slots).map _=_;rw[al9,hp];simp[hn]
end
/-! ### The same with names kept -/
section
variable{n:Nat}{t t2:Nat→aa}{h:Id→Option (Option Rows)}{slots r:List Nat}{l:List (Id×Id)}{hl y:List (Id×Rows)}{α:Type}{c:α→List aa}{q:List α}
def iS(n:Nat)(l:List (Nat×aa))(h:List (Id×Rows)):an:=⟨n,dF (fun _=> .bH) l,kR h⟩
/-! Rows that are flat, cell by cell. -/
theorem SF{α:Type}{c:α→List aa}{q:List α}{m:Nat}[hc:jF c]:flat (.own (q.map c) m)=true:=by simp[flat,qX]
theorem SC{r cs:List aa}{a:aa}(e:r=a::cs)(h1:flat a=true)(h2:de cs=true):de r=true:=by subst e;simp[de,h1,h2]
theorem aeo{rows:Rows}(e:rows=[]:=by exact rfl):eX rows=true:=by subst e;rfl
theorem aep{rows rs:Rows}{r:List aa}(e:rows=r::rs)(h1:de r=true)(h2:eX rs=true):eX rows=true:=by subst e;simp[eX,h1,h2]
theorem Mj{rows:Rows}(k:eX rows=true:=by(repeat'(first|exact qX _|exact aeo|(apply aep;exact rfl)|exact aem|(apply SC;exact rfl)|exact rfl|exact aej|exact aen|exact SF));first|done|fail):eX rows=true:=k
theorem aje:o3 l t []=dF (fun _=> .bH) []:=rfl
theorem ajd{s:Nat}{v':aa}{vs:List (Nat×aa)}(he:fL l (t s)=v')(hr:o3 l t r=dF (fun _=> .bH) vs):o3 l t (s::r)=dF (fun _=> .bH) ((s,v')::vs):=by subst he;simp[o3,hr,dF]
theorem alV:lZ l []=some []:=rfl
theorem alU{cs as bs:List aa}{a b:aa}(hx:cs=a::as)(h1:sU l a=some b)(h2:lZ l as=some bs):lZ l cs=some (b::bs):=by subst hx;simp[lZ,h1,h2]
theorem alZ{i k:Id}{x:aa}{off m m':Nat}(hx:x= .rs i off m:=by exact rfl)(hk:gx l i=some k:=by exact rfl)(hm:m=m':=by exact uj):sU l x=some (.rs k off m'):=by subst hx hm;simp[sU,At,hk]
theorem alW{cs cs':List aa}(h:lZ l cs=some cs':=by repeat'(first|exact alV|(apply alU;exact rfl)|exact alZ|exact rfl)):lZ l cs=some cs':=h
theorem O3 [hc:jF c]:nB l (q.map c)=some (q.map c):=by simp[nB,qX]
theorem O5{cs cs':List aa}(hf:de cs=false:=by exact rfl)(h:lZ l cs=some cs':=by first|exact rfl|exact alW):nB l [cs]=some [cs']:=by simp[nB,eX,hf,Dy,h]
theorem O4{rows:Rows}(hf:eX rows=true:=by first|exact rfl|exact Mj):nB l rows=some rows:=by simp[nB,hf]
end
section
variable{l:List (Id×Id)}{α:Type}{c:α→List aa}{q:List α}{k:Nat}{x x':α}{r r':List aa}
theorem al6{a:aa}(h:flat a=true):sU l a=some a:=by cases a with|fn k as cs=>(simp only[sU];rw[if_pos (by simpa[flat]using h)])|rs _ _ _=>(simp[flat]at h)|mp _ _ _=>(simp[flat]at h)|mr _=>(simp[flat]at h)|cE=>(simp[flat]at h)|_=>simp only[sU,At];rw[if_pos h]
theorem Hs:∀{as:List aa},de as=true→lZ l as=some as|[],_=>rfl|a::as,h=>by simp only[de,Bool.and_eq_true]at h;simp[lZ,al6 h.1,Hs h.2]
end
section
variable{n:Nat}{t t2:Nat→aa}{h:Id→Option (Option Rows)}{slots r:List Nat}{l:List (Id×Id)}{hl y:List (Id×Rows)}{α:Type}{c:α→List aa}{q:List α}
theorem ahr{L:Id→Option (Option Rows)}:q2 L l []=some []:=rfl
theorem ahq{L:Id→Option (Option Rows)}{r:List (Id×Id)}{o k:Id}{rows bB:Rows}(h:L o=some (some rows))(hr:nB l rows=some bB)(hy:q2 L l r=some y):q2 L l ((o,k)::r)=some ((k,bB)::y):=by simp[q2,h,hr,hy]
theorem hnk{L:Id→Option (Option Rows)}{r:List (Id×Id)}(h:q2 L l r=some y:=by repeat'(first|exact ahr|(apply ahq;exact rfl;first|exact O3|exact arU rfl|exact arW (by(first|(with_reducible assumption)|assumption))|exact O5|exact O4))):q2 L l r=some y:=h
theorem ajf{vs:List (Nat×aa)}(h:o3 l t slots=dF (fun _=> .bH) vs:=by repeat'(first|exact aje|(apply ajd;first|exact rfl|exact arV))):o3 l t slots=dF (fun _=> .bH) vs:=h
def aiA:aa→Bool| .cE=>true|_=>false
theorem U7{y:an}(e:(⟨n,t,h⟩:an)=y:=by exact rfl):kT [] ⟨n,t,h⟩=y:=e
theorem ajJ{s:Nat}{sl:List Nat}{y:an}(hs:aiA (t s)=false)(k:kT sl ⟨n,t,h⟩=y):kT (s::sl) ⟨n,t,h⟩=y:=by have e:sK ⟨n,t,h⟩ s=⟨n,t,h⟩:=by{simp only[sK];split;·{rename_i h1 _;rw[h1]at hs;cases hs};·rfl};rw[kT,e];exact k
theorem ajI{s:Nat}{sl:List Nat}{y:an}(hs:t s= .cE)(hh:h [s,s]=none)(k:kT sl ⟨n,aC t s (.rs [s,s] 0 0),aC h [s,s] (some (some []))⟩=y):kT (s::sl) ⟨n,t,h⟩=y:=by have e:sK ⟨n,t,h⟩ s=⟨n,aC t s (.rs [s,s] 0 0),aC h [s,s] (some (some []))⟩:=by{simp only[sK,hs,hh]};rw[kT,e];exact k
theorem ajK{y:an}(k:kT slots ⟨n,t,h⟩=y:=by repeat'(first|with_reducible exact U7|(apply ajJ;first|exact rfl|exact aqP|exact aqQ)|(apply ajI;exact rfl;exact rfl)|exact U7)):kT slots ⟨n,t,h⟩=y:=k
section
variable{keep:Id→Bool}{o:Id}{ol:List Id}{y0:Option an}{rows bB:Rows}{ids:List Id}{r r':List aa}{k:Nat}
theorem acV{α:Type}{g:α→Id}{y0:Option an}(e:some (⟨n,t,h⟩:an)=y0:=by exact rfl):j3 keep (List.map g []) ⟨n,t,h⟩=y0:=e
theorem ajr(e:(eR ids&& !ids.contains o)=true):(eR ids&& !ids.contains o)=true:=e
theorem acT(hh:h o=some (some rows))(hf:eX rows=true)(k:j3 keep ol ⟨n,t,h⟩=y0):j3 keep (o::ol) ⟨n,t,h⟩=y0:=by have e:r9 keep ⟨n,t,h⟩ o=some ⟨n,t,h⟩:=by{simp only[r9,hh,hf,if_true]};rw[j3,e];exact k
theorem acZ(hh:h o=some (some rows))(hf:eX rows=false)(hc:eB (mg h keep) rows=some (bB,ids))(hn:(eR ids&& !ids.contains o)=true)(k:j3 keep ol ⟨n,t,bD h ((o,some bB)::ids.map fun i=>(i,none))⟩=y0):j3 keep (o::ol) ⟨n,t,h⟩=y0:=by have e:r9 keep ⟨n,t,h⟩ o=some ⟨n,t,bD h ((o,some bB)::ids.map fun i=>(i,none))⟩:=by{simp only[r9,hh,hf,hc,hn,if_true];rfl};rw[j3,e];exact k
theorem RO(hf:de r=false:=by exact rfl)(hc:ew (hY h keep) r=some (r',ids)):mg h keep r=some (r',ids):=by simp[mg,hf,hc]
theorem SN{p:List aa→Option (List aa×List Id)}(e:rows=[]:=by exact rfl):eB p rows=some ([],[]):=by subst e;rfl
theorem SO{p:List aa→Option (List aa×List Id)}{rs:Rows}{i1 i2:List Id}(e:rows=r::rs)(h1:p r=some (r',i1))(h2:eB p rs=some (bB,i2)):eB p rows=some (r'::bB,i1++i2):=by subst e;simp[eB,h1,h2]
theorem LV{i:Id}{off len:Nat}{x:aa}(hx:x= .rs i off len:=by exact rfl)(hk:keep i=true:=by exact rfl):hY h keep x=some (.rs i off len,[]):=by subst hx;simp[hY,hk]
theorem LW{i:Id}{row off:Nat}{x:aa}(hx:x= .mp i row off:=by exact rfl)(hk:keep i=true:=by exact rfl):hY h keep x=some (.mp i row off,[]):=by subst hx;simp[hY,hk]
theorem LY{i:Id}{off len:Nat}{x x':aa}(hx:x= .rs i off len:=by exact rfl)(hk:keep i=false:=by exact rfl)(hp:pk h 8 (.rs i off len)=some (x',ids)):hY h keep x=some (x',ids):=by subst hx;simp[hY,hk,hp]
theorem LX{x:aa}(hx:x= .cE:=by exact rfl):hY h keep x=some (.own [] 0,[]):=by subst hx;rfl
theorem Oc:∀{l:List aa},de l=true→Ch keep l=true|[],_=>rfl|a::l,hf=>by simp only[de,Bool.and_eq_true]at hf;simp only[Ch,List.all_cons,Bool.and_eq_true];refine⟨?_,Oc hf.2⟩;cases a<;>first|exact hf.1|(simp[flat]at hf)
theorem E1{x:aa}(hf:flat x=true):hY h keep x=some (x,[]):=by cases x with|fn k as cs=>(simp only[flat,Bool.and_eq_true]at hf;simp only[hY];rw[if_pos (by simp[Oc hf.1,Oc hf.2])])|rs _ _ _=>(simp[flat]at hf)|mp _ _ _=>(simp[flat]at hf)|mr _=>(simp[flat]at hf)|cE=>(simp[flat]at hf)|_=>simp only[hY];rw[if_pos hf]
end
section
variable{α:Type}{c:α→List aa}{q:List α}{k:Nat}{x x':α}{r r':List aa}{ids:List Id}{keep:Id→Bool}{o:Id}{ol:List Id}{y0:Option an}
end
theorem ac1{keep:Id→Bool}{ol:List Id}{y0:Option an}(k:j3 keep ol ⟨n,t,h⟩=y0:=by repeat'(first|with_reducible exact aoO|with_reducible exact acV|(apply acT;exact rfl;first|exact qX _|exact rfl|exact Mj)|(apply aoP;exact rfl;exact rfl;(first|(with_reducible assumption)|assumption);exact inferInstance)|(apply acZ;exact rfl;exact rfl)|exact SN|(apply SO;exact rfl)|exact adj|(apply RO;exact rfl)|exact LV|exact LW|exact Rx|exact LX|(apply Rz;exact rfl;exact rfl;exact n9)|(apply LY;exact rfl;exact rfl;exact n9)|(apply Ry;exact rfl;exact rfl;exact n9)|(apply E1;first|exact rfl|exact SD|exact SG|exact SE)|exact Rw|exact BF|(apply Fl;exact rfl)|exact ajr rfl)):j3 keep ol ⟨n,t,h⟩=y0:=k
/-! Names, one by one. -/
def UH:aa→Bool| .fn _ as cs=> !(de as&&de cs)| .rs _ _ _=>true| .mp _ _ _=>true| .mr _=>true| .agg _=>true|_=>false
section
variable{L:Id→Option (Option Rows)}{m j:Nat}{p i:Id}{acc acc' pP y l:List (Id×Id)}{a:aa}{as cs eT:List aa}{S:an}{s:Nat}{slots:List Nat}
theorem adr(hx:eT=[])(e:acc=y):fR L m p j acc eT=y:=by subst hx;cases m<;>exact e
theorem adz(hx:eT=a::as)(hs:UH a=false)(k:fR L m p (j+1) acc as=y):fR L (m+1) p j acc eT=y:=by subst hx;cases a with|fn f xs cs=>(simp only[UH,Bool.not_eq_false']at hs;simp only[fR,if_pos hs];exact k)|_=>first|exact k|cases hs
theorem Ot{i q:Id}(h:ki i=false)(h2:ki q=false):uo i q=q:=by simp[uo,h,h2]
theorem Ou{i q:Id}(h:ki i=true):uo i q=i:=by simp[uo,h]
variable{nm:Id}
theorem adx{o n:Nat}(hx:eT= .rs i o n::as)(hn:(gx acc i).isSome=false)(hm:uo i (j::p)=nm)(hl:acc++[(i,nm)]=acc')(k:fR L m p (j+1) acc' as=y):fR L (m+1) p j acc eT=y:=by subst hx hl hm;simp only[fR,hn];exact k
theorem ady{o n:Nat}(hx:eT= .rs i o n::as)(hn:(gx acc i).isSome=true)(k:fR L m p (j+1) acc as=y):fR L (m+1) p j acc eT=y:=by subst hx;simp only[fR,hn];exact k
theorem adu{o n:Nat}(hx:eT= .mp i o n::as)(hn:(gx acc i).isSome=false)(hh:L i=some (some [cs]))(hm:uo i (j::p)=nm)(hl:acc++[(i,nm)]=acc')(h1:fR L m (j::p) 0 acc' cs=pP)(k:fR L m p (j+1) pP as=y):fR L (m+1) p j acc eT=y:=by subst hx hl h1 hm;simp only[fR,hn,hh];exact k
theorem adv{o n:Nat}(hx:eT= .mp i o n::as)(hn:(gx acc i).isSome=true)(k:fR L m p (j+1) acc as=y):fR L (m+1) p j acc eT=y:=by subst hx;simp only[fR,hn];exact k
theorem adp(hx:eT= .agg cs::as)(h1:fR L m (j::p) 0 acc cs=pP)(k:fR L m p (j+1) pP as=y):fR L (m+1) p j acc eT=y:=by subst hx h1;simp only[fR];exact k
theorem adt{f:Fn}{xs:List aa}(hx:eT= .fn f xs cs::as)(hf:(de xs&&de cs)=false)(h1:fR L m (j::p) 0 acc (xs++cs)=pP)(k:fR L m p (j+1) pP as=y):fR L (m+1) p j acc eT=y:=by subst hx h1;simp only[fR,hf];exact k
theorem ajy(e:acc=l):List.foldl (fun acc s=>fR S.h 40 [s] 0 acc [S.t s]) acc []=l:=e
theorem ajx(h:fR S.h 40 [s] 0 acc [S.t s]=acc')(k:List.foldl (fun acc s=>fR S.h 40 [s] 0 acc [S.t s]) acc' slots=l):List.foldl (fun acc s=>fR S.h 40 [s] 0 acc [S.t s]) acc (s::slots)=l:=by subst h;exact k
theorem ajw{WN:List Nat}(hs:slots=WN)(h:List.foldl (fun acc s=>fR S.h 40 [s] 0 acc [S.t s]) [] WN=l):names S slots=l:=by subst hs;exact h
theorem ajz(h:names S slots=l:=by((with_reducible apply ajw);exact spine);repeat'(first|((with_reducible apply ajy);exact rfl)|(with_reducible apply ajx)|((with_reducible apply adr);(with_reducible exact rfl);exact rfl)|((with_reducible apply adz);exact rfl;first|exact rfl|exact aq7|exact ara)|((with_reducible apply adx);exact rfl;exact rfl;(first|exact Ot rfl rfl|exact Ou rfl|exact U6 rfl rfl spine);exact spine)|((with_reducible apply ady);exact rfl;exact rfl)|((with_reducible apply aoU);exact rfl;exact rfl;(first|exact Ot rfl rfl|exact Ou rfl|exact U6 rfl rfl spine);exact spine)|((with_reducible apply aoV);exact rfl;exact rfl)|((with_reducible apply adv);exact rfl;exact rfl)|((with_reducible apply adu);exact rfl;exact rfl;exact rfl;(first|exact Ot rfl rfl|exact Ou rfl|exact U6 rfl rfl spine);exact spine)|((with_reducible apply adp);exact rfl)|((with_reducible apply adt);exact rfl;exact rfl))):names S slots=l:=h
end
theorem ajH{t0 t1:Nat→aa}{h0 h1:Id→Option (Option Rows)}{vs:List (Nat×aa)}(e0:kT slots ⟨n,t,h⟩=⟨n,t0,h0⟩:=by exact ajK)(hn:names ⟨n,t0,h0⟩ slots=l:=by first|exact ajz|exact spine)(e1:j3 (vG l) (l.map (·.1)) ⟨n,t0,h0⟩=some ⟨n,t1,h1⟩:=by exact ac1)(hd:(eR (l.map (·.1))&&eR (l.map (·.2))&&l.all (fun x=> !ki x.2||x.1==x.2))=true:=by exact rfl)(hh:q2 h1 l l=some hl:=by exact hnk)(ht:o3 l t1 slots=dF (fun _=> .bH) vs:=by exact ajf):norm ⟨n,t,h⟩ slots=some (iS n vs hl):=by subst hn;simp only[norm,GF,e0,e1,Option.bind_some,vL,hd,if_true,hh,Option.map_some,ht,iS]
theorem gu{o:Option (Bool×List Nat)}{vs:List (Nat×aa)}(hk:o=some (true,slots):=by exact rfl)(hm:norm ⟨n,t,h⟩ slots=some (iS n vs hl):=by exact ajH):eH o ⟨n,t,h⟩=some (iS n vs hl):=by subst hk;exact hm
end
section
variable{C:aU}{f:FuncId}{call:hM}{c:Code}{Q:Exit×an→Prop}{n:Nat}{l:List (Nat×aa)}{h:List (Id×Rows)}
theorem uE(k:W C f call c ⟨n,dF (fun _=> .bH) l,kR h⟩ Q):W C f call c (iS n l h) Q:=k
theorem CB{e:Exit}(k:Q (e,⟨n,dF (fun _=> .bH) l,kR h⟩)):Q (e,iS n l h):=k
end
section
variable{α:Type}{c c':α→List aa}{q:List α}{as bs:List aa}{L:Id→Option (Option Rows)}{n:Nat}
/-! Freezing -/
theorem ae6 [hc:Iv c c']:eC (.own (q.map c) q.length)= .sl (q.map c'):=by have:kO (q.map c)=q.map c':=by{induction q with|nil=>(rfl)|cons x q ih=>simp[kO,hc.eC,ih]};simp only[eC,this];rw[List.take_of_length_le (by simp)]
theorem ae3{a b:aa}(h:eC a=b)(k:kN as=bs):kN (a::as)=b::bs:=by simp[kN,h,k]
theorem ae2(h:kN as=bs):eC (.agg as)= .agg bs:=by simp[eC,h]
theorem ae8(h:kN as=bs):eC (.bG as)= .bG bs:=by simp[eC,h]
theorem Jy{a b:aa}(h:eC a=b:=by repeat'(first|exact(rfl:eC (.val _)= .val _)|exact apK|exact ae7|exact ae6|exact apL|exact(rfl:eC (.sl _)= .sl _)|apply ae2|apply ae8|apply apM|exact(rfl:kN []=[])|apply ae3|exact rfl)):eC a=b:=h
end
/-! ### Memory of one's own -/
def app{α:Type}(a b:List α):Option (List α):=if a.length+b.length≤4294967296 then some (a++b)else none
theorem EI{α:Type}{a b r:List α}(h:app a b=some r):a.length+b.length≤4294967296∧r=a++b:=by unfold app at h;split at h;·{exact⟨‹_›,by simpa using h.symm⟩};·cases h
def lU{α:Type}(n:Int)(z:α):Option (List α):=if 0≤n∧n≤4294967296 then some (List.replicate n.toNat z)else none
theorem KS{α:Type}{c:α→List aa}{q:List α}[hc:rW c]:rJ (q.map c)=true:=by simp only[rJ,List.all_map,List.all_eq_true];exact fun x _=>hc.ce x
section
variable{C:aU}{f:FuncId}{call:hM}{S:an}{g:Bool}
variable{d:Nat}{ty:TypeId}{pos:String}{bn:Array Edge}{bP:Option (Nat×Bool)}{v v':aa}
variable{x y z:Operand}{k:IntKind}{a b:Int}{T dY:TypeId}
theorem bR{cs:List aa}[hz:lM C T cs](hn:S.h [d]=none:=by exact rfl)(gG:C.wq f d=[]:=by exact rfl):bN C f call S g ⟨some d, .alloc T,ty,pos,bn,bP⟩=some ⟨[(d, .mp [d] 0 0)],[],[([d],some [cs])]⟩:=by show sg C f S _ T=_;simp[sg,hz.PV,hn,gG,wu]
theorem U9{cs cs':List aa}{l:List Nat}[hz:lM C T cs](gG:C.wq f d=l:=by exact rfl)(hc:wu l cs=cs':=by exact rfl)(hn:S.h [d]=none:=by exact rfl):bN C f call S g ⟨some d, .alloc T,ty,pos,bn,bP⟩=some ⟨[(d, .mp [d] 0 0)],[],[([d],some [cs'])]⟩:=by subst hc;show sg C f S _ T=_;simp[sg,hz.PV,hn,gG]
theorem mM{bb:Bool}{m:Nat}{cs:List aa}[ha:dO C T bb m](hin:(C.e7 f).contains d=false:=by exact rfl)(hx:un g (S.get C x)=v:=by exact gt)(hc:pS bb v=some cs:=by exact rfl)(hn:S.h [d]=none:=by exact rfl):bN C f call S g ⟨some d, .box T x,ty,pos,bn,bP⟩=some ⟨[(d, .mp [d] 0 0)],[],[([d],some [cs])]⟩:=by show si C f S _ T (un g (S.get C x))=_;simp only[si,ha.l9,hx,hc,fc,hin,Bool.false_and,Bool.false_eq_true,if_false];rw[if_pos (Uk hn)];rfl
theorem bk{i off off' row m:Nat}{bb:Bool}{id:Id}[hf:Fd C T i off m bb](hx:un g (S.get C x)= .mp id row off':=by first|exact rfl|exact cm)(h0:Nat.blt 0 m=true:=by exact rfl):bN C f call S g ⟨some d, .fieldAddr T x i,ty,pos,bn,bP⟩=some ⟨[(d, .mp id row (off'+off))],[],[]⟩:=by show tw C f _ T i (un g (S.get C x))=_;have yX:0<m:=of_decide_eq_true (m4 h0);simp[tw,hf.fd,hx,yX]
theorem Oe{bb:Bool}{m row off:Nat}{id:Id}{rows:Rows}{r cs:List aa}(ha:lP C T=some bb)(hs:iy C T=some m)(hx:un g (S.get C x)= .mp id row off)(hh:S.h id=some (some rows))(hr:rows[row]? =some r)(hl:Nat.ble (off+m) r.length=true)(hc:bZ [d] 0 ((r.drop off).take m)=(cs,[]))(hv:kS bb cs=some v):bN C f call S g ⟨some d, .load T x,ty,pos,bn,bP⟩=some ⟨[(d,v)],[id],[]⟩:=by show nN C S _ T (un g (S.get C x))=_;rw[hx];have hl':off+m≤r.length:=Nat.le_of_ble_eq_true hl;simp only[nN,ha,hs,hh,hr,Option.bind_some,if_pos hl',js,hc,hv,List.isEmpty_nil,if_true,Option.map_some];rfl
theorem UG{bb:Bool}{m row off:Nat}{id:Id}{rows:Rows}{r cs:List aa}{w:Id×Option Rows}{wr:List (Id×Option Rows)}(ha:lP C T=some bb)(hs:iy C T=some m)(hx:un g (S.get C x)= .mp id row off)(hh:S.h id=some (some rows))(hr:rows[row]? =some r)(hl:Nat.ble (off+m) r.length=true)(hc:bZ [d] 0 ((r.drop off).take m)=(cs,w::wr))(hf:fresh S.h (w::wr)=true)(hv:kS bb cs=some v):bN C f call S g ⟨some d, .load T x,ty,pos,bn,bP⟩=some ⟨[(d,v)],[id],(id,some (rows.set row (r.take off++cs++r.drop (off+m))))::w::wr⟩:=by show nN C S _ T (un g (S.get C x))=_;rw[hx];have hl':off+m≤r.length:=Nat.le_of_ble_eq_true hl;simp only[nN,ha,hs,hh,hr,Option.bind_some,if_pos hl',js,hc,hv,List.isEmpty_cons,Bool.false_eq_true,if_false,hf,if_true,Option.map_some];rfl
theorem eS{m row off:Nat}{id:Id}{α:Type}{c:α→List aa}{q:List α}{r:α}{cs:List aa}(hr:q[row]? =some r)[ha:dO C T false m](hx:un g (S.get C x)= .mp id row off:=by first|exact rfl|exact cm)(hh:S.h id=some (some (q.map c)):=by exact rfl)(hm:m=1:=by exact rfl)(hv:(c r).drop off=v::cs:=by exact rfl)(hu:bZ [d] 0 [v]=([v],[]):=by first|exact rfl|exact Xk):bN C f call S g ⟨some d, .load T x,ty,pos,bn,bP⟩=some ⟨[(d,v)],[id],[]⟩:=by subst hm;refine Oe (rows:=q.map c) (r:=c r) (cs:=[v]) ha.l9 ha.sz hx hh (by simp[hr]) ?_ (by rw[hv];exact hu) rfl;have:=congrArg List.length hv;simp only[List.length_drop,List.length_cons]at this;apply Nat.ble_eq_true_of_le;omega
theorem bx{m off:Nat}{id:Id}{r cs:List aa}[ha:dO C T false m](hx:un g (S.get C x)= .mp id 0 off:=by first|exact rfl|exact cm)(hh:S.h id=some (some [r]):=by exact rfl)(hm:m=1:=by exact rfl)(hv:r.drop off=v::cs:=by exact rfl)(hu:bZ [d] 0 [v]=([v],[]):=by first|exact rfl|exact Xk):bN C f call S g ⟨some d, .load T x,ty,pos,bn,bP⟩=some ⟨[(d,v)],[id],[]⟩:=by subst hm;refine Oe (rows:=[r]) (r:=r) (cs:=[v]) ha.l9 ha.sz hx hh rfl ?_ (by rw[hv];exact hu) rfl;have:=congrArg List.length hv;simp only[List.length_drop,List.length_cons]at this;apply Nat.ble_eq_true_of_le;omega
theorem bY{m off:Nat}{id:Id}{r cs cs0:List aa}[ha:dO C T true m](hx:un g (S.get C x)= .mp id 0 off:=by first|exact rfl|exact cm)(hh:S.h id=some (some [r]):=by exact rfl)(hl:Nat.ble (off+m) r.length=true:=by exact rfl)(hv:(r.drop off).take m=cs0:=by exact spine)(hu:bZ [d] 0 cs0=(cs,[]):=by exact yd):bN C f call S g ⟨some d, .load T x,ty,pos,bn,bP⟩=some ⟨[(d, .agg cs)],[id],[]⟩:=Oe (rows:=[r]) (r:=r) ha.l9 ha.sz hx hh rfl hl (by rw[hv];exact hu) rfl
theorem Oz{m off:Nat}{id:Id}{r r' cs cs0:List aa}{w:Id×Option Rows}{wr:List (Id×Option Rows)}[ha:dO C T false m](hx:un g (S.get C x)= .mp id 0 off:=by first|exact rfl|exact cm)(hh:S.h id=some (some [r]):=by exact rfl)(hm:m=1:=by exact rfl)(hl:Nat.ble (off+1) r.length=true:=by exact rfl)(hv:(r.drop off).take 1=cs0:=by exact spine)(hu:bZ [d] 0 cs0=(cs,w::wr):=by exact yd)(MX:cs=[v]:=by exact rfl)(hq:r.take off++cs++r.drop (off+1)=r':=by exact spine)(hf:fresh S.h (w::wr)=true:=by exact rfl):bN C f call S g ⟨some d, .load T x,ty,pos,bn,bP⟩=some ⟨[(d,v)],[id],(id,some [r'])::w::wr⟩:=by subst hm hq;exact UG (rows:=[r]) (r:=r) ha.l9 ha.sz hx hh rfl hl (by rw[hv];exact hu) hf (by rw[MX];rfl)
def K3(L:List Nat):Operand→Bool| .tmp kC=>L.contains kC|_=>false
theorem S0{a:Operand}(hin:K3 (C.e7 f) a=false):yT C f a=none:=by cases a with|tmp kC=>(simp only[K3]at hin;unfold yT;simp only;rw[if_neg (by rw[hin];simp)])|_=>rfl
theorem dm{bb:Bool}{m kC:Nat}{id:Id}{cs cs' r:List aa}[ha:dO C T bb m](hin:(C.e7 f).contains kC=true:=by exact rfl)(hx:un true (S.get C (.tmp kC))= .mp id 0 0:=by exact rfl)(hy:un true (S.get C y)=v:=by exact gt)(hc:pS bb v=some cs:=by exact rfl)(cc:cs.length=m:=by exact rfl)(hh:S.h id=some (some [r]):=by exact rfl)(hr:r.length=m:=by exact rfl)(hz:lW cs=cs':=by exact spine)(hi:eJ cs'=true:=by exact rfl):bN C f call S true ⟨none, .store T (.tmp kC) y,ty,pos,bn,bP⟩=some ⟨[(kC, .ax cs')],[id],[(id,none)]⟩:=by show p0 C f S true _ T (.tmp kC) (un true (S.get C (.tmp kC))) (un true (S.get C y))=_;rw[hx,hy];have e:yT C f (.tmp kC)=some kC:=by{unfold yT;simp only;rw[if_pos hin]};subst hz;simp[p0,ha.l9,ha.sz,hc,cc,hh,hr,e,hi]
theorem aN{bb:Bool}{m off:Nat}{ao:Operand}{id:Id}{cs r r':List aa}[ha:dO C T bb m](hin:K3 (C.e7 f) ao=false:=by exact rfl)(hx:un g (S.get C ao)= .mp id 0 off:=by exact rfl)(hy:un g (S.get C y)=v:=by exact gt)(hc:pS bb v=some cs:=by exact rfl)(cc:cs.length=m:=by exact rfl)(hh:S.h id=some (some [r]):=by exact rfl)(hl:Nat.ble (off+m) r.length=true:=by exact rfl)(hq:r.take off++cs++r.drop (off+m)=r':=by exact spine):bN C f call S g ⟨none, .store T ao y,ty,pos,bn,bP⟩=some ⟨[],[id],[(id,some [r'])]⟩:=by show p0 C f S g _ T ao (un g (S.get C ao)) (un g (S.get C y))=_;rw[hx,hy];have hl':off+m≤r.length:=Nat.le_of_ble_eq_true hl;have e:=S0 (f:=f) hin;subst hq;simp only[p0,ha.l9,ha.sz,hc];rw[if_neg (by simp[cc]),hh];simp only[List.getElem?_cons_zero,Option.bind_some,if_pos hl',e];rfl
theorem adb{e:Option Int}:pS false (lC e)=some [lC e]:=by cases e<;>rfl
theorem kU{bb:Bool}{m row off:Nat}{ao:Operand}{id:Id}{cs:List aa}{α:Type}{c:α→List aa}{q:List α}{r:α}(hr:q[row]? =some r)(r':α)[ha:dO C T bb m](hin:K3 (C.e7 f) ao=false:=by exact rfl)(hx:un g (S.get C ao)= .mp id row off:=by exact rfl)(hy:un g (S.get C y)=v:=by exact gt)(hc:pS bb v=some cs:=by first|exact rfl|exact adb)(cc:cs.length=m:=by exact rfl)(hh:S.h id=some (some (q.map c)):=by exact rfl)(hl:Nat.ble (off+m) (c r).length=true:=by exact rfl)(hq:(c r).take off++cs++(c r).drop (off+m)=c r':=by exact rfl):bN C f call S g ⟨none, .store T ao y,ty,pos,bn,bP⟩=some ⟨[],[id],[(id,some ((q.set row r').map c))]⟩:=by show p0 C f S g _ T ao (un g (S.get C ao)) (un g (S.get C y))=_;rw[hx,hy];have hl':off+m≤(c r).length:=Nat.le_of_ble_eq_true hl;have e:=S0 (f:=f) hin;have e2:(q.map c)[row]? =some (c r):=by{simp[hr]};simp only[p0,ha.l9,ha.sz,hc];rw[if_neg (by simp[cc]),hh];simp only[e2,Option.bind_some,if_pos hl',e];rw[hq,List.map_set];rfl
theorem c9{e:TypeId}{m n:Nat}{bb:Bool}{α:Type}{c:α→List aa}{q:List α}{i:Int}{r:α}{id:Id}(hi:idx q i=some r)[hu:ff C T (.slice e)][hs:dO C e bb m](hx:un g (S.get C x)= .rs id 0 n:=by first|exact rfl|exact cm)(hh:S.h id=some (some (q.map c)):=by exact rfl)(hl:n=q.length:=by exact uj)(hy:un g (S.get C y)= .val (.int k i):=by first|exact rfl|exact cm)(hr:(c r).length=m:=by exact rfl):bN C f call S g ⟨some d, .indexAddr T x y,ty,pos,bn,bP⟩=some ⟨[(d, .mp id i.toNat 0)],[id],[]⟩:=by show pW C S _ T (un g (S.get C x)) (fl (un g (S.get C y)))=_;have hb:=J4 hi;have hn:=cW hi;subst hl;simp only[hx,hy,fl,pW,hu.ul,hs.sz];rw[if_pos hb,hh];simp[hn,hr]
section
variable{α:Type}{c:α→List aa}{q q' r:List α}{id g7:Id}{e:TypeId}{m n n':Nat}{T dY:TypeId}
abbrev yx:= @m3
theorem Q1{rx:aa}{xs ys:Rows}{i1 i2:List Id}(hok:EH C e m=true)(hu:C.P.underlying T=some (.slice e))(g5:C.P.underlying dY=some (.slice e))(hx:un g (S.get C x)=rx)(xl:rowsOf S.h rx=some (xs,i1))(hy:rowsOf S.h (un g (S.get C y))=some (ys,i2))(hl:ys.all (·.length==m)=true)(hcell:rJ ys=true)(hlen:xs.length+ys.length≤oZ)(hn:S.h [d]=none){BA:bE}(he:yx S ⟨some d, .call ⟨.builtin .append,⟨[x,y]⟩,⟨[T,dY]⟩⟩,ty,pos,bn,bP⟩ d m rx xs ys i1 i2=some BA):m7 C S ⟨some d, .call ⟨.builtin .append,⟨[x,y]⟩,⟨[T,dY]⟩⟩,ty,pos,bn,bP⟩ ⟨[T,dY]⟩ ([x,y].map fun x=>un g (S.get C x))=some BA:=by unfold EH at hok;split at hok;·{rename_i inf Ng;simp only[Bool.and_eq_true,beq_iff_eq,decide_eq_true_eq]at hok;obtain⟨⟨⟨k1,k2⟩,c8⟩,eV⟩:=hok;subst k1;have e1:(#[T,dY]:Array TypeId)[0]? =some T:=rfl;have e2:(#[T,dY]:Array TypeId)[1]? =some dY:=rfl;simp only[List.map_cons,List.map_nil,m7,e1,e2,Option.bind_some,g5,Bj,hu,Ng,hx,xl,hy];rw[if_pos (by simp only[Bool.and_eq_true,decide_eq_true_eq];exact⟨⟨⟨⟨⟨⟨hl,k2⟩,c8⟩,eV⟩,hlen⟩,hcell⟩,by rw[hn];rfl⟩)];unfold yx at he;exact he};·cases hok
theorem LF{rx:aa}{xs ys:Rows}{i1 i2:List Id}(hok:EH C e m=true)(hu:C.P.underlying T=some (.slice e))(g5:C.P.underlying dY=some (.slice e))(hx:un g (S.get C x)=rx)(xl:rowsOf S.h rx=some (xs,i1))(hy:rowsOf S.h (un g (S.get C y))=some (ys,i2))(hl:ys.all (·.length==m)=true)(hcell:rJ ys=true)(hlen:xs.length+ys.length≤oZ)(hn:S.h [d]=none)(hfz:(C.e7 f).contains d=false){BA:bE}(he:yx S ⟨some d, .call ⟨.builtin .append,⟨[x,y]⟩,⟨[T,dY]⟩⟩,ty,pos,bn,bP⟩ d m rx xs ys i1 i2=some BA):bN C f call S g ⟨some d, .call ⟨.builtin .append,⟨[x,y]⟩,⟨[T,dY]⟩⟩,ty,pos,bn,bP⟩=some BA:=by show(m7 C S _ _ ([x,y].map fun x=>un g (S.get C x))).bind (sq C f _)=_;have key:m7 C S ⟨some d, .call ⟨.builtin .append,⟨[x,y]⟩,⟨[T,dY]⟩⟩,ty,pos,bn,bP⟩ ⟨[T,dY]⟩ ([x,y].map fun x=>un g (S.get C x))=some BA:=Q1 hok hu g5 hx xl hy hl hcell hlen hn he;rw[key];simp only[Option.bind_some,sq,fc,hfz,Bool.false_eq_true,if_false]
theorem Wr{L:Id→Option (Option Rows)}(hh:L id=some (some (q.map c))):rowsOf L (.rs id 0 q.length)=some (q.map c,[id]):=by show(match L id with|some (some rs)=>if 0+q.length≤rs.length then some ((rs.drop 0).take q.length,[id])else none|_=>none)=_;rw[hh];simp only;rw[if_pos (by simp),List.drop_zero,List.take_of_length_le (by simp)]
theorem rB(hr:app q q'=some r)[hu:ff C T (.slice e)][g5:ff C dY (.slice e)][hok:rT C e m](hx:un g (S.get C x)= .rs id 0 n:=by exact rfl)(hh:S.h id=some (some (q.map c)):=by exact rfl)(hlen:n=q.length:=by exact uj)(hy:un g (S.get C y)= .sl (q'.map c):=by exact rfl)(hl:∀x,(c x).length=m:=by exact fun _=>rfl)(hcell:rJ (q'.map c)=true:=by first|exact KS|exact rfl)(hn:S.h [d]=none:=by exact rfl)(hfz:(C.e7 f).contains d=false:=by exact rfl):bN C f call S g ⟨some d, .call ⟨.builtin .append,⟨[x,y]⟩,⟨[T,dY]⟩⟩,ty,pos,bn,bP⟩=some ⟨[(d, .rs [d] 0 r.length)],[id],[(id,none),([d],some (r.map c))]⟩:=by obtain⟨h1,rfl⟩:=EI hr;subst hlen;refine LF hok.ao hu.ul g5.ul hx (Wr hh) (by rw[hy];rfl) (yw hl) hcell (by simpa[oZ]using h1) hn hfz ?_;simp only[yx,m3,hh];rw[if_pos (by simp only[Bool.and_eq_true];refine⟨⟨yw hl,by simp⟩, ?_⟩;cases q<;>simp)];simp[put,List.map_append]
theorem Va [agD:rW c](hr:app q q'=some r)[hu:ff C T (.slice e)][g5:ff C dY (.slice e)][hok:rT C e m](hx:un g (S.get C x)= .rs id 0 n:=by exact rfl)(hh:S.h id=some (some (q.map c)):=by exact rfl)(hlen:n=q.length:=by exact uj)(hy:un g (S.get C y)= .sl (q'.map c):=by exact rfl)(hl:∀x,(c x).length=m:=by exact fun _=>rfl)(hcell:rJ (q'.map c)=true:=by first|exact KS|exact rfl)(hn:S.h [d]=none:=by exact rfl)(hfz:(C.e7 f).contains d=true:=by exact rfl):bN C f call S g ⟨some d, .call ⟨.builtin .append,⟨[x,y]⟩,⟨[T,dY]⟩⟩,ty,pos,bn,bP⟩=some ⟨[(d, .sl (r.map c))],[id],[(id,none),([d],none)]⟩:=by obtain⟨h1,rfl⟩:=EI hr;subst hlen;show(m7 C S _ _ ([x,y].map fun x=>un g (S.get C x))).bind (sq C f _)=_;have key:m7 C S ⟨some d, .call ⟨.builtin .append,⟨[x,y]⟩,⟨[T,dY]⟩⟩,ty,pos,bn,bP⟩ ⟨[T,dY]⟩ ([x,y].map fun x=>un g (S.get C x))=some ⟨[(d, .rs [d] 0 (q++q').length)],[id],[(id,none),([d],some ((q++q').map c))]⟩:=by{refine Q1 hok.ao hu.ul g5.ul hx (Wr hh) (by rw[hy];rfl) (yw hl) hcell (by simpa[oZ]using h1) hn ?_;simp only[yx,m3,hh];rw[if_pos (by simp only[Bool.and_eq_true];refine⟨⟨yw hl,by simp⟩, ?_⟩;cases q<;>simp)];simp[put,List.map_append]};have hi:jy ((q++q').map c)=true:=by{simp only[jy,List.all_map,List.all_eq_true];exact fun x _=>agD.im x};rw[key];simp only[Option.bind_some,sq,fc,hfz,if_true,hi,and_self,put]
theorem Ox(hr:app [] q'=some r)[hu:ff C T (.slice e)][g5:ff C dY (.slice e)][hok:rT C e m](hx:un g (S.get C x)= .cE:=by exact rfl)(hy:un g (S.get C y)= .sl (q'.map c):=by exact rfl)(hl:∀x,(c x).length=m:=by exact fun _=>rfl)(hcell:rJ (q'.map c)=true:=by first|exact KS|exact rfl)(hn:S.h [d]=none:=by exact rfl)(hfz:(C.e7 f).contains d=false:=by exact rfl):bN C f call S g ⟨some d, .call ⟨.builtin .append,⟨[x,y]⟩,⟨[T,dY]⟩⟩,ty,pos,bn,bP⟩=some ⟨[(d, .rs [d] 0 r.length)],[],[([d],some (r.map c))]⟩:=by obtain⟨h1,h2⟩:=EI hr;simp only[List.nil_append]at h2;subst h2;refine LF (xs:=[]) (i1:=[]) (i2:=[]) hok.ao hu.ul g5.ul hx rfl (by rw[hy];rfl) (yw hl) hcell (by simpa[oZ]using h1) hn hfz ?_;simp[yx,m3,put]
end
theorem Cu{e:TypeId}{m:Nat}{α:Type}{c:α→List aa}{c5:α}{gA:List aa}{nn:Int}{r:List α}(hr:lU nn c5=some r)(NP:c c5=gA)[hu:ff C T (.slice e)][hok:rT C e m][hz:lM C e gA](hx:un g (S.get C x)= .val (.int k nn):=by exact rfl)(hy:un g (S.get C y)= .val (.int k nn):=by exact rfl)(hzl:gA.length=m:=by exact rfl)(hn:S.h [d]=none:=by exact rfl):bN C f call S g ⟨some d, .makeSlice T x y,ty,pos,bn,bP⟩=some ⟨[(d, .rs [d] 0 r.length)],[],[([d],some (r.map c))]⟩:=by show vk C S _ T (un g (S.get C x)) (un g (S.get C y))=_;unfold lU at hr;split at hr;·{rename_i hp;obtain rfl:List.replicate nn.toNat c5=r:=by{simpa using hr};have hok:=hok.ao;unfold EH at hok;split at hok;·{rename_i inf Ng;simp only[Bool.and_eq_true,beq_iff_eq,decide_eq_true_eq]at hok;obtain⟨⟨⟨k1,k2⟩,c8⟩,eV⟩:=hok;simp only[hx,hy,vk,hu.ul,fl,hz.PV,Ng];rw[if_pos (by simp only[Bool.and_eq_true,decide_eq_true_eq];exact⟨⟨⟨⟨by omega,by omega⟩,c8⟩,by omega⟩,by rw[hn];rfl⟩)];simp[put,NP]};·cases hok};·cases hr
theorem abY{e:TypeId}{bb:Bool}{m len:Nat}{gA:List aa}{ps:List (Nat×aa)}{rows:Rows}(hu:C.P.underlying T=some (.slice e))(hz:A0 C e=some gA)(ha:lP C e=some bb)(hs:iy C e=some m)(h0:(decide (0<m)&&decide (m=gA.length)&&decide (len*m≤1000))=true)(hf:vm m bb (List.replicate len gA) ps=some rows):Bo C T len ps=some rows:=by simp only[Bo,hu,hz,ha,hs,h0,if_true,hf]
theorem fZ{e:TypeId}{bb:Bool}{m len:Nat}{gA:List aa}{p:List (Nat×Operand)}{ps:List (Nat×aa)}{rows bB:Rows}[hu:ff C T (.slice e)][hz:lK C e gA][ha:dO C e bb m](hin:(C.e7 f).contains d=true:=by exact rfl)(h0:(decide (0<m)&&decide (m=gA.length)&&decide (len*m≤1000))=true:=by exact rfl)(hq:(p.map fun p=>(p.1,un g (S.get C p.2)))=ps:=by exact KI)(hf:vm m bb (List.replicate len gA) ps=some rows:=by exact rfl)(B8:rows.map lW=bB:=by exact spine)(hi:jy bB=true:=by exact rfl):bN C f call S g ⟨some d, .buildSlice T len ⟨p⟩,ty,pos,bn,bP⟩=some ⟨[(d, .sl bB)],[],[]⟩:=by show sj C f S _ T len (p.map fun p=>(p.1,un g (S.get C p.2)))=_;rw[hq];have hb:=abY hu.ul hz.gA ha.l9 ha.sz h0 hf;unfold sj;rw[if_neg (by simp[LP,hb,B8,hi])];simp only[vj,hu.ul,hz.gA,ha.l9,ha.sz,h0,if_true,hf,fc,hin,B8,hi,Bool.and_self];rfl
theorem z3{e:TypeId}{bb:Bool}{m len:Nat}{gA:List aa}{p:List (Nat×Operand)}{ps:List (Nat×aa)}{rows bB:Rows}[hu:ff C T (.slice e)][hz:lK C e gA][ha:dO C e bb m](hin:(C.e7 f).contains d=false:=by exact rfl)(h0:(decide (0<m)&&decide (m=gA.length)&&decide (len*m≤1000))=true:=by exact rfl)(hq:(p.map fun p=>(p.1,un g (S.get C p.2)))=ps:=by exact KI)(hf:vm m bb (List.replicate len gA) ps=some rows:=by exact rfl)(hs:rows=bB:=by exact spine)(hn:S.h [d]=none:=by exact rfl):bN C f call S g ⟨some d, .buildSlice T len ⟨p⟩,ty,pos,bn,bP⟩=some ⟨[(d, .rs [d] 0 len)],[],[([d],some bB)]⟩:=by show sj C f S _ T len (p.map fun p=>(p.1,un g (S.get C p.2)))=_;subst hs;rw[hq];unfold sj;rw[if_neg (by simp[LP,fc];intro h;simp[h]at hin)];simp only[vj,hu.ul,hz.gA,ha.l9,ha.sz,h0,if_true,hf,fc,hin,Bool.false_and,Bool.false_eq_true,if_false];rw[if_pos (Uk hn)];rfl
/-! ### Calls -/
section
variable{L:Id→Option (Option Rows)}{n m:Nat}{α:Type}{c c':α→List aa}{q:List α}{id:Id}{as bs cs cs':List aa}{is i2:List Id}{x u:aa}
theorem ack{a:aa}(h:fU a=true):b8 L (n+1) a=some (a,[]):=by cases a with|agg cs=>(simp only[fU]at h;simp[b8,gk,h])|bG cs=>(simp only[fU]at h;simp[b8,gk,h])|fn k a b=>(simp only[fU,Bool.and_eq_true]at h;simp[b8,gk,h])|_=>first|rfl|simp[fU]at h
theorem Rp{w:Value}(hx:x= .val w:=by exact rfl):b8 L (n+1) x=some (.val w,[]):=by rw[hx];rfl
theorem Ro{r:Rows}(hx:x= .sl r:=by exact rfl):b8 L (n+1) x=some (.sl r,[]):=by rw[hx];rfl
theorem acd(hx:x= .cE:=by exact rfl):b8 L (n+1) x=some (.sl [],[]):=by rw[hx];rfl
theorem ab6(hx:x=u:=by exact gt)(hi:fU u=true:=by exact rfl):b8 L (n+1) x=some (u,[]):=by rw[hx];exact ack hi
theorem aci [hc:rW c](hx:x= .rs id 0 m:=by exact rfl)(hh:L id=some (some (q.map c)):=by exact rfl)(hl:m=q.length:=by exact uj):b8 L (n+1) x=some (.sl (q.map c),[id]):=by subst hx hl;have hi':jy (q.map c)=true:=by{simp only[jy,List.all_map,List.all_eq_true];exact fun x _=>hc.im x};have e:((q.map c).drop 0).take q.length=q.map c:=by{rw[List.drop_zero,List.take_of_length_le (by simp)]};have e0:b8 L (n+1) (.rs id 0 q.length)=match L id with|some (some rs)=>if 0+q.length≤rs.length then(mc (b8 L n) ((rs.drop 0).take q.length)).map fun x=>(.sl x.1,id::x.2)else none|_=>none:=rfl;rw[e0,hh];simp only;rw[if_pos (by simp),e];simp[mc,hi']
theorem ab8(hx:x= .mp id 0 0:=by exact rfl)(hh:L id=some (some [cs]):=by exact rfl)(hi:eJ cs=true:=by exact rfl):b8 L (n+1) x=some (.ax cs,[id]):=by subst hx;have e0:b8 L (n+1) (.mp id 0 0)=match L id with|some (some rs)=>(match rs[0]? with|some r=>if 0≤r.length then(gk (b8 L n) (r.drop 0)).map fun x=>(.ax x.1,id::x.2)else none|none=>none)|_=>none:=rfl;rw[e0,hh];simp[gk,hi]
theorem ab9(hx:x= .mp id 0 0)(hh:L id=some (some [cs]))(hi:eJ cs=false)(h:ew (b8 L n) cs=some (cs',is)):b8 L (n+1) x=some (.ax cs',id::is):=by subst hx;have e0:b8 L (n+1) (.mp id 0 0)=match L id with|some (some rs)=>(match rs[0]? with|some r=>if 0≤r.length then(gk (b8 L n) (r.drop 0)).map fun x=>(.ax x.1,id::x.2)else none|none=>none)|_=>none:=rfl;rw[e0,hh];simp[gk,hi,h]
theorem Rk{rows:Rows}(hx:x= .eO rows:=by exact rfl):b8 L (n+1) x=some (.im rows,[]):=by subst hx;rfl
theorem ab0(hx:x= .agg cs)(hi:eJ cs=false)(h:ew (b8 L n) cs=some (cs',is)):b8 L (n+1) x=some (.agg cs',is):=by subst hx;simp[b8,gk,hi,h]
theorem Rj [hc:rW c](hx:x= .own (q.map c) q.length:=by exact rfl):b8 L (n+1) x=some (.sl (q.map c),[]):=by have hi':jy (q.map c)=true:=by{simp only[jy,List.all_map,List.all_eq_true];exact fun x _=>hc.im x};subst hx;simp only[b8];rw[List.take_of_length_le (by simp)];simp[mc,hi']
end
/-! ### Borrowing lists whose elements own memory -/
class A2{α:Type}(c:α→List aa)(c':outParam (α→List aa)):Prop where b8:∀L n x,ew (b8 L (n+2)) (c x)=some (c' x,[])U2:∀x,eJ (c x)=false
section
variable{L:Id→Option (Option Rows)}{n m:Nat}{α:Type}{c c':α→List aa}{q:List α}{k:Nat}{x x':α}{r r':List aa}{id:Id}{ids:List Id}{v:aa}
theorem ab2 [hb:A2 c c'](x:α):gk (b8 L (n+2)) (c x)=some (c' x,[]):=by simp[gk,hb.U2,hb.b8]
theorem SR [hb:A2 c c']:∀q:List α,eB (gk (b8 L (n+2))) (q.map c)=some (q.map c',[])|[]=>rfl|x::q=>by simp[eB,ab2 (c:=c) (c':=c') x,SR q]
theorem Rm [hb:A2 c c'](q:List α):mc (b8 L (n+2)) (q.map c)=some (q.map c',[]):=by unfold mc;cases q with|nil=>(simp[jy])|cons x q=>rw[if_neg (by simp[jy,hb.U2])];exact SR _
theorem acj [hb:A2 c c'](hx:v= .rs id 0 m:=by exact rfl)(hh:L id=some (some (q.map c)):=by exact rfl)(hm:m≤q.length:=by exact zW):b8 L (n+3) v=some (.sl ((q.take m).map c'),[id]):=by subst hx;have e:b8 L (n+3) (.rs id 0 m)=match L id with|some (some rs)=>if 0+m≤rs.length then(mc (b8 L (n+2)) ((rs.drop 0).take m)).map fun x=>(.sl x.1,id::x.2)else none|_=>none:=rfl;rw[e,hh];simp only[List.length_map,Nat.zero_add,if_pos hm,List.drop_zero];rw[←List.map_take,Rm];rfl
theorem ace [hb:A2 c c'](hx:v= .own (q.map c) m:=by exact rfl):b8 L (n+3) v=some (.sl ((q.take m).map c'),[]):=by subst hx;have e:b8 L (n+3) (.own (q.map c) m)=(mc (b8 L (n+2)) ((q.map c).take m)).map fun x=>(.sl x.1,x.2):=rfl;rw[e,←List.map_take,Rm];rfl
end
section
variable{α:Type}{c c':α→List aa}{q:List α}{L:Id→Option (Option Rows)}{n:Nat}{id:Id}{as bs cs cs':List aa}{x:aa}{is i2:List Id}
theorem ab1:gk (b8 L n) []=some ([],[]):=by simp[gk,eJ]
theorem ab3{cs cs':List aa}{is:List Id}(hi:eJ cs=false)(h:ew (b8 L n) cs=some (cs',is)):gk (b8 L n) cs=some (cs',is):=by simp[gk,hi,h]
theorem ab5{k:Fn}{as bs as' bs':List aa}{i1 i2:List Id}(hx:x= .fn k as bs)(h1:gk (b8 L n) as=some (as',i1))(h2:gk (b8 L n) bs=some (bs',i2)):b8 L (n+1) x=some (.fn k as' bs',i1++i2):=by subst hx;simp[b8,h1,h2]
theorem LS{y:Option (aa×List Id)}(h:b8 L n x=y:=by repeat'(first|exact Rp|exact ab1|exact aoB|(apply ab3;exact rfl)|exact ab4|exact ach|exact Ro|exact aci|exact aoG|exact aoJ|exact acj|(apply aoH;exact rfl;exact rfl;exact rfl;(first|(with_reducible assumption)|assumption);exact uj;exact inferInstance;rotate_left;exact rfl)|(apply aoI;exact rfl;exact rfl;exact rfl;(first|(with_reducible assumption)|assumption);exact zW;exact inferInstance;rotate_left;exact rfl)|exact ab6|exact acg|exact acd|exact ab8|exact aoF|exact Rj|exact aoE|exact acf|exact ace|exact aoD|exact aoC|exact Rk|exact ab7|exact BF|(apply Fl;exact rfl)|(apply ab0;exact rfl;exact rfl)|(apply ab9;exact rfl;exact rfl;exact rfl)|(apply ab5;exact rfl))):b8 L n x=y:=h
theorem aez{p:aa→Option (aa×List Id)}{cs as bs:List aa}{a b:aa}(hx:cs=a::as)(h:p a=some (b,[]))(k:ew p as=some (bs,[])):ew p cs=some (b::bs,[]):=by subst hx;simp[ew,h,k]
theorem acm{cs cs':List aa}(h:ew (b8 L n) cs=some (cs',[]):=by repeat'(first|exact BF|(apply aez;exact rfl)|exact Rp|exact ab4|exact ach|exact Ro|exact acg|exact Rj|exact acf|exact Rk|exact ab7)):ew (b8 L n) cs=some (cs',[]):=h
theorem abV(h:as=[]:=by exact rfl):tn L as=some ([],[]):=by subst h;rfl
theorem abU{a b:aa}{z:List Id}(ha:cs=a::as)(h1:b8 L 9 a=some (b,is))(h2:tn L as=some (bs,i2))(hz:is++i2=z):tn L cs=some (b::bs,z):=by subst ha hz;unfold tn at*;simp[ew,h1,h2]
theorem dh{y:Option (List aa×List Id)}(h:tn L as=y:=by repeat'(first|exact abV|(apply abU;exact rfl;exact LS)|exact rfl)):tn L as=y:=h
theorem anr{ms:List Nat}(h:as=[]:=by exact rfl):ji L ms as=some ([],[],[],[]):=by subst h;cases ms<;>rfl
section
variable{ms:List Nat}{a b b':aa}{i s t z:List Id}
theorem anp{u:List Id}(ha:cs=a::as)(h:pk L 9 a=some (b,i))(k:ji L ms as=some (bs,s,t,z))(hu:i++t=u):ji L (1::ms) cs=some (b::bs,s,u,z):=by subst ha hu;simp[ji,k,h]
theorem anq(ha:cs=a::as)(h:pk L 9 a=some (b,i))(hf:eC b=b')(k:ji L ms as=some (bs,s,t,z)){u:List Id}(hu:i++z=u):ji L (2::ms) cs=some (b'::bs,s,t,u):=by subst ha hu;simp[ji,k,h,hf]
theorem ans{u:List Id}(ha:cs=a::as)(h:b8 L 9 a=some (b,i))(k:ji L ms as=some (bs,s,t,z))(hu:i++s=u):ji L (0::ms) cs=some (b::bs,u,t,z):=by subst ha hu;simp[ji,k,h]
end
theorem W1{ms:List Nat}{y:Option (List aa×List Id×List Id×List Id)}(h:ji L ms as=y:=by repeat'(first|exact anr|(apply anp;exact rfl;exact n9)|(apply ans;exact rfl;exact LS)|(apply anq;exact rfl;exact n9;exact Jy)|(apply ass;exact rfl;exact LS)|exact rfl)):ji L ms as=y:=h
/-! Nothing from elsewhere -/
end
section
variable{cS:Operand}{ts:Array TypeId}{dN:FuncId}{as bs cs args:List aa}{seen:List Id}{r:aa}{wr:List (Id×Option Rows)}{xs:Array Operand}
theorem JA(hfo:un g (S.get C cS)= .fn (.func dN) as bs)(ey:C.dy dN=false):oK C (un g (S.get C cS))=none:=by rw[hfo];simp[oK,ey]
theorem Ja{d':Option Tmp}(h:oK C (un g (S.get C cS))=none):bN C f call S g ⟨d', .call ⟨.value cS,xs,ts⟩,ty,pos,bn,bP⟩=(match pathOf C cS with|some p=>wP S ⟨d', .call ⟨.value cS,xs,ts⟩,ty,pos,bn,bP⟩ p (xs.toList.map fun x=>un g (S.get C x))|none=>if AD C cS then(match(generalizing:=false)cS with| .func k=>tr C f call S ⟨d', .call ⟨.value cS,xs,ts⟩,ty,pos,bn,bP⟩ k (xs.toList.map fun x=>un g (S.get C x))|_=>none)else r7 C f call S ⟨d', .call ⟨.value cS,xs,ts⟩,ty,pos,bn,bP⟩ (un g (S.get C cS)) (xs.toList.map fun x=>un g (S.get C x))):=by show(match oK C (un g (S.get C cS))with|some x=>r8 C f call S _ x.1 (x.2.1++(xs.toList.map fun x=>un g (S.get C x))++x.2.2)|none=>_)=_;rw[h];first|rfl|(cases cS<;>rfl)
theorem bF(hc:call dN args=some (r,[]))(hfo:un g (S.get C cS)= .fn (.func dN) as bs:=by exact rfl)(hb:tn S.h (as++(xs.toList.map fun x=>un g (S.get C x))++bs)=some (args,seen):=by exact dh)(hm:(seen.isEmpty||mine r)=true:=by first|exact rfl|exact Ok)(hz:(C.e7 f).contains d=false:=by exact rfl)(hi:imp [d] r=(v',wr):=by exact zG)(hf:fresh S.h wr=true:=by exact rfl)(ht:AD C cS=false:=by exact rfl)(sD:pathOf C cS=none:=by exact rfl)(hlk:C.look dN=false:=by exact rfl)(ey:C.dy dN=false:=by exact rfl):bN C f call S g ⟨some d, .call ⟨.value cS,xs,ts⟩,ty,pos,bn,bP⟩=some ⟨[(d,v')],seen,wr⟩:=by rw[Ja (JA hfo ey)];rw[sD];simp only;rw[ht];simp only[Bool.false_eq_true,if_false];rw[hfo];simp only[r7,hlk,hb,hc,fc,hz,Bool.false_eq_true,if_false];rw[if_neg (by cases seen with|nil=>(simp)|cons a l=>simp at hm;simp[hm]),hi];simp only[hf,if_true];rfl
theorem bf(hc:call dN args=some (r,[]))(hfo:un g (S.get C cS)= .fn (.func dN) as bs:=by exact rfl)(hb:tn S.h (as++(xs.toList.map fun x=>un g (S.get C x))++bs)=some (args,seen):=by exact dh)(hm:(seen.isEmpty||mine r)=true:=by first|exact rfl|exact Ok)(hz:(C.e7 f).contains d=true:=by exact rfl)(hv:eC r=v:=by exact Jy)(hi:imp [d] v=(v',wr):=by exact zG)(hf:fresh S.h wr=true:=by exact rfl)(ht:AD C cS=false:=by exact rfl)(sD:pathOf C cS=none:=by exact rfl)(hlk:C.look dN=false:=by exact rfl)(ey:C.dy dN=false:=by exact rfl):bN C f call S g ⟨some d, .call ⟨.value cS,xs,ts⟩,ty,pos,bn,bP⟩=some ⟨[(d,v')],seen,wr⟩:=by rw[Ja (JA hfo ey)];rw[sD];simp only;rw[ht];simp only[Bool.false_eq_true,if_false];rw[hfo];simp only[r7,hlk,Bool.false_eq_true,if_false,hb,hc,fc,hz,if_true,hv];rw[if_neg (by cases seen with|nil=>(simp)|cons a l=>simp at hm;simp[hm]),hi];simp only[hf,if_true];rfl
theorem Ru{ms cK:List Nat}{outs:List aa}{tk dS:List Id}{back:List (Id×Option Rows)}{kF:List (Id×Option Rows)}(hm:C.zZ dN=ms)(hm0:ms.isEmpty=false)(hle:C.cK dN=cK)(ht:ji S.h ms (xs.toList.map fun x=>un g (S.get C x))=some (args,seen,tk,dS))(hc:call dN args=some (r,outs))(hv:(if fc C f (some d)then eC r else r)=v)(hb:ir S.h (xs.toList.map fun x=>un g (S.get C x)) cK outs=some back)(h1:(eR (tk++dS)&&vg seen (tk++dS))=true)(h2:(seen.isEmpty||mine r&&outs.all mine)=true)(h3:(eR (back.map (·.1))&&(back.all fun x=>tk.contains x.1))=true)(hi:imp [d] v=(v',kF))(hf:fresh S.h kF=true)(hw:kF++(back++(tk++dS).map fun i=>(i,none))=wr)(sD:C.path dN=none)(ey:C.dy dN=false:=by exact rfl):bN C f call S g ⟨some d, .call ⟨.value (.func dN),xs,ts⟩,ty,pos,bn,bP⟩=some ⟨[(d,v')],seen,wr⟩:=by rw[Ja (JA (as:=[]) (bs:=[]) rfl ey)];simp only[pathOf,sD];have e0:AD C (.func dN)=true:=by{simp[AD,hm,hm0]};subst hw hm hle hv;rw[e0,if_pos rfl];unfold tr;simp only[ht,hc,hb,hi];simp only[Bool.and_eq_true]at h1 h3;rw[if_pos (by simp only[Bool.and_eq_true];exact⟨⟨⟨⟨⟨h1.1,h1.2⟩,h2⟩,h3.1⟩,h3.2⟩,hf⟩)];rfl
end
end
end Go.Ab
