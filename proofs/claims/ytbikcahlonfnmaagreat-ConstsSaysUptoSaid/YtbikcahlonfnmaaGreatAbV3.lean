import Derived.Test.YtbikcahlonfnmaaGreatAbV2
namespace Go.Ab
open Go
theorem ac1{e:Option Int}:dW (ia e)=ia e:=by cases e<;>rfl
theorem Oy{e:Option Int}{p:Id}{j:Nat}:bQ p j [ia e]=([ia e],[]):=by cases e<;>rfl
theorem SQ{e:Option Int}{p:Id}:imp p (ia e)=(ia e,[]):=by cases e<;>rfl
/-! ### Owned cells become objects -/
section
variable{α:Type}{c:α→List aa}{q:List α}{p:Id}{j:Nat}{l l0 l':List aa}{v v':aa}{wr:List (Id×Option Rows)}{rows:Rows}
theorem alk:bQ p j []=([],[]):=rfl
theorem ali(hl:l=v::l0)(hv:bQ p j [v]=([v],[]))(k:bQ p (j+1) l0=(l',wr)):bQ p j l=(v::l',wr):=by subst hl;cases v<;>simp_all[bQ]
theorem alm{m:Nat}(hl:l= .own (q.map c) m::l0)(k:bQ p (j+1) l0=(l',wr)):bQ p j l=(.rs (j::p) 0 m::l',(j::p,some (q.map c))::wr):=by subst hl;simp[bQ,k]
theorem alj(hl:l= .ez rows::l0)(k:bQ p (j+1) l0=(l',wr)):bQ p j l=(.mr (j::p)::l',(j::p,some rows)::wr):=by subst hl;simp[bQ,k]
theorem Aa(h:bQ p j l=(l',wr):=by repeat'(first|exact alk|(apply ali;exact rfl;(first|exact rfl|exact aqF|exact Oy))|(apply alm;exact rfl)|(apply aqG;exact rfl)|(apply alj;exact rfl))):bQ p j l=(l',wr):=h
theorem afW{m:Nat}:imp p (.own (q.map c) m)=(.rs p 0 m,[(p,some (q.map c))]):=by simp[imp]
theorem afU(h:bQ p 0 l=(l',wr)):imp p (.agg l)=(.agg l',wr):=by simp[imp,h]
theorem afX(h:bQ p 0 l=(l',wr)):imp p (.aL l)=(.mp p 0 0,(p,some [l'])::wr):=by simp[imp,h]
theorem afQ:ff p j []=([],[]):=rfl
theorem afP(hl:l=v::l0)(hv:ff p j [v]=([v],[]))(k:ff p (j+1) l0=(l',wr)):ff p j l=(v::l',wr):=by subst hl;cases v with|own rows m=>(simp[ff]at hv)|aL cells=>(simp[ff]at hv)|ez rows=>(simp[ff]at hv)|agg cs=>(simp only[ff,List.append_nil,Prod.mk.injEq,List.cons.injEq,aa.agg.injEq,and_true]at hv;simp[ff,k,hv.1,hv.2])|bL vs=>(simp[ff]at hv)|_=>simp[ff,k]
theorem afR{m:Nat}(hl:l= .own (q.map c) m::l0)(k:ff p (j+1) l0=(l',wr)):ff p j l=(.rs (j::p) 0 m::l',(j::p,some (q.map c))::wr):=by subst hl;simp[ff,k]
theorem afY(h:ff p 0 l=(l',wr)):imp p (.bL l)=(.bL l',wr):=by simp[imp,h]
theorem yO(h:imp p v=(v',wr):=by first|exact(rfl:imp _ (.val _)=(.val _,[]))|exact(rfl:imp _ (.sl _)=(.sl _,[]))|exact afV|exact SQ|exact afW|exact an3|exact an4|(apply afU;exact Aa)|(apply afX;exact Aa)|(apply afY;repeat'(first|exact afQ|(apply afP;exact rfl;(first|exact rfl|exact an0|exact an2))|(apply afR;exact rfl)|(apply an1;exact rfl)|(apply anZ;exact rfl;exact Aa)))|exact rfl):imp p v=(v',wr):=h
theorem agF{n:Nat}{vs:List aa}:aH n [] vs=⟨n,fun _=> .bz,fun _=>none⟩:=rfl
theorem agE{n s:Nat}{t:Nat→aa}{h:Id→Option (Option Rows)}{l:List Nat}{vs:List aa}(hi:imp [s] v=(v,[]))(k:aH n l vs=⟨n,t,h⟩):aH n (s::l) (v::vs)=⟨n,av t s v,h⟩:=by simp[aH,k,hi,bw]
theorem agD{n s:Nat}{t:Nat→aa}{h:Id→Option (Option Rows)}{l:List Nat}{vs:List aa}(hi:imp [s] v=(v',wr))(k:aH n l vs=⟨n,t,h⟩):aH n (s::l) (v::vs)=⟨n,av t s v',bw h wr⟩:=by simp[aH,k,hi]
theorem Jd{n:Nat}{t:Nat→aa}{h:Id→Option (Option Rows)}{l:List Nat}{vs:List aa}(k:aH n l vs=⟨n,t,h⟩:=by repeat'(first|exact agF|(apply agE;first|exact rfl|exact afV|exact SQ)|(apply agD;exact yO))):aH n l vs=⟨n,t,h⟩:=k
end
section
variable{C:aO}{f:FuncId}{call:gA}{c:Code}{Q:Exit×ak→Prop}{n:Nat}{t:Nat→aa}{h:Id→Option (Option Rows)}{l:List Nat}{vs:List aa}
theorem mk(k:W C f call c ⟨n,t,h⟩ Q)(hm:aH n l vs=⟨n,t,h⟩:=by exact Jd):W C f call c (aH n l vs) Q:=by rw[hm];exact k
theorem dM{e:Exit}(k:Q (e,⟨n,t,h⟩))(hm:aH n l vs=⟨n,t,h⟩:=by exact Jd):Q (e,aH n l vs):=by rw[hm];exact k
end
/-! ### Packing -/
def Qf{α:Type}(a b:List α):List α:=b.take (min b.length a.length)++a.drop (min b.length a.length)
theorem DZ{α:Type}(a b:List α):(Qf a b).length=a.length:=by unfold Qf;rw[List.length_append,List.length_take,List.length_drop];omega
section
variable{L:Id→Option (Option Rows)}{n:Nat}{α:Type}{c:α→List aa}{q:List α}{id:Id}{cs cs':List aa}{ids is:List Id}{x v:aa}
theorem qW [hc:ja c](q:List α):eH (q.map c)=true:=acm c q hc.cY
theorem sE{m m':Nat}(h:m=m':=by first|exact rfl|exact List.length_map _|(first|(with_reducible assumption)|assumption)|(symm;(first|(with_reducible assumption)|assumption))|(simp only[List.length_map,List.length_set,DZ];done)|(simp only[List.length_map,List.length_set,DZ];first|(first|(with_reducible assumption)|assumption)|(symm;(first|(with_reducible assumption)|assumption)))|(simp only[List.length_map,List.length_set,DZ, *];done)):m=m':=h
theorem ai4{y:aa×List Id}:∀{a:aa},flat a=true→pk L (n+1) a=some y→y=(a,[]):=by intro a hf h;cases a with|agg cs=>(simp only[flat]at hf;simp[pk,gT,hf]at h;exact h.symm)|bL cs=>(simp only[flat]at hf;simp[pk,gT,hf]at h;exact h.symm)|own rs m=>(simp only[flat]at hf;simp[pk,hf]at h;exact h.symm)|aL cs=>(simp only[flat]at hf;simp[pk,hf]at h;exact h.symm)|fn k a b=>(simp only[pk]at h;split at h;·{simpa using h.symm};·cases h)|rs _ _ _=>(simp[flat]at hf)|mp _ _ _=>(simp[flat]at hf)|mr _=>(simp[flat]at hf)|dz _ _=>(simp[flat]at hf)|cu=>(simp[flat]at hf)|_=>simp[pk]at h;exact h.symm
theorem Rl:∀{cs:List aa}{y:List aa×List Id},cT cs=true→dV (pk L (n+1)) cs=some y→y=(cs,[])|[],y,_,h=>by{simp[dV]at h;exact h.symm}|c::cs,y,hf,h=>by simp only[cT,Bool.and_eq_true]at hf;simp only[dV,Option.bind_eq_some_iff,Option.map_eq_some_iff]at h;obtain⟨u,hu,v,hv,rfl⟩:=h;obtain rfl:=ai4 hf.1 hu;obtain rfl:=Rl hf.2 hv;rfl
theorem NL{y:List aa×List Id}(h:dV (pk L (n+1)) cs=some y):gT (pk L (n+1)) cs=some y:=by unfold gT;split;·{rename_i hf;rw[Rl hf h]};·exact h
theorem ai3{w:Value}(hx:x= .val w:=by exact rfl):pk L (n+1) x=some (.val w,[]):=by rw[hx];rfl
theorem ai2{r:Rows}(hx:x= .sl r:=by exact rfl):pk L (n+1) x=some (.sl r,[]):=by rw[hx];rfl
theorem aiV{r:List aa}(hx:x= .aq r:=by exact rfl):pk L (n+1) x=some (.aq r,[]):=by rw[hx];rfl
theorem aiW{e:Option Int}(hx:x=ia e:=by first|exact rfl|exact z8):pk L (n+1) x=some (ia e,[]):=by rw[hx];cases e<;>rfl
theorem aiT(hx:x= .cu:=by exact rfl):pk L (n+1) x=some (.own [] 0,[]):=by rw[hx];rfl
theorem aiZ{m:Nat}[hc:ja c](hx:x= .rs id 0 m:=by exact rfl)(hh:L id=some (some (q.map c)):=by exact rfl)(hl:m=q.length:=by exact sE):pk L (n+1) x=some (.own (q.map c) q.length,[id]):=by rw[hx,hl];exact Uq hh (by simp) (qW q)
theorem aiX{m:Nat}[hc:ja c](hl:m≤q.length)(hx:x= .rs id 0 m:=by exact rfl)(hh:L id=some (some (q.map c)):=by exact rfl):pk L (n+1) x=some (.own (q.map c) m,[id]):=by rw[hx];exact Uq hh (by simpa using hl) (qW q)
theorem aiU{m:Nat}[hc:ja c](hx:x= .own (q.map c) m:=by exact rfl):pk L (n+1) x=some (.own (q.map c) m,[]):=by rw[hx];simp[pk,qW]
theorem aiN(hx:x= .agg cs:=by exact rfl)(hf:cT cs=true:=by exact rfl):pk L (n+1) x=some (.agg cs,[]):=by rw[hx];simp[pk,gT,hf]
theorem aiM(hx:x= .agg cs)(h:dV (pk L (n+1)) cs=some (cs',ids)):pk L (n+2) x=some (.agg cs',ids):=by rw[hx,show pk L (n+2) (.agg cs)=(gT (pk L (n+1)) cs).map fun x=>(.agg x.1,x.2)from rfl,NL h];rfl
theorem aiR(hx:x= .mp id 0 0:=by exact rfl)(hh:L id=some (some [cs]):=by exact rfl)(hf:cT cs=true:=by exact rfl):pk L (n+1) x=some (.aL cs,[id]):=by rw[hx];simp[pk,gT,hh,hf]
theorem aiP(hx:x= .mp id 0 0)(hh:L id=some (some [cs]))(h:dV (pk L (n+1)) cs=some (cs',ids)):pk L (n+2) x=some (.aL cs',id::ids):=by have e:pk L (n+2) (.mp id 0 0)=match L id with|some (some [cs])=>if 0=0∧0=0 then(gT (pk L (n+1)) cs).map fun x=>(.aL x.1,id::x.2)else none|_=>none:=rfl;rw[hx,e,hh];simp only[and_self,if_true,NL h];rfl
theorem aiQ{Wc:α}[hc:ja c](hx:x= .mp id 0 0:=by exact rfl)(hh:L id=some (some [c Wc]):=by exact rfl):pk L (n+1) x=some (.aL (c Wc),[id]):=by rw[hx];simp[pk,gT,hh,hc.cY]
theorem aiS{rows:Rows}(hx:x= .mr id:=by exact rfl)(hh:L id=some (some rows):=by exact rfl):pk L (n+1) x=some (.ez rows,[id]):=by rw[hx];simp[pk,hh]
theorem aiO{k:Fn}{a b:List aa}(hx:x= .fn k a b:=by exact rfl)(hf:(ek a&&ek b)=true:=by exact rfl):pk L (n+1) x=some (.fn k a b,[]):=by rw[hx];simp only[Bool.and_eq_true]at hf;simp[pk,hf.1,hf.2]
theorem A1{p:aa→Option (aa×List Id)}(hx:cs=[]:=by exact rfl):dV p cs=some ([],[]):=by rw[hx];rfl
theorem D9{p:aa→Option (aa×List Id)}{a b:aa}{as bs:List aa}{i1 i2:List Id}(hx:cs=a::as)(h:p a=some (b,i1))(k:dV p as=some (bs,i2)):dV p cs=some (b::bs,i1++i2):=by subst hx;simp[dV,h,k]
theorem ai7{t:Nat→aa}:js L t []=some ([],[]):=rfl
theorem ai6{t:Nat→aa}{s:Nat}{sl:List Nat}{vs:List aa}(h1:pk L 9 (t s)=some (v,ids))(h2:js L t sl=some (vs,is)):js L t (s::sl)=some (v::vs,ids++is):=by rw[aiL,h1,Option.bind_some,h2];rfl
end
/-! ### One row of a list, open -/
section
variable{α:Type}{c c':α→List aa}{q:List α}{k:Nat}{x x':α}{r r':List aa}
theorem JM(h:q[k]? =some x):(q.map c)[k]? =some (c x):=by simp[h]
theorem Vn:(q.map c).set k r=(q.map c).set k r:=rfl
theorem Ob:((q.map c).set k r).set k r'=(q.map c).set k r':=List.set_set ..
theorem akl:(q.map c).set k (c x)=(q.set k x).map c:=by rw[List.map_set]
theorem Rp{p:List aa→Option (List aa×List Id)}{ids:List Id}(hp:∀y,p (c y)=some (c y,[]))(hr:p r=some (r',ids)):∀{q:List α}{k:Nat}{x:α},q[k]? =some x→ec p ((q.map c).set k r)=some ((q.map c).set k r',ids)|[],k,x,h=>by{simp at h}|y::q,0,x,h=>by{have key:∀q:List α,ec p (q.map c)=some (q.map c,[]):=by{intro q;induction q with|nil=>(rfl)|cons z q ih=>simp[ec,hp,ih]};simp[ec,hr,key]}|y::q,k+1,x,h=>by have ih:=Rp hp hr (q:=q) (k:=k) (x:=x) (by simpa using h);simp only[List.map_cons,List.set_cons_succ,ec,hp,Option.bind_some,ih,Option.map_some,List.nil_append]
theorem Rf(hf:cT r=false):∀{q:List α}{k:Nat}{x:α},q[k]? =some x→eH ((q.map c).set k r)=false|[],k,x,h=>by{simp at h}|y::q,0,x,h=>by{simp[eH,hf]}|y::q,k+1,x,h=>by have ih:=Rf hf (q:=q) (k:=k) (x:=x) (by simpa using h);simp[eH,ih]
end
/-! ### Packing -/
section
variable{L:Id→Option (Option Rows)}{n m:Nat}{α:Type}{c c':α→List aa}{q:List α}{k:Nat}{x x':α}{r r':List aa}{id:Id}{ids:List Id}{v:aa}
theorem y4{a b:Nat}(h:a≤b:=by first|exact Nat.le_refl _|(first|(with_reducible assumption)|assumption)|(simp only[List.length_set,DZ];first|exact Nat.le_refl _|(first|(with_reducible assumption)|assumption))|(simp only[List.length_set,DZ];omega)):a≤b:=h
theorem Up [hc:ja c](hx:v= .rs id 0 m)(hh:L id=some (some ((q.map c).set k r)))(hf:cT r=false)(hk:q[k]? =some x)(hm:m≤q.length)(hr:dV (pk L (n+1)) r=some (r',ids))(hr':r'=c x'):pk L (n+2) v=some (.own ((q.set k x').map c) m,id::ids):=by subst hr';rw[hx];have e:pk L (n+2) (.rs id 0 m)=match L id with|some (some rs)=>if 0=0∧m≤rs.length then(lH (pk L (n+1)) rs).map fun x=>(.own x.1 m,id::x.2)else none|_=>none:=rfl;rw[e,hh];simp only[List.length_set,List.length_map,true_and,if_pos hm];have h2:lH (pk L (n+1)) ((q.map c).set k r)=some ((q.map c).set k (c x'),ids):=by{unfold lH;rw[if_neg (by rw[Rf hf hk];simp)];exact Rp (fun y=>by simp[gT,hc.cY]) (NL hr) hk};rw[h2,akl];rfl
theorem ai1 [hc:ja c](hx:v= .rs id 0 m)(hh:L id=some (some ((q.map c).set k r)))(hf:cT r=false)(hk:q[k]? =some x)(hm:m=q.length)(hr:dV (pk L (n+1)) r=some (r',ids))(hr':r'=c x'):pk L (n+2) v=some (.own ((q.set k x').map c) (q.set k x').length,id::ids):=by rw[List.length_set,←hm];exact Up hx hh hf hk (by omega) hr hr'
theorem ai0{rows br:Rows}(hx:v= .rs id 0 m)(hh:L id=some (some rows))(hm:Nat.ble m rows.length=true)(hf:eH rows=false)(hr:ec (gT (pk L n)) rows=some (br,ids)):pk L (n+1) v=some (.own br m,id::ids):=by rw[hx];have e:pk L (n+1) (.rs id 0 m)=match L id with|some (some rs)=>if 0=0∧m≤rs.length then(lH (pk L n) rs).map fun x=>(.own x.1 m,id::x.2)else none|_=>none:=rfl;rw[e,hh];have hm':m≤rows.length:=Nat.le_of_ble_eq_true hm;simp only[true_and,if_pos hm',lH,hf,Bool.false_eq_true,if_false,hr,Option.map_some]
theorem aje{p:List aa→Option (List aa×List Id)}{rows:Rows}(e:rows=[]:=by exact rfl):ec p rows=some ([],[]):=by subst e;rfl
theorem ajd{p:List aa→Option (List aa×List Id)}{rows rs rs':Rows}{i1 i2:List Id}(e:rows=r::rs)(h1:p r=some (r',i1))(h2:ec p rs=some (rs',i2)):ec p rows=some (r'::rs',i1++i2):=by subst e;simp[ec,h1,h2]
theorem aiY [hc:ja c](hx:v= .rs id 0 m:=by exact rfl)(hh:L id=some (some (q.map c)):=by exact rfl)(hm:m≤q.length:=by exact y4):pk L (n+1) v=some (.own (q.map c) m,[id]):=aiX hm hx hh
end
section
variable{L:Id→Option (Option Rows)}{n:Nat}{α:Type}{c:α→List aa}{q:List α}{id:Id}{cs cs':List aa}{ids is:List Id}{x v:aa}
theorem mm{a:aa}{y:Option (aa×List Id)}(h:pk L n a=y:=by repeat'(first|exact ai3|exact aoK|exact aiW|exact aoM|exact ai2|exact aiZ|exact aiY|(apply ai1;exact rfl;exact rfl;exact rfl;(first|(with_reducible assumption)|assumption);exact sE;rotate_left;exact rfl)|(apply Up;exact rfl;exact rfl;exact rfl;(first|(with_reducible assumption)|assumption);exact y4;rotate_left;exact rfl)|exact aiN|exact aiV|exact aiT|exact aiU|exact aiR|exact aiQ|exact aoP|exact aoN|exact aoR|exact aiO|exact aiS|exact aoO|exact aoL|exact A1|(apply D9;exact rfl)|(apply aiM;exact rfl)|(apply aiP;exact rfl;exact rfl)|(apply aoQ;exact rfl)|(apply ai0;exact rfl;exact rfl;exact rfl;exact rfl)|exact aje|(apply ajd;exact rfl)|exact aoI|(apply aoJ;exact rfl))):pk L n a=y:=h
theorem Jw{t:Nat→aa}{sl:List Nat}{y:Option (List aa×List Id)}(h:js L t sl=y:=by repeat'(first|exact ai7|(apply ai6;exact mm))):js L t sl=y:=h
theorem an{o:Option (Bool×List Nat)}{slots:List Nat}{t:Nat→aa}{vs:List aa}(hk:o=some (false,slots):=by exact rfl)(hp:js L t slots=some (vs,is):=by exact Jw)(hn:eu is=true:=by exact rfl):ej o ⟨n,t,L⟩=some (aH n slots vs):=by subst hk;show(iW ⟨n,t,L⟩ slots).map _=_;rw[ajC,hp];simp[hn]
end
/-! ### The same with names kept -/
section
variable{n:Nat}{t t2:Nat→aa}{h:Id→Option (Option Rows)}{slots r:List Nat}{l:List (Id×Id)}{hl y:List (Id×Rows)}{α:Type}{c:α→List aa}{q:List α}
def kr(n:Nat)(l:List (Nat×aa))(h:List (Id×Rows)):ak:=⟨n,di (fun _=> .bz) l,jW h⟩
/-! Rows that are flat, cell by cell. -/
theorem Q9{r cs:List aa}{a:aa}(e:r=a::cs)(h1:flat a=true)(h2:cT cs=true):cT r=true:=by subst e;simp[cT,h1,h2]
theorem acd{rows:Rows}(e:rows=[]:=by exact rfl):eH rows=true:=by subst e;rfl
theorem ace{rows rs:Rows}{r:List aa}(e:rows=r::rs)(h1:cT r=true)(h2:eH rs=true):eH rows=true:=by subst e;simp[eH,h1,h2]
theorem Lh{rows:Rows}(k:eH rows=true:=by(repeat'(first|exact qW _|exact acd|(apply ace;exact rfl)|exact ab7|(apply Q9;exact rfl)|exact rfl|exact ab4|exact ab9|exact ab8));first|done|fail):eH rows=true:=k
theorem agH:nS l t []=di (fun _=> .bz) []:=rfl
theorem agG{s:Nat}{v':aa}{vs:List (Nat×aa)}(he:fj l (t s)=v')(hr:nS l t r=di (fun _=> .bz) vs):nS l t (s::r)=di (fun _=> .bz) ((s,v')::vs):=by subst he;simp[nS,hr,di]
theorem ajo:kR l []=some []:=rfl
theorem ajn{cs as bs:List aa}{a b:aa}(hx:cs=a::as)(h1:rH l a=some b)(h2:kR l as=some bs):kR l cs=some (b::bs):=by subst hx;simp[kR,h1,h2]
theorem ajs{i k:Id}{x:aa}{off m m':Nat}(hx:x= .rs i off m:=by exact rfl)(hk:fT l i=some k:=by exact rfl)(hm:m=m':=by exact sE):rH l x=some (.rs k off m'):=by subst hx hm;simp[rH,zG,hk]
theorem ajp{cs cs':List aa}(h:kR l cs=some cs':=by repeat'(first|exact ajo|(apply ajn;exact rfl)|exact ajs|exact rfl)):kR l cs=some cs':=h
theorem N2 [hc:ja c]:mu l (q.map c)=some (q.map c):=by simp[mu,qW]
theorem N4{cs cs':List aa}(hf:cT cs=false:=by exact rfl)(h:kR l cs=some cs':=by first|exact rfl|exact ajp):mu l [cs]=some [cs']:=by simp[mu,eH,hf,CC,h]
theorem N3{rows:Rows}(hf:eH rows=true:=by first|exact rfl|exact Lh):mu l rows=some rows:=by simp[mu,hf]
end
section
variable{l:List (Id×Id)}{α:Type}{c:α→List aa}{q:List α}{k:Nat}{x x':α}{r r':List aa}
theorem ajz{a:aa}(h:flat a=true):rH l a=some a:=by cases a with|fn k as cs=>(simp only[rH];rw[if_pos (by simpa[flat]using h)])|rs _ _ _=>(simp[flat]at h)|mp _ _ _=>(simp[flat]at h)|mr _=>(simp[flat]at h)|cu=>(simp[flat]at h)|_=>simp only[rH,zG];rw[if_pos h]
theorem Gg:∀{as:List aa},cT as=true→kR l as=some as|[],_=>rfl|a::as,h=>by simp only[cT,Bool.and_eq_true]at h;simp[kR,ajz h.1,Gg h.2]
end
section
variable{n:Nat}{t t2:Nat→aa}{h:Id→Option (Option Rows)}{slots r:List Nat}{l:List (Id×Id)}{hl y:List (Id×Rows)}{α:Type}{c:α→List aa}{q:List α}
theorem aeT{L:Id→Option (Option Rows)}:pZ L l []=some []:=rfl
theorem aeS{L:Id→Option (Option Rows)}{r:List (Id×Id)}{o k:Id}{rows br:Rows}(h:L o=some (some rows))(hr:mu l rows=some br)(hy:pZ L l r=some y):pZ L l ((o,k)::r)=some ((k,br)::y):=by simp[pZ,h,hr,hy]
theorem hnk{L:Id→Option (Option Rows)}{r:List (Id×Id)}(h:pZ L l r=some y:=by repeat'(first|exact aeT|(apply aeS;exact rfl;first|exact N2|exact apf rfl|exact aph (by(first|(with_reducible assumption)|assumption))|exact N4|exact N3))):pZ L l r=some y:=h
theorem agI{vs:List (Nat×aa)}(h:nS l t slots=di (fun _=> .bz) vs:=by repeat'(first|exact agH|(apply agG;first|exact rfl|exact apg))):nS l t slots=di (fun _=> .bz) vs:=h
def af2:aa→Bool| .cu=>true|_=>false
theorem TH{y:ak}(e:(⟨n,t,h⟩:ak)=y:=by exact rfl):jY [] ⟨n,t,h⟩=y:=e
theorem ahc{s:Nat}{sl:List Nat}{y:ak}(hs:af2 (t s)=false)(k:jY sl ⟨n,t,h⟩=y):jY (s::sl) ⟨n,t,h⟩=y:=by have e:rz ⟨n,t,h⟩ s=⟨n,t,h⟩:=by{simp only[rz];split;·{rename_i h1 _;rw[h1]at hs;cases hs};·rfl};rw[jY,e];exact k
theorem ahb{s:Nat}{sl:List Nat}{y:ak}(hs:t s= .cu)(hh:h [s,s]=none)(k:jY sl ⟨n,av t s (.rs [s,s] 0 0),av h [s,s] (some (some []))⟩=y):jY (s::sl) ⟨n,t,h⟩=y:=by have e:rz ⟨n,t,h⟩ s=⟨n,av t s (.rs [s,s] 0 0),av h [s,s] (some (some []))⟩:=by{simp only[rz,hs,hh]};rw[jY,e];exact k
theorem ahd{y:ak}(k:jY slots ⟨n,t,h⟩=y:=by repeat'(first|with_reducible exact TH|(apply ahc;first|exact rfl|exact aoe|exact aof)|(apply ahb;exact rfl;exact rfl)|exact TH)):jY slots ⟨n,t,h⟩=y:=k
section
variable{keep:Id→Bool}{o:Id}{ol:List Id}{y0:Option ak}{rows br:Rows}{ids:List Id}{r r':List aa}{k:Nat}
theorem aaH{α:Type}{g:α→Id}{y0:Option ak}(e:some (⟨n,t,h⟩:ak)=y0:=by exact rfl):jd keep (List.map g []) ⟨n,t,h⟩=y0:=e
theorem agT(e:(eu ids&& !ids.contains o)=true):(eu ids&& !ids.contains o)=true:=e
theorem aaF(hh:h o=some (some rows))(hf:eH rows=true)(k:jd keep ol ⟨n,t,h⟩=y0):jd keep (o::ol) ⟨n,t,h⟩=y0:=by have e:qL keep ⟨n,t,h⟩ o=some ⟨n,t,h⟩:=by{simp only[qL,hh,hf,if_true]};rw[jd,e];exact k
theorem aaL(hh:h o=some (some rows))(hf:eH rows=false)(hc:ec (k5 h keep) rows=some (br,ids))(hn:(eu ids&& !ids.contains o)=true)(k:jd keep ol ⟨n,t,bw h ((o,some br)::ids.map fun i=>(i,none))⟩=y0):jd keep (o::ol) ⟨n,t,h⟩=y0:=by have e:qL keep ⟨n,t,h⟩ o=some ⟨n,t,bw h ((o,some br)::ids.map fun i=>(i,none))⟩:=by{simp only[qL,hh,hf,hc,hn,if_true];rfl};rw[jd,e];exact k
theorem Qj(hf:cT r=false:=by exact rfl)(hc:dV (gm h keep) r=some (r',ids)):k5 h keep r=some (r',ids):=by simp[k5,hf,hc]
theorem Rj{p:List aa→Option (List aa×List Id)}(e:rows=[]:=by exact rfl):ec p rows=some ([],[]):=by subst e;rfl
theorem Rk{p:List aa→Option (List aa×List Id)}{rs:Rows}{i1 i2:List Id}(e:rows=r::rs)(h1:p r=some (r',i1))(h2:ec p rs=some (br,i2)):ec p rows=some (r'::br,i1++i2):=by subst e;simp[ec,h1,h2]
theorem KM{i:Id}{off len:Nat}{x:aa}(hx:x= .rs i off len:=by exact rfl)(hk:keep i=true:=by exact rfl):gm h keep x=some (.rs i off len,[]):=by subst hx;simp[gm,hk]
theorem KN{i:Id}{row off:Nat}{x:aa}(hx:x= .mp i row off:=by exact rfl)(hk:keep i=true:=by exact rfl):gm h keep x=some (.mp i row off,[]):=by subst hx;simp[gm,hk]
theorem KP{i:Id}{off len:Nat}{x x':aa}(hx:x= .rs i off len:=by exact rfl)(hk:keep i=false:=by exact rfl)(hp:pk h 8 (.rs i off len)=some (x',ids)):gm h keep x=some (x',ids):=by subst hx;simp[gm,hk,hp]
theorem KO{x:aa}(hx:x= .cu:=by exact rfl):gm h keep x=some (.own [] 0,[]):=by subst hx;rfl
theorem Nb:∀{l:List aa},cT l=true→vQ keep l=true|[],_=>rfl|a::l,hf=>by simp only[cT,Bool.and_eq_true]at hf;simp only[vQ,List.all_cons,Bool.and_eq_true];refine⟨?_,Nb hf.2⟩;cases a<;>first|exact hf.1|(simp[flat]at hf)
theorem DR{x:aa}(hf:flat x=true):gm h keep x=some (x,[]):=by cases x with|fn k as cs=>(simp only[flat,Bool.and_eq_true]at hf;simp only[gm];rw[if_pos (by simp[Nb hf.1,Nb hf.2])])|rs _ _ _=>(simp[flat]at hf)|mp _ _ _=>(simp[flat]at hf)|mr _=>(simp[flat]at hf)|cu=>(simp[flat]at hf)|_=>simp only[gm];rw[if_pos hf]
theorem KL{x:aa}{k:Fn}{as cs:List aa}(hx:x= .fn k as cs:=by exact rfl)(hk:(vQ keep as&&vQ keep cs)=true:=by exact rfl):gm h keep x=some (.fn k as cs,[]):=by subst hx;simp only[gm];rw[if_pos hk]
end
section
variable{α:Type}{c:α→List aa}{q:List α}{k:Nat}{x x':α}{r r':List aa}{ids:List Id}{keep:Id→Bool}{o:Id}{ol:List Id}{y0:Option ak}
end
theorem aaN{keep:Id→Bool}{ol:List Id}{y0:Option ak}(k:jd keep ol ⟨n,t,h⟩=y0:=by repeat'(first|with_reducible exact amd|with_reducible exact aaH|(apply aaF;exact rfl;first|exact qW _|exact rfl|exact Lh)|(apply ame;exact rfl;exact rfl;(first|(with_reducible assumption)|assumption);exact inferInstance)|(apply aaL;exact rfl;exact rfl)|exact Rj|(apply Rk;exact rfl)|exact aa4|(apply Qj;exact rfl)|exact KM|exact KN|exact P4|exact KO|(apply P6;exact rfl;exact rfl;exact mm)|(apply KP;exact rfl;exact rfl;exact mm)|(apply P5;exact rfl;exact rfl;exact mm)|(apply DR;first|exact rfl|exact Ra|exact Rc|exact Rb)|exact KL|exact A1|(apply D9;exact rfl)|exact agT rfl)):jd keep ol ⟨n,t,h⟩=y0:=k
/-! Names, one by one. -/
def Tj:aa→Bool| .fn _ as cs=> !(cT as&&cT cs)| .rs _ _ _=>true| .mp _ _ _=>true| .mr _=>true| .agg _=>true|_=>false
section
variable{L:Id→Option (Option Rows)}{m j:Nat}{p i:Id}{acc acc' og y l:List (Id×Id)}{a:aa}{as cs eC:List aa}{S:ak}{s:Nat}{slots:List Nat}
theorem abc(hx:eC=[])(e:acc=y):fq L m p j acc eC=y:=by subst hx;cases m<;>exact e
theorem abj(hx:eC=a::as)(hs:Tj a=false)(k:fq L m p (j+1) acc as=y):fq L (m+1) p j acc eC=y:=by subst hx;cases a with|fn f xs cs=>(simp only[Tj,Bool.not_eq_false']at hs;simp only[fq,if_pos hs];exact k)|_=>first|exact k|cases hs
theorem Nq{i q:Id}(h:jl i=false)(h2:jl q=false):sG i q=q:=by simp[sG,h,h2]
theorem Nr{i q:Id}(h:jl i=true):sG i q=i:=by simp[sG,h]
variable{nm:Id}
theorem abh{o n:Nat}(hx:eC= .rs i o n::as)(hn:(fT acc i).isSome=false)(hm:sG i (j::p)=nm)(hl:acc++[(i,nm)]=acc')(k:fq L m p (j+1) acc' as=y):fq L (m+1) p j acc eC=y:=by subst hx hl hm;simp only[fq,hn];exact k
theorem abi{o n:Nat}(hx:eC= .rs i o n::as)(hn:(fT acc i).isSome=true)(k:fq L m p (j+1) acc as=y):fq L (m+1) p j acc eC=y:=by subst hx;simp only[fq,hn];exact k
theorem abf{o n:Nat}(hx:eC= .mp i o n::as)(hn:(fT acc i).isSome=false)(hh:L i=some (some [cs]))(hm:sG i (j::p)=nm)(hl:acc++[(i,nm)]=acc')(h1:fq L m (j::p) 0 acc' cs=og)(k:fq L m p (j+1) og as=y):fq L (m+1) p j acc eC=y:=by subst hx hl h1 hm;simp only[fq,hn,hh];exact k
theorem abg{o n:Nat}(hx:eC= .mp i o n::as)(hn:(fT acc i).isSome=true)(k:fq L m p (j+1) acc as=y):fq L (m+1) p j acc eC=y:=by subst hx;simp only[fq,hn];exact k
theorem aba(hx:eC= .agg cs::as)(h1:fq L m (j::p) 0 acc cs=og)(k:fq L m p (j+1) og as=y):fq L (m+1) p j acc eC=y:=by subst hx h1;simp only[fq];exact k
theorem abe{f:Fn}{xs:List aa}(hx:eC= .fn f xs cs::as)(hf:(cT xs&&cT cs)=false)(h1:fq L m (j::p) 0 acc (xs++cs)=og)(k:fq L m p (j+1) og as=y):fq L (m+1) p j acc eC=y:=by subst hx h1;simp only[fq,hf];exact k
theorem ag1(e:acc=l):List.foldl (fun acc s=>fq S.h 40 [s] 0 acc [S.t s]) acc []=l:=e
theorem ag0(h:fq S.h 40 [s] 0 acc [S.t s]=acc')(k:List.foldl (fun acc s=>fq S.h 40 [s] 0 acc [S.t s]) acc' slots=l):List.foldl (fun acc s=>fq S.h 40 [s] 0 acc [S.t s]) acc (s::slots)=l:=by subst h;exact k
theorem agZ{Vr:List Nat}(hs:slots=Vr)(h:List.foldl (fun acc s=>fq S.h 40 [s] 0 acc [S.t s]) [] Vr=l):names S slots=l:=by subst hs;exact h
theorem ag2(h:names S slots=l:=by((with_reducible apply agZ);exact spine);repeat'(first|((with_reducible apply ag1);exact rfl)|(with_reducible apply ag0)|((with_reducible apply abc);(with_reducible exact rfl);exact rfl)|((with_reducible apply abj);exact rfl;first|exact rfl|exact aow|exact aoz)|((with_reducible apply abh);exact rfl;exact rfl;(first|exact Nq rfl rfl|exact Nr rfl|exact TG rfl rfl spine);exact spine)|((with_reducible apply abi);exact rfl;exact rfl)|((with_reducible apply amj);exact rfl;exact rfl;(first|exact Nq rfl rfl|exact Nr rfl|exact TG rfl rfl spine);exact spine)|((with_reducible apply amk);exact rfl;exact rfl)|((with_reducible apply abg);exact rfl;exact rfl)|((with_reducible apply abf);exact rfl;exact rfl;exact rfl;(first|exact Nq rfl rfl|exact Nr rfl|exact TG rfl rfl spine);exact spine)|((with_reducible apply aba);exact rfl)|((with_reducible apply abe);exact rfl;exact rfl))):names S slots=l:=h
end
theorem aha{t0 t1:Nat→aa}{h0 h1:Id→Option (Option Rows)}{vs:List (Nat×aa)}(e0:jY slots ⟨n,t,h⟩=⟨n,t0,h0⟩:=by exact ahd)(hn:names ⟨n,t0,h0⟩ slots=l:=by first|exact ag2|exact spine)(e1:jd (uc l) (l.map (·.1)) ⟨n,t0,h0⟩=some ⟨n,t1,h1⟩:=by exact aaN)(hd:(eu (l.map (·.1))&&eu (l.map (·.2))&&l.all (fun x=> !jl x.2||x.1==x.2))=true:=by exact rfl)(hh:pZ h1 l l=some hl:=by exact hnk)(ht:nS l t1 slots=di (fun _=> .bz) vs:=by exact agI):norm ⟨n,t,h⟩ slots=some (kr n vs hl):=by subst hn;simp only[norm,FD,e0,e1,Option.bind_some,ug,hd,if_true,hh,Option.map_some,ht,kr]
theorem lT{o:Option (Bool×List Nat)}{vs:List (Nat×aa)}(hk:o=some (true,slots):=by exact rfl)(hm:norm ⟨n,t,h⟩ slots=some (kr n vs hl):=by exact aha):ej o ⟨n,t,h⟩=some (kr n vs hl):=by subst hk;exact hm
end
section
variable{C:aO}{f:FuncId}{call:gA}{c:Code}{Q:Exit×ak→Prop}{n:Nat}{l:List (Nat×aa)}{h:List (Id×Rows)}
theorem GD(k:W C f call c ⟨n,di (fun _=> .bz) l,jW h⟩ Q):W C f call c (kr n l h) Q:=k
theorem FP{e:Exit}(k:Q (e,⟨n,di (fun _=> .bz) l,jW h⟩)):Q (e,kr n l h):=k
end
section
variable{α:Type}{c c':α→List aa}{q:List α}{as bs:List aa}{L:Id→Option (Option Rows)}{n:Nat}
/-! Freezing -/
theorem ac0 [hc:G5 c c']:dW (.own (q.map c) q.length)= .sl (q.map c'):=by have:jL (q.map c)=q.map c':=by{induction q with|nil=>(rfl)|cons x q ih=>simp[jL,hc.dW,ih]};simp only[dW,this];rw[List.take_of_length_le (by simp)]
theorem acX{a b:aa}(h:dW a=b)(k:jK as=bs):jK (a::as)=b::bs:=by simp[jK,h,k]
theorem acW(h:jK as=bs):dW (.agg as)= .agg bs:=by simp[dW,h]
theorem ac2(h:jK as=bs):dW (.bL as)= .bL bs:=by simp[dW,h]
theorem Ef{a b:aa}(h:dW a=b:=by repeat'(first|exact(rfl:dW (.val _)= .val _)|exact am8|exact ac1|exact ac0|exact am9|exact(rfl:dW (.sl _)= .sl _)|apply acW|apply ac2|apply ana|exact(rfl:jK []=[])|apply acX|exact rfl)):dW a=b:=h
end
/-! ### Memory of one's own -/
def app{α:Type}(a b:List α):Option (List α):=if a.length+b.length≤4294967296 then some (a++b)else none
theorem DC{α:Type}{a b r:List α}(h:app a b=some r):a.length+b.length≤4294967296∧r=a++b:=by unfold app at h;split at h;·{exact⟨‹_›,by simpa using h.symm⟩};·cases h
def kM{α:Type}(n:Int)(z:α):Option (List α):=if 0≤n∧n≤4294967296 then some (List.replicate n.toNat z)else none
theorem JL{α:Type}{c:α→List aa}{q:List α}[hc:qC c]:qq (q.map c)=true:=by simp only[qq,List.all_map,List.all_eq_true];exact fun x _=>hc.ce x
section
variable{C:aO}{f:FuncId}{call:gA}{S:ak}{g:Bool}
variable{d:Nat}{ty:TypeId}{pos:String}{bg:Array Edge}{bH:Option (Nat×Bool)}{v v':aa}
variable{x y z:Operand}{k:IntKind}{a b:Int}{T dw:TypeId}
theorem bO{cs:List aa}[hz:jE C T cs](hn:S.h [d]=none:=by exact rfl)(iQ:C.uO f d=[]:=by exact rfl):bF C f call S g ⟨some d, .alloc T,ty,pos,bg,bH⟩=some ⟨[(d, .mp [d] 0 0)],[],[([d],some [cs])]⟩:=by show qQ C f S _ T=_;simp[qQ,hz.OH,hn,iQ,uP]
theorem ahj{cs cs':List aa}{l:List Nat}[hz:jE C T cs](iQ:C.uO f d=l:=by exact rfl)(hc:uP l cs=cs':=by exact rfl)(hn:S.h [d]=none:=by exact rfl):bF C f call S g ⟨some d, .alloc T,ty,pos,bg,bH⟩=some ⟨[(d, .mp [d] 0 0)],[],[([d],some [cs'])]⟩:=by subst hc;show qQ C f S _ T=_;simp[qQ,hz.OH,hn,iQ]
theorem m7{bb:Bool}{m:Nat}{cs:List aa}[ha:dr C T bb m](hin:(C.eR f).contains d=false:=by exact rfl)(hx:un g (S.get C x)=v:=by exact gt)(hc:oo bb v=some cs:=by exact rfl)(hn:S.h [d]=none:=by exact rfl):bF C f call S g ⟨some d, .box T x,ty,pos,bg,bH⟩=some ⟨[(d, .mp [d] 0 0)],[],[([d],some [cs])]⟩:=by show qR C f S _ T (un g (S.get C x))=_;simp only[qR,ha.kY,hx,hc,eX,hin,Bool.false_and,Bool.false_eq_true,if_false];rw[if_pos (SV hn)];rfl
theorem bC{i off off' row m:Nat}{bb:Bool}{id:Id}[hf:Fd C T i off m bb](hx:un g (S.get C x)= .mp id row off':=by first|exact rfl|exact b8)(h0:Nat.blt 0 m=true:=by exact rfl):bF C f call S g ⟨some d, .fieldAddr T x i,ty,pos,bg,bH⟩=some ⟨[(d, .mp id row (off'+off))],[],[]⟩:=by show se C f _ T i (un g (S.get C x))=_;have x5:0<m:=of_decide_eq_true (mG h0);simp[se,hf.fd,hx,x5]
theorem Nd{bb:Bool}{m row off:Nat}{id:Id}{rows:Rows}{r cs:List aa}(ha:kK C T=some bb)(hs:gL C T=some m)(hx:un g (S.get C x)= .mp id row off)(hh:S.h id=some (some rows))(hr:rows[row]? =some r)(hl:Nat.ble (off+m) r.length=true)(hc:bQ [d] 0 ((r.drop off).take m)=(cs,[]))(hv:jX bb cs=some v):bF C f call S g ⟨some d, .load T x,ty,pos,bg,bH⟩=some ⟨[(d,v)],[id],[]⟩:=by show mK C S _ T (un g (S.get C x))=_;rw[hx];have hl':off+m≤r.length:=Nat.le_of_ble_eq_true hl;simp only[mK,ha,hs,hh,hr,Option.bind_some,if_pos hl',iy,hc,hv,List.isEmpty_nil,if_true,Option.map_some];rfl
theorem Ti{bb:Bool}{m row off:Nat}{id:Id}{rows:Rows}{r cs:List aa}{w:Id×Option Rows}{wr:List (Id×Option Rows)}(ha:kK C T=some bb)(hs:gL C T=some m)(hx:un g (S.get C x)= .mp id row off)(hh:S.h id=some (some rows))(hr:rows[row]? =some r)(hl:Nat.ble (off+m) r.length=true)(hc:bQ [d] 0 ((r.drop off).take m)=(cs,w::wr))(hf:fresh S.h (w::wr)=true)(hv:jX bb cs=some v):bF C f call S g ⟨some d, .load T x,ty,pos,bg,bH⟩=some ⟨[(d,v)],[id],(id,some (rows.set row (r.take off++cs++r.drop (off+m))))::w::wr⟩:=by show mK C S _ T (un g (S.get C x))=_;rw[hx];have hl':off+m≤r.length:=Nat.le_of_ble_eq_true hl;simp only[mK,ha,hs,hh,hr,Option.bind_some,if_pos hl',iy,hc,hv,List.isEmpty_cons,Bool.false_eq_true,if_false,hf,if_true,Option.map_some];rfl
theorem ew{m row off:Nat}{id:Id}{α:Type}{c:α→List aa}{q:List α}{r:α}{cs:List aa}(hr:q[row]? =some r)[ha:dr C T false m](hx:un g (S.get C x)= .mp id row off:=by first|exact rfl|exact b8)(hh:S.h id=some (some (q.map c)):=by exact rfl)(hm:m=1:=by exact rfl)(hv:(c r).drop off=v::cs:=by exact rfl)(hu:bQ [d] 0 [v]=([v],[]):=by first|exact rfl|exact Oy):bF C f call S g ⟨some d, .load T x,ty,pos,bg,bH⟩=some ⟨[(d,v)],[id],[]⟩:=by subst hm;refine Nd (rows:=q.map c) (r:=c r) (cs:=[v]) ha.kY ha.sz hx hh (by simp[hr]) ?_ (by rw[hv];exact hu) rfl;have:=congrArg List.length hv;simp only[List.length_drop,List.length_cons]at this;apply Nat.ble_eq_true_of_le;omega
theorem bS{m off:Nat}{id:Id}{r cs:List aa}[ha:dr C T false m](hx:un g (S.get C x)= .mp id 0 off:=by first|exact rfl|exact b8)(hh:S.h id=some (some [r]):=by exact rfl)(hm:m=1:=by exact rfl)(hv:r.drop off=v::cs:=by exact rfl)(hu:bQ [d] 0 [v]=([v],[]):=by first|exact rfl|exact Oy):bF C f call S g ⟨some d, .load T x,ty,pos,bg,bH⟩=some ⟨[(d,v)],[id],[]⟩:=by subst hm;refine Nd (rows:=[r]) (r:=r) (cs:=[v]) ha.kY ha.sz hx hh rfl ?_ (by rw[hv];exact hu) rfl;have:=congrArg List.length hv;simp only[List.length_drop,List.length_cons]at this;apply Nat.ble_eq_true_of_le;omega
theorem eo{m off:Nat}{id:Id}{r cs cs0:List aa}[ha:dr C T true m](hx:un g (S.get C x)= .mp id 0 off:=by first|exact rfl|exact b8)(hh:S.h id=some (some [r]):=by exact rfl)(hl:Nat.ble (off+m) r.length=true:=by exact rfl)(hv:(r.drop off).take m=cs0:=by exact spine)(hu:bQ [d] 0 cs0=(cs,[]):=by exact Aa):bF C f call S g ⟨some d, .load T x,ty,pos,bg,bH⟩=some ⟨[(d, .agg cs)],[id],[]⟩:=Nd (rows:=[r]) (r:=r) ha.kY ha.sz hx hh rfl hl (by rw[hv];exact hu) rfl
theorem Nw{m off:Nat}{id:Id}{r r' cs cs0:List aa}{w:Id×Option Rows}{wr:List (Id×Option Rows)}[ha:dr C T false m](hx:un g (S.get C x)= .mp id 0 off:=by first|exact rfl|exact b8)(hh:S.h id=some (some [r]):=by exact rfl)(hm:m=1:=by exact rfl)(hl:Nat.ble (off+1) r.length=true:=by exact rfl)(hv:(r.drop off).take 1=cs0:=by exact spine)(hu:bQ [d] 0 cs0=(cs,w::wr):=by exact Aa)(LV:cs=[v]:=by exact rfl)(hq:r.take off++cs++r.drop (off+1)=r':=by exact spine)(hf:fresh S.h (w::wr)=true:=by exact rfl):bF C f call S g ⟨some d, .load T x,ty,pos,bg,bH⟩=some ⟨[(d,v)],[id],(id,some [r'])::w::wr⟩:=by subst hm hq;exact Ti (rows:=[r]) (r:=r) ha.kY ha.sz hx hh rfl hl (by rw[hv];exact hu) hf (by rw[LV];rfl)
def JT(L:List Nat):Operand→Bool| .tmp jw=>L.contains jw|_=>false
theorem Rw{a:Operand}(hin:JT (C.eR f) a=false):xZ C f a=none:=by cases a with|tmp jw=>(simp only[JT]at hin;unfold xZ;simp only;rw[if_neg (by rw[hin];simp)])|_=>rfl
theorem dg{bb:Bool}{m jw:Nat}{id:Id}{cs cs' r:List aa}[ha:dr C T bb m](hin:(C.eR f).contains jw=true:=by exact rfl)(hx:un true (S.get C (.tmp jw))= .mp id 0 0:=by exact rfl)(hy:un true (S.get C y)=v:=by exact gt)(hc:oo bb v=some cs:=by exact rfl)(bW:cs.length=m:=by exact rfl)(hh:S.h id=some (some [r]):=by exact rfl)(hr:r.length=m:=by exact rfl)(hz:kN cs=cs':=by exact spine)(hi:ek cs'=true:=by exact rfl):bF C f call S true ⟨none, .store T (.tmp jw) y,ty,pos,bg,bH⟩=some ⟨[(jw, .aq cs')],[id],[(id,none)]⟩:=by show oB C f S true _ T (.tmp jw) (un true (S.get C (.tmp jw))) (un true (S.get C y))=_;rw[hx,hy];have e:xZ C f (.tmp jw)=some jw:=by{unfold xZ;simp only;rw[if_pos hin]};subst hz;simp[oB,ha.kY,ha.sz,hc,bW,hh,hr,e,hi]
theorem aQ{bb:Bool}{m off:Nat}{ao:Operand}{id:Id}{cs r r':List aa}[ha:dr C T bb m](hin:JT (C.eR f) ao=false:=by exact rfl)(hx:un g (S.get C ao)= .mp id 0 off:=by exact rfl)(hy:un g (S.get C y)=v:=by exact gt)(hc:oo bb v=some cs:=by exact rfl)(bW:cs.length=m:=by exact rfl)(hh:S.h id=some (some [r]):=by exact rfl)(hl:Nat.ble (off+m) r.length=true:=by exact rfl)(hq:r.take off++cs++r.drop (off+m)=r':=by exact spine):bF C f call S g ⟨none, .store T ao y,ty,pos,bg,bH⟩=some ⟨[],[id],[(id,some [r'])]⟩:=by show oB C f S g _ T ao (un g (S.get C ao)) (un g (S.get C y))=_;rw[hx,hy];have hl':off+m≤r.length:=Nat.le_of_ble_eq_true hl;have e:=Rw (f:=f) hin;subst hq;simp only[oB,ha.kY,ha.sz,hc];rw[if_neg (by simp[bW]),hh];simp only[List.getElem?_cons_zero,Option.bind_some,if_pos hl',e];rfl
theorem aaX{e:Option Int}:oo false (ia e)=some [ia e]:=by cases e<;>rfl
theorem j3{bb:Bool}{m row off:Nat}{ao:Operand}{id:Id}{cs:List aa}{α:Type}{c:α→List aa}{q:List α}{r:α}(hr:q[row]? =some r)(r':α)[ha:dr C T bb m](hin:JT (C.eR f) ao=false:=by exact rfl)(hx:un g (S.get C ao)= .mp id row off:=by exact rfl)(hy:un g (S.get C y)=v:=by exact gt)(hc:oo bb v=some cs:=by first|exact rfl|exact aaX)(bW:cs.length=m:=by exact rfl)(hh:S.h id=some (some (q.map c)):=by exact rfl)(hl:Nat.ble (off+m) (c r).length=true:=by exact rfl)(hq:(c r).take off++cs++(c r).drop (off+m)=c r':=by exact rfl):bF C f call S g ⟨none, .store T ao y,ty,pos,bg,bH⟩=some ⟨[],[id],[(id,some ((q.set row r').map c))]⟩:=by show oB C f S g _ T ao (un g (S.get C ao)) (un g (S.get C y))=_;rw[hx,hy];have hl':off+m≤(c r).length:=Nat.le_of_ble_eq_true hl;have e:=Rw (f:=f) hin;have e2:(q.map c)[row]? =some (c r):=by{simp[hr]};simp only[oB,ha.kY,ha.sz,hc];rw[if_neg (by simp[bW]),hh];simp only[e2,Option.bind_some,if_pos hl',e];rw[hq,List.map_set];rfl
theorem cO{e:TypeId}{m n:Nat}{bb:Bool}{α:Type}{c:α→List aa}{q:List α}{i:Int}{r:α}{id:Id}(hi:idx q i=some r)[hu:eL C T (.slice e)][hs:dr C e bb m](hx:un g (S.get C x)= .rs id 0 n:=by first|exact rfl|exact b8)(hh:S.h id=some (some (q.map c)):=by exact rfl)(hl:n=q.length:=by exact sE)(hy:un g (S.get C y)= .val (.int k i):=by first|exact rfl|exact b8)(hr:(c r).length=m:=by exact rfl):bF C f call S g ⟨some d, .indexAddr T x y,ty,pos,bg,bH⟩=some ⟨[(d, .mp id i.toNat 0)],[id],[]⟩:=by show oy C S _ T (un g (S.get C x)) (e3 (un g (S.get C y)))=_;have hb:=IS hi;have hn:=cH hi;subst hl;simp only[hx,hy,e3,oy,hu.ul,hs.sz];rw[if_pos hb,hh];simp[hn,hr]
section
variable{α:Type}{c:α→List aa}{q q' r:List α}{id gv:Id}{e:TypeId}{m n n':Nat}{T dw:TypeId}
abbrev xA:= @lQ
theorem PB{rx:aa}{xs ys:Rows}{i1 i2:List Id}(hok:DB C e m=true)(hu:C.P.underlying T=some (.slice e))(gr:C.P.underlying dw=some (.slice e))(hx:un g (S.get C x)=rx)(vH:rowsOf S.h rx=some (xs,i1))(hy:rowsOf S.h (un g (S.get C y))=some (ys,i2))(hl:ys.all (·.length==m)=true)(hcell:qq ys=true)(hlen:xs.length+ys.length≤nR)(hn:S.h [d]=none){AU:bx}(he:xA S ⟨some d, .call ⟨.builtin .append,⟨[x,y]⟩,⟨[T,dw]⟩⟩,ty,pos,bg,bH⟩ d m rx xs ys i1 i2=some AU):lV C S ⟨some d, .call ⟨.builtin .append,⟨[x,y]⟩,⟨[T,dw]⟩⟩,ty,pos,bg,bH⟩ ⟨[T,dw]⟩ ([x,y].map fun x=>un g (S.get C x))=some AU:=by unfold DB at hok;split at hok;·{rename_i inf Md;simp only[Bool.and_eq_true,beq_iff_eq,decide_eq_true_eq]at hok;obtain⟨⟨⟨k1,k2⟩,cU⟩,eE⟩:=hok;subst k1;have e1:(#[T,dw]:Array TypeId)[0]? =some T:=rfl;have e2:(#[T,dw]:Array TypeId)[1]? =some dw:=rfl;simp only[List.map_cons,List.map_nil,lV,e1,e2,Option.bind_some,gr,AF,hu,Md,hx,vH,hy];rw[if_pos (by simp only[Bool.and_eq_true,decide_eq_true_eq];exact⟨⟨⟨⟨⟨⟨hl,k2⟩,cU⟩,eE⟩,hlen⟩,hcell⟩,by rw[hn];rfl⟩)];unfold xA at he;exact he};·cases hok
theorem Kx{rx:aa}{xs ys:Rows}{i1 i2:List Id}(hok:DB C e m=true)(hu:C.P.underlying T=some (.slice e))(gr:C.P.underlying dw=some (.slice e))(hx:un g (S.get C x)=rx)(vH:rowsOf S.h rx=some (xs,i1))(hy:rowsOf S.h (un g (S.get C y))=some (ys,i2))(hl:ys.all (·.length==m)=true)(hcell:qq ys=true)(hlen:xs.length+ys.length≤nR)(hn:S.h [d]=none)(hfz:(C.eR f).contains d=false){AU:bx}(he:xA S ⟨some d, .call ⟨.builtin .append,⟨[x,y]⟩,⟨[T,dw]⟩⟩,ty,pos,bg,bH⟩ d m rx xs ys i1 i2=some AU):bF C f call S g ⟨some d, .call ⟨.builtin .append,⟨[x,y]⟩,⟨[T,dw]⟩⟩,ty,pos,bg,bH⟩=some AU:=by show(lV C S _ _ ([x,y].map fun x=>un g (S.get C x))).bind (qY C f _)=_;have key:lV C S ⟨some d, .call ⟨.builtin .append,⟨[x,y]⟩,⟨[T,dw]⟩⟩,ty,pos,bg,bH⟩ ⟨[T,dw]⟩ ([x,y].map fun x=>un g (S.get C x))=some AU:=PB hok hu gr hx vH hy hl hcell hlen hn he;rw[key];simp only[Option.bind_some,qY,eX,hfz,Bool.false_eq_true,if_false]
theorem U6{L:Id→Option (Option Rows)}(hh:L id=some (some (q.map c))):rowsOf L (.rs id 0 q.length)=some (q.map c,[id]):=by show(match L id with|some (some rs)=>if 0+q.length≤rs.length then some ((rs.drop 0).take q.length,[id])else none|_=>none)=_;rw[hh];simp only;rw[if_pos (by simp),List.drop_zero,List.take_of_length_le (by simp)]
theorem qd(hr:app q q'=some r)[hu:eL C T (.slice e)][gr:eL C dw (.slice e)][hok:qz C e m](hx:un g (S.get C x)= .rs id 0 n:=by exact rfl)(hh:S.h id=some (some (q.map c)):=by exact rfl)(hlen:n=q.length:=by exact sE)(hy:un g (S.get C y)= .sl (q'.map c):=by exact rfl)(hl:∀x,(c x).length=m:=by exact fun _=>rfl)(hcell:qq (q'.map c)=true:=by first|exact JL|exact rfl)(hn:S.h [d]=none:=by exact rfl)(hfz:(C.eR f).contains d=false:=by exact rfl):bF C f call S g ⟨some d, .call ⟨.builtin .append,⟨[x,y]⟩,⟨[T,dw]⟩⟩,ty,pos,bg,bH⟩=some ⟨[(d, .rs [d] 0 r.length)],[id],[(id,none),([d],some (r.map c))]⟩:=by obtain⟨h1,rfl⟩:=DC hr;subst hlen;refine Kx hok.ao hu.ul gr.ul hx (U6 hh) (by rw[hy];rfl) (xz hl) hcell (by simpa[nR]using h1) hn hfz ?_;simp only[xA,lQ,hh];rw[if_pos (by simp only[Bool.and_eq_true];refine⟨⟨xz hl,by simp⟩, ?_⟩;cases q<;>simp)];simp[put,List.map_append]
theorem TJ [ad6:qC c](hr:app q q'=some r)[hu:eL C T (.slice e)][gr:eL C dw (.slice e)][hok:qz C e m](hx:un g (S.get C x)= .rs id 0 n:=by exact rfl)(hh:S.h id=some (some (q.map c)):=by exact rfl)(hlen:n=q.length:=by exact sE)(hy:un g (S.get C y)= .sl (q'.map c):=by exact rfl)(hl:∀x,(c x).length=m:=by exact fun _=>rfl)(hcell:qq (q'.map c)=true:=by first|exact JL|exact rfl)(hn:S.h [d]=none:=by exact rfl)(hfz:(C.eR f).contains d=true:=by exact rfl):bF C f call S g ⟨some d, .call ⟨.builtin .append,⟨[x,y]⟩,⟨[T,dw]⟩⟩,ty,pos,bg,bH⟩=some ⟨[(d, .sl (r.map c))],[id],[(id,none),([d],none)]⟩:=by obtain⟨h1,rfl⟩:=DC hr;subst hlen;show(lV C S _ _ ([x,y].map fun x=>un g (S.get C x))).bind (qY C f _)=_;have key:lV C S ⟨some d, .call ⟨.builtin .append,⟨[x,y]⟩,⟨[T,dw]⟩⟩,ty,pos,bg,bH⟩ ⟨[T,dw]⟩ ([x,y].map fun x=>un g (S.get C x))=some ⟨[(d, .rs [d] 0 (q++q').length)],[id],[(id,none),([d],some ((q++q').map c))]⟩:=by{refine PB hok.ao hu.ul gr.ul hx (U6 hh) (by rw[hy];rfl) (xz hl) hcell (by simpa[nR]using h1) hn ?_;simp only[xA,lQ,hh];rw[if_pos (by simp only[Bool.and_eq_true];refine⟨⟨xz hl,by simp⟩, ?_⟩;cases q<;>simp)];simp[put,List.map_append]};have hi:iC ((q++q').map c)=true:=by{simp only[iC,List.all_map,List.all_eq_true];exact fun x _=>ad6.im x};rw[key];simp only[Option.bind_some,qY,eX,hfz,if_true,hi,and_self,put]
theorem Nu(hr:app [] q'=some r)[hu:eL C T (.slice e)][gr:eL C dw (.slice e)][hok:qz C e m](hx:un g (S.get C x)= .cu:=by exact rfl)(hy:un g (S.get C y)= .sl (q'.map c):=by exact rfl)(hl:∀x,(c x).length=m:=by exact fun _=>rfl)(hcell:qq (q'.map c)=true:=by first|exact JL|exact rfl)(hn:S.h [d]=none:=by exact rfl)(hfz:(C.eR f).contains d=false:=by exact rfl):bF C f call S g ⟨some d, .call ⟨.builtin .append,⟨[x,y]⟩,⟨[T,dw]⟩⟩,ty,pos,bg,bH⟩=some ⟨[(d, .rs [d] 0 r.length)],[],[([d],some (r.map c))]⟩:=by obtain⟨h1,h2⟩:=DC hr;simp only[List.nil_append]at h2;subst h2;refine Kx (xs:=[]) (i1:=[]) (i2:=[]) hok.ao hu.ul gr.ul hx rfl (by rw[hy];rfl) (xz hl) hcell (by simpa[nR]using h1) hn hfz ?_;simp[xA,lQ,put]
end
theorem BV{e:TypeId}{m:Nat}{α:Type}{c:α→List aa}{cN:α}{fV:List aa}{nn:Int}{r:List α}(hr:kM nn cN=some r)(MN:c cN=fV)[hu:eL C T (.slice e)][hok:qz C e m][hz:jE C e fV](hx:un g (S.get C x)= .val (.int k nn):=by exact rfl)(hy:un g (S.get C y)= .val (.int k nn):=by exact rfl)(hzl:fV.length=m:=by exact rfl)(hn:S.h [d]=none:=by exact rfl):bF C f call S g ⟨some d, .makeSlice T x y,ty,pos,bg,bH⟩=some ⟨[(d, .rs [d] 0 r.length)],[],[([d],some (r.map c))]⟩:=by show tE C S _ T (un g (S.get C x)) (un g (S.get C y))=_;unfold kM at hr;split at hr;·{rename_i hp;obtain rfl:List.replicate nn.toNat cN=r:=by{simpa using hr};have hok:=hok.ao;unfold DB at hok;split at hok;·{rename_i inf Md;simp only[Bool.and_eq_true,beq_iff_eq,decide_eq_true_eq]at hok;obtain⟨⟨⟨k1,k2⟩,cU⟩,eE⟩:=hok;simp only[hx,hy,tE,hu.ul,e3,hz.OH,Md];rw[if_pos (by simp only[Bool.and_eq_true,decide_eq_true_eq];exact⟨⟨⟨⟨by omega,by omega⟩,cU⟩,by omega⟩,by rw[hn];rfl⟩)];simp[put,MN]};·cases hok};·cases hr
theorem ZZ{e:TypeId}{bb:Bool}{m len:Nat}{fV:List aa}{ps:List (Nat×aa)}{rows:Rows}(hu:C.P.underlying T=some (.slice e))(hz:Ai C e=some fV)(ha:kK C e=some bb)(hs:gL C e=some m)(h0:(decide (0<m)&&decide (m=fV.length)&&decide (len*m≤1000))=true)(hf:tG m bb (List.replicate len fV) ps=some rows):AK C T len ps=some rows:=by simp only[AK,hu,hz,ha,hs,h0,if_true,hf]
theorem jo{e:TypeId}{bb:Bool}{m len:Nat}{fV:List aa}{p:List (Nat×Operand)}{ps:List (Nat×aa)}{rows br:Rows}[hu:eL C T (.slice e)][hz:kE C e fV][ha:dr C e bb m](hin:(C.eR f).contains d=true:=by exact rfl)(h0:(decide (0<m)&&decide (m=fV.length)&&decide (len*m≤1000))=true:=by exact rfl)(hq:(p.map fun p=>(p.1,un g (S.get C p.2)))=ps:=by exact Jy)(hf:tG m bb (List.replicate len fV) ps=some rows:=by exact rfl)(By:rows.map kN=br:=by exact spine)(hi:iC br=true:=by exact rfl):bF C f call S g ⟨some d, .buildSlice T len ⟨p⟩,ty,pos,bg,bH⟩=some ⟨[(d, .sl br)],[],[]⟩:=by show qS C f S _ T len (p.map fun p=>(p.1,un g (S.get C p.2)))=_;rw[hq];have hb:=ZZ hu.ul hz.fV ha.kY ha.sz h0 hf;unfold qS;rw[if_neg (by simp[KG,hb,By,hi])];simp only[tD,hu.ul,hz.fV,ha.kY,ha.sz,h0,if_true,hf,eX,hin,By,hi,Bool.and_self];rfl
theorem zb{e:TypeId}{bb:Bool}{m len:Nat}{fV:List aa}{p:List (Nat×Operand)}{ps:List (Nat×aa)}{rows br:Rows}[hu:eL C T (.slice e)][hz:kE C e fV][ha:dr C e bb m](hin:(C.eR f).contains d=false:=by exact rfl)(h0:(decide (0<m)&&decide (m=fV.length)&&decide (len*m≤1000))=true:=by exact rfl)(hq:(p.map fun p=>(p.1,un g (S.get C p.2)))=ps:=by exact Jy)(hf:tG m bb (List.replicate len fV) ps=some rows:=by exact rfl)(hs:rows=br:=by exact spine)(hn:S.h [d]=none:=by exact rfl):bF C f call S g ⟨some d, .buildSlice T len ⟨p⟩,ty,pos,bg,bH⟩=some ⟨[(d, .rs [d] 0 len)],[],[([d],some br)]⟩:=by show qS C f S _ T len (p.map fun p=>(p.1,un g (S.get C p.2)))=_;subst hs;rw[hq];unfold qS;rw[if_neg (by simp[KG,eX];intro h;simp[h]at hin)];simp only[tD,hu.ul,hz.fV,ha.kY,ha.sz,h0,if_true,hf,eX,hin,Bool.false_and,Bool.false_eq_true,if_false];rw[if_pos (SV hn)];rfl
/-! ### Calls -/
section
variable{L:Id→Option (Option Rows)}{n m:Nat}{α:Type}{c c':α→List aa}{q:List α}{id:Id}{as bs cs cs':List aa}{is i2:List Id}{x u:aa}
theorem aai{a:aa}(h:fu a=true):bT L (n+1) a=some (a,[]):=by cases a with|agg cs=>(simp only[fu]at h;simp[bT,fM,h])|bL cs=>(simp only[fu]at h;simp[bT,fM,h])|fn k a b=>(simp only[fu,Bool.and_eq_true]at h;simp[bT,fM,h])|_=>first|rfl|simp[fu]at h
theorem PY{w:Value}(hx:x= .val w:=by exact rfl):bT L (n+1) x=some (.val w,[]):=by rw[hx];rfl
theorem PX{r:Rows}(hx:x= .sl r:=by exact rfl):bT L (n+1) x=some (.sl r,[]):=by rw[hx];rfl
theorem aab(hx:x= .cu:=by exact rfl):bT L (n+1) x=some (.sl [],[]):=by rw[hx];rfl
theorem Z7(hx:x=u:=by exact gt)(hi:fu u=true:=by exact rfl):bT L (n+1) x=some (u,[]):=by rw[hx];exact aai hi
theorem aag [hc:qC c](hx:x= .rs id 0 m:=by exact rfl)(hh:L id=some (some (q.map c)):=by exact rfl)(hl:m=q.length:=by exact sE):bT L (n+1) x=some (.sl (q.map c),[id]):=by subst hx hl;have hi':iC (q.map c)=true:=by{simp only[iC,List.all_map,List.all_eq_true];exact fun x _=>hc.im x};have e:((q.map c).drop 0).take q.length=q.map c:=by{rw[List.drop_zero,List.take_of_length_le (by simp)]};have e0:bT L (n+1) (.rs id 0 q.length)=match L id with|some (some rs)=>if 0+q.length≤rs.length then(k3 (bT L n) ((rs.drop 0).take q.length)).map fun x=>(.sl x.1,id::x.2)else none|_=>none:=rfl;rw[e0,hh];simp only;rw[if_pos (by simp),e];simp[k3,hi']
theorem Z9(hx:x= .mp id 0 0:=by exact rfl)(hh:L id=some (some [cs]):=by exact rfl)(hi:ek cs=true:=by exact rfl):bT L (n+1) x=some (.aq cs,[id]):=by subst hx;have e0:bT L (n+1) (.mp id 0 0)=match L id with|some (some rs)=>(match rs[0]? with|some r=>if 0≤r.length then(fM (bT L n) (r.drop 0)).map fun x=>(.aq x.1,id::x.2)else none|none=>none)|_=>none:=rfl;rw[e0,hh];simp[fM,hi]
theorem aaa(hx:x= .mp id 0 0)(hh:L id=some (some [cs]))(hi:ek cs=false)(h:dV (bT L n) cs=some (cs',is)):bT L (n+1) x=some (.aq cs',id::is):=by subst hx;have e0:bT L (n+1) (.mp id 0 0)=match L id with|some (some rs)=>(match rs[0]? with|some r=>if 0≤r.length then(fM (bT L n) (r.drop 0)).map fun x=>(.aq x.1,id::x.2)else none|none=>none)|_=>none:=rfl;rw[e0,hh];simp[fM,hi,h]
theorem PT{rows:Rows}(hx:x= .ez rows:=by exact rfl):bT L (n+1) x=some (.im rows,[]):=by subst hx;rfl
theorem Z1(hx:x= .agg cs)(hi:ek cs=false)(h:dV (bT L n) cs=some (cs',is)):bT L (n+1) x=some (.agg cs',is):=by subst hx;simp[bT,fM,hi,h]
theorem PS [hc:qC c](hx:x= .own (q.map c) q.length:=by exact rfl):bT L (n+1) x=some (.sl (q.map c),[]):=by have hi':iC (q.map c)=true:=by{simp only[iC,List.all_map,List.all_eq_true];exact fun x _=>hc.im x};subst hx;simp only[bT];rw[List.take_of_length_le (by simp)];simp[k3,hi']
end
/-! ### Borrowing lists whose elements own memory -/
class Ak{α:Type}(c:α→List aa)(c':outParam (α→List aa)):Prop where bT:∀L n x,dV (bT L (n+2)) (c x)=some (c' x,[])TD:∀x,ek (c x)=false
section
variable{L:Id→Option (Option Rows)}{n m:Nat}{α:Type}{c c':α→List aa}{q:List α}{k:Nat}{x x':α}{r r':List aa}{id:Id}{ids:List Id}{v:aa}
theorem Z3 [hb:Ak c c'](x:α):fM (bT L (n+2)) (c x)=some (c' x,[]):=by simp[fM,hb.TD,hb.bT]
theorem Rn [hb:Ak c c']:∀q:List α,ec (fM (bT L (n+2))) (q.map c)=some (q.map c',[])|[]=>rfl|x::q=>by simp[ec,Z3 (c:=c) (c':=c') x,Rn q]
theorem PV [hb:Ak c c'](q:List α):k3 (bT L (n+2)) (q.map c)=some (q.map c',[]):=by unfold k3;cases q with|nil=>(simp[iC])|cons x q=>rw[if_neg (by simp[iC,hb.TD])];exact Rn _
theorem aah [hb:Ak c c'](hx:v= .rs id 0 m:=by exact rfl)(hh:L id=some (some (q.map c)):=by exact rfl)(hm:m≤q.length:=by exact y4):bT L (n+3) v=some (.sl ((q.take m).map c'),[id]):=by subst hx;have e:bT L (n+3) (.rs id 0 m)=match L id with|some (some rs)=>if 0+m≤rs.length then(k3 (bT L (n+2)) ((rs.drop 0).take m)).map fun x=>(.sl x.1,id::x.2)else none|_=>none:=rfl;rw[e,hh];simp only[List.length_map,Nat.zero_add,if_pos hm,List.drop_zero];rw[←List.map_take,PV];rfl
theorem aac [hb:Ak c c'](hx:v= .own (q.map c) m:=by exact rfl):bT L (n+3) v=some (.sl ((q.take m).map c'),[]):=by subst hx;have e:bT L (n+3) (.own (q.map c) m)=(k3 (bT L (n+2)) ((q.map c).take m)).map fun x=>(.sl x.1,x.2):=rfl;rw[e,←List.map_take,PV];rfl
end
section
variable{α:Type}{c c':α→List aa}{q:List α}{L:Id→Option (Option Rows)}{n:Nat}{id:Id}{as bs cs cs':List aa}{x:aa}{is i2:List Id}
theorem Z2:fM (bT L n) []=some ([],[]):=by simp[fM,ek]
theorem Z4{cs cs':List aa}{is:List Id}(hi:ek cs=false)(h:dV (bT L n) cs=some (cs',is)):fM (bT L n) cs=some (cs',is):=by simp[fM,hi,h]
theorem Z6{k:Fn}{as bs as' bs':List aa}{i1 i2:List Id}(hx:x= .fn k as bs)(h1:fM (bT L n) as=some (as',i1))(h2:fM (bT L n) bs=some (bs',i2)):bT L (n+1) x=some (.fn k as' bs',i1++i2):=by subst hx;simp[bT,h1,h2]
theorem KJ{y:Option (aa×List Id)}(h:bT L n x=y:=by repeat'(first|exact PY|exact Z2|exact al0|(apply Z4;exact rfl)|exact Z5|exact aaf|exact PX|exact aag|exact al5|exact al8|exact aah|(apply al6;exact rfl;exact rfl;exact rfl;(first|(with_reducible assumption)|assumption);exact sE;exact inferInstance;rotate_left;exact rfl)|(apply al7;exact rfl;exact rfl;exact rfl;(first|(with_reducible assumption)|assumption);exact y4;exact inferInstance;rotate_left;exact rfl)|exact Z7|exact aae|exact aab|exact Z9|exact al4|exact PS|exact al3|exact aad|exact aac|exact al2|exact al1|exact PT|exact Z8|exact A1|(apply D9;exact rfl)|(apply Z1;exact rfl;exact rfl)|(apply aaa;exact rfl;exact rfl;exact rfl)|(apply Z6;exact rfl))):bT L n x=y:=h
theorem acp{p:aa→Option (aa×List Id)}{cs as bs:List aa}{a b:aa}(hx:cs=a::as)(h:p a=some (b,[]))(k:dV p as=some (bs,[])):dV p cs=some (b::bs,[]):=by subst hx;simp[dV,h,k]
theorem aaj{cs cs':List aa}(h:dV (bT L n) cs=some (cs',[]):=by repeat'(first|exact A1|(apply acp;exact rfl)|exact PY|exact Z5|exact aaf|exact PX|exact aae|exact PS|exact aad|exact PT|exact Z8)):dV (bT L n) cs=some (cs',[]):=h
theorem ZX(h:as=[]:=by exact rfl):r6 L as=some ([],[]):=by subst h;rfl
theorem ZW{a b:aa}{z:List Id}(ha:cs=a::as)(h1:bT L 9 a=some (b,is))(h2:r6 L as=some (bs,i2))(hz:is++i2=z):r6 L cs=some (b::bs,z):=by subst ha hz;unfold r6 at*;simp[dV,h1,h2]
theorem cX{y:Option (List aa×List Id)}(h:r6 L as=y:=by repeat'(first|exact ZX|(apply ZW;exact rfl;exact KJ)|exact rfl)):r6 L as=y:=h
theorem akL{ms:List Nat}(h:as=[]:=by exact rfl):ij L ms as=some ([],[],[],[]):=by subst h;cases ms<;>rfl
section
variable{ms:List Nat}{a b b':aa}{i s t z:List Id}
theorem akJ{u:List Id}(ha:cs=a::as)(h:pk L 9 a=some (b,i))(k:ij L ms as=some (bs,s,t,z))(hu:i++t=u):ij L (1::ms) cs=some (b::bs,s,u,z):=by subst ha hu;simp[ij,k,h]
theorem akK(ha:cs=a::as)(h:pk L 9 a=some (b,i))(hf:dW b=b')(k:ij L ms as=some (bs,s,t,z)){u:List Id}(hu:i++z=u):ij L (2::ms) cs=some (b'::bs,s,t,u):=by subst ha hu;simp[ij,k,h,hf]
theorem akM{u:List Id}(ha:cs=a::as)(h:bT L 9 a=some (b,i))(k:ij L ms as=some (bs,s,t,z))(hu:i++s=u):ij L (0::ms) cs=some (b::bs,u,t,z):=by subst ha hu;simp[ij,k,h]
end
theorem VB{ms:List Nat}{y:Option (List aa×List Id×List Id×List Id)}(h:ij L ms as=y:=by repeat'(first|exact akL|(apply akJ;exact rfl;exact mm)|(apply akM;exact rfl;exact KJ)|(apply akK;exact rfl;exact mm;exact Ef)|(apply apP;exact rfl;exact KJ)|exact rfl)):ij L ms as=y:=h
/-! Nothing from elsewhere -/
end
section
variable{cF:Operand}{ts:Array TypeId}{dA:FuncId}{as bs cs args:List aa}{seen:List Id}{r:aa}{wr:List (Id×Option Rows)}{xs:Array Operand}
theorem Ik(hfo:un g (S.get C cF)= .fn (.func dA) as bs)(dX:C.c6 dA=false):nC C (un g (S.get C cF))=none:=by rw[hfo];simp[nC,dX]
theorem HO{d':Option Tmp}(h:nC C (un g (S.get C cF))=none):bF C f call S g ⟨d', .call ⟨.value cF,xs,ts⟩,ty,pos,bg,bH⟩=(match pathOf C cF with|some p=>vg S ⟨d', .call ⟨.value cF,xs,ts⟩,ty,pos,bg,bH⟩ p (xs.toList.map fun x=>un g (S.get C x))|none=>if zU C cF then(match(generalizing:=false)cF with| .func k=>r8 C f call S ⟨d', .call ⟨.value cF,xs,ts⟩,ty,pos,bg,bH⟩ k (xs.toList.map fun x=>un g (S.get C x))|_=>none)else qJ C f call S ⟨d', .call ⟨.value cF,xs,ts⟩,ty,pos,bg,bH⟩ (un g (S.get C cF)) (xs.toList.map fun x=>un g (S.get C x))):=by show(match nC C (un g (S.get C cF))with|some x=>qK C f call S _ x.1 (x.2.1++(xs.toList.map fun x=>un g (S.get C x))++x.2.2)|none=>_)=_;rw[h];first|rfl|(cases cF<;>rfl)
theorem bA(hc:call dA args=some (r,[]))(hfo:un g (S.get C cF)= .fn (.func dA) as bs:=by exact rfl)(hb:r6 S.h (as++(xs.toList.map fun x=>un g (S.get C x))++bs)=some (args,seen):=by exact cX)(hm:(seen.isEmpty||mine r)=true:=by first|exact rfl|exact Nl)(hz:(C.eR f).contains d=false:=by exact rfl)(hi:imp [d] r=(v',wr):=by exact yO)(hf:fresh S.h wr=true:=by exact rfl)(ht:zU C cF=false:=by exact rfl)(q9:pathOf C cF=none:=by exact rfl)(hlk:C.look dA=false:=by exact rfl)(dX:C.c6 dA=false:=by exact rfl):bF C f call S g ⟨some d, .call ⟨.value cF,xs,ts⟩,ty,pos,bg,bH⟩=some ⟨[(d,v')],seen,wr⟩:=by rw[HO (Ik hfo dX)];rw[q9];simp only;rw[ht];simp only[Bool.false_eq_true,if_false];rw[hfo];simp only[qJ,hlk,hb,hc,eX,hz,Bool.false_eq_true,if_false];rw[if_neg (by cases seen with|nil=>(simp)|cons a l=>simp at hm;simp[hm]),hi];simp only[hf,if_true];rfl
theorem bq(hc:call dA args=some (r,[]))(hfo:un g (S.get C cF)= .fn (.func dA) as bs:=by exact rfl)(hb:r6 S.h (as++(xs.toList.map fun x=>un g (S.get C x))++bs)=some (args,seen):=by exact cX)(hm:(seen.isEmpty||mine r)=true:=by first|exact rfl|exact Nl)(hz:(C.eR f).contains d=true:=by exact rfl)(hv:dW r=v:=by exact Ef)(hi:imp [d] v=(v',wr):=by exact yO)(hf:fresh S.h wr=true:=by exact rfl)(ht:zU C cF=false:=by exact rfl)(q9:pathOf C cF=none:=by exact rfl)(hlk:C.look dA=false:=by exact rfl)(dX:C.c6 dA=false:=by exact rfl):bF C f call S g ⟨some d, .call ⟨.value cF,xs,ts⟩,ty,pos,bg,bH⟩=some ⟨[(d,v')],seen,wr⟩:=by rw[HO (Ik hfo dX)];rw[q9];simp only;rw[ht];simp only[Bool.false_eq_true,if_false];rw[hfo];simp only[qJ,hlk,Bool.false_eq_true,if_false,hb,hc,eX,hz,if_true,hv];rw[if_neg (by cases seen with|nil=>(simp)|cons a l=>simp at hm;simp[hm]),hi];simp only[hf,if_true];rfl
theorem P2{ms cw:List Nat}{outs:List aa}{tk dG:List Id}{back:List (Id×Option Rows)}{jz:List (Id×Option Rows)}(hm:C.y7 dA=ms)(hm0:ms.isEmpty=false)(hle:C.cw dA=cw)(ht:ij S.h ms (xs.toList.map fun x=>un g (S.get C x))=some (args,seen,tk,dG))(hc:call dA args=some (r,outs))(hv:(if eX C f (some d)then dW r else r)=v)(hb:gI S.h (xs.toList.map fun x=>un g (S.get C x)) cw outs=some back)(h1:(eu (tk++dG)&&tA seen (tk++dG))=true)(h2:(seen.isEmpty||mine r&&outs.all mine)=true)(h3:(eu (back.map (·.1))&&(back.all fun x=>tk.contains x.1))=true)(hi:imp [d] v=(v',jz))(hf:fresh S.h jz=true)(hw:jz++(back++(tk++dG).map fun i=>(i,none))=wr)(q9:C.path dA=none)(dX:C.c6 dA=false:=by exact rfl):bF C f call S g ⟨some d, .call ⟨.value (.func dA),xs,ts⟩,ty,pos,bg,bH⟩=some ⟨[(d,v')],seen,wr⟩:=by rw[HO (Ik (as:=[]) (bs:=[]) rfl dX)];simp only[pathOf,q9];have e0:zU C (.func dA)=true:=by{simp[zU,hm,hm0]};subst hw hm hle hv;rw[e0,if_pos rfl];unfold r8;simp only[ht,hc,hb,hi];simp only[Bool.and_eq_true]at h1 h3;rw[if_pos (by simp only[Bool.and_eq_true];exact⟨⟨⟨⟨⟨h1.1,h1.2⟩,h2⟩,h3.1⟩,h3.2⟩,hf⟩)];rfl
end
end
end Go.Ab
