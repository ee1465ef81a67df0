import Derived.Test.YtbbhbdlljfffdaaGreatDoorAbV2
open Bool renaming and_eq_true→GE,false_eq_true→Ha,false_and→H2
open List renaming replicate→Hb,foldl→Hc,length_drop→Hk,take_of_length_le→Hm,all_eq_true→H1,length_cons→H3,drop_zero→H5
open Nat renaming ble→Hd,le_of_ble_eq_true→Hn,ble_eq_true_of_le→H4
open Option renaming bind_some→GT,map_some→H0
set_option linter.all false
namespace Go.Ab
open Go
theorem TJ{t:TypeId}(e:cB):en (fe t e)=true:=by cases e<;>rfl
theorem UU{t:TypeId}{e:cB}:cI (fe t e)=fe t e:=by cases e<;>rfl
theorem U0{e:Option Int}:cI (ga e)=ga e:=by cases e<;>rfl
theorem Ht{e:Option Int}{p:Id}{j:Nat}:bl p j [ga e]=([ga e],[]):=by cases e<;>rfl
theorem K2{t:TypeId}{e:cB}{p:Id}:imp p (fe t e)=(fe t e,[]):=by cases e<;>rfl
theorem K4{e:Option Int}{p:Id}:imp p (ga e)=(ga e,[]):=by cases e<;>rfl
theorem XH{t:TypeId}{e:cB}{p:Id}{j:Nat}:dP p j [fe t e]=([fe t e],[]):=by cases e<;>rfl
/-! ### Owned cells become objects -/
section
variable{α:Type}{c:α→List U}{q:List α}{p:Id}{j:Nat}{l l0 l':List U}{v v':U}{wr:List (Id×Option Rows)}{rows:Rows}
theorem ac0:bl p j []=([],[]):=rfl
theorem acZ(hl:l=v::l0)(hv:bl p j [v]=([v],[]))(k:bl p (j+1) l0=(l',wr)):bl p j l=(v::l',wr):=by subst hl;cases v<;>simp_all[bl]
theorem ac1{m:Nat}(hl:l= .own (q.map c) m::l0)(k:bl p (j+1) l0=(l',wr)):bl p j l=(.rs (j::p) 0 m::l',(j::p,some (q.map c))::wr):=by subst hl;simp[bl,k]
theorem zR(h:bl p j l=(l',wr):=by repeat'(first|exact ac0|(apply acZ;exact rfl;(first|exact rfl|exact ahZ|exact Ht))|(apply ac1;exact rfl)|(apply ah0;exact rfl)|(apply ah1;exact rfl))):bl p j l=(l',wr):=h
theorem XN{m:Nat}:imp p (.own (q.map c) m)=(.rs p 0 m,[(p,some (q.map c))]):=by simp[imp]
theorem XM(h:bl p 0 l=(l',wr)):imp p (.agg l)=(.agg l',wr):=by simp[imp,h]
theorem XO(h:bl p 0 l=(l',wr)):imp p (.b7 l)=(.mp p 0 0,(p,some [l'])::wr):=by simp[imp,h]
theorem XJ:dP p j []=([],[]):=rfl
theorem XI(hl:l=v::l0)(hv:dP p j [v]=([v],[]))(k:dP p (j+1) l0=(l',wr)):dP p j l=(v::l',wr):=by subst hl;cases v with|own rows m=>(simp[dP]at hv)|b7 cells=>(simp[dP]at hv)|dy rows=>(simp[dP]at hv)|agg cs=>(simp only[dP,List.append_nil,Prod.mk.injEq,List.cons.injEq,U.agg.injEq,and_true]at hv;simp[dP,k,hv.1,hv.2])|aG vs=>(simp[dP]at hv)|_=>simp[dP,k]
theorem XG{w1 w2:List (Id×Option Rows)}{a a':List U}(hl:l= .agg a::l0)(h:bl (j::p) 0 a=(a',w1))(k:dP p (j+1) l0=(l',w2)):dP p j l=(.agg a'::l',w1++w2):=by subst hl;simp[dP,k,h]
theorem XP(h:dP p 0 l=(l',wr)):imp p (.aG l)=(.aG l',wr):=by simp[imp,h]
theorem vm(h:imp p v=(v',wr):=by first|exact(rfl:imp _ (.val _)=(.val _,[]))|exact(rfl:imp _ (.sl _)=(.sl _,[]))|exact K2|exact K4|exact XN|exact afq|exact afr|(apply XM;exact zR)|(apply XO;exact zR)|(apply XP;repeat'(first|exact XJ|(apply XI;exact rfl;(first|exact rfl|exact XH|exact afp))|(apply afo;exact rfl)|(apply afn;exact rfl)|(apply XG;exact rfl;exact zR)))|exact rfl):imp p v=(v',wr):=h
theorem YJ{n:Nat}{vs:List U}:aC n [] vs=⟨n,fun _=> .aK,fun _=>none⟩:=rfl
theorem YI{n s:Nat}{t:Nat→U}{h:Id→Option (Option Rows)}{l:List Nat}{vs:List U}(hi:imp [s] v=(v,[]))(k:aC n l vs=⟨n,t,h⟩):aC n (s::l) (v::vs)=⟨n,ai t s v,h⟩:=by simp[aC,k,hi,aI]
theorem YH{n s:Nat}{t:Nat→U}{h:Id→Option (Option Rows)}{l:List Nat}{vs:List U}(hi:imp [s] v=(v',wr))(k:aC n l vs=⟨n,t,h⟩):aC n (s::l) (v::vs)=⟨n,ai t s v',aI h wr⟩:=by simp[aC,k,hi]
theorem FJ{n:Nat}{t:Nat→U}{h:Id→Option (Option Rows)}{l:List Nat}{vs:List U}(k:aC n l vs=⟨n,t,h⟩:=by repeat'(first|exact YJ|(apply YI;first|exact rfl|exact K2|exact K4)|(apply YH;exact vm))):aC n l vs=⟨n,t,h⟩:=k
end
section
variable{C:av}{f:FuncId}{call:eT}{c:Code}{Q:Exit×ah→Prop}{n:Nat}{t:Nat→U}{h:Id→Option (Option Rows)}{l:List Nat}{vs:List U}
theorem mk(k:W C f call c ⟨n,t,h⟩ Q)(hm:aC n l vs=⟨n,t,h⟩:=by exact FJ):W C f call c (aC n l vs) Q:=by rw[hm];exact k
theorem iV{e:Exit}(k:Q (e,⟨n,t,h⟩))(hm:aC n l vs=⟨n,t,h⟩:=by exact FJ):Q (e,aC n l vs):=by rw[hm];exact k
end
/-! ### Packing -/
def IX{α:Type}(a b:List α):List α:=b.take (min b.length a.length)++a.drop (min b.length a.length)
theorem DB{α:Type}(a b:List α):(IX a b).length=a.length:=by unfold IX;rw[List.length_append,List.length_take,Hk];omega
section
variable{L:Id→Option (Option Rows)}{n:Nat}{α:Type}{c:α→List U}{q:List α}{id:Id}{cs cs':List U}{ids is:List Id}{x v:U}
theorem sw [hc:lM c](q:List α):dA (q.map c)=true:=Uh c q hc.fl
theorem pI{m m':Nat}(h:m=m':=by first|exact rfl|exact List.length_map _|(first|(with_reducible assumption)|assumption)|(symm;(first|(with_reducible assumption)|assumption))|(simp only[List.length_map,List.length_set,DB];done)|(simp only[List.length_map,List.length_set,DB];first|(first|(with_reducible assumption)|assumption)|(symm;(first|(with_reducible assumption)|assumption)))|(simp only[List.length_map,List.length_set,DB, *];done)):m=m':=h
theorem aaX{y:U×List Id}:∀{a:U},flat a=true→pk L (n+1) a=some y→y=(a,[]):=by intro a hf h;cases a with|agg cs=>(simp only[flat]at hf;simp[pk,gm,hf]at h;exact h.symm)|aG cs=>(simp only[flat]at hf;simp[pk,gm,hf]at h;exact h.symm)|own rs m=>(simp only[flat]at hf;simp[pk,hf]at h;exact h.symm)|b7 cs=>(simp only[flat]at hf;simp[pk,hf]at h;exact h.symm)|fn k a b=>(simp only[pk]at h;split at h;·{simpa using h.symm};·cases h)|rs _ _ _=>(simp[flat]at hf)|mp _ _ _=>(simp[flat]at hf)|mr _=>(simp[flat]at hf)|cv _ _=>(simp[flat]at hf)|bU=>(simp[flat]at hf)|_=>simp[pk]at h;exact h.symm
theorem JT:∀{cs:List U}{y:List U×List Id},cg cs=true→dm (pk L (n+1)) cs=some y→y=(cs,[])|[],y,_,h=>by{simp[dm]at h;exact h.symm}|c::cs,y,hf,h=>by simp only[cg,GE]at hf;simp only[dm,Option.bind_eq_some_iff,Option.map_eq_some_iff]at h;obtain⟨u,hu,v,hv,rfl⟩:=h;obtain rfl:=aaX hf.1 hu;obtain rfl:=JT hf.2 hv;rfl
theorem Mt{y:List U×List Id}(h:dm (pk L (n+1)) cs=some y):gm (pk L (n+1)) cs=some y:=by unfold gm;split;·{rename_i hf;rw[JT hf h]};·exact h
theorem aaW{w:Value}(hx:x= .val w:=by exact rfl):pk L (n+1) x=some (.val w,[]):=by rw[hx];rfl
theorem aaV{r:Rows}(hx:x= .sl r:=by exact rfl):pk L (n+1) x=some (.sl r,[]):=by rw[hx];rfl
theorem aaS{r:List U}(hx:x= .ay r:=by exact rfl):pk L (n+1) x=some (.ay r,[]):=by rw[hx];rfl
theorem aaN{t:TypeId}{e:cB}(hx:x=fe t e:=by first|exact rfl|exact Cu):pk L (n+1) x=some (fe t e,[]):=by rw[hx];cases e<;>rfl
theorem aaT{e:Option Int}(hx:x=ga e:=by first|exact rfl|exact tQ):pk L (n+1) x=some (ga e,[]):=by rw[hx];cases e<;>rfl
theorem aaR(hx:x= .bU:=by exact rfl):pk L (n+1) x=some (.own [] 0,[]):=by rw[hx];rfl
theorem aaU{m:Nat}[hc:lM c](hx:x= .rs id 0 m:=by exact rfl)(hh:L id=some (some (q.map c)):=by exact rfl)(hl:m=q.length:=by exact pI):pk L (n+1) x=some (.own (q.map c) q.length,[id]):=by rw[hx,hl];exact aaY hh (by simp) (sw q)
theorem aaM(hx:x= .agg cs:=by exact rfl)(hf:cg cs=true:=by exact rfl):pk L (n+1) x=some (.agg cs,[]):=by rw[hx];simp[pk,gm,hf]
theorem aaL(hx:x= .agg cs)(h:dm (pk L (n+1)) cs=some (cs',ids)):pk L (n+2) x=some (.agg cs',ids):=by rw[hx,show pk L (n+2) (.agg cs)=(gm (pk L (n+1)) cs).map fun x=>(.agg x.1,x.2)from rfl,Mt h];rfl
theorem aaQ(hx:x= .mp id 0 0:=by exact rfl)(hh:L id=some (some [cs]):=by exact rfl)(hf:cg cs=true:=by exact rfl):pk L (n+1) x=some (.b7 cs,[id]):=by rw[hx];simp[pk,gm,hh,hf]
theorem aaP(hx:x= .mp id 0 0)(hh:L id=some (some [cs]))(h:dm (pk L (n+1)) cs=some (cs',ids)):pk L (n+2) x=some (.b7 cs',id::ids):=by have e:pk L (n+2) (.mp id 0 0)=match L id with|some (some [cs])=>if 0=0∧0=0 then(gm (pk L (n+1)) cs).map fun x=>(.b7 x.1,id::x.2)else none|_=>none:=rfl;rw[hx,e,hh];simp only[and_self,if_true,Mt h];rfl
theorem aaO{k:Fn}{a b:List U}(hx:x= .fn k a b:=by exact rfl)(hf:(c9 a&&c9 b)=true:=by exact rfl):pk L (n+1) x=some (.fn k a b,[]):=by rw[hx];simp only[GE]at hf;simp[pk,hf.1,hf.2]
theorem xH{p:U→Option (U×List Id)}(hx:cs=[]:=by exact rfl):dm p cs=some ([],[]):=by rw[hx];rfl
theorem xG{p:U→Option (U×List Id)}{a b:U}{as bs:List U}{i1 i2:List Id}(hx:cs=a::as)(h:p a=some (b,i1))(k:dm p as=some (bs,i2)):dm p cs=some (b::bs,i1++i2):=by subst hx;simp[dm,h,k]
theorem aa1{t:Nat→U}:gR L t []=some ([],[]):=rfl
theorem aa0{t:Nat→U}{s:Nat}{sl:List Nat}{vs:List U}(h1:pk L 9 (t s)=some (v,ids))(h2:gR L t sl=some (vs,is)):gR L t (s::sl)=some (v::vs,ids++is):=by rw[aaJ,h1,GT,h2];rfl
end
/-! ### One row of a list, open -/
section
variable{α:Type}{c c':α→List U}{q:List α}{k:Nat}{x x':α}{r r':List U}
end
/-! ### Packing -/
section
variable{L:Id→Option (Option Rows)}{n m:Nat}{α:Type}{c c':α→List U}{q:List α}{k:Nat}{x x':α}{r r':List U}{id:Id}{ids:List Id}{v:U}
end
section
variable{L:Id→Option (Option Rows)}{n:Nat}{α:Type}{c:α→List U}{q:List α}{id:Id}{cs cs':List U}{ids is:List Id}{x v:U}
theorem jJ{a:U}{y:Option (U×List Id)}(h:pk L n a=y:=by repeat'(first|exact aaW|exact aaN|exact aaT|exact afX|exact aaV|exact aaU|exact af2|(apply af5;exact rfl;exact rfl;exact rfl;(first|(with_reducible assumption)|assumption);exact pI;rotate_left;exact rfl)|(apply af4;exact rfl;exact rfl;exact rfl;(first|(with_reducible assumption)|assumption);exact Yx;rotate_left;exact rfl)|exact aaM|exact aaS|exact aaR|exact afY|exact aaQ|exact afV|exact af1|exact afZ|exact af7|exact aaO|exact afW|exact af0|exact afU|exact xH|(apply xG;exact rfl)|(apply aaL;exact rfl)|(apply aaP;exact rfl;exact rfl)|(apply af6;exact rfl)|(apply af3;exact rfl;exact rfl;exact rfl;exact rfl)|exact agq|(apply agp;exact rfl)|exact afS|(apply afT;exact rfl))):pk L n a=y:=h
theorem B9{t:Nat→U}{sl:List Nat}{y:Option (List U×List Id)}(h:gR L t sl=y:=by repeat'(first|exact aa1|(apply aa0;exact jJ))):gR L t sl=y:=h
theorem au{o:Option (Bool×List Nat)}{slots:List Nat}{t:Nat→U}{vs:List U}(hk:o=some (false,slots):=by exact rfl)(hp:gR L t slots=some (vs,is):=by exact B9)(hn:cY is=true:=by exact rfl):c7 o ⟨n,t,L⟩=some (aC n slots vs):=by subst hk;show(gz ⟨n,t,L⟩ slots).map _=_;rw[abz,hp];simp[hn]
end
/-! ### The same with names kept -/
section
variable{n:Nat}{t t2:Nat→U}{h:Id→Option (Option Rows)}{slots r:List Nat}{l:List (Id×Id)}{hl y:List (Id×Rows)}{α:Type}{c:α→List U}{q:List α}
def fM(n:Nat)(l:List (Nat×U))(h:List (Id×Rows)):ah:=⟨n,cm (fun _=> .aK) l,gM h⟩
/-! Rows that are flat, cell by cell. -/
theorem JJ{α:Type}{c:α→List U}{q:List α}{m:Nat}[hc:lM c]:flat (.own (q.map c) m)=true:=by simp[flat,sw]
theorem JG{r cs:List U}{a:U}(e:r=a::cs)(h1:flat a=true)(h2:cg cs=true):cg r=true:=by subst e;simp[cg,h1,h2]
theorem T6{rows:Rows}(e:rows=[]:=by exact rfl):dA rows=true:=by subst e;rfl
theorem T7{rows rs:Rows}{r:List U}(e:rows=r::rs)(h1:cg r=true)(h2:dA rs=true):dA rows=true:=by subst e;simp[dA,h1,h2]
theorem DQ{rows:Rows}(k:dA rows=true:=by(repeat'(first|exact sw _|exact T6|(apply T7;exact rfl)|exact T4|(apply JG;exact rfl)|exact rfl|exact TZ|exact T5|exact JJ));first|done|fail):dA rows=true:=k
theorem YL:kN l t []=cm (fun _=> .aK) []:=rfl
theorem YK{s:Nat}{v':U}{vs:List (Nat×U)}(he:dW l (t s)=v')(hr:kN l t r=cm (fun _=> .aK) vs):kN l t (s::r)=cm (fun _=> .aK) ((s,v')::vs):=by subst he;simp[kN,hr,cm]
theorem abl:iW l []=some []:=rfl
theorem abk{cs as bs:List U}{a b:U}(hx:cs=a::as)(h1:ny l a=some b)(h2:iW l as=some bs):iW l cs=some (b::bs):=by subst hx;simp[iW,h1,h2]
theorem abp{i k:Id}{x:U}{off m m':Nat}(hx:x= .rs i off m:=by exact rfl)(hk:eN l i=some k:=by exact rfl)(hm:m=m':=by exact pI):ny l x=some (.rs k off m'):=by subst hx hm;simp[ny,tG,hk]
theorem abm{cs cs':List U}(h:iW l cs=some cs':=by repeat'(first|exact abl|(apply abk;exact rfl)|exact abp|exact rfl)):iW l cs=some cs':=h
theorem GD [hc:lM c]:jL l (q.map c)=some (q.map c):=by simp[jL,sw]
theorem GG{cs cs':List U}(hf:cg cs=false:=by exact rfl)(h:iW l cs=some cs':=by first|exact rfl|exact abm):jL l [cs]=some [cs']:=by simp[jL,dA,hf,vZ,h]
theorem GF{rows:Rows}(hf:dA rows=true:=by first|exact rfl|exact DQ):jL l rows=some rows:=by simp[jL,hf]
end
section
variable{l:List (Id×Id)}{α:Type}{c:α→List U}{q:List α}{k:Nat}{x x':α}{r r':List U}
theorem abw{a:U}(h:flat a=true):ny l a=some a:=by cases a with|fn k as cs=>(simp only[ny];rw[AC (by simpa[flat]using h)])|rs _ _ _=>(simp[flat]at h)|mp _ _ _=>(simp[flat]at h)|mr _=>(simp[flat]at h)|bU=>(simp[flat]at h)|_=>simp only[ny,tG];rw[AC h]
theorem zv:∀{as:List U},cg as=true→iW l as=some as|[],_=>rfl|a::as,h=>by simp only[cg,GE]at h;simp[iW,abw h.1,zv h.2]
end
section
variable{n:Nat}{t t2:Nat→U}{h:Id→Option (Option Rows)}{slots r:List Nat}{l:List (Id×Id)}{hl y:List (Id×Rows)}{α:Type}{c:α→List U}{q:List α}
theorem WS{L:Id→Option (Option Rows)}:mb L l []=some []:=rfl
theorem WR{L:Id→Option (Option Rows)}{r:List (Id×Id)}{o k:Id}{rows aL:Rows}(h:L o=some (some rows))(hr:jL l rows=some aL)(hy:mb L l r=some y):mb L l ((o,k)::r)=some ((k,aL)::y):=by simp[mb,h,hr,hy]
theorem hnk{L:Id→Option (Option Rows)}{r:List (Id×Id)}(h:mb L l r=some y:=by repeat'(first|exact WS|(apply WR;exact rfl;first|exact GD|exact agz rfl|exact agB (by(first|(with_reducible assumption)|assumption))|exact GG|exact GF))):mb L l r=some y:=h
theorem YM{vs:List (Nat×U)}(h:kN l t slots=cm (fun _=> .aK) vs:=by repeat'(first|exact YL|(apply YK;first|exact rfl|exact agA))):kN l t slots=cm (fun _=> .aK) vs:=h
def XX:U→Bool| .bU=>true|_=>false
theorem LN{y:ah}(e:(⟨n,t,h⟩:ah)=y:=by exact rfl):hU [] ⟨n,t,h⟩=y:=e
theorem Za{s:Nat}{sl:List Nat}{y:ah}(hs:XX (t s)=false)(k:hU sl ⟨n,t,h⟩=y):hU (s::sl) ⟨n,t,h⟩=y:=by have e:nt ⟨n,t,h⟩ s=⟨n,t,h⟩:=by{simp only[nt];split;·{rename_i h1 _;rw[h1]at hs;cases hs};·rfl};rw[hU,e];exact k
theorem Y9{s:Nat}{sl:List Nat}{y:ah}(hs:t s= .bU)(hh:h [s,s]=none)(k:hU sl ⟨n,ai t s (.rs [s,s] 0 0),ai h [s,s] (some (some []))⟩=y):hU (s::sl) ⟨n,t,h⟩=y:=by have e:nt ⟨n,t,h⟩ s=⟨n,ai t s (.rs [s,s] 0 0),ai h [s,s] (some (some []))⟩:=by{simp only[nt,hs,hh]};rw[hU,e];exact k
theorem Zb{y:ah}(k:hU slots ⟨n,t,h⟩=y:=by repeat'(first|with_reducible exact LN|(apply Za;first|exact rfl|exact afB|exact afC)|(apply Y9;exact rfl;exact rfl)|exact LN)):hU slots ⟨n,t,h⟩=y:=k
section
variable{keep:Id→Bool}{o:Id}{ol:List Id}{y0:Option ah}{rows aL:Rows}{ids:List Id}{r r':List U}{k:Nat}
theorem SB{α:Type}{g:α→Id}{y0:Option ah}(e:some (⟨n,t,h⟩:ah)=y0:=by exact rfl):gG keep (List.map g []) ⟨n,t,h⟩=y0:=e
theorem YR(e:(cY ids&& !ids.contains o)=true):(cY ids&& !ids.contains o)=true:=e
theorem Sz(hh:h o=some (some rows))(hf:dA rows=true)(k:gG keep ol ⟨n,t,h⟩=y0):gG keep (o::ol) ⟨n,t,h⟩=y0:=by have e:mR keep ⟨n,t,h⟩ o=some ⟨n,t,h⟩:=by{simp only[mR,hh,hf,if_true]};rw[gG,e];exact k
theorem SF(hh:h o=some (some rows))(hf:dA rows=false)(hc:dU (jc h keep) rows=some (aL,ids))(hn:(cY ids&& !ids.contains o)=true)(k:gG keep ol ⟨n,t,aI h ((o,some aL)::ids.map fun i=>(i,none))⟩=y0):gG keep (o::ol) ⟨n,t,h⟩=y0:=by have e:mR keep ⟨n,t,h⟩ o=some ⟨n,t,aI h ((o,some aL)::ids.map fun i=>(i,none))⟩:=by{simp only[mR,hh,hf,hc,hn,if_true];rfl};rw[gG,e];exact k
theorem I0(hf:cg r=false:=by exact rfl)(hc:dm (e5 h keep) r=some (r',ids)):jc h keep r=some (r',ids):=by simp[jc,hf,hc]
theorem JR{p:List U→Option (List U×List Id)}(e:rows=[]:=by exact rfl):dU p rows=some ([],[]):=by subst e;rfl
theorem JS{p:List U→Option (List U×List Id)}{rs:Rows}{i1 i2:List Id}(e:rows=r::rs)(h1:p r=some (r',i1))(h2:dU p rs=some (aL,i2)):dU p rows=some (r'::aL,i1++i2):=by subst e;simp[dU,h1,h2]
theorem Dq{i:Id}{off len:Nat}{x:U}(hx:x= .rs i off len:=by exact rfl)(hk:keep i=true:=by exact rfl):e5 h keep x=some (.rs i off len,[]):=by subst hx;simp[e5,hk]
theorem Dr{i:Id}{row off:Nat}{x:U}(hx:x= .mp i row off:=by exact rfl)(hk:keep i=true:=by exact rfl):e5 h keep x=some (.mp i row off,[]):=by subst hx;simp[e5,hk]
theorem Dt{i:Id}{off len:Nat}{x x':U}(hx:x= .rs i off len:=by exact rfl)(hk:keep i=false:=by exact rfl)(hp:pk h 8 (.rs i off len)=some (x',ids)):e5 h keep x=some (x',ids):=by subst hx;simp[e5,hk,hp]
theorem Ds{x:U}(hx:x= .bU:=by exact rfl):e5 h keep x=some (.own [] 0,[]):=by subst hx;rfl
theorem Fx:∀{l:List U},cg l=true→qR keep l=true|[],_=>rfl|a::l,hf=>by simp only[cg,GE]at hf;simp only[qR,List.all_cons,GE];refine⟨?_,Fx hf.2⟩;cases a<;>first|exact hf.1|(simp[flat]at hf)
theorem xh{x:U}(hf:flat x=true):e5 h keep x=some (x,[]):=by cases x with|fn k as cs=>(simp only[flat,GE]at hf;simp only[e5];rw[AC (by simp[Fx hf.1,Fx hf.2])])|rs _ _ _=>(simp[flat]at hf)|mp _ _ _=>(simp[flat]at hf)|mr _=>(simp[flat]at hf)|bU=>(simp[flat]at hf)|_=>simp only[e5];rw[AC hf]
theorem Dp{x:U}{k:Fn}{as cs:List U}(hx:x= .fn k as cs:=by exact rfl)(hk:(qR keep as&&qR keep cs)=true:=by exact rfl):e5 h keep x=some (.fn k as cs,[]):=by subst hx;simp only[e5];rw[AC hk]
end
section
variable{α:Type}{c:α→List U}{q:List α}{k:Nat}{x x':α}{r r':List U}{ids:List Id}{keep:Id→Bool}{o:Id}{ol:List Id}{y0:Option ah}
end
theorem SH{keep:Id→Bool}{ol:List Id}{y0:Option ah}(k:gG keep ol ⟨n,t,h⟩=y0:=by repeat'(first|with_reducible exact aed|with_reducible exact SB|(apply Sz;exact rfl;first|exact sw _|exact rfl|exact DQ)|(apply aee;exact rfl;exact rfl;(first|(with_reducible assumption)|assumption);exact inferInstance)|(apply SF;exact rfl;exact rfl)|exact JR|(apply JS;exact rfl)|exact S7|(apply I0;exact rfl)|exact Dq|exact Dr|exact IJ|exact Ds|(apply IL;exact rfl;exact rfl;exact jJ)|(apply Dt;exact rfl;exact rfl;exact jJ)|(apply IK;exact rfl;exact rfl;exact jJ)|(apply xh;first|exact rfl|exact JH|exact JK|exact JI)|exact Dp|exact xH|(apply xG;exact rfl)|exact YR rfl)):gG keep ol ⟨n,t,h⟩=y0:=k
/-! Names, one by one. -/
def Ln:U→Bool| .fn _ as cs=> !(cg as&&cg cs)| .rs _ _ _=>true| .mp _ _ _=>true| .mr _=>true| .agg _=>true|_=>false
section
variable{L:Id→Option (Option Rows)}{m j:Nat}{p i:Id}{acc acc' kZ y l:List (Id×Id)}{a:U}{as cs c5:List U}{S:ah}{s:Nat}{slots:List Nat}
theorem Td(hx:c5=[])(e:acc=y):ek L m p j acc c5=y:=by subst hx;cases m<;>exact e
theorem Tl(hx:c5=a::as)(hs:Ln a=false)(k:ek L m p (j+1) acc as=y):ek L (m+1) p j acc c5=y:=by subst hx;cases a with|fn f xs cs=>(simp only[Ln,Bool.not_eq_false']at hs;simp only[ek,AC hs];exact k)|_=>first|exact k|cases hs
theorem FM{i q:Id}(h:gL i=false)(h2:gL q=false):oh i q=q:=by simp[oh,h,h2]
theorem FN{i q:Id}(h:gL i=true):oh i q=i:=by simp[oh,h]
variable{nm:Id}
theorem Tj{o n:Nat}(hx:c5= .rs i o n::as)(hn:(eN acc i).isSome=false)(hm:oh i (j::p)=nm)(hl:acc++[(i,nm)]=acc')(k:ek L m p (j+1) acc' as=y):ek L (m+1) p j acc c5=y:=by subst hx hl hm;simp only[ek,hn];exact k
theorem Tk{o n:Nat}(hx:c5= .rs i o n::as)(hn:(eN acc i).isSome=true)(k:ek L m p (j+1) acc as=y):ek L (m+1) p j acc c5=y:=by subst hx;simp only[ek,hn];exact k
theorem Tg{o n:Nat}(hx:c5= .mp i o n::as)(hn:(eN acc i).isSome=false)(hh:L i=some (some [cs]))(hm:oh i (j::p)=nm)(hl:acc++[(i,nm)]=acc')(h1:ek L m (j::p) 0 acc' cs=kZ)(k:ek L m p (j+1) kZ as=y):ek L (m+1) p j acc c5=y:=by subst hx hl h1 hm;simp only[ek,hn,hh];exact k
theorem Th{o n:Nat}(hx:c5= .mp i o n::as)(hn:(eN acc i).isSome=true)(k:ek L m p (j+1) acc as=y):ek L (m+1) p j acc c5=y:=by subst hx;simp only[ek,hn];exact k
theorem Tb(hx:c5= .agg cs::as)(h1:ek L m (j::p) 0 acc cs=kZ)(k:ek L m p (j+1) kZ as=y):ek L (m+1) p j acc c5=y:=by subst hx h1;simp only[ek];exact k
theorem Tf{f:Fn}{xs:List U}(hx:c5= .fn f xs cs::as)(hf:(cg xs&&cg cs)=false)(h1:ek L m (j::p) 0 acc (xs++cs)=kZ)(k:ek L m p (j+1) kZ as=y):ek L (m+1) p j acc c5=y:=by subst hx h1;simp only[ek,hf];exact k
theorem YY(e:acc=l):Hc (fun acc s=>ek S.h 40 [s] 0 acc [S.t s]) acc []=l:=e
theorem YX(h:ek S.h 40 [s] 0 acc [S.t s]=acc')(k:Hc (fun acc s=>ek S.h 40 [s] 0 acc [S.t s]) acc' slots=l):Hc (fun acc s=>ek S.h 40 [s] 0 acc [S.t s]) acc (s::slots)=l:=by subst h;exact k
theorem YW{Nv:List Nat}(hs:slots=Nv)(h:Hc (fun acc s=>ek S.h 40 [s] 0 acc [S.t s]) [] Nv=l):names S slots=l:=by subst hs;exact h
theorem YZ(h:names S slots=l:=by((with_reducible apply YW);exact spine);repeat'(first|((with_reducible apply YY);exact rfl)|(with_reducible apply YX)|((with_reducible apply Td);(with_reducible exact rfl);exact rfl)|((with_reducible apply Tl);exact rfl;first|exact rfl|exact afH|exact afK)|((with_reducible apply Tj);exact rfl;exact rfl;(first|exact FM rfl rfl|exact FN rfl|exact LM rfl rfl spine);exact spine)|((with_reducible apply Tk);exact rfl;exact rfl)|((with_reducible apply aei);exact rfl;exact rfl;(first|exact FM rfl rfl|exact FN rfl|exact LM rfl rfl spine);exact spine)|((with_reducible apply aej);exact rfl;exact rfl)|((with_reducible apply Th);exact rfl;exact rfl)|((with_reducible apply Tg);exact rfl;exact rfl;exact rfl;(first|exact FM rfl rfl|exact FN rfl|exact LM rfl rfl spine);exact spine)|((with_reducible apply Tb);exact rfl)|((with_reducible apply Tf);exact rfl;exact rfl))):names S slots=l:=h
end
theorem Y8{t0 t1:Nat→U}{h0 h1:Id→Option (Option Rows)}{vs:List (Nat×U)}(e0:hU slots ⟨n,t,h⟩=⟨n,t0,h0⟩:=by exact Zb)(hn:names ⟨n,t0,h0⟩ slots=l:=by first|exact YZ|exact spine)(e1:gG (pH l) (l.map (·.1)) ⟨n,t0,h0⟩=some ⟨n,t1,h1⟩:=by exact SH)(hd:(cY (l.map (·.1))&&cY (l.map (·.2))&&l.all (fun x=> !gL x.2||x.1==x.2))=true:=by exact rfl)(hh:mb h1 l l=some hl:=by exact hnk)(ht:kN l t1 slots=cm (fun _=> .aK) vs:=by exact YM):norm ⟨n,t,h⟩ slots=some (fM n vs hl):=by subst hn;simp only[norm,y7,e0,e1,GT,pM,hd,if_true,hh,H0,ht,fM]
theorem dY{o:Option (Bool×List Nat)}{vs:List (Nat×U)}(hk:o=some (true,slots):=by exact rfl)(hm:norm ⟨n,t,h⟩ slots=some (fM n vs hl):=by exact Y8):c7 o ⟨n,t,h⟩=some (fM n vs hl):=by subst hk;exact hm
end
section
variable{C:av}{f:FuncId}{call:eT}{c:Code}{Q:Exit×ah→Prop}{n:Nat}{l:List (Nat×U)}{h:List (Id×Rows)}
theorem kf(k:W C f call c ⟨n,cm (fun _=> .aK) l,gM h⟩ Q):W C f call c (fM n l h) Q:=k
theorem zo{e:Exit}(k:Q (e,⟨n,cm (fun _=> .aK) l,gM h⟩)):Q (e,fM n l h):=k
end
section
variable{α:Type}{c c':α→List U}{q:List α}{as bs:List U}{L:Id→Option (Option Rows)}{n:Nat}
/-! Freezing -/
theorem UY [hc:wS c c']:cI (.own (q.map c) q.length)= .sl (q.map c'):=by have:hJ (q.map c)=q.map c':=by{induction q with|nil=>(rfl)|cons x q ih=>simp[hJ,hc.cI,ih]};simp only[cI,this];rw[Hm (by simp)]
theorem UT{a b:U}(h:cI a=b)(k:gI as=bs):gI (a::as)=b::bs:=by simp[gI,h,k]
theorem US(h:gI as=bs):cI (.agg as)= .agg bs:=by simp[cI,h]
theorem U1(h:gI as=bs):cI (.aG as)= .aG bs:=by simp[cI,h]
theorem UZ(h:gI as=bs):cI (.b7 as)= .ay bs:=by simp[cI,h]
theorem xN{a b:U}(h:cI a=b:=by repeat'(first|exact(rfl:cI (.val _)= .val _)|exact UU|exact U0|exact UY|exact aeS|exact(rfl:cI (.sl _)= .sl _)|apply US|apply U1|apply UZ|exact(rfl:gI []=[])|apply UT|exact rfl)):cI a=b:=h
end
/-! ### Memory of one's own -/
def app{α:Type}(a b:List α):Option (List α):=if a.length+b.length≤4294967296 then some (a++b)else none
theorem Rk{α:Type}{a b r:List α}(h:app a b=some r):a.length+b.length≤4294967296∧r=a++b:=by unfold app at h;split at h;·{exact⟨‹_›,by simpa using h.symm⟩};·cases h
def nr{α:Type}(n:Int)(z:α):Option (List α):=if 0≤n∧n≤4294967296 then some (Hb n.toNat z)else none
theorem M9{α:Type}{c:α→List U}{q:List α}[hc:p6 c]:pS (q.map c)=true:=by simp only[pS,List.all_map,H1];exact fun x _=>hc.ce x
section
variable{C:av}{f:FuncId}{call:eT}{S:ah}{g:Bool}
variable{d:Nat}{ty:TypeId}{pos:String}{aD:Array Edge}{aS:Option (Nat×Bool)}{v v':U}
variable{x y z:Operand}{k:IntKind}{a b:Int}{T bP:TypeId}
theorem cF{cs:List U}[hz:kY C T cs](hn:S.h [d]=none:=by exact rfl)(hO:C.rF f d=[]:=by exact rfl):aR C f call S g ⟨some d, .alloc T,ty,pos,aD,aS⟩=some ⟨[(d, .mp [d] 0 0)],[],[([d],some [cs])]⟩:=by show oQ C f S _ T=_;simp[oQ,hz.Of,hn,hO,rG]
theorem om{bb:Bool}{m:Nat}{cs:List U}[ha:cu C T bb m](hin:(C.dB f).contains d=false:=by exact rfl)(hx:un g (S.get C x)=v:=by exact gt)(hc:k5 bb v=some cs:=by exact rfl)(hn:S.h [d]=none:=by exact rfl):aR C f call S g ⟨some d, .box T x,ty,pos,aD,aS⟩=some ⟨[(d, .mp [d] 0 0)],[],[([d],some [cs])]⟩:=by show mV C f S _ T (un g (S.get C x))=_;simp only[mV,ha.ja,hx,hc,dI,hin,H2,Ha,if_false];rw[AC (K7 hn)];rfl
theorem cX{i off off' row m:Nat}{bb:Bool}{id:Id}[hf:Fd C T i off m bb](hx:un g (S.get C x)= .mp id row off':=by first|exact rfl|exact bz)(h0:Nat.blt 0 m=true:=by exact rfl):aR C f call S g ⟨some d, .fieldAddr T x i,ty,pos,aD,aS⟩=some ⟨[(d, .mp id row (off'+off))],[],[]⟩:=by show nV C f _ T i (un g (S.get C x))=_;have h0':0<m:=of_decide_eq_true (jP h0);simp[nV,hf.fd,hx,h0']
theorem FC{bb:Bool}{m row off:Nat}{id:Id}{rows:Rows}{r cs:List U}(ha:jl C T=some bb)(hs:fL C T=some m)(hx:un g (S.get C x)= .mp id row off)(hh:S.h id=some (some rows))(hr:rows[row]? =some r)(hl:Hd (off+m) r.length=true)(hc:bl [d] 0 ((r.drop off).take m)=(cs,[]))(hv:gN bb cs=some v):aR C f call S g ⟨some d, .load T x,ty,pos,aD,aS⟩=some ⟨[(d,v)],[id],[]⟩:=by show jU C S _ T (un g (S.get C x))=_;rw[hx];have hl':off+m≤r.length:=Hn hl;simp only[jU,ha,hs,hh,hr,GT,AC hl',gv,hc,hv,List.isEmpty_nil,if_true,H0];rfl
theorem tr{m row off:Nat}{id:Id}{α:Type}{c:α→List U}{q:List α}{r:α}{cs:List U}(hr:q[row]? =some r)[ha:cu C T false m](hx:un g (S.get C x)= .mp id row off:=by first|exact rfl|exact bz)(hh:S.h id=some (some (q.map c)):=by exact rfl)(hm:m=1:=by exact rfl)(hv:(c r).drop off=v::cs:=by exact rfl)(hu:bl [d] 0 [v]=([v],[]):=by first|exact rfl|exact Ht):aR C f call S g ⟨some d, .load T x,ty,pos,aD,aS⟩=some ⟨[(d,v)],[id],[]⟩:=by subst hm;refine FC (rows:=q.map c) (r:=c r) (cs:=[v]) ha.ja ha.sz hx hh (by simp[hr]) ?_ (by rw[hv];exact hu) rfl;have:=congrArg List.length hv;simp only[Hk,H3]at this;apply H4;omega
theorem dh{m off:Nat}{id:Id}{r cs:List U}[ha:cu C T false m](hx:un g (S.get C x)= .mp id 0 off:=by first|exact rfl|exact bz)(hh:S.h id=some (some [r]):=by exact rfl)(hm:m=1:=by exact rfl)(hv:r.drop off=v::cs:=by exact rfl)(hu:bl [d] 0 [v]=([v],[]):=by first|exact rfl|exact Ht):aR C f call S g ⟨some d, .load T x,ty,pos,aD,aS⟩=some ⟨[(d,v)],[id],[]⟩:=by subst hm;refine FC (rows:=[r]) (r:=r) (cs:=[v]) ha.ja ha.sz hx hh rfl ?_ (by rw[hv];exact hu) rfl;have:=congrArg List.length hv;simp only[Hk,H3]at this;apply H4;omega
theorem oo{m off:Nat}{id:Id}{r cs cs0:List U}[ha:cu C T true m](hx:un g (S.get C x)= .mp id 0 off:=by first|exact rfl|exact bz)(hh:S.h id=some (some [r]):=by exact rfl)(hl:Hd (off+m) r.length=true:=by exact rfl)(hv:(r.drop off).take m=cs0:=by exact spine)(hu:bl [d] 0 cs0=(cs,[]):=by exact zR):aR C f call S g ⟨some d, .load T x,ty,pos,aD,aS⟩=some ⟨[(d, .agg cs)],[id],[]⟩:=FC (rows:=[r]) (r:=r) ha.ja ha.sz hx hh rfl hl (by rw[hv];exact hu) rfl
def Cq(L:List Nat):Operand→Bool| .tmp ta=>L.contains ta|_=>false
theorem J3{a:Operand}(hin:Cq (C.dB f) a=false):sy C f a=none:=by cases a with|tmp ta=>(simp only[Cq]at hin;unfold sy;simp only;rw[Do (by rw[hin];simp)])|_=>rfl
theorem e8{bb:Bool}{m ta:Nat}{id:Id}{cs cs' r:List U}[ha:cu C T bb m](hin:(C.dB f).contains ta=true:=by exact rfl)(hx:un true (S.get C (.tmp ta))= .mp id 0 0:=by exact rfl)(hy:un true (S.get C y)=v:=by exact gt)(hc:k5 bb v=some cs:=by exact rfl)(bh:cs.length=m:=by exact rfl)(hh:S.h id=some (some [r]):=by exact rfl)(hr:r.length=m:=by exact rfl)(hz:iS cs=cs':=by exact spine)(hi:c9 cs'=true:=by exact rfl):aR C f call S true ⟨none, .store T (.tmp ta) y,ty,pos,aD,aS⟩=some ⟨[(ta, .ay cs')],[id],[(id,none)]⟩:=by show k7 C f S true _ T (.tmp ta) (un true (S.get C (.tmp ta))) (un true (S.get C y))=_;rw[hx,hy];have e:sy C f (.tmp ta)=some ta:=by{unfold sy;simp only;rw[AC hin]};subst hz;simp[k7,ha.ja,ha.sz,hc,bh,hh,hr,e,hi]
theorem bN{bb:Bool}{m off:Nat}{ao:Operand}{id:Id}{cs r r':List U}[ha:cu C T bb m](hin:Cq (C.dB f) ao=false:=by exact rfl)(hx:un g (S.get C ao)= .mp id 0 off:=by exact rfl)(hy:un g (S.get C y)=v:=by exact gt)(hc:k5 bb v=some cs:=by exact rfl)(bh:cs.length=m:=by exact rfl)(hh:S.h id=some (some [r]):=by exact rfl)(hl:Hd (off+m) r.length=true:=by exact rfl)(hq:r.take off++cs++r.drop (off+m)=r':=by exact spine):aR C f call S g ⟨none, .store T ao y,ty,pos,aD,aS⟩=some ⟨[],[id],[(id,some [r'])]⟩:=by show k7 C f S g _ T ao (un g (S.get C ao)) (un g (S.get C y))=_;rw[hx,hy];have hl':off+m≤r.length:=Hn hl;have e:=J3 (f:=f) hin;subst hq;simp only[k7,ha.ja,ha.sz,hc];rw[Do (by simp[bh]),hh];simp only[List.getElem?_cons_zero,GT,AC hl',e];rfl
theorem SY{e:Option Int}:k5 false (ga e)=some [ga e]:=by cases e<;>rfl
theorem nv{bb:Bool}{m row off:Nat}{ao:Operand}{id:Id}{cs:List U}{α:Type}{c:α→List U}{q:List α}{r:α}(hr:q[row]? =some r)(r':α)[ha:cu C T bb m](hin:Cq (C.dB f) ao=false:=by exact rfl)(hx:un g (S.get C ao)= .mp id row off:=by exact rfl)(hy:un g (S.get C y)=v:=by exact gt)(hc:k5 bb v=some cs:=by first|exact rfl|exact SY)(bh:cs.length=m:=by exact rfl)(hh:S.h id=some (some (q.map c)):=by exact rfl)(hl:Hd (off+m) (c r).length=true:=by exact rfl)(hq:(c r).take off++cs++(c r).drop (off+m)=c r':=by exact rfl):aR C f call S g ⟨none, .store T ao y,ty,pos,aD,aS⟩=some ⟨[],[id],[(id,some ((q.set row r').map c))]⟩:=by show k7 C f S g _ T ao (un g (S.get C ao)) (un g (S.get C y))=_;rw[hx,hy];have hl':off+m≤(c r).length:=Hn hl;have e:=J3 (f:=f) hin;have e2:(q.map c)[row]? =some (c r):=by{simp[hr]};simp only[k7,ha.ja,ha.sz,hc];rw[Do (by simp[bh]),hh];simp only[e2,GT,AC hl',e];rw[hq,List.map_set];rfl
theorem iT{e:TypeId}{m n:Nat}{bb:Bool}{α:Type}{c:α→List U}{q:List α}{i:Int}{r:α}{id:Id}(hi:idx q i=some r)[hu:cy C T (.slice e)][hs:cu C e bb m](hx:un g (S.get C x)= .rs id 0 n:=by first|exact rfl|exact bz)(hh:S.h id=some (some (q.map c)):=by exact rfl)(hl:n=q.length:=by exact pI)(hy:un g (S.get C y)= .val (.int k i):=by first|exact rfl|exact bz)(hr:(c r).length=m:=by exact rfl):aR C f call S g ⟨some d, .indexAddr T x y,ty,pos,aD,aS⟩=some ⟨[(d, .mp id i.toNat 0)],[id],[]⟩:=by show k6 C S _ T (un g (S.get C x)) (dr (un g (S.get C y)))=_;have hb:=yE hi;have hn:=gK hi;subst hl;simp only[hx,hy,dr,k6,hu.ul,hs.sz];rw[AC hb,hh];simp[hn,hr]
section
variable{α:Type}{c:α→List U}{q q' r:List α}{id fE:Id}{e:TypeId}{m n n':Nat}{T bP:TypeId}
abbrev Ax:= @k3
theorem Ri{rx:U}{xs ys:Rows}{i1 i2:List Id}(hok:w8 C e m=true)(hu:C.P.underlying T=some (.slice e))(hu1:C.P.underlying bP=some (.slice e))(hx:un g (S.get C x)=rx)(qL:rowsOf S.h rx=some (xs,i1))(hy:rowsOf S.h (un g (S.get C y))=some (ys,i2))(hl:ys.all (·.length==m)=true)(hcell:pS ys=true)(hlen:xs.length+ys.length≤nq)(hn:S.h [d]=none){uJ:aJ}(he:Ax S ⟨some d, .call ⟨.builtin .append,⟨[x,y]⟩,⟨[T,bP]⟩⟩,ty,pos,aD,aS⟩ d m rx xs ys i1 i2=some uJ):kB C S ⟨some d, .call ⟨.builtin .append,⟨[x,y]⟩,⟨[T,bP]⟩⟩,ty,pos,aD,aS⟩ ⟨[T,bP]⟩ ([x,y].map fun x=>un g (S.get C x))=some uJ:=by unfold w8 at hok;split at hok;·{rename_i inf EJ;simp only[GE,beq_iff_eq,decide_eq_true_eq]at hok;obtain⟨⟨⟨k1,k2⟩,cD⟩,eX⟩:=hok;subst k1;have e1:(#[T,bP]:Array TypeId)[0]? =some T:=rfl;have e2:(#[T,bP]:Array TypeId)[1]? =some bP:=rfl;simp only[List.map_cons,List.map_nil,kB,e1,e2,GT,hu1,ur,hu,EJ,hx,qL,hy];rw[AC (by simp only[GE,decide_eq_true_eq];exact⟨⟨⟨⟨⟨⟨hl,k2⟩,cD⟩,eX⟩,hlen⟩,hcell⟩,by rw[hn];rfl⟩)];unfold Ax at he;exact he};·cases hok
theorem Rh{rx:U}{xs ys:Rows}{i1 i2:List Id}(hok:w8 C e m=true)(hu:C.P.underlying T=some (.slice e))(hu1:C.P.underlying bP=some (.slice e))(hx:un g (S.get C x)=rx)(qL:rowsOf S.h rx=some (xs,i1))(hy:rowsOf S.h (un g (S.get C y))=some (ys,i2))(hl:ys.all (·.length==m)=true)(hcell:pS ys=true)(hlen:xs.length+ys.length≤nq)(hn:S.h [d]=none)(hfz:(C.dB f).contains d=false){uJ:aJ}(he:Ax S ⟨some d, .call ⟨.builtin .append,⟨[x,y]⟩,⟨[T,bP]⟩⟩,ty,pos,aD,aS⟩ d m rx xs ys i1 i2=some uJ):aR C f call S g ⟨some d, .call ⟨.builtin .append,⟨[x,y]⟩,⟨[T,bP]⟩⟩,ty,pos,aD,aS⟩=some uJ:=by show(kB C S _ _ ([x,y].map fun x=>un g (S.get C x))).bind (oY C f _)=_;have key:kB C S ⟨some d, .call ⟨.builtin .append,⟨[x,y]⟩,⟨[T,bP]⟩⟩,ty,pos,aD,aS⟩ ⟨[T,bP]⟩ ([x,y].map fun x=>un g (S.get C x))=some uJ:=Ri hok hu hu1 hx qL hy hl hcell hlen hn he;rw[key];simp only[GT,oY,dI,hfz,Ha,if_false]
theorem abN{L:Id→Option (Option Rows)}(hh:L id=some (some (q.map c))):rowsOf L (.rs id 0 q.length)=some (q.map c,[id]):=by show(match L id with|some (some rs)=>if 0+q.length≤rs.length then some ((rs.drop 0).take q.length,[id])else none|_=>none)=_;rw[hh];simp only;rw[AC (by simp),H5,Hm (by simp)]
theorem qX(hr:app q q'=some r)[hu:cy C T (.slice e)][hu1:cy C bP (.slice e)][hok:p0 C e m](hx:un g (S.get C x)= .rs id 0 n:=by exact rfl)(hh:S.h id=some (some (q.map c)):=by exact rfl)(hlen:n=q.length:=by exact pI)(hy:un g (S.get C y)= .sl (q'.map c):=by exact rfl)(hl:∀x,(c x).length=m:=by exact fun _=>rfl)(hcell:pS (q'.map c)=true:=by first|exact M9|exact rfl)(hn:S.h [d]=none:=by exact rfl)(hfz:(C.dB f).contains d=false:=by exact rfl):aR C f call S g ⟨some d, .call ⟨.builtin .append,⟨[x,y]⟩,⟨[T,bP]⟩⟩,ty,pos,aD,aS⟩=some ⟨[(d, .rs [d] 0 r.length)],[id],[(id,none),([d],some (r.map c))]⟩:=by obtain⟨h1,rfl⟩:=Rk hr;subst hlen;refine Rh hok.ao hu.ul hu1.ul hx (abN hh) (by rw[hy];rfl) (C7 hl) hcell (by simpa[nq]using h1) hn hfz ?_;simp only[Ax,k3,hh];rw[AC (by simp only[GE];refine⟨⟨C7 hl,by simp⟩, ?_⟩;cases q<;>simp)];simp[put,List.map_append]
end
theorem FU{e:TypeId}{m:Nat}{α:Type}{c:α→List U}{cx:α}{eR:List U}{nn:Int}{r:List α}(hr:nr nn cx=some r)(Fe:c cx=eR)[hu:cy C T (.slice e)][hok:p0 C e m][hz:kY C e eR](hx:un g (S.get C x)= .val (.int k nn):=by exact rfl)(hy:un g (S.get C y)= .val (.int k nn):=by exact rfl)(hzl:eR.length=m:=by exact rfl)(hn:S.h [d]=none:=by exact rfl):aR C f call S g ⟨some d, .makeSlice T x y,ty,pos,aD,aS⟩=some ⟨[(d, .rs [d] 0 r.length)],[],[([d],some (r.map c))]⟩:=by show oT C S _ T (un g (S.get C x)) (un g (S.get C y))=_;unfold nr at hr;split at hr;·{rename_i hp;obtain rfl:Hb nn.toNat cx=r:=by{simpa using hr};have hok:=hok.ao;unfold w8 at hok;split at hok;·{rename_i inf EJ;simp only[Bool.and_eq_true,beq_iff_eq,decide_eq_true_eq]at hok;obtain⟨⟨⟨k1,k2⟩,cD⟩,eX⟩:=hok;simp only[hx,hy,oT,hu.ul,dr,hz.Of,EJ];rw[AC (by simp only[Bool.and_eq_true,decide_eq_true_eq];exact⟨⟨⟨⟨by omega,by omega⟩,cD⟩,by omega⟩,by rw[hn];rfl⟩)];simp[put,Fe]};·cases hok};·cases hr
theorem RX{e:TypeId}{bb:Bool}{m len:Nat}{eR:List U}{ps:List (Nat×U)}{rows:Rows}(hu:C.P.underlying T=some (.slice e))(hz:tT C e=some eR)(ha:jl C e=some bb)(hs:fL C e=some m)(h0:(decide (0<m)&&decide (m=eR.length)&&decide (len*m≤1000))=true)(hf:oW m bb (Hb len eR) ps=some rows):uy C T len ps=some rows:=by simp only[uy,hu,hz,ha,hs,h0,if_true,hf]
theorem hY{e:TypeId}{bb:Bool}{m len:Nat}{eR:List U}{p:List (Nat×Operand)}{ps:List (Nat×U)}{rows aL:Rows}[hu:cy C T (.slice e)][hz:iN C e eR][ha:cu C e bb m](hin:(C.dB f).contains d=true:=by exact rfl)(h0:(decide (0<m)&&decide (m=eR.length)&&decide (len*m≤1000))=true:=by exact rfl)(hq:(p.map fun p=>(p.1,un g (S.get C p.2)))=ps:=by exact Ca)(hf:oW m bb (Hb len eR) ps=some rows:=by exact rfl)(vl:rows.map iS=aL:=by exact spine)(hi:jk aL=true:=by exact rfl):aR C f call S g ⟨some d, .buildSlice T len ⟨p⟩,ty,pos,aD,aS⟩=some ⟨[(d, .sl aL)],[],[]⟩:=by show mW C f S _ T len (p.map fun p=>(p.1,un g (S.get C p.2)))=_;rw[hq];have hb:=RX hu.ul hz.eR ha.ja ha.sz h0 hf;unfold mW;rw[Do (by simp[Dk,hb,vl,hi])];simp only[oR,hu.ul,hz.eR,ha.ja,ha.sz,h0,if_true,hf,dI,hin,vl,hi,Bool.and_self];rfl
theorem Zh{e:TypeId}{bb:Bool}{m len:Nat}{eR:List U}{p:List (Nat×Operand)}{ps:List (Nat×U)}{rows aL:Rows}[hu:cy C T (.slice e)][hz:iN C e eR][ha:cu C e bb m](hin:(C.dB f).contains d=false:=by exact rfl)(h0:(decide (0<m)&&decide (m=eR.length)&&decide (len*m≤1000))=true:=by exact rfl)(hq:(p.map fun p=>(p.1,un g (S.get C p.2)))=ps:=by exact Ca)(hf:oW m bb (Hb len eR) ps=some rows:=by exact rfl)(hs:rows=aL:=by exact spine)(hn:S.h [d]=none:=by exact rfl):aR C f call S g ⟨some d, .buildSlice T len ⟨p⟩,ty,pos,aD,aS⟩=some ⟨[(d, .rs [d] 0 len)],[],[([d],some aL)]⟩:=by show mW C f S _ T len (p.map fun p=>(p.1,un g (S.get C p.2)))=_;subst hs;rw[hq];unfold mW;rw[Do (by simp[Dk,dI];intro h;simp[h]at hin)];simp only[oR,hu.ul,hz.eR,ha.ja,ha.sz,h0,if_true,hf,dI,hin,H2,Ha,if_false];rw[AC (K7 hn)];rfl
/-! ### Calls -/
section
variable{L:Id→Option (Option Rows)}{n m:Nat}{α:Type}{c c':α→List U}{q:List α}{id:Id}{as bs cs cs':List U}{is i2:List Id}{x u:U}
theorem ID{a:U}(h:en a=true):bK L (n+1) a=some (a,[]):=by cases a with|agg cs=>(simp only[en]at h;simp[bK,fq,h])|aG cs=>(simp only[en]at h;simp[bK,fq,h])|fn k a b=>(simp only[en,GE]at h;simp[bK,fq,h])|_=>first|rfl|simp[en]at h
theorem Sa{w:Value}(hx:x= .val w:=by exact rfl):bK L (n+1) x=some (.val w,[]):=by rw[hx];rfl
theorem R9{r:Rows}(hx:x= .sl r:=by exact rfl):bK L (n+1) x=some (.sl r,[]):=by rw[hx];rfl
theorem R7(hx:x= .bU:=by exact rfl):bK L (n+1) x=some (.sl [],[]):=by rw[hx];rfl
theorem R3{t:TypeId}{e:cB}(hx:x=fe t e:=by first|exact rfl|exact Cu):bK L (n+1) x=some (fe t e,[]):=by rw[hx];exact ID (TJ e)
theorem R5(hx:x=u:=by exact gt)(hi:en u=true:=by exact rfl):bK L (n+1) x=some (u,[]):=by rw[hx];exact ID hi
theorem R8 [hc:p6 c](hx:x= .rs id 0 m:=by exact rfl)(hh:L id=some (some (q.map c)):=by exact rfl)(hl:m=q.length:=by exact pI):bK L (n+1) x=some (.sl (q.map c),[id]):=by subst hx hl;have hi':jk (q.map c)=true:=by{simp only[jk,List.all_map,H1];exact fun x _=>hc.im x};have e:((q.map c).drop 0).take q.length=q.map c:=by{rw[H5,Hm (by simp)]};have e0:bK L (n+1) (.rs id 0 q.length)=match L id with|some (some rs)=>if 0+q.length≤rs.length then(lR (bK L n) ((rs.drop 0).take q.length)).map fun x=>(.sl x.1,id::x.2)else none|_=>none:=rfl;rw[e0,hh];simp only;rw[AC (by simp),e];simp[lR,hi']
theorem R6(hx:x= .mp id 0 0)(hh:L id=some (some [cs]))(hi:c9 cs=false)(h:dm (bK L n) cs=some (cs',is)):bK L (n+1) x=some (.ay cs',id::is):=by subst hx;have e0:bK L (n+1) (.mp id 0 0)=match L id with|some (some rs)=>(match rs[0]? with|some r=>if 0≤r.length then(fq (bK L n) (r.drop 0)).map fun x=>(.ay x.1,id::x.2)else none|none=>none)|_=>none:=rfl;rw[e0,hh];simp[fq,hi,h]
theorem RZ(hx:x= .agg cs)(hi:c9 cs=false)(h:dm (bK L n) cs=some (cs',is)):bK L (n+1) x=some (.agg cs',is):=by subst hx;simp[bK,fq,hi,h]
end
/-! ### Borrowing lists whose elements own memory -/
class adx{α:Type}(c:α→List U)(c':outParam (α→List U)):Prop where bK:∀L n x,dm (bK L (n+2)) (c x)=some (c' x,[])afO:∀x,c9 (c x)=false
section
variable{L:Id→Option (Option Rows)}{n m:Nat}{α:Type}{c c':α→List U}{q:List α}{k:Nat}{x x':α}{r r':List U}{id:Id}{ids:List Id}{v:U}
end
section
variable{α:Type}{c c':α→List U}{q:List α}{L:Id→Option (Option Rows)}{n:Nat}{id:Id}{as bs cs cs':List U}{x:U}{is i2:List Id}
theorem R1:fq (bK L n) []=some ([],[]):=by simp[fq,c9]
theorem R2{cs cs':List U}{is:List Id}(hi:c9 cs=false)(h:dm (bK L n) cs=some (cs',is)):fq (bK L n) cs=some (cs',is):=by simp[fq,hi,h]
theorem R4{k:Fn}{as bs as' bs':List U}{i1 i2:List Id}(hx:x= .fn k as bs)(h1:fq (bK L n) as=some (as',i1))(h2:fq (bK L n) bs=some (bs',i2)):bK L (n+1) x=some (.fn k as' bs',i1++i2):=by subst hx;simp[bK,h1,h2]
theorem Dn{y:Option (U×List Id)}(h:bK L n x=y:=by repeat'(first|exact Sa|exact R1|exact adR|(apply R2;exact rfl)|exact R3|exact ad2|exact R9|exact R8|exact ad4|exact ad8|exact ad7|(apply ad5;exact rfl;exact rfl;exact rfl;(first|(with_reducible assumption)|assumption);exact pI;exact inferInstance;rotate_left;exact rfl)|(apply ad6;exact rfl;exact rfl;exact rfl;(first|(with_reducible assumption)|assumption);exact Yx;exact inferInstance;rotate_left;exact rfl)|exact R5|exact ad1|exact R7|exact adT|exact ad3|exact adV|exact adY|exact ad0|exact adZ|exact adW|exact adU|exact adX|exact adS|exact xH|(apply xG;exact rfl)|(apply RZ;exact rfl;exact rfl)|(apply R6;exact rfl;exact rfl;exact rfl)|(apply R4;exact rfl))):bK L n x=y:=h
theorem RW(h:as=[]:=by exact rfl):nP L as=some ([],[]):=by subst h;rfl
theorem RV{a b:U}{z:List Id}(ha:cs=a::as)(h1:bK L 9 a=some (b,is))(h2:nP L as=some (bs,i2))(hz:is++i2=z):nP L cs=some (b::bs,z):=by subst ha hz;unfold nP at*;simp[dm,h1,h2]
theorem blk{y:Option (List U×List Id)}(h:nP L as=y:=by repeat'(first|exact RW|(apply RV;exact rfl;exact Dn)|exact rfl)):nP L as=y:=h
theorem acC{ms:List Nat}(h:as=[]:=by exact rfl):ie L ms as=some ([],[],[],[]):=by subst h;cases ms<;>rfl
section
variable{ms:List Nat}{a b b':U}{i s t z:List Id}
theorem acB{u:List Id}(ha:cs=a::as)(h:pk L 9 a=some (b,i))(k:ie L ms as=some (bs,s,t,z))(hu:i++t=u):ie L (1::ms) cs=some (b::bs,s,u,z):=by subst ha hu;simp[ie,k,h]
theorem acD{u:List Id}(ha:cs=a::as)(h:bK L 9 a=some (b,i))(k:ie L ms as=some (bs,s,t,z))(hu:i++s=u):ie L (0::ms) cs=some (b::bs,u,t,z):=by subst ha hu;simp[ie,k,h]
end
theorem acF{ms:List Nat}{y:Option (List U×List Id×List Id×List Id)}(h:ie L ms as=y:=by repeat'(first|exact acC|(apply acB;exact rfl;exact jJ)|(apply acD;exact rfl;exact Dn)|(apply ahb;exact rfl;exact jJ;exact xN)|(apply ahc;exact rfl;exact Dn)|exact rfl)):ie L ms as=y:=h
/-! Nothing from elsewhere -/
end
section
variable{bW:Operand}{ts:Array TypeId}{cK:FuncId}{as bs cs args:List U}{seen:List Id}{r:U}{wr:List (Id×Option Rows)}{xs:Array Operand}
theorem Bc(hfo:un g (S.get C bW)= .fn (.func cK) as bs)(cW:C.fD cK=false):kF C (un g (S.get C bW))=none:=by rw[hfo];simp[kF,cW]
theorem AX{d':Option Tmp}(h:kF C (un g (S.get C bW))=none):aR C f call S g ⟨d', .call ⟨.value bW,xs,ts⟩,ty,pos,aD,aS⟩=(match pathOf C bW with|some p=>qp S ⟨d', .call ⟨.value bW,xs,ts⟩,ty,pos,aD,aS⟩ p (xs.toList.map fun x=>un g (S.get C x))|none=>if tN C bW then(match(generalizing:=false)bW with| .func k=>nQ C f call S ⟨d', .call ⟨.value bW,xs,ts⟩,ty,pos,aD,aS⟩ k (xs.toList.map fun x=>un g (S.get C x))|_=>none)else mP C f call S ⟨d', .call ⟨.value bW,xs,ts⟩,ty,pos,aD,aS⟩ (un g (S.get C bW)) (xs.toList.map fun x=>un g (S.get C x))):=by show(match kF C (un g (S.get C bW))with|some x=>mQ C f call S _ x.1 (x.2.1++(xs.toList.map fun x=>un g (S.get C x))++x.2.2)|none=>_)=_;rw[h];first|rfl|(cases bW<;>rfl)
theorem cE(hc:call cK args=some (r,[]))(hfo:un g (S.get C bW)= .fn (.func cK) as bs:=by exact rfl)(hb:nP S.h (as++(xs.toList.map fun x=>un g (S.get C x))++bs)=some (args,seen):=by exact blk)(hm:(seen.isEmpty||mine r)=true:=by first|exact rfl|exact Lz)(hz:(C.dB f).contains d=false:=by exact rfl)(hi:imp [d] r=(v',wr):=by exact vm)(hf:fresh S.h wr=true:=by exact rfl)(ht:tN C bW=false:=by exact rfl)(pg:pathOf C bW=none:=by exact rfl)(hlk:C.look cK=false:=by exact rfl)(cW:C.fD cK=false:=by exact rfl):aR C f call S g ⟨some d, .call ⟨.value bW,xs,ts⟩,ty,pos,aD,aS⟩=some ⟨[(d,v')],seen,wr⟩:=by rw[AX (Bc hfo cW)];rw[pg];simp only;rw[ht];simp only[Ha,if_false];rw[hfo];simp only[mP,hlk,hb,hc,dI,hz,Ha,if_false];rw[Do (by cases seen with|nil=>(simp)|cons a l=>simp at hm;simp[hm]),hi];simp only[hf,if_true];rfl
theorem bT(hc:call cK args=some (r,[]))(hfo:un g (S.get C bW)= .fn (.func cK) as bs:=by exact rfl)(hb:nP S.h (as++(xs.toList.map fun x=>un g (S.get C x))++bs)=some (args,seen):=by exact blk)(hm:(seen.isEmpty||mine r)=true:=by first|exact rfl|exact Lz)(hz:(C.dB f).contains d=true:=by exact rfl)(hv:cI r=v:=by exact xN)(hi:imp [d] v=(v',wr):=by exact vm)(hf:fresh S.h wr=true:=by exact rfl)(ht:tN C bW=false:=by exact rfl)(pg:pathOf C bW=none:=by exact rfl)(hlk:C.look cK=false:=by exact rfl)(cW:C.fD cK=false:=by exact rfl):aR C f call S g ⟨some d, .call ⟨.value bW,xs,ts⟩,ty,pos,aD,aS⟩=some ⟨[(d,v')],seen,wr⟩:=by rw[AX (Bc hfo cW)];rw[pg];simp only;rw[ht];simp only[Ha,if_false];rw[hfo];simp only[mP,hlk,Ha,if_false,hb,hc,dI,hz,if_true,hv];rw[Do (by cases seen with|nil=>(simp)|cons a l=>simp at hm;simp[hm]),hi];simp only[hf,if_true];rfl
theorem Si{ms bR:List Nat}{outs:List U}{tk cJ:List Id}{back:List (Id×Option Rows)}{jt:List (Id×Option Rows)}(hm:C.vC cK=ms)(hm0:ms.isEmpty=false)(hle:C.bR cK=bR)(ht:ie S.h ms (xs.toList.map fun x=>un g (S.get C x))=some (args,seen,tk,cJ))(hc:call cK args=some (r,outs))(hv:(if dI C f (some d)then cI r else r)=v)(hb:fJ S.h (xs.toList.map fun x=>un g (S.get C x)) bR outs=some back)(h1:(cY (tk++cJ)&&qi seen (tk++cJ))=true)(h2:(seen.isEmpty||mine r&&outs.all mine)=true)(h3:(cY (back.map (·.1))&&(back.all fun x=>tk.contains x.1))=true)(hi:imp [d] v=(v',jt))(hf:fresh S.h jt=true)(hw:jt++(back++(tk++cJ).map fun i=>(i,none))=wr)(pg:C.path cK=none)(cW:C.fD cK=false:=by exact rfl):aR C f call S g ⟨some d, .call ⟨.value (.func cK),xs,ts⟩,ty,pos,aD,aS⟩=some ⟨[(d,v')],seen,wr⟩:=by rw[AX (Bc (as:=[]) (bs:=[]) rfl cW)];simp only[pathOf,pg];have e0:tN C (.func cK)=true:=by{simp[tN,hm,hm0]};subst hw hm hle hv;rw[e0,AC rfl];unfold nQ;simp only[ht,hc,hb,hi];simp only[GE]at h1 h3;rw[AC (by simp only[GE];exact⟨⟨⟨⟨⟨h1.1,h1.2⟩,h2⟩,h3.1⟩,h3.2⟩,hf⟩)];rfl
end
end
end Go.Ab
