import Derived.Test.YtbbhbdlljfffdaaGreatDoorAbFt2
open Bool renaming false_eq_true->Do,not_true->Hb,not_false->Hn,and_false->H4,and_eq_true->Nm,and_self->R0
open ByteArray renaming mk->GE
open List renaming length_drop->GT,cons_append->Hd,map_cons->Hm,length_cons->H0,exists_cons_of_ne_nil->H3,length->H5,map_append->IH,takeWhile_cons->If,append_nil->Kd,length_append->Lk,nil_append->PH,drop_drop->PQ,cons_ne_nil->Pi,length_nil->Ps,length_singleton->QP,tail_cons->QQ,getD_eq_getElem?_getD->QR,getElem?_eq_none->RK
open List.cons renaming injEq->H2
open Nat renaming lt_succ_self->H1
open Option renaming bind_some->AC
open Option.some renaming injEq->Hc,inj->Hk
open Prod renaming ext->Ix
open Prod.mk renaming injEq->Ha
open Sum.inr renaming injEq->PP
set_option linter.all false
namespace Go.Ab
open Go Go.Proofs
def fe(n:aA):aA:=⟨n.Kind,n.Text,n.N,n.gG,n.Kids,0⟩
def ff(t:b5):b5:=⟨t.Kind,t.Text,t.N,0⟩
def oo(z:b5):Prop:=z.Kind=4∧z.Text=GE #[41]
inductive fy(z:b5):aj->aj->Prop|mk{N N':bz}{l m:List b5}{e e':Int}(hN:N.map fe=N'.map fe)(hl:l.map ff=m.map ff):fy z (aL N l e) (aL N' (m++[z]) e')
def fz(z:b5){A:Type}(x y:Option (an (A×aj) Unit)):Prop:=∀a p,x=some (.ok (a,p))->∃p',y=some (.ok (a,p'))∧fy z p p'
section
variable{z:b5}{N N':bz}{l m:List b5}{e e':Int}{s:ByteArray}{A B:Type}
theorem fz.none{y:Option (an (A×aj) Unit)}:fz z none y:=fun _ _ h=>by cases h
theorem fz.av{v:Value}{b:Unit}{y:Option (an (A×aj) Unit)}:fz z (some (.av v b)) y:=fun _ _ h=>by cases h
theorem fz.ok{a:A}{p p':aj}(h:fy z p p'):fz z (some (.ok (a,p))) (some (.ok (a,p'))):=fun _ _ h'=>by simp only[Hc,an.ok.injEq,Ha]at h';obtain⟨rfl,rfl⟩:=h';exact⟨p',rfl,h⟩
theorem fz.bind{x y:Option (an (A×aj) Unit)}{f f':A×aj->Option (an (B×aj) Unit)}(h:fz z x y)(hf:∀a p p',fy z p p'->fz z (f (a,p)) (f' (a,p'))):fz z (x.bind (an.on (fun bQ dD=>some (.av bQ ())) f)) (y.bind (an.on (fun bQ dD=>some (.av bQ ())) f')):=by intro b q hq;cases x with|none=>(cases hq)|some x=>cases x with|av v w=>(cases hq)|ok r=>obtain⟨a,p⟩:=r;obtain⟨p',h1,h2⟩:=h a p rfl;rw[h1];exact hf a p p' h2 b q hq
/-! ### The next word -/
theorem Lf{t:b5}(h:(t::l).map ff=m.map ff):∃t' m',m=t'::m'∧ff t=ff t'∧l.map ff=m'.map ff:=by cases m with|nil=>(simp at h)|cons t' m'=>rw[Hm,Hm,H2]at h;exact⟨t',m',rfl,h.1,h.2⟩
theorem Ie(h:([]:List b5).map ff=m.map ff):m=[]:=by cases m with|nil=>(rfl)|cons t' m'=>simp at h
theorem xY{t t':b5}(h:ff t=ff t'):t.Kind=t'.Kind∧t.Text=t'.Text∧t.N=t'.N:=by unfold ff at h;simp only[bu.mk.injEq,and_true]at h;exact h
theorem w4(hl:l.map ff=m.map ff)(hne:l≠[]):ff (aq l e)=ff (aq (m++[z]) e'):=by obtain⟨t,l,rfl⟩:=H3 hne;obtain⟨t',m',rfl,h,_⟩:=Lf hl;exact h
theorem sS(hz:oo z)(hl:l.map ff=m.map ff)(hs:(ByteArray.toList (GE #[41])==s.toList)=false∨l≠[]):bD (aq (m++[z]) e') s=bD (aq l e) s:=by by_cases hne:l=[];·{subst hne;obtain rfl:=Ie hl;rw[xN];rcases hs with hs|hs;·{show bD z s=false;unfold bD;rw[hz.2,hs,H4]};·exact absurd rfl hs};·obtain⟨h1,h2,_⟩:=xY (w4 (e:=e) (e':=e') (z:=z) hl hne);unfold bD;rw[h1,h2]
theorem UW(hz:oo z)(hl:l.map ff=m.map ff){c:Int}(hc:c≠4)(h0:c≠0):((aq (m++[z]) e').Kind==c)=((aq l e).Kind==c):=by by_cases hne:l=[];·{subst hne;obtain rfl:=Ie hl;show(z.Kind==c)=((0:Int)==c);rw[hz.1];have a1:((4:Int)==c)=false:=by{simp;omega};have a2:((0:Int)==c)=false:=by{simp;omega};rw[a1,a2]};·rw[(xY (w4 (e:=e) (e':=e') (z:=z) hl hne)).1]
theorem J1(hz:oo z)(hl:l.map ff=m.map ff){ls:List ByteArray}(hs:fY ls (GE #[41])=false):gL (aq (m++[z]) e') ls=gL (aq l e) ls:=by by_cases hne:l=[];·{subst hne;obtain rfl:=Ie hl;show gL z ls=gL ⟨0,GE #[],0,e⟩ ls;unfold gL;rw[hz.2,hs,H4];rfl};·obtain⟨h1,h2,_⟩:=xY (w4 (e:=e) (e':=e') (z:=z) hl hne);unfold gL;rw[h1,h2]
theorem J2{ls:List ByteArray}(h:((gL (aq l e) ls).toList !=(GE #[]).toList)=true):l≠[]:=by rintro rfl;have:gL (aq [] e) ls=GE #[]:=by{unfold gL aq;rw[if_neg (by simp)]};rw[this]at h;simp at h
theorem fy.tail(hN:N.map fe=N'.map fe)(hl:l.map ff=m.map ff)(hne:l≠[]):fy z (aL N l.tail e) (aL N' (m++[z]).tail e'):=by obtain⟨t,l,rfl⟩:=H3 hne;obtain⟨t',m',rfl,_,h⟩:=Lf hl;exact⟨hN,h⟩
/-! ### Nodes -/
theorem qd(hN:N.map fe=N'.map fe):N.length=N'.length:=by have:=congrArg H5 hN;simpa using this
theorem u7{n n':aA}{ks:List Int}(hN:N.map fe=N'.map fe)(hn:fe ⟨n.Kind,n.Text,n.N,n.gG,ks,n.aQ⟩=fe ⟨n'.Kind,n'.Text,n'.N,n'.gG,ks,n'.aQ⟩):(eW N n ks).map fe=(eW N' n' ks).map fe:=by unfold eW;rw[IH,IH,hN,Hm,Hm,hn]
theorem wZ{X Y:Type}{G:Option X->Option Y->Prop}{f:Int×aj->Option X}{f':Int×aj->Option Y}{n n':aA}{ks:List Int}(hnone:∀y,G none y)(hlen:N.length=N'.length)(h:∀k,G (f (k,aL (eW N n ks) l e)) (f' (k,aL (eW N' n' ks) m e'))):G ((ij (aL N l e) n ks).bind f) ((ij (aL N' m e') n' ks).bind f'):=by unfold ij;cases hc:clone ks with|none=>(exact hnone _)|some x1=>have hx:x1=ks:=by{unfold clone at hc;split at hc;·{exact(Hk hc).symm};·cases hc};subst hx;simp only[AC];by_cases ha:N.length+1<=4294967296;·{rw[lN (by simpa using ha),lN (by simpa[hlen]using ha)];simp only[AC];have e1:(N++[aA.mk n.Kind n.Text n.N n.gG x1 n.aQ]).length=(N'++[aA.mk n'.Kind n'.Text n'.N n'.gG x1 n'.aQ]).length:=by{simp[hlen]};rw[e1];exact h _};·have:app N [aA.mk n.Kind n.Text n.N n.gG x1 n.aQ]=none:=by{unfold app;rw[if_neg (by simpa using ha)]};rw[this];exact hnone _
theorem RI{X Y:Type}{G:Option X->Option Y->Prop}{f:Int×aj->Option X}{f':Int×aj->Option Y}{n n':aA}(hnone:∀y,G none y)(hlen:N.length=N'.length)(h:∀k,G (f (k,aL (eW N n []) l e)) (f' (k,aL (eW N' n' []) m e'))):G ((qV (aL N l e) n).bind f) ((qV (aL N' m e') n').bind f'):=wZ (ks:=[]) hnone hlen h
theorem X6{f f':aj->Option (an (B×aj) Unit)}(hz:oo z)(hN:N.map fe=N'.map fe)(hl:l.map ff=m.map ff)(hf:∀p p',fy z p p'->fz z (f p) (f' p')):fz z ((gY (aL N l e) s).bind (an.on (fun bQ dD=>some (.av bQ ())) f)) ((gY (aL N' (m++[z]) e') s).bind (an.on (fun bQ dD=>some (.av bQ ())) f')):=by rw[kW,kW];cases hT:bD (aq l e) s with|false=>(exact .av)|true=>have hne:=dI hT;rw[sS (e:=e) hz hl (.inr hne),hT];exact hf _ _ (fy.tail hN hl hne)
/-! ### Loops -/
def Qu(z:b5){S T:Type}(aJ:S->S->Prop)(jN:T->T->Prop):b8 S (cj T (an (A×aj) Unit))->b8 S (cj T (an (A×aj) Unit))->Prop| .next s, .next s'=>aJ s s'| .out (.dz t), .out (.dz t')=>jN t t'| .out (.ret (.ok (a,p))), .out (.ret (.ok (a',p')))=>a=a'∧fy z p p'|_,_=>False
def kI(z:b5){S T:Type}(aJ:S->S->Prop)(jN:T->T->Prop)(x y:Option (b8 S (cj T (an (A×aj) Unit)))):Prop:=∀a,x=some a->(∃v,a= .out (.ret (.av v ())))∨∃b,y=some b∧Qu z aJ jN a b
theorem kI.none{S T:Type}{aJ:S->S->Prop}{jN:T->T->Prop}{y:Option (b8 S (cj T (an (A×aj) Unit)))}:kI z aJ jN none y:=fun _ h=>by cases h
theorem kI.av{S T:Type}{aJ:S->S->Prop}{jN:T->T->Prop}{v:Value}{y:Option (b8 S (cj T (an (A×aj) Unit)))}:kI z aJ jN (some (.out (.ret (.av v ())))) y:=fun _ h=> .inl ⟨v,(Hk h).symm⟩
theorem kI.mk{S T:Type}{aJ:S->S->Prop}{jN:T->T->Prop}{a b:b8 S (cj T (an (A×aj) Unit))}(h:Qu z aJ jN a b):kI z aJ jN (some a) (some b):=fun _ h'=> .inr ⟨b,rfl,by rw[<-Hk h'];exact h⟩
theorem kI.bind{S T:Type}{aJ:S->S->Prop}{jN:T->T->Prop}{x y:Option (an (B×aj) Unit)}{f f':B×aj->Option (b8 S (cj T (an (A×aj) Unit)))}(h:fz z x y)(hf:∀a p p',fy z p p'->kI z aJ jN (f (a,p)) (f' (a,p'))):kI z aJ jN (x.bind (an.on (fun bQ dD=>some (.out (.ret (.av bQ ())))) f)) (y.bind (an.on (fun bQ dD=>some (.out (.ret (.av bQ ())))) f')):=by cases x with|none=>(exact .none)|some x=>cases x with|av v w=>(exact .av)|ok r=>obtain⟨a,p⟩:=r;obtain⟨p',h1,h2⟩:=h a p rfl;rw[h1];exact hf a p p' h2
theorem X7{S T:Type}{aJ:S->S->Prop}{jN:T->T->Prop}{f f':aj->Option (b8 S (cj T (an (A×aj) Unit)))}(hz:oo z)(hN:N.map fe=N'.map fe)(hl:l.map ff=m.map ff)(hf:∀p p',fy z p p'->kI z aJ jN (f p) (f' p')):kI z aJ jN ((gY (aL N l e) s).bind (an.on (fun bQ dD=>some (.out (.ret (.av bQ ())))) f)) ((gY (aL N' (m++[z]) e') s).bind (an.on (fun bQ dD=>some (.out (.ret (.av bQ ())))) f')):=by rw[kW,kW];cases hT:bD (aq l e) s with|false=>(exact .av)|true=>have hne:=dI hT;rw[sS (e:=e) hz hl (.inr hne),hT];exact hf _ _ (fy.tail hN hl hne)
theorem Oh{S T:Type}{aJ:S->S->Prop}{jN:T->T->Prop}{st st':S->Option (b8 S (cj T (an (A×aj) Unit)))}(hs:∀s s',aJ s s'->kI z aJ jN (st s) (st' s')){f f':T->Option (an (A×aj) Unit)}(hf:∀t t',jN t t'->fz z (f t) (f' t')){s s':S}(h:aJ s s'):fz z ((Loop st s).bind (cj.go f fun r1=>some r1)) ((Loop st' s').bind (cj.go f' fun r1=>some r1)):=by have key:∀n s s' r,aJ s s'->LoopN st n s=some r->(∃v,r= .ret (.av v ()))∨∃r',Loop st' s'=some r'∧((∃t t',r= .dz t∧r'= .dz t'∧jN t t')∨∃a p p',r= .ret (.ok (a,p))∧r'= .ret (.ok (a,p'))∧fy z p p'):=by{intro n;induction n with|zero=>(intro s s' r _ h;cases h)|succ n ih=>intro s s' r hS hr;rw[LoopN]at hr;obtain⟨y,h1,h2⟩:=Option.bind_eq_some_iff.1 hr;rcases hs s s' hS y h1 with⟨v,rfl⟩|⟨b,h3,h4⟩;·{simp only[Hc]at h2;exact .inl ⟨v,h2.symm⟩};·cases y with|next s1=>(cases b with|next s2=>(rw[cK,h3];exact ih s1 s2 r h4 h2)|out x=>exact h4.elim)|out x=>simp only[Hc]at h2;subst h2;cases b with|next s2=>(cases x with|dz t=>(exact h4.elim)|ret w=>cases w<;>exact h4.elim)|out x'=>refine .inr ⟨x',by rw[cK,h3];rfl, ?_⟩;cases x with|dz t=>(cases x' with|dz t'=>(exact .inl ⟨t,t',rfl,rfl,h4⟩)|ret w=>exact h4.elim)|ret w=>cases w with|av v u=>(exact h4.elim)|ok q=>obtain⟨a,p⟩:=q;cases x' with|dz t'=>(exact h4.elim)|ret w'=>cases w' with|av v u=>(exact h4.elim)|ok q'=>obtain⟨a',p'⟩:=q';obtain⟨rfl,h5⟩:=h4;exact .inr ⟨a,p,p',rfl,rfl,h5⟩};intro a p hq;obtain⟨r,h1,h2⟩:=Option.bind_eq_some_iff.1 hq;obtain⟨n,hn⟩:=DT h1;rcases key n s s' r h hn with⟨v,rfl⟩|⟨r',h3,h4⟩;·{cases h2};·rw[h3];rcases h4 with⟨t,t',rfl,rfl,h5⟩|⟨a1,p1,alj,rfl,rfl,h5⟩;·{exact hf t t' h5 a p h2};·simp only[cj.go,Hc,an.ok.injEq,Ha]at h2;obtain⟨rfl,rfl⟩:=h2;exact⟨alj,rfl,h5⟩
end
open Go Go.Proofs
structure Qw(rc:bO):Prop where n0:∀N e a p,rc.eC (aL N [] e)≠some (.ok (a,p))n1:∀N e n a p,rc.r1 (aL N [] e) n≠some (.ok (a,p))n2:∀N e a p,rc.r2 (aL N [] e)≠some (.ok (a,p))oI:∀N e a p,rc.iO (aL N [] e)≠some (.ok (a,p))ajG:∀N e a p,rc.lG (aL N [] e)≠some (.ok (a,p))
theorem BT{A B:Type}{x:Option (an A Unit)}{f:A->Option (an B Unit)}(h:∀a,x≠some (.ok a))(b:B):x.bind (an.on (fun bQ dD=>some (.av bQ ())) f)≠some (.ok b):=by intro hx;cases x with|none=>(cases hx)|some x=>cases x with|ok a=>(exact h a rfl)|av v w=>cases hx
theorem of_nil{e:Int}{ls:List ByteArray}:gL (aq [] e) ls=GE #[]:=by unfold gL aq;rw[if_neg (by simp)]
theorem ajY:∀m,Qw (bO.at m):=by intro m;induction m with|zero=>(exact⟨fun _ _ _ _=>nofun,fun _ _ _ _ _=>nofun,fun _ _ _ _=>nofun,fun _ _ _ _=>nofun,fun _ _ _ _=>nofun⟩)|succ m ih=>refine⟨fun N e a p=> ?_,fun N e n a p=> ?_,fun N e a p=> ?_,fun N e a p=> ?_,fun N e a p=> ?_⟩;·{show rJ m (bO.at m) (aL N [] e)≠_;unfold rJ;exact BT (fun a=>ih.n1 N e 0 a.1 a.2) _};·{show nZ m (bO.at m) (aL N [] e) n≠_;unfold nZ;split;·{exact BT (fun a=>ih.n2 N e a.1 a.2) _};·exact BT (fun a=>ih.n1 N e _ a.1 a.2) _};·{show rH m (bO.at m) (aL N [] e)≠_;unfold rH;rw[fK,AC,nt (by decide),AC,of_nil,if_neg (by simp)];simp only[mI,xN,AC,Do,if_false];exact BT (fun a=>ih.oI N e a.1 a.2) _};·{show rI m (bO.at m) (aL N [] e)≠_;unfold rI;exact BT (fun a=>ih.ajG N e a.1 a.2) _};·show rK m (bO.at m) (aL N [] e)≠_;unfold rK;rw[fK,AC,if_neg (show¬((aq [] e).Kind==2)=true from by simp[aq]),if_neg (show¬((aq [] e).Kind==1)=true from by simp[aq]),eo,AC,xN];simp only[Do,if_false,s4];exact BT (fun a h=>by cases h) _
structure y3(z:b5)(rc:bO):Prop where g0:∀p p',fy z p p'->fz z (rc.eC p) (rc.eC p')g1:∀p p' n,fy z p p'->fz z (rc.r1 p n) (rc.r1 p' n)g2:∀p p',fy z p p'->fz z (rc.r2 p) (rc.r2 p')g3:∀p p',fy z p p'->fz z (rc.iO p) (rc.iO p')g4:∀p p',fy z p p'->fz z (rc.lG p) (rc.lG p')g5:∀p p',fy z p p'->fz z (rc.CY p (GE #[41])) (rc.CY p' (GE #[41]))
theorem ajf{a:Int}{x:List ByteArray}(h:idx gd a=some x):x.length<=1000∧fY x (GE #[41])=false:=by have hall:(gd.all fun x=>decide (x.length<=1000)&& !fY x (GE #[41]))=true:=by{decide+kernel};have hm:x∈gd:=by{unfold idx at h;split at h;·{exact List.mem_of_getElem? h};·cases h};have:=List.all_eq_true.1 hall x hm;simpa using this
section
variable{z:b5}{rc:bO}{m:Nat}
theorem amv(hz:oo z)(h:y3 z rc){p p':aj}(hp:fy z p p'):fz z (rJ m rc p) (rJ m rc p'):=by unfold rJ;refine fz.bind (h.g1 p p' 0 hp) fun k q q' hq=> ?_;obtain @⟨N,N',l,jk,e,e',hN,hl⟩:=hq;simp only[fK,eo,AC];rw[sS (e:=e) (e':=e') (s:=GE #[63]) hz hl (.inl (by decide+kernel))];cases hT:bD (aq l e) (GE #[63])with|true=>(simp only[if_true];refine fz.bind (h.g0 _ _ (fy.tail hN hl (dI hT))) fun k1 q1 Pb hq1=> ?_;obtain @⟨az,y2,l1,m1,e1,qf,lQ,lR⟩:=hq1;refine X6 hz lQ lR fun cq Ki z1=> ?_;refine fz.bind (h.g0 _ _ z1) fun dB dO asW Ny=> ?_;obtain @⟨jg,apl,l3,m3,bY,Ey,MF,Jn⟩:=Ny;exact wZ (fun _=> .none) (qd MF) fun k=> .ok ⟨u7 MF rfl,Jn⟩)|false=>simp only[Do,if_false];rw[nt (by decide),nt (by decide),AC,AC,J1 (e:=e) (e':=e') hz hl (by decide+kernel)];split;·{rename_i fS;have hne:=J2 fS;simp only[pO,AC];refine fz.bind (h.g0 _ _ (fy.tail hN hl hne)) fun k1 q1 Pb hq1=> ?_;obtain @⟨az,y2,l1,m1,e1,qf,lQ,lR⟩:=hq1;refine wZ (fun _=> .none) (qd lQ) fun k=> .ok ⟨u7 lQ ?_,lR⟩;have:=(xY (w4 (z:=z) (e:=e) (e':=e') hl hne)).2.1;simp only[fe,this]};·exact .ok ⟨hN,hl⟩
theorem ams(hz:oo z)(h:y3 z rc){p p':aj}(hp:fy z p p'):fz z (rH m rc p) (rH m rc p'):=by obtain @⟨N,N',l,jk,e,e',hN,hl⟩:=hp;unfold rH;simp only[fK,mI,pO,AC,Ly];rw[nt (by decide),nt (by decide),AC,AC,J1 (e:=e) (e':=e') hz hl (by decide+kernel),sS (e:=e) (e':=e') (s:=GE #[43,43]) hz hl (.inl (by decide+kernel)),sS (e:=e) (e':=e') (s:=GE #[45,45]) hz hl (.inl (by decide+kernel))];have more:∀kd:Int,l≠[]->fz z (((rc.r2 (aL N l.tail e)).bind (an.on (fun bQ dD=>some (.av bQ ())) fun aC=>(ij aC.2 (aA.mk kd (aq l e).Text 0 0 [] (aq l e).aQ) ([aC.1]:List Int)).bind fun aM=>some (.ok (aM.1,aM.2))))) ((rc.r2 (aL N' (jk++[z]).tail e')).bind (an.on (fun bQ dD=>some (.av bQ ())) fun aC=>(ij aC.2 (aA.mk kd (aq (jk++[z]) e').Text 0 0 [] (aq (jk++[z]) e').aQ) ([aC.1]:List Int)).bind fun aM=>some (.ok (aM.1,aM.2)))):=fun kd hne=>by{refine fz.bind (h.g2 _ _ (fy.tail hN hl hne)) fun k1 q1 Pb hq1=> ?_;obtain @⟨az,y2,l1,m1,e1,qf,lQ,lR⟩:=hq1;refine wZ (fun _=> .none) (qd lQ) fun k=> .ok ⟨u7 lQ ?_,lR⟩;have:=(xY (w4 (z:=z) (e:=e) (e':=e') hl hne)).2.1;simp only[fe,this]};split;·{rename_i fS;exact more 35 (J2 fS)};·split;·{rename_i fS;refine more 40 ?_;rcases Bool.or_eq_true _ _▸fS with fS|fS;·{exact dI fS};·exact dI fS};·refine fz.bind (h.g3 _ _ ⟨hN,hl⟩) fun k1 q1 Pb hq1=> ?_;exact .ok hq1
theorem w5{l jk:List b5}(hl:l.map ff=jk.map ff)(hne:l≠[]):(jk++[z]).tail=jk.tail++[z]∧l.tail.map ff=jk.tail.map ff:=by obtain⟨t,l,rfl⟩:=H3 hne;obtain⟨t',m',rfl,_,h⟩:=Lf hl;exact⟨rfl,h⟩
theorem amw(hz:oo z)(h:y3 z rc){p p':aj}(hp:fy z p p'):fz z (rK m rc p) (rK m rc p'):=by obtain @⟨N,N',l,jk,e,e',hN,hl⟩:=hp;unfold rK;simp only[fK,pO,AC];rw[UW (e:=e) (e':=e') (c:=2) hz hl (by decide) (by decide),UW (e:=e) (e':=e') (c:=1) hz hl (by decide) (by decide)];by_cases k2:(aq l e).Kind=2;·{have hne:=yh (l:=l) (e:=e) (by omega);have e2:((aq l e).Kind==2)=true:=by{simpa using k2};obtain⟨h1,h2,h3⟩:=xY (w4 (z:=z) (e:=e) (e':=e') hl hne);obtain⟨t1,t2⟩:=w5 (z:=z) hl hne;simp only[e2,if_true];rw[t1];exact RI (fun _=> .none) (qd hN) fun k=> .ok ⟨u7 hN (by simp only[fe,h3]),t2⟩};·have e2:((aq l e).Kind==2)=false:=by{simpa using k2};simp only[e2,Do,if_false];by_cases k1:(aq l e).Kind=1;·{have hne:=yh (l:=l) (e:=e) (by omega);have e1:((aq l e).Kind==1)=true:=by{simpa using k1};obtain⟨h1,h2,h3⟩:=xY (w4 (z:=z) (e:=e) (e':=e') hl hne);obtain⟨t1,t2⟩:=w5 (z:=z) hl hne;simp only[e1,if_true,eo,Option.bind_some];rw[t1,sS (e:=e) (e':=e') (s:=ByteArray.mk #[40]) hz t2 (.inl (by decide+kernel))];cases hP:bD (aq l.tail e) (ByteArray.mk #[40])with|true=>(obtain⟨t3,t4⟩:=w5 (z:=z) t2 (dI hP);simp only[if_true];rw[t3];refine fz.bind (h.g5 _ _ ⟨hN,t4⟩) fun ks q q' hq=> ?_;obtain @⟨az,y2,l1,m1,e1,qf,lQ,lR⟩:=hq;exact wZ (fun _=> .none) (qd lQ) fun k=> .ok ⟨u7 lQ (by simp only[fe,h2]),lR⟩)|false=>simp only[Bool.false_eq_true,if_false];exact RI (fun _=> .none) (qd hN) fun k=> .ok ⟨u7 hN (by simp only[fe,h2]),t2⟩};·have e1:((aq l e).Kind==1)=false:=by{simpa using k1};simp only[e1,Do,if_false,eo,AC];rw[sS (e:=e) (e':=e') (s:=GE #[40]) hz hl (.inl (by decide+kernel))];cases hP:bD (aq l e) (GE #[40])with|true=>(obtain⟨t3,t4⟩:=w5 (z:=z) hl (dI hP);simp only[if_true];rw[t3];refine fz.bind (h.g0 _ _ ⟨hN,t4⟩) fun k q q' hq=> ?_;obtain @⟨az,y2,l1,m1,e1,qf,lQ,lR⟩:=hq;exact X6 hz lQ lR fun cq Ki z1=> .ok z1)|false=>simp only[Do,if_false,s4];exact .av
theorem amu(hz:oo z)(h:y3 z rc){p p':aj}(hp:fy z p p'):fz z (rI m rc p) (rI m rc p'):=by unfold rI;refine fz.bind (h.g4 _ _ hp) fun k q q' hq=> ?_;refine Oh (aJ:=fun s s'=>s.1=s'.1∧fy z (aj.mk (bC.mk s.2.2.2) s.2.1 s.2.2.1) (aj.mk (bC.mk s'.2.2.2) s'.2.1 s'.2.2.1)) (jN:=fun _ _=>True) (fun s s' hS=> ?_) (fun _ _ _=> .none) ⟨rfl,hq⟩;obtain⟨k1,l,e,N⟩:=s;obtain⟨UQ,l',e',N'⟩:=s';obtain⟨h1,h2⟩:=hS;simp only at h1 h2;subst h1;have:∃jk,l'=jk++[z]∧N.map fe=N'.map fe∧l.map ff=jk.map ff:=by{generalize hp:aj.mk (bC.mk N) l e=p at h2;generalize hp':aj.mk (bC.mk N') l' e'=p' at h2;obtain @⟨M,M',a,b,c,d,hN,hl⟩:=h2;simp only[aj.mk.injEq,bC.mk.injEq]at hp hp';obtain⟨rfl,rfl,_⟩:=hp;obtain⟨rfl,rfl,_⟩:=hp';exact⟨b,rfl,hN,hl⟩};obtain⟨jk,rfl,hN,hl⟩:=this;show kI z _ _ (mJ rc k1 l e N) (mJ rc k1 (jk++[z]) e' N');unfold mJ;simp only[fK,eo,AC];rw[sS (e:=e) (e':=e') (s:=GE #[91]) hz hl (.inl (by decide+kernel))];cases hT:bD (aq l e) (GE #[91])with|true=>(obtain⟨t3,t4⟩:=w5 (z:=z) hl (dI hT);simp only[if_true];rw[t3];refine kI.bind (h.g0 _ _ ⟨hN,t4⟩) fun k q q' hq=> ?_;obtain @⟨az,y2,l1,m1,e1,qf,lQ,lR⟩:=hq;refine X7 hz lQ lR fun cq Ki z1=> ?_;obtain @⟨aT,apk,l2,m2,e2,Ex,B6,Jm⟩:=z1;exact wZ (fun _=> .none) (qd B6) fun k=> .mk ⟨rfl,⟨u7 B6 rfl,Jm⟩⟩)|false=>simp only[Do,if_false,mI,pO,AC,Ly];rw[sS (e:=e) (e':=e') (s:=GE #[43,43]) hz hl (.inl (by decide+kernel)),sS (e:=e) (e':=e') (s:=GE #[45,45]) hz hl (.inl (by decide+kernel))];split;·{rename_i fS;have hne:l≠[]:=by{rcases Bool.or_eq_true _ _▸fS with fS|fS;·{exact dI fS};·exact dI fS};obtain⟨t3,t4⟩:=w5 (z:=z) hl hne;obtain⟨h1,h2,h3⟩:=xY (w4 (z:=z) (e:=e) (e':=e') hl hne);rw[t3];exact wZ (fun _=> .none) (qd hN) fun k=> .mk ⟨rfl,⟨u7 hN (by simp only[fe,h2]),t4⟩⟩};·exact .mk ⟨rfl,⟨hN,hl⟩⟩
end
open Go Go.Proofs
section
variable{z:b5}{rc:bO}{m:Nat}
theorem fy.inv{p p':aj}(h:fy z p p'):∃jk,p'.l=jk++[z]∧p.bI.aV.map fe=p'.bI.aV.map fe∧p.l.map ff=jk.map ff:=by obtain @⟨M,M',a,b,c,d,hN,hl⟩:=h;exact⟨b,rfl,hN,hl⟩
theorem amx(hz:oo z)(h:y3 z rc){p p':aj}{n:Int}(hp:fy z p p'):fz z (nZ m rc p n) (nZ m rc p' n):=by unfold nZ;split;·{refine fz.bind (h.g2 _ _ hp) fun k q q' hq=> .ok hq};·refine fz.bind (h.g1 _ _ _ hp) fun k q q' hq=> ?_;obtain @⟨N,N',l,jk,e,e',hN,hl⟩:=hq;cases hx:idx gd n with|none=>(exact .none)|some x3=>obtain⟨x1,x2⟩:=ajf hx;simp only[AC];rw[nt x1,nt x1,AC,AC,J1 (e:=e) (e':=e') hz hl x2];refine Oh (aJ:=fun s s'=>s.1=s'.1∧s.2.1=s'.2.1∧((s.2.1.toList !=(GE #[]).toList)=true->s.2.2.1≠[])∧fy z (aj.mk (bC.mk s.2.2.2.2) s.2.2.1 s.2.2.2.1) (aj.mk (bC.mk s'.2.2.2.2) s'.2.2.1 s'.2.2.2.1)) (jN:=fun t t'=>t.1=t'.1∧fy z (aj.mk (bC.mk t.2.2.2) t.2.1 t.2.2.1) (aj.mk (bC.mk t'.2.2.2) t'.2.1 t'.2.2.1)) (fun s s' hS=> ?_) (fun t t' hT=> ?_) ⟨rfl,rfl,J2,⟨hN,hl⟩⟩;·{obtain⟨k1,w,l,e,N⟩:=s;obtain⟨UQ,w',l',e',N'⟩:=s';obtain⟨h1,h2,h3,h4⟩:=hS;simp only at h1 h2 h3 h4;subst h1;subst h2;obtain⟨jk,hm,hN,hl⟩:=h4.inv;simp only at hm hN hl;subst hm;show kI z _ _ (qv rc n k1 w l e N) (qv rc n k1 w (jk++[z]) e' N');unfold qv;split;·{rename_i fS;have hne:=h3 fS;obtain⟨t3,t4⟩:=w5 (z:=z) hl hne;simp only[pO,AC];rw[t3];have J:∀kd,kI z (fun s s'=>s.1=s'.1∧s.2.1=s'.2.1∧((s.2.1.toList !=(GE #[]).toList)=true->s.2.2.1≠[])∧fy z (aj.mk (bC.mk s.2.2.2.2) s.2.2.1 s.2.2.2.1) (aj.mk (bC.mk s'.2.2.2.2) s'.2.2.1 s'.2.2.2.1)) (fun t t'=>t.1=t'.1∧fy z (aj.mk (bC.mk t.2.2.2) t.2.1 t.2.2.1) (aj.mk (bC.mk t'.2.2.2) t'.2.1 t'.2.2.1)) (s6 rc n k1 w (aq l e,aL N l.tail e) kd) (s6 rc n k1 w (aq (jk++[z]) e',aL N' (jk.tail++[z]) e') kd):=fun kd=>by{unfold s6;refine kI.bind (h.g1 _ _ _ ⟨hN,t4⟩) fun k q q' hq=> ?_;obtain @⟨az,y2,l1,m1,e1,qf,lQ,lR⟩:=hq;refine wZ (fun _=> .none) (qd lQ) fun k=> ?_;rw[hx,AC,AC];simp only;rw[nt x1,nt x1,AC,AC,J1 (e:=e1) (e':=qf) hz lR x2];exact .mk ⟨rfl,rfl,J2,⟨u7 lQ rfl,lR⟩⟩};split;·{exact J 37};·exact J 36};·exact .mk ⟨rfl,⟨hN,hl⟩⟩};·obtain⟨k1,l,e,N⟩:=t;obtain⟨UQ,l',e',N'⟩:=t';obtain⟨h1,h2⟩:=hT;simp only at h1 h2;subst h1;exact .ok h2
theorem amy(hz:oo z)(h:y3 z rc)(hn:Qw rc){p p':aj}(hp:fy z p p'):fz z (yd m rc p (GE #[41])) (yd m rc p' (GE #[41])):=by unfold yd;refine Oh (aJ:=fun s s'=>s.1=s'.1∧s.2.2.2.2=s'.2.2.2.2∧fy z (aj.mk (bC.mk s.2.2.2.1) s.2.1 s.2.2.1) (aj.mk (bC.mk s'.2.2.2.1) s'.2.1 s'.2.2.1)) (jN:=fun t t'=>t.2.2.2=t'.2.2.2∧fy z (aj.mk (bC.mk t.2.2.1) t.1 t.2.1) (aj.mk (bC.mk t'.2.2.1) t'.1 t'.2.1)) (fun s s' hS=> ?_) (fun t t' hT=> ?_) ⟨rfl,rfl,hp⟩;·{obtain⟨b,l,e,N,ks⟩:=s;obtain⟨b',l',e',N',ks'⟩:=s';obtain⟨h1,h2,h3⟩:=hS;simp only at h1 h2 h3;subst h1;subst h2;obtain⟨jk,hm,hN,hl⟩:=h3.inv;simp only at hm hN hl;subst hm;show kI z _ _ (oM rc (GE #[41]) b l e N ks) (oM rc (GE #[41]) b (jk++[z]) e' N' ks);have J:∀(l1 m1:List b5),l1.map ff=m1.map ff->kI z (fun s s'=>s.1=s'.1∧s.2.2.2.2=s'.2.2.2.2∧fy z (aj.mk (bC.mk s.2.2.2.1) s.2.1 s.2.2.1) (aj.mk (bC.mk s'.2.2.2.1) s'.2.1 s'.2.2.1)) (fun t t'=>t.2.2.2=t'.2.2.2∧fy z (aj.mk (bC.mk t.2.2.1) t.1 t.2.1) (aj.mk (bC.mk t'.2.2.1) t'.1 t'.2.1)) (pR rc ks l1 e N) (pR rc ks (m1++[z]) e' N'):=fun l1 m1 lR=>by{unfold pR;refine kI.bind (h.g0 _ _ ⟨hN,lR⟩) fun k q q' hq=> ?_;cases ha:app ks [k]with|none=>(exact .none)|some x=>exact .mk ⟨rfl,rfl,hq⟩};by_cases hne:l=[];·{subst hne;unfold oM;rw[eo,AC,xN];simp only[Hn,if_true,Do,if_false];cases b with|false=>(simp only[Hn,if_true,kW,xN,Do,if_false,AC,an.on];exact .av)|true=>simp only[Hb,Do,if_false];unfold pR;have h0:=hn.n0 N e;intro a ha;cases hr:rc.eC (aL N [] e)with|none=>(rw[show rc.eC (aj.mk (bC.mk N) [] e)=none from hr]at ha;cases ha)|some x=>cases x with|ok q=>(exact absurd hr (h0 q.1 q.2))|av v w=>rw[show rc.eC (aj.mk (bC.mk N) [] e)=some (.av v w)from hr]at ha;exact .inl ⟨v,(Hk ha).symm⟩};·obtain⟨t3,t4⟩:=w5 (z:=z) hl hne;unfold oM;simp only[eo,AC];rw[sS (e:=e) (e':=e') (s:=GE #[41]) hz hl (.inr hne)];cases hT:bD (aq l e) (GE #[41])with|true=>(simp only[Hb,Do,if_false,if_true];rw[t3];exact .mk ⟨rfl,⟨hN,t4⟩⟩)|false=>simp only[Hn,if_true,Do,if_false];split;·{refine X7 hz hN hl fun q q' hq=> ?_;obtain⟨m1,e1,e2,bY⟩:=hq.inv;have:= @J q.l m1;obtain⟨⟨az⟩,l1,qf⟩:=q;obtain⟨⟨y2⟩,sV,aqa⟩:=q';simp only at e1 e2 bY;subst e1;unfold pR;refine kI.bind (h.g0 _ _ hq) fun k q q' hq=> ?_;cases ha:app ks [k]with|none=>(exact .none)|some x=>exact .mk ⟨rfl,rfl,hq⟩};·exact J l jk hl};·obtain⟨l,e,N,ks⟩:=t;obtain⟨l',e',N',ks'⟩:=t';obtain⟨h1,h2⟩:=hT;simp only at h1 h2;subst h1;exact .ok h2
theorem amt(hz:oo z):∀n,y3 z (bO.at n):=by intro n;induction n with|zero=>(exact⟨fun _ _ _=> .none,fun _ _ _ _=> .none,fun _ _ _=> .none,fun _ _ _=> .none,fun _ _ _=> .none,fun _ _ _=> .none⟩)|succ n ih=>exact⟨fun _ _ hp=>amv (m:=n) hz ih hp,fun _ _ _ hp=>amx (m:=n) hz ih hp,fun _ _ hp=>ams (m:=n) hz ih hp,fun _ _ hp=>amu (m:=n) hz ih hp,fun _ _ hp=>amw (m:=n) hz ih hp,fun _ _ hp=>amy (m:=n) hz ih (ajY n) hp⟩
end
end Go.Ab
namespace Go.Ab.Tk
open Go
theorem Sg{a b:ByteArray}(h:a.size+b.size<=9000000000000000000):vf a b=some (aW (bS a++bS b)):=by unfold vf;rw[if_pos (by omega)];have h1:∀s t:ByteArray,bS s=bS t->s=t:=fun s t h=>by{rw[<-xV s,<-xV t,h]};have h2:a++b=aW (bS a++bS b):=by{apply h1;rw[Sa];unfold bS;rw[ByteArray.data_append];simp};rw[h2]
def wH(x:UInt8):Bool:=ch x==32||ch x==10
theorem P0:wH 10=true:=by decide
theorem Xu{l:aS}{k:Nat}(hk:bR cW l=k)(h1:fo 47 47 (l.drop k)=false)(h2:fo 47 42 (l.drop k)=false):cX l=(k,true):=by unfold cX nC;rw[hk,h1,h2];rfl
theorem aoi:∀x,(!wH x||(!de x&&cW x&& !(jE++(bW++bK)).any fun g=>g.contains x))=true:=w6 (by decide+kernel)
theorem P1{x:UInt8}(h:wH x=true):de x=false∧cW x=true∧∀g∈jE++(bW++bK),g.contains x=false:=by have:=aoi x;rw[h]at this;simp only[Hb,Bool.false_or,Nm,Bool.not_eq_true']at this;obtain⟨⟨h1,h2⟩,h3⟩:=this;exact⟨h1,h2,fun g hg=>by have:=List.any_eq_false.1 h3 g hg;simpa using this⟩
theorem P8{x:UInt8}(hx:de x=false)(s:aS):∀r:aS,(r++x::s).takeWhile de=r.takeWhile de|[]=>by{rw[PH,If,hx];rfl}|c::r=>by rw[Hd,If,If,P8 hx s r]
theorem Ml{G:List aS}{k:Nat}{x:UInt8}(dZ:∀g∈G,g.contains x=false)(r s:aS):nL G k (r++x::s)=nL G k r:=by unfold nL;by_cases hk:k<=r.length;·{have h1:k<=(r++x::s).length:=by{simp;omega};rw[List.take_append_of_le_length hk,decide_eq_true hk,decide_eq_true h1]};·have h2:G.contains ((r++x::s).take k)=false:=by{rw[Bool.eq_false_iff];intro hc;have:=dZ _ (List.contains_iff_mem.1 hc);rw[List.take_append]at this;obtain⟨m,hm⟩:∃m,k-r.length=m+1:=⟨k-r.length-1,by omega⟩;rw[hm,List.take_succ_cons]at this;simp at this};rw[h2,decide_eq_false hk,H4];rfl
theorem anZ{x:UInt8}(hx:wH x=true)(r s:aS):qH (r++x::s)=qH r:=by have h:=(P1 hx).2.2;unfold qH;rw[Ml (fun g hg=>h g (by simp[hg])),Ml (fun g hg=>h g (by simp[hg])),Ml (fun g hg=>h g (by simp[hg]))]
theorem amd{r:aS}{n:Int}{k:Nat}(h:l7 r=some (n,k))(s:aS):l7 (r++s)=some (n,k):=by match r with|[]=>(cases h)|[_]=>(cases h)|[_,_]=>(cases h)|[a,b,c]=>(simp only[l7]at h;split at h;·{rename_i hc;show l7 (a::b::c::s)=_;simp only[l7,hc,if_true];exact h};·cases h)|a::b::c::d::r=>show l7 (a::b::c::d::(r++s))=_;simp only[l7]at h|-;exact h
theorem ajK{a:UInt8}{t:aS}{x:UInt8}(hx:wH x=true)(s:aS){y:Int×Nat×Int}(h:kR (a::t)= .inl y):kR (a::t++x::s)= .inl y:=by have hb:=(P1 hx).1;rw[Hd];rw[CJ]at h|-;have e:(a::(t++x::s)).takeWhile de=(a::t).takeWhile de:=P8 hb s (a::t);rw[e];split at h;·{rename_i hl;rw[if_pos hl];exact h};·rename_i hl;rw[if_neg hl];split at h;·{rename_i hd;rw[if_pos hd];exact h};·rename_i hd;rw[if_neg hd];split at h;·{rename_i hq;rw[if_pos hq];split at h;·{rename_i n k Nz;have:=amd Nz (x::s);rw[Hd]at this;rw[this];exact h};·cases h};·rename_i hq;rw[if_neg hq];have:=anZ hx (a::t) s;rw[Hd]at this;rw[this];exact h
theorem ajL{a:UInt8}{t:aS}{x:UInt8}(hx:wH x=true)(s:aS){e:Int}(he:e≠1)(h:kR (a::t)= .inr e):kR (a::t++x::s)= .inr e:=by have hb:=(P1 hx).1;rw[Hd];rw[CJ]at h|-;have e1:(a::(t++x::s)).takeWhile de=(a::t).takeWhile de:=P8 hb s (a::t);rw[e1];split at h;·{rename_i hl;rw[if_pos hl];exact h};·rename_i hl;rw[if_neg hl];split at h;·{rename_i hd;rw[if_pos hd];exact h};·rename_i hd;rw[if_neg hd];split at h;·{split at h;·{cases h};·simp only[PP]at h;exact absurd h.symm he};·split at h;·{cases h};·simp only[PP]at h;exact absurd h.symm he
theorem PX{p:UInt8->Bool}:∀{q:aS}(s:aS),q.all p=true->bR p (q++s)=q.length+bR p s|[],s,_=>by{simp}|c::q,s,h=>by simp only[List.all_cons,Nm]at h;rw[Hd,qI,h.1,if_pos rfl,PX s h.2,H0];omega
theorem Ky{p:UInt8->Bool}:∀{q:aS}(s s':aS),bR p (q++s)<q.length->bR p (q++s')=bR p (q++s)|[],_,_,h=>by{simp at h}|c::q,s,s',h=>by rw[Hd,qI]at h|-;rw[Hd,qI];cases hc:p c with|false=>(rfl)|true=>rw[hc,if_pos rfl,H0]at h;rw[if_pos rfl,if_pos rfl,Ky s s' (by omega)]
theorem PZ{p:UInt8->Bool}:∀(l:aS),(l.take (bR p l)).all p=true|[]=>by{simp[bR]}|c::l=>by rw[qI];cases hc:p c with|false=>(simp)|true=>simp[hc,PZ l]
theorem PY{p:UInt8->Bool}:∀{l:aS}{c:UInt8}{t:aS},l.drop (bR p l)=c::t->p c=false|[],c,t,h=>by{simp[bR]at h}|x::l,c,t,h=>by rw[qI]at h;cases hx:p x with|true=>(rw[hx,if_pos rfl,List.drop_succ_cons]at h;exact PY h)|false=>rw[hx,if_neg (by simp),List.drop_zero]at h;simp only[H2]at h;rw[<-h.1];exact hx
theorem SQ:∀{x:aS}{y y':aS}{i:Nat},lg (x++y)=some i->i+2<=x.length->lg (x++y')=some i|[],_,_,_,_,h=>by{simp at h}|[_],_,_,_,_,h=>by{simp at h}|c::d::x,y,y',i,h,hl=>by simp only[Hd]at h|-;unfold lg at h|-;split at h;·{rename_i hc;rw[if_pos hc];exact h};·rename_i hc;rw[if_neg hc];simp only[Option.map_eq_some_iff]at h|-;obtain⟨j,hj,rfl⟩:=h;exact⟨j,by have:=SQ (x:=d::x) (y:=y) (y':=y') (i:=j) (by simpa using hj) (by simp at hl|-;omega);simpa using this,rfl⟩
theorem O5{a b:Int}{q:aS}(s s':aS)(h:2<=q.length):fo a b (q++s)=fo a b (q++s'):=by match q,h with|c::d::q,_=>rfl
theorem zl{q s:aS}{k:Nat}(h:k<=q.length):(q++s).drop k=q.drop k++s:=List.drop_append_of_le_length h
theorem Xr(l:aS)(n:Nat)(h:l.length<n):nC n l=cX l:=an3 _ _ _ h (H1 _)
theorem A5(l:aS):cX l=(let k:=bR cW l;let r:=l.drop k;
  if fo 47 47 r then(k+bR gV r+(cX (r.drop (bR gV r))).1,(cX (r.drop (bR gV r))).2)
  else if fo 47 42 r then(match lg (r.drop 2)with
   |none=>(k,false)
   |some i=>(k+(i+4)+(cX (r.drop (i+4))).1,(cX (r.drop (i+4))).2))
  else(k,true)):=by
 have k1:=pW cW l
 conv=>lhs;unfold cX nC
 simp only
 cases hp:fo 47 47 (l.drop (bR cW l))with
 |true=>
  have :=F6 hp
  have k2:=pW gV (l.drop (bR cW l))
  rw[GT]at k2
  simp only[if_true]
  rw[Xr _ _ (by simp only[GT];omega)]
 |false=>
  simp only[Do,if_false]
  cases nP:fo 47 42 (l.drop (bR cW l))with
  |false=>rfl
  |true=>
   simp only[if_true]
   cases he:lg ((l.drop (bR cW l)).drop 2)with
   |none=>rfl
   |some i=>
    have h3:=EA he
    simp only[GT]at h3
    simp only
    rw[Xr _ _ (by simp only[GT];omega)]
theorem Xt{q:aS}(s:aS)(hq:q.all cW=true):cX (q++s)=(q.length+(cX s).1,(cX s).2):=by rw[A5 (q++s),A5 s,PX s hq];have hd:(q++s).drop (q.length+bR cW s)=s.drop (bR cW s):=by{rw[<-PQ];simp};simp only[hd];split;·{simp only[Ha,and_true];omega};·split;·{cases lg ((s.drop (bR cW s)).drop 2)with|none=>(rfl)|some i=>simp only[Ha,and_true];omega};·rfl
theorem Xs:∀n(q r' s:aS),q.length<n->cX (q++r')=(q.length,true)->(r'≠[]∨∃s',s=10::s')->cX (q++s)=(q.length+(cX s).1,(cX s).2):=by intro n;induction n with|zero=>(intro q r' s h;omega)|succ n ih=>intro q r' s hn gI iK;rw[A5]at gI;simp only at gI;generalize hk:bR cW (q++r')=k at gI;cases hp:fo 47 47 ((q++r').drop k)with|true=>(rw[hp]at gI;simp only[if_true,Ha]at gI;obtain⟨hq,ho⟩:=gI;generalize hj:bR gV ((q++r').drop k)=j at hq ho;have hj0:=F6 hp;rw[hj]at hj0;have hj2:2<=j:=by{cases hd:(q++r').drop k with|nil=>(rw[hd]at hp;cases hp)|cons c t=>cases t with|nil=>(rw[hd]at hp;cases hp)|cons d t=>rw[hd]at hp hj;simp only[fo,Bool.and_eq_true,beq_iff_eq]at hp;have h1:gV c=true:=by{unfold gV;rw[hp.1];rfl};have h2:gV d=true:=by{unfold gV;rw[hp.2];rfl};rw[qI,h1,if_pos rfl,qI,h2,if_pos rfl]at hj;omega};have ahg:k+j<=q.length:=by{omega};have Nl:bR cW (q++s)=k:=by{rw[Ky r' s (by omega),hk]};have Fi:∀y,(q++y).drop k=q.drop k++y:=fun y=>zl (by omega);rw[Fi]at hp hj ho hq;have q5:∀y,(q.drop k++y).drop j=q.drop (k+j)++y:=fun y=>by{rw[zl (by rw[List.length_drop];omega),vh]};rw[q5]at ho hq;have ahD:(q.drop (k+j)).length=q.length-(k+j):=List.length_drop;have FC:cX (q.drop (k+j)++r')=((q.drop (k+j)).length,true):=by{refine Prod.ext ?_ ho;show(cX (q.drop (k+j)++r')).1=_;omega};have Cg:bR gV (q.drop k++s)=j:=by{rcases Nat.lt_or_ge j (q.drop k).length with hlt|hge;·{rw[Ky r' s (by rw[hj];exact hlt),hj]};·have he:j=(q.drop k).length:=by{rw[List.length_drop]at hge|-;omega};have hall:(q.drop k).all gV=true:=by{have:=PZ (p:=gV) (q.drop k++r');rw[hj,he,List.take_left']at this;·{exact this};·rfl};have Um:q.drop (k+j)=[]:=List.drop_eq_nil_of_le (by rw[List.length_drop]at he;omega);rw[PX s hall];rcases iK with hr|⟨s',rfl⟩;·{exfalso;cases hr':r' with|nil=>(exact hr hr')|cons c t=>have h1:gV c=false:=PY (l:=q.drop k++r') (t:=t) (by rw[hj,q5,Um,hr'];rfl);rw[Um,hr',List.nil_append]at FC;have hc:cW c=true:=by{unfold gV at h1;have:ch c=10:=by{simpa using h1};unfold cW;rw[this];rfl};have h2:=congrArg Prod.fst FC;rw[A5]at h2;simp only[List.length_nil]at h2;rw[qI,hc,if_pos rfl]at h2;split at h2;·{simp only at h2;omega};·split at h2;·{split at h2<;>(simp only at h2;omega)};·simp only at h2;omega};·have:bR gV (10::s')=0:=by{rw[qI];rfl};rw[this];omega};rw[A5 (q++s),Nl];simp only[Fi];rw[<-O5 r' s (by rw[List.length_drop];omega),hp,Cg,q5];simp only[if_true];rw[ih (q.drop (k+j)) r' s (by omega) FC iK];simp only[Prod.mk.injEq,and_true];omega)|false=>rw[hp]at gI;simp only[Do,if_false]at gI;cases nP:fo 47 42 ((q++r').drop k)with|false=>(rw[nP]at gI;simp only[Do,if_false,Ha,and_true]at gI;refine Xt s ?_;have:=PZ (p:=cW) (q++r');rw[hk,gI,List.take_left' rfl]at this;exact this)|true=>rw[nP]at gI;simp only[if_true]at gI;cases he:lg (((q++r').drop k).drop 2)with|none=>(rw[he]at gI;simp at gI)|some i=>rw[he]at gI;simp only[Ha]at gI;obtain⟨hq,ho⟩:=gI;have ahg:k+(i+4)<=q.length:=by{omega};have Nl:bR cW (q++s)=k:=by{rw[Ky r' s (by omega),hk]};have Fi:∀y,(q++y).drop k=q.drop k++y:=fun y=>zl (by omega);have ahD:(q.drop k).length=q.length-k:=GT;have q5:∀y,(q.drop k++y).drop (i+4)=q.drop (k+(i+4))++y:=fun y=>by{rw[zl (by omega),vh]};have M3:∀y,(q.drop k++y).drop 2=q.drop (k+2)++y:=fun y=>by{rw[zl (by omega),vh]};rw[Fi]at hp nP he ho hq;rw[q5]at ho hq;rw[M3]at he;have ari:(q.drop (k+(i+4))).length=q.length-(k+(i+4)):=GT;have FC:cX (q.drop (k+(i+4))++r')=((q.drop (k+(i+4))).length,true):=by{refine Ix ?_ ho;show(cX (q.drop (k+(i+4))++r')).1=_;omega};have xA:lg (q.drop (k+2)++s)=some i:=SQ he (by rw[GT];omega);rw[A5 (q++s),Nl];simp only[Fi];rw[<-O5 r' s (by omega),hp,<-O5 r' s (by omega),nP,M3,xA];simp only[Do,if_false,if_true];rw[q5,ih (q.drop (k+(i+4))) r' s (by omega) FC iK];simp only[Ha,and_true];omega
theorem an5:∀n(l:aS),l.length<n->∀k,cX l=(k,true)->(match l.drop k with|[]=>True|c::t=>cW c=false∧fo 47 47 (c::t)=false∧fo 47 42 (c::t)=false):=by intro n;induction n with|zero=>(intro l h;omega)|succ n ih=>intro l hn k h;rw[A5]at h;simp only at h;have k1:=pW cW l;cases hp:fo 47 47 (l.drop (bR cW l))with|true=>(rw[hp]at h;simp only[if_true,Ha]at h;have hj:=F6 hp;have:=ih ((l.drop (bR cW l)).drop (bR gV (l.drop (bR cW l)))) (by have:=O7 hp;simp only[GT]at this|-;omega) _ (Ix rfl h.2);rw[vh,vh,<-Nat.add_assoc,h.1]at this;exact this)|false=>rw[hp]at h;simp only[Do,if_false]at h;cases nP:fo 47 42 (l.drop (bR cW l))with|true=>(rw[nP]at h;simp only[if_true]at h;cases he:lg ((l.drop (bR cW l)).drop 2)with|none=>(rw[he]at h;simp at h)|some i=>rw[he]at h;simp only[Ha]at h;have:=ih ((l.drop (bR cW l)).drop (i+4)) (by have:=O7 nP;simp only[GT]at this|-;omega) _ (Ix rfl h.2);rw[vh,vh,<-Nat.add_assoc,h.1]at this;exact this)|false=>rw[nP]at h;simp only[Do,if_false,Ha,and_true]at h;subst h;cases hd:l.drop (bR cW l)with|nil=>(trivial)|cons c t=>rw[hd]at hp nP;exact⟨PY hd,hp,nP⟩
theorem an6{l:aS}{k:Nat}{c:UInt8}{t:aS}(h:cX l=(k,true))(hd:l.drop k=c::t):cW c=false∧fo 47 47 (c::t)=false∧fo 47 42 (c::t)=false:=by have:=an5 _ l (H1 _) k h;rw[hd]at this;exact this
theorem Wl{a b:Int}{c:UInt8}{t:aS}{x:UInt8}(hx:wH x=true)(hb:b=47∨b=42)(h:fo a b (c::t)=false)(s:aS):fo a b (c::t++x::s)=false:=by cases t with|nil=>(have NR:(ch x==b)=false:=by{unfold wH at hx;simp only[Bool.or_eq_true,beq_iff_eq]at hx;rw[beq_eq_false_iff_ne];omega};simp[fo,NR])|cons d t=>exact h
theorem an4{c:UInt8}{t:aS}(h:cW c=false∧fo 47 47 (c::t)=false∧fo 47 42 (c::t)=false):cX (c::t)=(0,true):=Xu (by rw[qI,h.1];rfl) h.2.1 h.2.2
theorem an7{r:aS}{k:Nat}{c:UInt8}{t:aS}(h:cX r=(k,true))(hd:r.drop k=c::t){x:UInt8}(hx:wH x=true)(s:aS):cX (r++x::s)=(k,true):=by
 have hr:=an6 h hd
 have hk:k<=r.length:=by
  have :=PV (r.length+1) r
  change(cX r).1<=_ at this
  rw[h]at this;exact this
 have hq:(r.take k).length=k:=by rw[List.length_take];omega
 have e:r=r.take k++(c::t):=by rw[<-hd,List.take_append_drop]
 have h1:=Xs _ (r.take k) (c::t) (c::t++x::s) (H1 _) (by rw[<-e,hq];exact h) (.inl (Pi _ _))
 have h2:cX (c::t++x::s)=(0,true):=an4 (t:=t++x::s) ⟨hr.1,Wl hx (.inl rfl) hr.2.1 s,Wl hx (.inr rfl) hr.2.2 s⟩
 have e2:r.take k++(c::t++x::s)=r++x::s:=by
  conv=>rhs;rw[e]
  simp
 rw[e2,h2,hq]at h1
 exact h1
theorem aiA:cW 10=true:=by decide
theorem an2{r:aS}(h:cX r=(r.length,true))(s:aS):cX (r++10::s)=(r.length+1+(cX s).1,(cX s).2):=by have h1:=Xs _ r [] (10::s) (H1 _) (by rw[Kd];exact h) (.inr ⟨s,rfl⟩);have h2:cX (10::s)=(1+(cX s).1,(cX s).2):=Xt (q:=[10]) s (by simp[aiA]);rw[h1,h2];simp only[Ha,and_true];omega
theorem anI:∀n m p out l,l.length<n->l.length<m->cN n p out l=cN m p out l:=by intro n;induction n with|zero=>(intro m p out l h;omega)|succ n ih=>intro m p out l h1 h2;cases m with|zero=>(omega)|succ m=>unfold cN;split;·{rfl};·split;·{rfl};·rename_i hne;split;·{rfl};·split;·{rfl};·rename_i kd j q hN;have vI:l.drop (cX l).1≠[]:=fun h=>hne (by rw[h];rfl);have hj:=CL vI hN;rw[GT]at hj;exact ih m _ _ _ (by simp only[GT];omega) (by simp only[GT];omega)
theorem anN{b:aS}{N:Nat}(hb:b.length<N):∀n p out r,r.length<n->∀m,(r++10::b).length<m->
  ((cN n p out r).2.Code=0->cN m p out (r++10::b)=cN N (p+r.length+1) (cN n p out r).1 b)∧
  ((cN n p out r).2.Code≠0->(cN n p out r).2.Code≠1->(cN m p out (r++10::b)).2=(cN n p out r).2):=by
 intro n
 induction n with
 |zero=>intro p out r h;omega
 |succ n ih=>
  intro p out r hn m hm
  cases m with
  |zero=>omega
  |succ m=>
   have hk:=PV (r.length+1) r
   change(cX r).1<=_ at hk
   generalize gI:cX r=sk at hk
   obtain⟨k,ok⟩:=sk
   simp only at hk
   cases ok with
   |false=>
    have e:cN (n+1) p out r=([],⟨1,((p+k:Nat):Int)⟩):=by unfold cN;rw[gI];rfl
    rw[e]
    exact⟨fun h=>absurd h (by simp),fun _ h=>absurd rfl h⟩
   |true=>
    cases hd:r.drop k with
    |nil=>
     have Ch:k=r.length:=by
      have :=congrArg H5 hd
      rw[GT,Ps]at this;omega
     subst Ch
     have e:cN (n+1) p out r=(out,⟨0,0⟩):=by
      unfold cN
      rw[gI]
      simp[hd]
     rw[e]
     refine⟨fun _=> ?_,fun h=>absurd rfl h⟩
     cases N with
     |zero=>omega
     |succ N=>
      rw[anI (N+1) (m+1) _ _ b hb (by simp at hm;omega)]
      have z6:=an2 gI b
      have agS:(r++10::b).drop (r.length+1+(cX b).1)=b.drop (cX b).1:=by
       rw[show r.length+1+(cX b).1=r.length+(1+(cX b).1)by omega,<-PQ]
       simp[Nat.add_comm 1]
      have ahB:p+(r.length+1+(cX b).1)=p+r.length+1+(cX b).1:=by omega
      simp only
      conv=>lhs;unfold cN
      conv=>rhs;unfold cN
      rw[z6]
      simp only[agS,ahB]
    |cons c t=>
     have hst:=an7 gI hd P0 b
     have Ch:k<r.length:=by
      have :=congrArg H5 hd
      rw[GT,H0]at this;omega
     have pz:(r++10::b).drop k=c::t++10::b:=by rw[zl hk,hd]
     have Fv:¬((c::t).length=0):=by simp
     have lz:¬((c::t++10::b).length=0):=by simp
     by_cases h8:out.length=800
     ·have e1:cN (n+1) p out r=([],⟨10,((p+k:Nat):Int)⟩):=by
       unfold cN;rw[gI];simp only[hd,Hb,Do,if_false,if_neg Fv,if_pos h8]
      have e2:cN (m+1) p out (r++10::b)=([],⟨10,((p+k:Nat):Int)⟩):=by
       unfold cN;rw[hst];simp only[pz,Hb,Do,if_false,if_neg lz,if_pos h8]
      rw[e1,e2]
      exact⟨fun h=>absurd h (by simp),fun _ _=>rfl⟩
     ·cases hN:kR (c::t)with
      |inr e=>
       have e1:cN (n+1) p out r=([],⟨e,((p+k:Nat):Int)⟩):=by
        unfold cN;rw[gI];simp only[hd,Hb,Do,if_false,if_neg Fv,if_neg h8,hN]
       rw[e1]
       have he:=CK hN
       refine⟨fun h=>by simp only at h;omega,fun _ h1=> ?_⟩
       have B6:=ajL P0 b h1 hN
       unfold cN;rw[hst];simp only[pz,Hb,Do,if_false,if_neg lz,if_neg h8,B6]
      |inl y=>
       obtain⟨kd,j,w⟩:=y
       have hj:=CL (Pi c t) hN
       have B6:=ajK P0 b hN
       have gm:(c::t).length=r.length-k:=by rw[<-hd,GT]
       have ht:(c::t++10::b).take j=(c::t).take j:=List.take_append_of_le_length hj.2
       have Na:(c::t++10::b).drop j=(c::t).drop j++10::b:=zl hj.2
       have e1:cN (n+1) p out r=cN n (p+k+j) (out++[⟨kd,aW ((c::t).take j),w,((p+k:Nat):Int)⟩]) ((c::t).drop j):=by
        conv=>lhs;unfold cN
        rw[gI];simp only[hd,Hb,Do,if_false,if_neg Fv,if_neg h8,hN]
       have e2:cN (m+1) p out (r++10::b)=cN m (p+k+j) (out++[⟨kd,aW ((c::t).take j),w,((p+k:Nat):Int)⟩]) ((c::t).drop j++10::b):=by
        conv=>lhs;unfold cN
        rw[hst];simp only[pz,Hb,Do,if_false,if_neg lz,if_neg h8,B6,ht,Na]
       rw[e1,e2]
       have :=ih (p+k+j) (out++[⟨kd,aW ((c::t).take j),w,((p+k:Nat):Int)⟩]) ((c::t).drop j) (by rw[GT];omega) m (by
        simp only[Lk,GT,H0]at hm gm|-;omega)
       have el:p+k+j+((c::t).drop j).length=p+r.length:=by rw[GT];omega
       rw[el]at this
       exact this
theorem anQ:∀n p out l,l.length<n->out≠[]->(cN n p out l).2.Code=0->(cN n p out l).1≠[]:=by intro n;induction n with|zero=>(intro p out l h;omega)|succ n ih=>intro p out l hn ho;unfold cN;split;·{intro h;exact absurd h (by simp)};·split;·{intro _;exact ho};·rename_i hne;split;·{intro h;exact absurd h (by simp)};·split;·{rename_i e hN;have:=CK hN;intro h;simp only at h;omega};·rename_i kd j q hN;have vI:l.drop (cX l).1≠[]:=fun h=>hne (by rw[h];rfl);have hj:=CL vI hN;rw[GT]at hj;exact ih _ _ _ (by simp only[GT];omega) (by simp)
def rT(D:Nat)(t:Tok):Tok:=⟨t.Kind,t.Text,t.N,t.aQ+(D:Int)⟩
theorem Xk(D:Nat)(T:List Tok):∀n p out l,l.length<n->
  ((cN n p out l).2.Code=0->T.length+(cN n p out l).1.length<=800->cN n (p+D) (T++out.map (rT D)) l=(T++(cN n p out l).1.map (rT D),⟨0,0⟩))∧
  ((cN n p out l).2.Code≠0∨800<T.length+(cN n p out l).1.length->T.length+out.length<=800->(cN n (p+D) (T++out.map (rT D)) l).2.Code≠0):=by
 intro n
 induction n with
 |zero=>intro p out l h;omega
 |succ n ih=>
  intro p out l hn
  generalize gI:cX l=sk
  obtain⟨k,ok⟩:=sk
  cases ok with
  |false=>
   have e:∀p out,cN (n+1) p out l=([],⟨1,((p+k:Nat):Int)⟩):=fun p out=>by unfold cN;rw[gI];rfl
   rw[e,e]
   exact⟨fun h=>absurd h (by simp),fun _ _=>by simp⟩
  |true=>
   by_cases hz:(l.drop k).length=0
   ·have e:∀p out,cN (n+1) p out l=(out,⟨0,0⟩):=fun p out=>by unfold cN;rw[gI];simp only[Hb,Do,if_false,if_pos hz]
    rw[e,e]
    refine⟨fun _ _=>rfl,fun h h2=> ?_⟩
    rcases h with h|h
    ·exact absurd rfl h
    ·simp only at h;omega
   ·have vI:l.drop k≠[]:=fun h=>hz (by rw[h];rfl)
    have II:∀p out,out.length=800->cN (n+1) p out l=([],⟨10,((p+k:Nat):Int)⟩):=fun p out h8=>by unfold cN;rw[gI];simp only[Hb,Do,if_false,if_neg hz,if_pos h8]
    cases hN:kR (l.drop k)with
    |inr e=>
     have he:=CK hN
     have ee:∀p out,(cN (n+1) p out l).2.Code≠0:=fun p out=>by
      by_cases h8:out.length=800
      ·rw[II p out h8];simp
      ·unfold cN;rw[gI];simp only[Hb,Do,if_false,if_neg hz,if_neg h8,hN];omega
     exact⟨fun h=>absurd h (ee _ _),fun _ _=>ee _ _⟩
    |inl y=>
     obtain⟨kd,j,w⟩:=y
     have hj:=CL vI hN
     rw[GT]at hj
     have e1:∀p out,out.length≠800->cN (n+1) p out l=cN n (p+k+j) (out++[⟨kd,aW ((l.drop k).take j),w,((p+k:Nat):Int)⟩]) ((l.drop k).drop j):=fun p out h8=>by
      conv=>lhs;unfold cN
      rw[gI];simp only[Hb,Do,if_false,if_neg hz,if_neg h8,hN]
     have hge:∀n p out l,out.length<=(cN n p out l).1.length∨(cN n p out l).1=[]:=by
      intro n
      induction n with
      |zero=>intro p out l;exact .inr rfl
      |succ n ih2=>
       intro p out l
       unfold cN
       split
       ·exact .inr rfl
       ·split
        ·exact .inl (Nat.le_refl _)
        ·split
         ·exact .inr rfl
         ·split
          ·exact .inr rfl
          ·rename_i vT j' w' _
           rcases ih2 (p+(cX l).1+j') (out++[⟨vT,aW ((l.drop (cX l).1).take j'),w',((p+(cX l).1:Nat):Int)⟩]) ((l.drop (cX l).1).drop j')with h|h
           ·exact .inl (by rw[Lk,QP]at h;omega)
           ·exact .inr h
     by_cases h8:out.length=800
     ·rw[II p out h8]
      refine⟨fun h=>absurd h (by simp),fun _ h2=> ?_⟩
      have hT:T=[]:=List.length_eq_zero_iff.1 (by omega)
      subst hT
      rw[PH,II _ _ (by rw[List.length_map];exact h8)];simp
     ·rw[e1 p out h8]
      have hi:=ih (p+k+j) (out++[⟨kd,aW ((l.drop k).take j),w,((p+k:Nat):Int)⟩]) ((l.drop k).drop j) (by simp only[GT];omega)
      by_cases h9:(T++out.map (rT D)).length=800
      ·rw[II _ _ h9]
       refine⟨fun hc hl=> ?_,fun _ _=>by simp⟩
       exfalso
       simp at h9
       rcases hge n (p+k+j) (out++[⟨kd,aW ((l.drop k).take j),w,((p+k:Nat):Int)⟩]) ((l.drop k).drop j)with h|h
       ·rw[Lk,QP]at h
        omega
       ·exact anQ n _ _ _ (by simp only[GT];omega) (by simp) hc h
      ·rw[e1 _ _ h9]
       have em:T++out.map (rT D)++[(⟨kd,aW ((l.drop k).take j),w,((p+D+k:Nat):Int)⟩:Tok)]=T++(out++[(⟨kd,aW ((l.drop k).take j),w,((p+k:Nat):Int)⟩:Tok)]).map (rT D):=by
        rw[IH,List.append_assoc]
        congr 2
        show _=[rT D _]
        unfold rT
        simp only[H2,and_true,bu.mk.injEq,true_and]
        omega
       have aea:p+D+k+j=p+k+j+D:=by omega
       rw[em,aea]
       refine⟨hi.1,fun h h2=>hi.2 h ?_⟩
       simp at h9|-;omega
theorem anP:∀n p q out out' l,l.length<n->(cN n p out l).2.Code=0->out.length<=out'.length->(cN n q out' l).2.Code=0∨(cN n q out' l).2.Code=10:=by intro n;induction n with|zero=>(intro p q out out' l h;omega)|succ n ih=>intro p q out out' l hn h ho;unfold cN at h|-;split;·{rename_i h1;rw[if_pos h1]at h;simp at h};·rename_i h1;rw[if_neg h1]at h;split;·{exact .inl rfl};·rename_i h2;rw[if_neg h2]at h;split;·{exact .inr rfl};·split at h;·{simp at h};·split;·{rename_i e he;rw[he]at h;have:=CK he;simp only at h;omega};·rename_i kd j m he;rw[he]at h;have vI:l.drop (cX l).1≠[]:=fun hx=>h2 (by rw[hx];rfl);have hj:=CL vI he;rw[GT]at hj;exact ih _ _ _ _ _ (by simp only[GT];omega) h (by simp;omega)
end Go.Ab.Tk
namespace Go.Ab
open Go Go.Proofs
/-! ### The words of a text in brackets -/
def HB(p:Nat):b5:=⟨4,Tk.aW [41],0,(p:Int)⟩
def iN:b5:=⟨4,Tk.aW [40],0,0⟩
theorem UK(p:Nat):oo (HB p):=⟨rfl,rfl⟩
theorem anM{L:Tk.aS}(hL:L.length<=1900){ts:List b5}(h:Tk.nB L=(ts,⟨0,0⟩)):(∃p,Tk.nB (40::(L++10::[41]))=(iN::(ts.map (Tk.rT 1)++[HB p]),⟨0,0⟩))∨(Tk.nB (40::(L++10::[41]))).2.Code=10:=by have hlen:(40::(L++10::[41]):Tk.aS).length=L.length+3:=by{simp};have hs0:Tk.cN (L.length+1) 0 [] L=(ts,⟨0,0⟩):=by{unfold Tk.nB at h;rw[if_neg (by simp;omega)]at h;exact h};have h8:ts.length<=800:=by{have:=Tk.Xj L;rw[h]at this;exact this};have e1:Tk.nB (40::(L++10::[41]))=Tk.cN (L.length+3) 1 [iN] (L++10::[41]):=by{unfold Tk.nB;rw[if_neg (by simp only[decide_eq_true_eq];omega),hlen];have hk:Tk.cX (40::(L++10::[41]))=(0,true):=by{refine Tk.Xu (k:=0) ?_ ?_ ?_;·{unfold Tk.bR;rw[List.takeWhile_cons,if_neg (by decide)];rfl};·{show Tk.fo 47 47 (40::(L++10::[41]))=false;unfold Tk.fo;cases L<;>rfl};·show Tk.fo 47 42 (40::(L++10::[41]))=false;unfold Tk.fo;cases L<;>rfl};have hn:Tk.kR (40::(L++10::[41]))= .inl (4,1,0):=by{rw[Tk.CJ];rw[if_neg (by decide),if_neg (by decide),if_neg (by decide)];have:Tk.qH (40::(L++10::[41]))=some [40]:=by{have hno:∀(G:List Tk.aS)(y:Tk.aS),(G.all fun g=>g.head? !=some 40)=true->G.contains (40::y)=false:=fun G y dZ=>by{rw[<-Bool.not_eq_true,List.contains_iff_mem];intro hm;have:=List.all_eq_true.1 dZ _ hm;simp at this};have g3:Tk.nL Tk.jE 3 (40::(L++10::[41]))=none:=if_neg fun hx=>by{rw[Bool.and_eq_true]at hx;exact Bool.false_ne_true ((hno Tk.jE ((L++10::[41]).take 2) (by decide+kernel)).symm.trans hx.2)};have g2:Tk.nL Tk.bW 2 (40::(L++10::[41]))=none:=if_neg fun hx=>by{rw[Bool.and_eq_true]at hx;exact Bool.false_ne_true ((hno Tk.bW ((L++10::[41]).take 1) (by decide+kernel)).symm.trans hx.2)};have g1:Tk.nL Tk.bK 1 (40::(L++10::[41]))=some [40]:=if_pos (by rw[Bool.and_eq_true];exact⟨by simp,show Tk.bK.contains [40]=true by decide+kernel⟩);unfold Tk.qH;rw[g3,g2,g1];rfl};rw[this];rfl};rw[Tk.cN,hk];simp only[Bool.not_true,Bool.false_eq_true,if_false,List.drop_zero,hn];rw[if_neg (by simp),if_neg (by simp)];rfl};rw[e1];have hsh:=(Tk.Xk 1 [iN] (L.length+1) 0 [] L (by omega)).1;rw[hs0]at hsh;simp only[List.map_nil,Kd,Nat.zero_add]at hsh;have hlf:=Tk.anN (b:=[41]) (N:=2) (by simp) (L.length+1) 1 [iN] L (by omega) (L.length+3) (by simp);by_cases h7:ts.length<=799;·{have hsh:=hsh trivial (by simp;omega);rw[hsh]at hlf;have hlf:=hlf.1 rfl;rw[hlf];simp only;have hk:Tk.cX [41]=(0,true):=by{decide+kernel};have hn:Tk.kR [41]= .inl (4,1,0):=by{decide+kernel};by_cases h6:ts.length=799;·{right;rw[Tk.cN,hk];simp only[Bool.not_true,Bool.false_eq_true,if_false,List.drop_zero];rw[if_neg (by simp),if_pos (by simp;omega)]};·left;refine⟨1+L.length+1, ?_⟩;rw[Tk.cN,hk];simp only[Bool.not_true,Bool.false_eq_true,if_false,List.drop_zero,hn];rw[if_neg (by simp),if_neg (by simp;omega)];rw[Tk.cN];have sJ:Tk.cX ([41].drop 1)=(0,true):=by{decide+kernel};rw[sJ];simp[HB]};·right;have hm:=Tk.anP (L.length+1) 0 1 [] [iN] L (by omega) (by rw[hs0]) (by simp);have hne:=(Tk.Xk 1 [iN] (L.length+1) 0 [] L (by omega)).2 (by right;rw[hs0];simp;omega) (by simp);simp only[List.map_nil,Kd,Nat.zero_add]at hne;have h10:(Tk.cN (L.length+1) 1 [iN] L).2.Code=10:=by{rcases hm with hm|hm;·{exact absurd hm hne};·exact hm};rw[hlf.2 (by omega) (by omega)];exact h10
/-! ### One pair of brackets, and nothing behind it -/
section
variable{N aT:bz}{l:List b5}{e e2 k:Int}{m:Nat}{z:b5}
theorem acw(hz:oo z)(h:(bO.at m).eC (aL N l e)=some (.ok (k,aL aT [z] e2))):(bO.at (m+1)).lG (aL N (iN::l) e)=some (.ok (k,aL aT [] e2)):=by show rK m (bO.at m) (aL N (iN::l) e)=_;have h1:bD (aq (iN::l) e) (GE #[40])=true:=by{show bD iN _=true;decide+kernel};have h2:bD (aq [z] e2) (GE #[41])=true:=by{show bD z _=true;unfold bD;rw[hz.1,hz.2];simp};unfold rK;rw[fK,AC,if_neg (show¬((aq (iN::l) e).Kind==2)=true from by simp[aq,iN]),if_neg (show¬((aq (iN::l) e).Kind==1)=true from by simp[aq,iN]),eo,AC,h1];simp only[if_true,QQ];rw[h,AC];simp only[an.on,kW,h2,if_true,AC,QQ]
theorem acu(h:(bO.at m).lG (aL N l e)=some (.ok (k,aL aT [] e2))):(bO.at (m+1)).iO (aL N l e)=some (.ok (k,aL aT [] e2)):=by show rI m (bO.at m) (aL N l e)=_;unfold rI;rw[h,AC];simp only[an.on];have h1:mJ (bO.at m) k [] e2 aT=some (.out (.ret (.ok (k,aL aT [] e2)))):=by{unfold mJ;simp only[fK,eo,mI,xN,AC,Do,if_false]};rw[cK,h1];rfl
theorem acs(h:(bO.at m).iO (aL N (iN::l) e)=some (.ok (k,aL aT [] e2))):(bO.at (m+1)).r2 (aL N (iN::l) e)=some (.ok (k,aL aT [] e2)):=by show rH m (bO.at m) (aL N (iN::l) e)=_;have h1:bD (aq (iN::l) e) (GE #[43,43])=false:=by{show bD iN _=false;decide+kernel};have h2:bD (aq (iN::l) e) (GE #[45,45])=false:=by{show bD iN _=false;decide+kernel};have h3:gL (aq (iN::l) e) sw=GE #[]:=by{show gL iN sw=_;unfold gL;rw[if_neg (by decide+kernel)]};unfold rH;rw[fK,AC,nt (by decide),AC];unfold sw at h3;rw[h3,if_neg (by simp)];simp only[mI,h1,h2,AC,Do,if_false];rw[h];rfl
theorem acy(h:(bO.at m).r2 (aL N l e)=some (.ok (k,aL aT [] e2))):∀d n:Nat,n+d=10->(bO.at (m+1+d)).r1 (aL N l e) (n:Int)=some (.ok (k,aL aT [] e2)):=by intro d;induction d with|zero=>(intro n hn;show nZ m (bO.at m) (aL N l e) (n:Int)=_;unfold nZ;rw[if_pos (by simp;omega),h];rfl)|succ d ih=>intro n hn;show nZ (m+1+d) (bO.at (m+1+d)) (aL N l e) (n:Int)=_;unfold nZ;obtain⟨hx1,hx2⟩:=JJ (show n<10 by omega);rw[if_neg (by simp;omega),iQ (by omega),ih (n+1) (by omega),AC];simp only[an.on];rw[hx1,AC,nt hx2,AC,of_nil];have h1:qv (bO.at (m+1+d)) (n:Int) k (GE #[]) [] e2 aT=some (.out (.dz (k,[],e2,aT))):=by{unfold qv;rw[if_neg (by simp)]};rw[cK,h1];rfl
theorem acv(hz:oo z)(h:jU m (aL N l e)=some (.ok (k,aL aT [z] e2))):jU (m+15) (aL N (iN::l) e)=some (.ok (k,aL aT [] e2)):=by have hl:=acy (acs (acu (acw hz h))) 10 0 rfl;show rJ (m+14) (bO.at (m+14)) (aL N (iN::l) e)=_;unfold rJ;rw[show(bO.at (m+14)).r1 (aL N (iN::l) e) 0=_ from hl,AC];simp only[an.on,fK,eo,xN,AC,Do,if_false];rw[nt (by decide),AC,of_nil,if_neg (by simp)]
end
/-! ### Trees alike -/
section
variable{N N':bz}
theorem Lg(h:N.map fe=N'.map fe)(j:Nat):fe (nd N j)=fe (nd N' j):=by have hl:=qd h;by_cases hj:j<N.length;·{have e1:nd N j=N[j]:=by{simp[nd,hj]};have e2:nd N' j=N'[j]'(by omega):=by{simp[nd,show j<N'.length by omega]};have:=congrArg (fun x=>x[j]?) h;simp only[List.getElem?_map,List.getElem?_eq_getElem hj,List.getElem?_eq_getElem (show j<N'.length by omega),Option.map_some,Option.some.injEq]at this;rw[e1,e2];exact this};·have e1:nd N j=default:=by{simp[nd,QR,RK (show N.length<=j by omega)]};have e2:nd N' j=default:=by{simp[nd,QR,RK (show N'.length<=j by omega)]};rw[e1,e2]
theorem Oz{n n':aA}(h:fe n=fe n'):n.Kind=n'.Kind∧n.Text=n'.Text∧n.N=n'.N∧n.gG=n'.gG∧n.Kids=n'.Kids:=by unfold fe at h;simp only[aA.mk.injEq,and_true]at h;exact h
theorem RM(h:N.map fe=N'.map fe):∀f j,p6 N f j=p6 N' f j|0,_=>rfl|f+1,j=>by rw[p6,p6,(Oz (Lg h j)).2.2.2.2];congr 2;exact List.map_congr_left fun x _=>RM h f x.toNat
theorem RN(h:N.map fe=N'.map fe):∀i,iM N i=iM N' i|0=>rfl|i+1=>by rw[iM,iM,RN h i];unfold D;rw[RM h]
theorem abq(h:N.map fe=N'.map fe)(hL:r5 N)(h6:N.length<=600):qe ⟨N'⟩=qe ⟨N⟩:=by have hl:=qd h;have hL':r5 N':=fun j hj=>by{rw[<-(Oz (Lg h j)).2.2.2.2];exact hL j (by omega)};rw[IC hL h6,IC hL' (by omega),<-RN h,hl]
theorem aiy{a:List Int}(ha:a.length<=1000000):GV a a=some true:=by unfold GV;rw[if_neg (by simp),uT (fun i:Nat=>(i:Int)) a.length (.dz ()) (by rfl) (fun i hi=>by unfold GW;simp only[ry hi,if_true,nQ hi,AC,bne_self_eq_false,Do,if_false,iQ (show i<9223372036854775807 by omega)]) (by unfold GW;simp only[rz];rfl)];rfl
theorem anE(h:N.map fe=N'.map fe)(h6:N.length<=600)(hL:r5 N)(c1:tj ⟨N⟩=some ⟨0,0⟩)(c2:tj ⟨N'⟩=some ⟨0,0⟩):Ho ⟨N⟩ ⟨N'⟩=some (true,⟨0,0⟩):=by have hl:=qd h;unfold Ho;rw[c1,c2,AC,AC];simp only[beq_self_eq_true,R0,Hb,Do,if_false];unfold Kx;rw[if_neg (by simp[hl]),uT (fun i:Nat=>(i:Int)) N.length (.dz ()) (by rfl) (fun i hi=>by unfold GU;have:=Oz (Lg h i);have hk:=(hL i hi).1;simp only[ry hi,if_true,uu hi,uu (show i<N'.length by omega),AC];have hs:Hp (nd N i) (nd N' i)=some true:=by{unfold Hp;rw[<-this.1,<-this.2.1,<-this.2.2.1,<-this.2.2.2.1,<-this.2.2.2.2];simp only[beq_self_eq_true,if_true,aiy hk,Option.bind_some]};rw[hs,Option.bind_some];simp only[Bool.not_true,Bool.false_eq_true,if_false,iQ (show i<9223372036854775807 by omega)]) (by unfold GU;simp only[rz];rfl)];rfl
end
open Go Go.Proofs
theorem aex(s:ByteArray){t:bC}{f:eR}(h:pQ 16100 s=some (t,f))(hf:f.Code=0):∃ts N k,wI s=some (ts,⟨0,0⟩)∧(∀t∈ts,c9 t)∧ts.length<=800∧jU 16100 (aL [] ts (s.size:Int))=some (.ok (k,aL N [] (s.size:Int)))∧t=⟨N⟩∧Made iX N:=by obtain⟨ts,f0,a1,ht,he,h8⟩:=PO s;unfold pQ AE at h;rw[a1,AC]at h;by_cases hc:f0.Code=0;·{obtain rfl:=he hc;simp only[beq_self_eq_true,R0,Hb,Do,if_false]at h;unfold x9 at h;rcases sv (N:=[]) (e:=(s.size:Int)) (k:=0) (fp:=16100) (fr:=16100) ts ht (by simp;omega) (by omega) (by omega)with⟨N,l,k,h1,_,h3⟩|⟨c,a,r,h1,_,_,h4⟩;·{rw[show jU 16100 (aj.mk (bC.mk []) ts (s.size:Int))=_ from h1]at h;simp only[AC,an.on]at h;by_cases hl:l=[];·{subst hl;obtain⟨t',f',g1,g2⟩:=Ob (l:=[]) (e:=(s.size:Int)) (q:=iX) h3.iE h3.rt;simp only[Ps,Int.natCast_zero,Int.lt_irrefl,decide_false,Do,if_false,g1,AC,Hc,Ha]at h;obtain⟨rfl,rfl⟩:=h;rcases g2 with g2|⟨g2,g3,g4⟩;·{exact absurd hf g2.1};·exact⟨ts,N,k,a1,ht,h8,h1,g3,g4⟩};·have hp:decide ((0:Int)<(l.length:Int))=true:=by{have:=List.length_pos_iff.2 hl;simp only[decide_eq_true_eq];omega};simp only[hp,if_true,fK,Option.bind_some,s4,an.on,HA,Option.some.injEq,Prod.mk.injEq]at h;rw[<-h.2]at hf;simp at hf};·rw[show jU 16100 (aj.mk (bC.mk []) ts (s.size:Int))=_ from h1]at h;simp only[AC,an.on,HA,Hc,Ha]at h;rw[<-h.2]at hf;exact absurd hf h4};·have h1:(f0.Code==0)=false:=by{simpa using hc};simp only[h1,Bool.false_and,Hn,if_true,AC,Hc,Ha]at h;rw[<-h.2]at hf;exact absurd hf hc
theorem aew{ts:List b5}{e k:Int}{N:bz}{l:List b5}{fp:Nat}(ht:∀t∈ts,c9 t)(h8:ts.length<=800)(hf:16016<=fp)(h:jU 16100 (aL [] ts e)=some (.ok (k,aL N l e))):jU fp (aL [] ts e)=some (.ok (k,aL N l e)):=by have a:=sv (N:=[]) (e:=e) (k:=0) (fp:=16100) (fr:=16100) ts ht (by simp;omega) (by omega) (by omega);have b:=sv (N:=[]) (e:=e) (k:=0) (fp:=fp) (fr:=16100) ts ht (by simp;omega) (by omega) (by omega);rcases a with⟨az,l1,k1,a1,a2,_⟩|⟨c,a,r,a1,_⟩;·{rw[h]at a1;simp only[Hc,an.ok.injEq,Ha,aj.mk.injEq,bC.mk.injEq,and_true]at a1;obtain⟨rfl,rfl,rfl⟩:=a1;rcases b with⟨aT,l2,k2,b1,b2,_⟩|⟨c,a,r,_,b2,b3,b4⟩;·{rw[a2]at b2;simp only[Hc,ak.mk.injEq,true_and]at b2;obtain⟨rfl,rfl,rfl⟩:=b2;exact b1};·rw[a2]at b2;rw[<-Hk b2]at b3;simp only[eR.mk.injEq]at b3;exact absurd b3.1.symm b4};·rw[h]at a1;cases a1
theorem alr(s:ByteArray):JG 16100 s=some true:=by obtain⟨t,f,h1,h2⟩:=L6 s;unfold JG EK;rw[AC,h1,AC];simp only[Hb,Do,if_false];by_cases hf:f.Code=0;·{have e0:(f.Code==0)=true:=by{simpa using hf};have e1:(f.Code !=0)=false:=by{simpa using hf};by_cases h19:(1900:Int)<(s.size:Int);·{have d:decide ((1900:Int)<(s.size:Int))=true:=by{simpa using h19};simp only[e0,e1,d,Bool.false_eq_true,if_false,if_true,Option.bind_some]};·have d:decide ((1900:Int)<(s.size:Int))=false:=by{simpa using h19};simp only[e1,d,Bool.false_eq_true,if_false];obtain⟨ts,N,k,a1,ht,h8,hr,rfl,iq⟩:=aex s h1 hf;have hsz:s.size=(Tk.bS s).length:=by{rw[<-Tk.jX,Tk.xV]};have hL:(Tk.bS s).length<=1900:=by{omega};have c1:vf (ByteArray.mk #[40]) s=some (Tk.aW (40::Tk.bS s)):=Tk.Sg (by show 1+_<=_;omega);have c2:vf (Tk.aW (40::Tk.bS s)) (ByteArray.mk #[10,41])=some (Tk.aW (40::(Tk.bS s++10::[41]))):=by{rw[Tk.Sg (by rw[Tk.jX];show _+2<=_;simp;omega),Tk.Sa];rfl};rw[c1,Option.bind_some,c2,Option.bind_some];have vM:Tk.di (Tk.bS s):=by{unfold Tk.di;omega};have a2:=Tk.P5 vM;rw[Tk.xV,a1]at a2;have hsc:Tk.nB (Tk.bS s)=(ts,⟨0,0⟩):=(Option.some.inj a2).symm;have ahK:Tk.di (40::(Tk.bS s++10::[41])):=by{unfold Tk.di;simp;omega};have b1:=Tk.P5 ahK;obtain⟨t2,f2,g1,g2⟩:=L6 (Tk.aW (40::(Tk.bS s++10::[41])));rw[g1,Option.bind_some];simp only;rcases anM hL hsc with⟨p,hp⟩|hp;·{rw[hp]at b1;have hr2:=aew (fp:=16085) ht h8 (by omega) hr;have hal:ts.map ff=(ts.map (Tk.rT 1)).map ff:=by{rw[List.map_map];exact List.map_congr_left fun t _=>rfl};have ahF:=(amt (UK p) 16085).g0 (aL [] ts (s.size:Int)) (aL [] (ts.map (Tk.rT 1)++[HB p]) ((Tk.aW (40::(Tk.bS s++10::[41]))).size:Int)) ⟨rfl,hal⟩ k (aL N [] (s.size:Int)) hr2;obtain⟨p',Jq,nP⟩:=ahF;obtain⟨m,qf,Ex,Ey⟩:=nP.inv;obtain⟨⟨N'⟩,l',e''⟩:=p';simp only at qf Ex Ey;obtain rfl:=Ie Ey;subst qf;have agH:=acv (UK p) Jq;have hlen:=qd Ex;have h6:=iq.JS;obtain⟨k0,hW,_⟩:=iq.iE;have TQ:r5 N:=fun j hj=>⟨by have:=hW.lP.wide j (Nat.zero_le _) hj;omega,fun x hx=>by obtain⟨c,q1,_,cq⟩:=hW.lP.low j (Nat.zero_le _) hj x hx;exact⟨c,q1,cq⟩⟩;obtain⟨dd,d1,d2⟩:=iq.deep;have hd':=abq Ex TQ h6;rw[d1]at hd';have hall:pQ 16100 (Tk.aW (40::(Tk.bS s++10::[41])))=some (⟨N'⟩,⟨0,0⟩):=by{unfold pQ AE;rw[b1,Option.bind_some];simp only[beq_self_eq_true,Bool.and_self,Bool.not_true,Bool.false_eq_true,if_false];unfold x9;rw[show jU 16100 (aj.mk (bC.mk []) (iN::(ts.map (Tk.rT 1)++[HB p])) ((Tk.aW (40::(Tk.bS s++10::[41]))).size:Int))=_ from agH];simp only[Option.bind_some,an.on,List.length_nil,Int.natCast_zero,Int.lt_irrefl,decide_false,Bool.false_eq_true,if_false];unfold we BA;rw[Option.bind_some];have cn:decide ((600:Int)<(N'.length:Int))=false:=by{simp only[decide_eq_false_iff_not];omega};have z2:decide ((40:Int)<dd)=false:=by{simp only[decide_eq_false_iff_not];omega};simp only[cn,Bool.false_eq_true,if_false,hd',Option.bind_some,z2]};rw[hall]at g1;simp only[Option.some.injEq,Prod.mk.injEq]at g1;obtain⟨rfl,rfl⟩:=g1;rcases g2 with g2|⟨_,aT,g3,g4⟩;·{exact absurd rfl g2.1};·simp only[bC.mk.injEq]at g3;subst g3;have q1:=(JK iq).1;have cq:=(JK g4).1;simp only[bne_self_eq_false,Bool.false_eq_true,if_false,anE Ex h6 TQ q1 cq,Option.bind_some,beq_self_eq_true,if_true]};·have h10:pQ 16100 (Tk.aW (40::(Tk.bS s++10::[41])))=some (⟨[]⟩,(Tk.nB (40::(Tk.bS s++10::[41]))).2):=by{have e:((Tk.nB (40::(Tk.bS s++10::[41]))).2.Code==0)=false:=by{rw[hp];rfl};unfold pQ AE;rw[b1,Option.bind_some];simp only[e,Bool.false_and,Bool.not_false,if_true,Option.bind_some]};rw[h10]at g1;simp only[Option.some.injEq,Prod.mk.injEq]at g1;obtain⟨rfl,rfl⟩:=g1;rw[hp];rfl};·have e0:(f.Code==0)=false:=by{simpa using hf};have e1:(f.Code !=0)=true:=by{simpa using hf};rcases h2 with⟨_,rfl⟩|⟨h2,_⟩;·{simp only[e0,e1,Do,if_false,if_true];rfl};·exact absurd h2 hf
end Go.Ab
