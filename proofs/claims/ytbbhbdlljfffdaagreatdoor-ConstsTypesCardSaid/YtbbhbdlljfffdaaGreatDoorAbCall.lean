import Derived.Test.YtbbhbdlljfffdaaGreatDoorAbOps7
open Bool renaming and_eq_true->Ha,and_assoc->H3
open List renaming mem_cons_self->Do,mem_cons_of_mem->GT,flatten_cons->Hb,nil_append->Hc,length_take->Hk,append_nil->Hm,mem_of_mem_take->Hn,length->H0,take_left->H2,perm_iff_count->H4,count_append->H5,flatMap_append->IH,take_append_drop->If,flatten_nil->Ix,cons_append->Kd,take_zero->Lk,drop_left->PH,append_assoc->PP,length_append->PQ,nodup_nil->Pi
open Nat renaming min_eq_left->H1
open Option renaming map_eq_some_iff->GE,bind_eq_some_iff->Hd
open Option.some renaming injEq->AC
set_option linter.all false
namespace Go.Ab
open Go
theorem acm(a b:List U):cN (a++b)=(cN a&&cN b):=by induction a with|nil=>(simp[cN])|cons c cs ih=>simp[cN,ih,H3]
theorem Gc:∀rows:Rows,eC rows=true->cN rows.flatten=true|[],_=>by{simp[cN]}|r::rs,h=>by simp only[eC,Ha]at h;rw[Hb,acm,h.1,Gc rs h.2];rfl
section
variable{w:World}{I:Nat->Prop}
theorem R.ld{β:Id->Option Loc}{f:List Nat}{v:Value}{a:U}(h:R w I β f v a):flat a=true->∀cJ:Id->Option Loc,R w I cJ f v a:=by induction h with|val h=>(intro _ _;exact .val h)|nn=>(intro _ _;exact .nn)|mr _=>(intro hf;simp[flat]at hf)|ef h=>(intro _ _;exact .ef h)|im h1 h2=>(intro _ _;exact .im h1 h2)|ct=>(intro hf;simp[flat]at hf)|gF=>(intro _ _;exact .gF)|sl h1 h2 h3 h4 h5 _=>(intro _ _;exact .sl h1 h2 h3 h4 h5)|ay h1 h2 h3 _=>(intro _ _;exact .ay h1 h2 h3)|iP _ _=>(intro hf;simp[flat]at hf)|rs _ _ _=>(intro hf;simp[flat]at hf)|mp _=>(intro hf;simp[flat]at hf)|fn _ _ ih1 ih2=>(intro hf _;simp only[flat,Ha]at hf;exact .fn (ih1 (by simpa[flat]using hf.1) _) (ih2 (by simpa[flat]using hf.2) _))|nil=>(intro _ _;exact .nil)|cons _ _ ih1 ih2=>(intro hf _;simp only[flat,cN,Ha]at hf;exact .cons (ih1 hf.1 _) (ih2 (by simpa[flat]using hf.2) _))|aU _ ih=>(intro hf _;exact .aU (ih (by simpa[flat]using hf) _))|j7=>(intro _ _;exact .j7)|own h0 h1 h2 h3 h4 h5 _ ih=>(intro hf _;simp only[flat]at hf;exact .own h0 h1 h2 h3 h4 h5 (ih (by simpa[flat]using Gc _ hf) _))|kV h0 h1 h2 h3 h5 _ ih=>(intro hf _;simp only[flat]at hf;exact .kV h0 h1 h2 h3 h5 (ih (by simpa[flat]using Gc _ hf) _))|aP h1 h2 h3 _ ih=>(intro hf _;simp only[flat]at hf;exact .aP h1 h2 h3 (ih (by simpa[flat]using hf) _))|qY _ _=>(intro hf;simp[flat]at hf)|qX=>(intro hf;simp[flat]at hf)|bf=>intro _ _;exact .bf
def BU(w:World)(I:Nat->Prop)(β:Id->Option Loc)(F:Id->List Nat)(p:U->Option (U×List Id)):Prop:=∀a x,p a=some x->∀f v,R w I β f v a->∃fp rest,R w I bL fp v x.1∧(fp++rest).Perm (f++x.2.flatMap F)
variable{β:Id->Option Loc}{F:Id->List Nat}
theorem sF{lW r1 jU r2 f1 g1 f2 g2:List Nat}(h1:(lW++r1).Perm (f1++g1))(h2:(jU++r2).Perm (f2++g2)):((lW++jU)++(r1++r2)).Perm ((f1++f2)++(g1++g2)):=by rw[H4]at h1 h2|-;intro a;have:=h1 a;have:=h2 a;simp only[H5]at*;omega
theorem Q6{p:U->Option (U×List Id)}(hp:BU w I β F p):∀{cs:List U}{x},dL p cs=some x->∀{f vs},av w I β f vs cs->x.1.length=cs.length∧∃fp rest,av w I bL fp vs x.1∧(fp++rest).Perm (f++x.2.flatMap F)|[],x,h,f,vs,hr=>by{simp[dL]at h;subst h;obtain⟨rfl,rfl⟩:=hr.gd;exact⟨rfl,[],[], .nil,by simp⟩}|c::cs,x,h,f,vs,hr=>by simp only[dL,Hd,GE]at h;obtain⟨y,hy,z,hz,rfl⟩:=h;obtain⟨f1,f2,v,vs',rfl,rfl,h1,h2⟩:=hr.cons_inv;obtain⟨lW,r1,g1,g2⟩:=hp _ _ hy _ _ h1;obtain⟨hl,jU,r2,g3,g4⟩:=Q6 hp hz h2;refine⟨by simp[hl],lW++jU,r1++r2, .cons g1 g3, ?_⟩;simp only[IH];exact sF g2 g4
theorem HR{p:U->Option (U×List Id)}(hp:BU w I β F p){cs:List U}{x}(h:ig p cs=some x){f vs}(hr:av w I β f vs cs):x.1.length=cs.length∧∃fp rest,av w I bL fp vs x.1∧(fp++rest).Perm (f++x.2.flatMap F):=by unfold ig at h;split at h;·{rename_i hf;simp at h;subst h;exact⟨rfl,f,[],R.ld hr (by simpa[flat]using hf) _,by simp⟩};·exact Q6 hp h hr
theorem Ra{p:U->Option (U×List Id)}(hp:BU w I β F p):∀{rs:Rows}{x},dP (ig p) rs=some x->∀{f vs},av w I β f vs rs.flatten->(x.1.length=rs.length∧∀sz,(∀r∈rs,r.length=sz)->∀r∈x.1,r.length=sz)∧∃fp rest,av w I bL fp vs x.1.flatten∧(fp++rest).Perm (f++x.2.flatMap F)|[],x,h,f,vs,hr=>by{simp[dP]at h;subst h;obtain⟨rfl,rfl⟩:=hr.gd;exact⟨⟨rfl,fun _ _ _ h=>by cases h⟩,[],[], .nil,by simp⟩}|c::cs,x,h,f,vs,hr=>by simp only[dP,Hd,GE]at h;obtain⟨y,hy,z,hz,rfl⟩:=h;rw[Hb]at hr;obtain⟨f1,f2,v1,v2,rfl,rfl,h1,h2⟩:=av.split hr;obtain⟨l1,lW,r1,g1,g2⟩:=HR hp hy h1;obtain⟨⟨l2,l3⟩,jU,r2,g3,g4⟩:=Ra hp hz h2;refine⟨⟨by simp[l2],fun sz hs r hr=> ?_⟩,lW++jU,r1++r2,g1.append g3, ?_⟩;·{rcases List.mem_cons.1 hr with rfl|hr;·{rw[l1];exact hs _ (Do ..)};·exact l3 sz (fun r hr=>hs r (GT _ hr)) r hr};·simp only[IH];exact sF g2 g4
theorem T8{p:U->Option (U×List Id)}(hp:BU w I β F p){rs:Rows}{x}(h:mm p rs=some x){f vs}(hr:av w I β f vs rs.flatten):(x.1.length=rs.length∧∀sz,(∀r∈rs,r.length=sz)->∀r∈x.1,r.length=sz)∧∃fp rest,av w I bL fp vs x.1.flatten∧(fp++rest).Perm (f++x.2.flatMap F):=by unfold mm at h;split at h;·{rename_i hf;simp at h;subst h;exact⟨⟨rfl,fun _ h=>h⟩,f,[],R.ld hr (by simpa[flat]using Gc _ hf) _,by simp⟩};·exact Ra hp h hr
theorem Gj{α:Type}(rs:List (List α))(n:Nat):rs.flatten=(rs.take n).flatten++(rs.drop n).flatten:=by rw[<-List.flatten_append,If]
theorem vV{L:Id->Option (Option Rows)}(hL:∀id rows,L id=some (some rows)->dJ w I β id rows (F id)):∀n,BU w I β F (pk L n)|0=>fun a x h=>by{simp[pk]at h}|n+1=>fun a x h f v hr=>by have ih:=vV hL n;cases a with|rs id off len=>(simp only[pk]at h;split at h;·{rename_i rs hid;split at h;·{rename_i hc;simp only[GE]at h;obtain⟨y,hy,rfl⟩:=h;obtain⟨rfl,hc⟩:=hc;obtain⟨rfl,hv⟩:=hr.nL;rcases hL id rs hid with⟨hb,rfl,hF⟩|⟨bm,hb,_⟩|⟨b,o,sz,n',vs,cF,hb,hF,oU,⟨hne,hsz⟩,hle,bU,hrl⟩;rotate_left;·{rcases hv with⟨a,l,rfl,rfl,hb',hl⟩|⟨b,o,sz,n',cap,hb',_⟩;·{rw[hb]at hb';cases hb';cases hl};·rw[hb]at hb';cases hb'};rotate_left;·{have hy0:y=([],[]):=by{simpa[mm,eC]using hy.symm};subst hy0;simp only[List.length_nil]at hc;rcases hv with⟨a,l,rfl,rfl,_⟩|⟨b,o,sz,n',cap,hb',_⟩;·{exact⟨[],[], .j7,by simp[hF]⟩};·rw[hb]at hb';cases hb'};·obtain⟨⟨l1,l2⟩,fp,rest,g1,g2⟩:=T8 ih hy hrl;have hlen:0<rs.length:=List.length_pos_iff.2 hne;have Sl:y.1≠[]:=fun e=>by{rw[e]at l1;simp at l1;omega};have Df:((b::fp)++rest).Perm ([]++(id::y.2).flatMap F):=by{rw[List.perm_iff_count]at g2|-;intro x;have:=g2 x;simp only[List.flatMap_cons,List.nil_append,hF,List.count_append,List.count_cons,List.cons_append]at*;omega};rcases hv with⟨a,l,rfl,rfl,_⟩|⟨b',o',sz',Mh,cap,hb',hle',hcap,rfl⟩;·{exact⟨b::fp,rest, .kV Sl (l2 sz hsz) oU (by rw[l1];exact hle) bU g1,Df⟩};·rw[hb]at hb';simp only[Option.some.injEq,Loc.blk.injEq]at hb';obtain⟨rfl,rfl,rfl,rfl⟩:=hb';refine⟨b::fp,rest, ?_,Df⟩;have:=R.own (w:=w) (I:=I) (β:=bL) (cap:=cap) (o:=o) (rows:=y.1) (len:=len) Sl (l2 sz hsz) oU ⟨by simpa using hle',by rw[l1];exact hle⟩ ⟨by omega,by omega⟩ bU g1;simpa using this};·cases h};·cases h)|mp id row off=>(simp only[pk]at h;split at h;·{rename_i cs hid;split at h;·{rename_i hc;obtain⟨rfl,rfl⟩:=hc;simp only[GE]at h;obtain⟨y,hy,rfl⟩:=h;obtain⟨rfl,b',o',sz',n',hb',rfl⟩:=hr.o6;rcases hL id [cs] hid with⟨hb,h0,hF⟩|⟨bm,hb,_⟩|⟨b,o,sz,n',vs,cF,hb,hF,oU,⟨hne,hsz⟩,hle,bU,hrl⟩;·{cases h0};·{rw[hb]at hb';cases hb'};·rw[hb]at hb';simp only[AC,Loc.blk.injEq]at hb';obtain⟨rfl,rfl,rfl,rfl⟩:=hb';simp only[Hb,Ix,Hm]at hrl;obtain⟨l1,fp,rest,g1,g2⟩:=HR ih hy hrl;have:=hsz cs (by simp);refine⟨b::fp,rest, ?_, ?_⟩;·{have:=R.aP (w:=w) (I:=I) (β:=bL) (cells:=y.1) oU (by simp at hle;omega) bU g1;simpa using this};·rw[H4]at g2|-;intro x;have:=g2 x;simp only[List.flatMap_cons,Hc,hF,H5,List.count_cons,Kd]at*;omega};·cases h};·cases h)|ct=>(simp only[pk,AC]at h;subst h;obtain⟨rfl,a,rfl⟩:=hr.yQ;exact⟨[],[], .j7,by simp⟩)|agg cs=>(simp only[pk,GE]at h;obtain⟨y,hy,rfl⟩:=h;obtain⟨vs,rfl,hl⟩:=hr.pP;exact(HR ih hy hl).2)|aU cs=>(simp only[pk,GE]at h;obtain⟨y,hy,rfl⟩:=h;obtain⟨vs,rfl,hl⟩:=hr.By;obtain⟨_,fp,rest,g1,g2⟩:=HR ih hy hl;exact⟨fp,rest, .aU g1,g2⟩)|fn k a b=>(simp only[pk]at h;split at h;·{rename_i hi;simp only[AC]at h;subst h;simp only[Ha]at hi;obtain⟨rfl,vs,cs,rfl,h1,h2⟩:=hr.p8;exact⟨[],[], .fn (h1.og hi.1) (h2.og hi.2),by simp⟩};·cases h)|c8 g y=>(simp only[pk,AC]at h;subst h;exact⟨[],f, .bf,by simp⟩)|own rs len=>(simp only[pk]at h;split at h;·{rename_i hf;simp only[AC]at h;subst h;exact⟨f,[],hr.ld (by simpa[flat]using hf) _,by simp⟩};·cases h)|aP cs=>(simp only[pk]at h;split at h;·{rename_i hf;simp only[AC]at h;subst h;exact⟨f,[],hr.ld (by simpa[flat]using hf) _,by simp⟩};·cases h)|val u=>(simp only[pk,AC]at h;subst h;exact⟨f,[],hr.ld rfl _,by simp⟩)|nn=>(simp only[pk,AC]at h;subst h;exact⟨f,[],hr.ld rfl _,by simp⟩)|mr id=>(simp only[pk]at h;split at h;·{rename_i rs hid;simp only[AC]at h;subst h;obtain⟨rfl,b,hb',rfl⟩:=hr.DU;rcases hL id rs hid with⟨hb,_⟩|⟨b2,hb,hF,hm⟩|⟨b2,o,sz,n',vs,cF,hb,_⟩;·{rw[hb]at hb';cases hb'};·{rw[hb]at hb';cases hb';exact⟨[b],[], .ef hm,by simp[hF]⟩};·rw[hb]at hb';cases hb'};·cases h)|ef rows=>(simp only[pk,AC]at h;subst h;exact⟨f,[],hr.ld rfl _,by simp⟩)|im rows=>(simp only[pk,AC]at h;subst h;exact⟨f,[],hr.ld rfl _,by simp⟩)|sl rows=>(simp only[pk,AC]at h;subst h;exact⟨f,[],hr.ld rfl _,by simp⟩)|ay cells=>(simp only[pk,AC]at h;subst h;exact⟨f,[],hr.ld rfl _,by simp⟩)|bQ i rs=>(cases hr)|AY u=>(cases hr)|bf=>simp only[pk,AC]at h;subst h;exact⟨f,[],hr.ld rfl _,by simp⟩
/-! ### Borrowing -/
def BI(w:World)(I:Nat->Prop)(β:Id->Option Loc)(F:Id->List Nat)(p:U->Option (U×List Id)):Prop:=∀a x,p a=some x->∀f v,R w I β f v a->∀I':Nat->Prop,(∀b,I b->I' b)->(∀b∈f,I' b)->(∀id∈x.2,∀b∈F id,I' b)->R w I' bL [] v x.1
theorem R.qm{f:List Nat}{v:Value}{a:U}(h:R w I β f v a)(hi:fA a=true){I':Nat->Prop}(hI:∀b,I b->I' b):R w I' bL [] v a:=by have e:=h.LI hi;subst e;exact(h.og hi).mono hI (fun _ _=>rfl) (fun _ _ h=>h)
theorem Ji{p:U->Option (U×List Id)}(hp:BI w I β F p):∀{cs:List U}{x},dL p cs=some x->∀{f vs},av w I β f vs cs->x.1.length=cs.length∧∀I':Nat->Prop,(∀b,I b->I' b)->(∀b∈f,I' b)->(∀id∈x.2,∀b∈F id,I' b)->av w I' bL [] vs x.1|[],x,h,f,vs,hr=>by{simp[dL]at h;subst h;obtain⟨rfl,rfl⟩:=hr.gd;exact⟨rfl,fun _ _ _ _=> .nil⟩}|c::cs,x,h,f,vs,hr=>by simp only[dL,Hd,GE]at h;obtain⟨y,hy,z,hz,rfl⟩:=h;obtain⟨f1,f2,v,vs',rfl,rfl,h1,h2⟩:=hr.cons_inv;obtain⟨hl,g3⟩:=Ji hp hz h2;refine⟨by simp[hl],fun I' i1 i2 i3=> ?_⟩;exact R.cons (f1:=[]) (f2:=[]) (hp _ _ hy _ _ h1 I' i1 (fun b hb=>i2 b (List.mem_append.2 (.inl hb))) fun id hid=>i3 id (List.mem_append.2 (.inl hid))) (g3 I' i1 (fun b hb=>i2 b (List.mem_append.2 (.inr hb))) fun id hid=>i3 id (List.mem_append.2 (.inr hid)))
theorem wZ{p:U->Option (U×List Id)}(hp:BI w I β F p){cs:List U}{x}(h:gv p cs=some x){f vs}(hr:av w I β f vs cs):x.1.length=cs.length∧∀I':Nat->Prop,(∀b,I b->I' b)->(∀b∈f,I' b)->(∀id∈x.2,∀b∈F id,I' b)->av w I' bL [] vs x.1:=by unfold gv at h;split at h;·{rename_i hf;simp at h;subst h;exact⟨rfl,fun I' i1 _ _=>R.qm hr (by simpa[fA]using hf) i1⟩};·exact Ji hp h hr
theorem Ph{p:U->Option (U×List Id)}(hp:BI w I β F p):∀{rs:Rows}{x},dP (gv p) rs=some x->∀{f vs},av w I β f vs rs.flatten->(x.1.length=rs.length∧∀sz,(∀r∈rs,r.length=sz)->∀r∈x.1,r.length=sz)∧∀I':Nat->Prop,(∀b,I b->I' b)->(∀b∈f,I' b)->(∀id∈x.2,∀b∈F id,I' b)->av w I' bL [] vs x.1.flatten|[],x,h,f,vs,hr=>by{simp[dP]at h;subst h;obtain⟨rfl,rfl⟩:=hr.gd;exact⟨⟨rfl,fun _ _ _ h=>by cases h⟩,fun _ _ _ _=> .nil⟩}|c::cs,x,h,f,vs,hr=>by simp only[dP,Hd,GE]at h;obtain⟨y,hy,z,hz,rfl⟩:=h;rw[Hb]at hr;obtain⟨f1,f2,v1,v2,rfl,rfl,h1,h2⟩:=av.split hr;obtain⟨l1,g1⟩:=wZ hp hy h1;obtain⟨⟨l2,l3⟩,g3⟩:=Ph hp hz h2;refine⟨⟨by simp[l2],fun sz hs r hr=> ?_⟩,fun I' i1 i2 i3=> ?_⟩;·{rcases List.mem_cons.1 hr with rfl|hr;·{rw[l1];exact hs _ (Do ..)};·exact l3 sz (fun r hr=>hs r (GT _ hr)) r hr};·have:=(g1 I' i1 (fun b hb=>i2 b (List.mem_append.2 (.inl hb))) fun id hid=>i3 id (List.mem_append.2 (.inl hid))).append (g3 I' i1 (fun b hb=>i2 b (List.mem_append.2 (.inr hb))) fun id hid=>i3 id (List.mem_append.2 (.inr hid)));simpa using this
theorem Pt{p:U->Option (U×List Id)}(hp:BI w I β F p){rs:Rows}{x}(h:lP p rs=some x){f vs}(hr:av w I β f vs rs.flatten):(x.1.length=rs.length∧∀sz,(∀r∈rs,r.length=sz)->∀r∈x.1,r.length=sz)∧∀I':Nat->Prop,(∀b,I b->I' b)->(∀b∈f,I' b)->(∀id∈x.2,∀b∈F id,I' b)->av w I' bL [] vs x.1.flatten:=by unfold lP at h;split at h;·{rename_i hf;simp at h;subst h;exact⟨⟨rfl,fun _ h=>h⟩,fun I' i1 _ _=>R.qm hr (by simpa[fA]using LH _ hf) i1⟩};·exact Ph hp h hr
theorem Jn{L:Id->Option (Option Rows)}(hL:∀id rows,L id=some (some rows)->dJ w I β id rows (F id)):∀n,BI w I β F (bT L n)
 |0=>fun a x h=>by simp[bT]at h
 |n+1=>fun a x h f v hr I' i1 i2 i3=>by
  have ih:=Jn hL n
  cases a with
  |rs id off len=>
   simp only[bT]at h
   split at h
   ·rename_i rs hid
    split at h
    ·rename_i hc
     simp only[GE]at h
     obtain⟨y,hy,rfl⟩:=h
     obtain⟨rfl,hv⟩:=hr.nL
     have Db:len=0->y.1=[]:=fun h0=>by
      have :=congrArg H0 (show(rs.drop off).take len=[]by rw[h0];rfl)
      rw[h0,Lk]at hy
      simp[lP,j0]at hy
      rw[<-hy]
     rcases hv with⟨a,l,rfl,rfl,_⟩|⟨b',o',sz',Mh,cap,hb',hle',hcap,rfl⟩
     ·rw[Db rfl];exact .gF
     ·rcases Nat.eq_zero_or_pos len with h0|h0
      ·subst h0;rw[Db rfl];exact .gF
      ·rcases hL id rs hid with⟨hb,rfl,hF⟩|⟨bm,hb,_⟩|⟨b,o,sz,n',vs,cF,hb,hF,oU,⟨hne,hsz⟩,hle,bU,hrl⟩
       ·simp at hc;omega
       ·rw[hb]at hb';cases hb'
       ·rw[hb]at hb'
        simp only[AC,Loc.blk.injEq]at hb'
        obtain⟨rfl,rfl,rfl,rfl⟩:=hb'
        have hsp:rs.flatten=(rs.take off).flatten++(((rs.drop off).take len).flatten++((rs.drop off).drop len).flatten):=by
         rw[<-Gj (rs.drop off) len,<-Gj rs off]
        rw[hsp]at hrl
        obtain⟨f1,f23,v1,v23,rfl,rfl,h1,h23⟩:=av.split hrl
        obtain⟨f2,f3,v2,v3,rfl,rfl,h2,h3⟩:=av.split h23
        have DP:=h1.length
        rw[lV (sz:=sz) (fun r hr=>hsz r (Hn hr)),Hk,H1 (by omega)]at DP
        obtain⟨⟨l1,l2⟩,g⟩:=Pt ih hy h2
        have lB:y.1.length=len:=by rw[l1,Hk,List.length_drop];omega
        have hin:∀x∈F id,I' x:=i3 id (Do ..)
        have g':=g I' i1 (fun x hx=>hin x (by rw[hF];simp[hx])) fun id hid=>i3 id (GT _ hid)
        have xH:fD w b (o+off*sz) v2:=by
         have :=(bU.drop v1.length).take v2.length
         rw[PH,H2,DP]at this
         exact this
        have :=R.sl (β:=bL) (cap:=cap) (l2 sz fun r hr=>hsz r (List.mem_of_mem_drop (Hn hr))) (hin b (by rw[hF];simp)) xH (by omega) g'
        rw[lB]at this
        exact this
    ·cases h
   ·cases h
  |mp id row off=>
   simp only[bT]at h
   split at h
   ·rename_i rs hid
    split at h
    ·rename_i r hrow
     split at h
     ·rename_i hoff
      simp only[GE]at h
      obtain⟨y,hy,rfl⟩:=h
      obtain⟨rfl,b',o',sz',n',hb',rfl⟩:=hr.o6
      rcases hL id rs hid with⟨hb,h0,hF⟩|⟨bm,hb,_⟩|⟨b,o,sz,n',vs,cF,hb,hF,oU,⟨hne,hsz⟩,hle,bU,hrl⟩
      ·subst h0;simp at hrow
      ·rw[hb]at hb';cases hb'
      ·rw[hb]at hb'
       simp only[AC,Loc.blk.injEq]at hb'
       obtain⟨rfl,rfl,rfl,rfl⟩:=hb'
       obtain⟨hsp,hlt⟩:=Nk hrow
       have R6:r.length=sz:=hsz r (List.mem_of_getElem? hrow)
       have hsp:rs.flatten=((rs.take row).flatten++r.take off)++(r.drop off++(rs.drop (row+1)).flatten):=by
        have e:r.take off++(r.drop off++(rs.drop (row+1)).flatten)=r++(rs.drop (row+1)).flatten:=by rw[<-PP,If]
        rw[PP,e]
        conv=>lhs;rw[hsp]
        simp
       rw[hsp]at hrl
       obtain⟨f1,f23,v1,v23,rfl,rfl,h1,h23⟩:=av.split hrl
       obtain⟨f2,f3,v2,v3,rfl,rfl,h2,h3⟩:=av.split h23
       have DP:=h1.length
       rw[PQ,lV (sz:=sz) (fun r hr=>hsz r (Hn hr)),Hk,Hk,H1 (by omega),H1 hoff]at DP
       obtain⟨_,g⟩:=wZ ih hy h2
       have hin:∀x∈F id,I' x:=i3 id (Do ..)
       have g':=g I' i1 (fun x hx=>hin x (by rw[hF];simp[hx])) fun id hid=>i3 id (GT _ hid)
       have xH:fD w b (o+row*sz+off) v2:=by
        have :=(bU.drop v1.length).take v2.length
        rw[PH,H2,DP,<-Nat.add_assoc]at this
        exact this
       exact .ay (hin b (by rw[hF];simp)) xH g'
     ·cases h
    ·cases h
   ·cases h
  |ct=>
   simp only[bT,AC]at h;subst h
   obtain⟨rfl,a,rfl⟩:=hr.yQ
   exact .gF
  |agg cs=>
   simp only[bT,GE]at h
   obtain⟨y,hy,rfl⟩:=h
   obtain⟨vs,rfl,hl⟩:=hr.pP
   exact(wZ ih hy hl).2 I' i1 i2 i3
  |aU cs=>
   simp only[bT,GE]at h
   obtain⟨y,hy,rfl⟩:=h
   obtain⟨vs,rfl,hl⟩:=hr.By
   exact .aU ((wZ ih hy hl).2 I' i1 i2 i3)
  |fn k a b=>
   simp only[bT,GE,Hd]at h
   obtain⟨y,hy,z,hz,rfl⟩:=h
   obtain⟨rfl,vs,cs,rfl,h1,h2⟩:=hr.p8
   exact .fn ((wZ ih hy h1).2 I' i1 (fun _ h=>by cases h) fun id hid=>i3 id (List.mem_append.2 (.inl hid))) ((wZ ih hz h2).2 I' i1 (fun _ h=>by cases h) fun id hid=>i3 id (List.mem_append.2 (.inr hid)))
  |c8 g y=>
   simp only[bT,AC]at h;subst h
   exact .bf
  |own rs len=>
   simp only[bT,GE]at h
   obtain⟨y,hy,rfl⟩:=h
   cases hr with
   |j7=>
    have :y=([],[]):=by simpa[lP,j0]using hy.symm
    subst this;exact .gF
   |kV _ _ _ _ _ _=>
    have :y=([],[]):=by simpa[lP,j0]using hy.symm
    subst this;exact .gF
   | @own _ b o sz cap n len cF jn _ g0 g1 g2 g3 g4 g5 g6=>
    rw[Gj rs len]at g6
    obtain⟨f1,f2,v1,v2,rfl,rfl,h1,h2⟩:=av.split g6
    obtain⟨⟨l1,l2⟩,g⟩:=Pt ih hy h1
    have g':=g I' i1 (fun b hb=>i2 b (GT _ (List.mem_append.2 (.inl hb)))) i3
    have KI:fD w b o v1:=by
     have :=g5.take v1.length
     rwa[H2]at this
    have lB:y.1.length=len:=by rw[l1,Hk];omega
    have :=R.sl (β:=bL) (cap:=cap) (l2 sz fun r hr=>g1 r (Hn hr)) (i2 b (Do ..)) KI (by omega) g'
    rw[lB]at this
    exact this
  |aP cs=>
   simp only[bT,GE]at h
   obtain⟨y,hy,rfl⟩:=h
   cases hr with
   | @aP _ b o n cF jn _ g2 g3 g5 g6=>
    obtain⟨_,g⟩:=wZ ih hy g6
    exact .ay (i2 b (Do ..)) g5 (g I' i1 (fun b hb=>i2 b (GT _ hb)) i3)
  |val u=>
   simp only[bT,AC]at h;subst h
   exact hr.qm rfl i1
  |nn=>
   simp only[bT,AC]at h;subst h
   exact hr.qm rfl i1
  |mr id=>
   simp only[bT]at h
   split at h
   ·rename_i rs hid
    simp only[AC]at h;subst h
    obtain⟨rfl,b,hb',rfl⟩:=hr.DU
    rcases hL id rs hid with⟨hb,_⟩|⟨b2,hb,hF,hm⟩|⟨b2,o,sz,n',vs,cF,hb,_⟩
    ·rw[hb]at hb';cases hb'
    ·rw[hb]at hb';cases hb'
     exact .im (i3 id (Do ..) b (by rw[hF];simp)) hm
    ·rw[hb]at hb';cases hb'
   ·cases h
  |ef rows=>
   simp only[bT,AC]at h;subst h
   obtain⟨b,rfl,rfl,hm⟩:=hr.MD
   exact .im (i2 b (Do ..)) hm
  |im rows=>
   simp only[bT,AC]at h;subst h
   exact hr.qm rfl i1
  |sl rows=>
   simp only[bT,AC]at h;subst h
   exact hr.qm rfl i1
  |ay cells=>
   simp only[bT,AC]at h;subst h
   exact hr.qm rfl i1
  |bQ i rs=>cases hr
  |AY u=>cases hr
  |bf=>
   simp only[bT,AC]at h;subst h
   exact .bf
/-! ### Nothing but its own -/
theorem Me:∀rows:Rows,Ho rows=true->mR rows.flatten=true|[],_=>by{simp[mR]}|r::rs,h=>by simp only[Ho,Ha]at h;have:∀a b:List U,mR (a++b)=(mR a&&mR b):=fun a b=>by{induction a with|nil=>(simp[mR])|cons c cs ih=>simp[mR,ih,H3]};rw[Hb,this,h.1,Me rs h.2];rfl
theorem R.mine{f:List Nat}{v:Value}{a:U}(h:R w I β f v a):mine a=true->∀I':Nat->Prop,R w I' β f v a:=by induction h with|val h=>(intro _ _;exact .val h)|nn=>(intro _ _;exact .nn)|ef h=>(intro _ _;exact .ef h)|ct=>(intro _ _;exact .ct)|nil=>(intro _ _;exact .nil)|cons _ _ ih1 ih2=>(intro hf _;simp only[Ab.mine,mR,Ha]at hf;exact .cons (ih1 hf.1 _) (ih2 (by simpa[Ab.mine]using hf.2) _))|aU _ ih=>(intro hf _;exact .aU (ih (by simpa[Ab.mine]using hf) _))|j7=>(intro _ _;exact .j7)|own h0 h1 h2 h3 h4 h5 _ ih=>(intro hf _;simp only[Ab.mine]at hf;exact .own h0 h1 h2 h3 h4 h5 (ih (by simpa[Ab.mine]using Me _ hf) _))|kV h0 h1 h2 h3 h5 _ ih=>(intro hf _;simp only[Ab.mine]at hf;exact .kV h0 h1 h2 h3 h5 (ih (by simpa[Ab.mine]using Me _ hf) _))|aP h1 h2 h3 _ ih=>(intro hf _;simp only[Ab.mine]at hf;exact .aP h1 h2 h3 (ih (by simpa[Ab.mine]using hf) _))|bf=>(intro _ _;exact .bf)|_=>intro hf;simp[Ab.mine]at hf
/-! ### Freezing -/
theorem ac5(a b:List U):jV (a++b)=jV a++jV b:=by induction a with|nil=>(rfl)|cons c cs ih=>simp[jV,ih]
theorem ac6(a:List U):(jV a).length=a.length:=by induction a with|nil=>(rfl)|cons c cs ih=>simp[jV,ih]
theorem J6:∀rows:Rows,(kA rows).flatten=jV rows.flatten|[]=>rfl|r::rs=>by simp[kA,ac5,J6 rs]
theorem J7:∀rows:Rows,(kA rows).length=rows.length|[]=>rfl|r::rs=>by simp[kA,J7 rs]
theorem J8:∀{rows:Rows}{r:List U},r∈kA rows->∃r'∈rows,r.length=r'.length|[],r,h=>by{simp[kA]at h}|c::rs,r,h=>by simp only[kA,List.mem_cons]at h;rcases h with rfl|h;·{exact⟨c,Do ..,ac6 c⟩};·obtain⟨r',h1,h2⟩:=J8 h;exact⟨r',GT _ h1,h2⟩
theorem R.ac1{β:Id->Option Loc}{f:List Nat}{v:Value}{a:U}(h:R w I β f v a)(bA:β=bL){I':Nat->Prop}(i1:∀b,I b->I' b):(∀b∈f,I' b)->R w I' bL [] v (dF a):=by induction h with|val h=>(intro _;exact .val h)|nn=>(intro _;exact .nn)|mr h=>(subst bA;cases h)|ef h=>(intro h2;exact .im (h2 _ (Do ..)) h)|im h1 h2=>(intro _;exact .im (i1 _ h1) h2)|ct=>(intro _;exact .ct)|gF=>(intro _;exact .gF)|sl h1 h2 h3 h4 h5 _=>(intro _;exact .sl h1 (i1 _ h2) h3 h4 (h5.mono i1 (fun _ _=>rfl) (fun _ _ h=>h)))|ay h1 h2 h3 _=>(intro _;exact .ay (i1 _ h1) h2 (h3.mono i1 (fun _ _=>rfl) (fun _ _ h=>h)))|iP h _=>(subst bA;cases h)|rs h _ _=>(subst bA;cases h)|mp h=>(subst bA;cases h)|fn h1 h2 _ _=>(intro _;subst bA;exact .fn (h1.mono i1 (fun _ _=>rfl) (fun _ _ h=>h)) (h2.mono i1 (fun _ _=>rfl) (fun _ _ h=>h)))|nil=>(intro _;exact .nil)|cons _ _ ih1 ih2=>(intro h;exact R.cons (f1:=[]) (f2:=[]) (ih1 bA fun b hb=>h b (List.mem_append.2 (.inl hb))) (ih2 bA fun b hb=>h b (List.mem_append.2 (.inr hb))))|aU _ ih=>(intro h;exact .aU (ih bA h))|j7=>(intro _;exact .gF)|kV _ _ _ _ _ _=>(intro _;simp only[Ab.dF,Lk];exact .gF)| @own _ b o sz cap n len cF jn rows h0 h1 h2 h3 h4 h5 _ ih=>(intro h;have g:=ih bA fun b hb=>h b (GT _ hb);simp only[Ab.dF]at g|-;rw[<-J6,Gj (kA rows) len]at g;obtain⟨f1,f2,v1,v2,e1,e2,g1,g2⟩:=av.split g;obtain rfl:f1=[]:=(List.append_eq_nil_iff.1 e1.symm).1;have KI:fD w b o v1:=by{rw[e2]at h5;have:=h5.take v1.length;rwa[List.take_left]at this};have hl:((kA rows).take len).length=len:=by{rw[List.length_take,J7];omega};have:=R.sl (w:=w) (β:=bL) (cap:=cap) (o:=o) (rows:=(kA rows).take len) (fun r hr=>by obtain⟨r',m1,m2⟩:=J8 (List.mem_of_mem_take hr);rw[m2];exact h1 r' m1) (h b (List.mem_cons_self ..)) KI (by omega) g1;rw[hl]at this;exact this)|aP h1 h2 h3 _ ih=>(intro h;have g:=ih bA fun b hb=>h b (GT _ hb);exact .ay (h _ (Do ..)) h3 g)|qY h _=>(intro _;subst bA;exact .qY (h.mono i1 (fun _ _=>rfl) (fun _ _ h=>h)))|qX=>(intro _;exact .qX)|bf=>intro _;exact .bf
theorem R.dF{f:List Nat}{v:Value}{a:U}(h:R w I bL f v a){I':Nat->Prop}(i1:∀b,I b->I' b)(hf:∀b∈f,I' b):R w I' bL [] v (dF a):=R.ac1 h rfl i1 hf
end
open Go
def gQ(w:World)(I:Nat->Prop)(β:Id->Option Loc)(f:List Nat)(N:Id->Prop)(Rel:(Id->Option Loc)->Prop)(l:List (Id×Option Rows)):Prop:=∃(β':Id->Option Loc)(G:Id->List Nat),(∀i l',β i=some l'->β' i=some l')∧(∀i,(∀x∈l,x.1≠i)->β' i=β i∧G i=[])∧Rel β'∧(∀x∈l,∃rows,x.2=some rows∧dJ w I β' x.1 rows (G x.1))∧(∀i,(G i).Nodup∧∀b∈G i,b∈f)∧(∀i i' b,b∈G i->b∈G i'->i=i')∧(∀x∈l,N x.1)
section
variable{w:World}{I:Nat->Prop}{β:Id->Option Loc}
theorem gQ.zero{f:List Nat}{N:Id->Prop}{Rel:(Id->Option Loc)->Prop}(h:Rel β):gQ w I β f N Rel []:=⟨β,fun _=>[],fun _ _ h=>h,fun _ _=>⟨rfl,rfl⟩,h,(fun x hx=>by cases hx),(fun i=>⟨Pi,(fun b hb=>by cases hb)⟩),(fun i i' b hb=>by cases hb),(fun x hx=>by cases hx)⟩
theorem gQ.weak{f f':List Nat}{N N':Id->Prop}{Rel Rel':(Id->Option Loc)->Prop}{l:List (Id×Option Rows)}(h:gQ w I β f N Rel l)(hf:∀b∈f,b∈f')(hN:∀i,N i->N' i)(hR:∀β',(∀i l',β i=some l'->β' i=some l')->Rel β'->Rel' β'):gQ w I β f' N' Rel' l:=by obtain⟨β',G,h1,h2,h3,h4,h5,h6,h7⟩:=h;exact⟨β',G,h1,h2,hR β' h1 h3,h4,fun i=>⟨(h5 i).1,fun b hb=>hf b ((h5 i).2 b hb)⟩,h6,fun x hx=>hN _ (h7 x hx)⟩
theorem gQ.join{f1 f2:List Nat}{zm E4:Id->Prop}{IW BY:(Id->Option Loc)->Prop}{l1 l2:List (Id×Option Rows)}(h2:gQ w I β f2 E4 BY l2)(h1:∀eY,(∀i l',β i=some l'->eY i=some l')->(∀x∈l1,eY x.1=none)->gQ w I eY f1 zm IW l1)(hfr:∀x∈l1,β x.1=none)(Kq:∀x∈l1,zm x.1)(hN:∀i,zm i->E4 i->False)(hf:∀b,b∈f1->b∈f2->False)(hm:∀eY cJ,(∀i l',eY i=some l'->cJ i=some l')->BY eY->BY cJ):gQ w I β (f1++f2) (fun i=>zm i∨E4 i) (fun β'=>IW β'∧BY β') (l1++l2):=by obtain⟨eY,sU,a1,a2,a3,a4,a5,a6,a7⟩:=h2;have hnot:∀x∈l1,∀y∈l2,y.1≠x.1:=fun x hx y hy e=>hN x.1 (Kq x hx) (e▸a7 y hy);obtain⟨cJ,oG,b1,b2,b3,b4,pT,B9,Ca⟩:=h1 eY a1 (fun x hx=>by rw[(a2 x.1 (hnot x hx)).1];exact hfr x hx);have g1:∀y∈l2,oG y.1=[]:=fun y hy=>(b2 y.1 fun x hx e=>hnot x hx y hy e.symm).2;have g2:∀x∈l1,sU x.1=[]:=fun x hx=>(a2 x.1 (hnot x hx)).2;have either:∀i,oG i=[]∨sU i=[]:=fun i=>by{by_cases h:∃x∈l1,x.1=i;·{obtain⟨x,hx,rfl⟩:=h;exact .inr (g2 x hx)};·exact .inl (b2 i fun x hx e=>h ⟨x,hx,e⟩).2};refine⟨cJ,fun i=>oG i++sU i,fun i l' h=>b1 i l' (a1 i l' h), ?_,⟨b3,hm _ _ b1 a3⟩, ?_, ?_, ?_, ?_⟩;·{intro i hi;obtain⟨e1,e2⟩:=b2 i fun x hx=>hi x (List.mem_append.2 (.inl hx));obtain⟨bF,fh⟩:=a2 i fun x hx=>hi x (List.mem_append.2 (.inr hx));exact⟨e1.trans bF,by simp[e2,fh]⟩};·{intro x hx;rcases List.mem_append.1 hx with hx|hx;·{simp only[g2 x hx,Hm];exact b4 x hx};·obtain⟨rows,e,h⟩:=a4 x hx;simp only[g1 x hx,Hc];exact⟨rows,e,h.mono (fun _ h=>h) (fun _ _=>rfl) b1⟩};·{intro i;refine⟨?_,fun b hb=> ?_⟩;·{rcases either i with h|h;·{simp only[h,Hc];exact(a5 i).1};·simp only[h,Hm];exact(pT i).1};·rcases List.mem_append.1 hb with hb|hb;·{exact List.mem_append.2 (.inl ((pT i).2 b hb))};·exact List.mem_append.2 (.inr ((a5 i).2 b hb))};·{intro i i' b hb hb';rcases List.mem_append.1 hb with hb|hb<;>rcases List.mem_append.1 hb' with hb'|hb';·{exact B9 i i' b hb hb'};·{exact(hf b ((pT i).2 b hb) ((a5 i').2 b hb')).elim};·{exact(hf b ((pT i').2 b hb') ((a5 i).2 b hb)).elim};·exact a6 i i' b hb hb'};·intro x hx;rcases List.mem_append.1 hx with hx|hx;·{exact .inl (Ca x hx)};·exact .inr (a7 x hx)
theorem It{p:Id}{cs:List U}{j:Nat}{f:List Nat}{vs:List Value}(h:av w I β f vs cs)(hnd:f.Nodup)(hfr:∀x∈(bJ p j cs).2,β x.1=none):gQ w I β f (fun i=>∃k,j<=k∧i=k::p) (fun β'=>av w I β' [] vs (bJ p j cs).1) (bJ p j cs).2:=Vv p h hnd hfr
theorem HK{p:Id}{rows:Rows}{a:U}{f:List Nat}{v:Value}(hnd:f.Nodup)(hfr:β p=none)(l:Loc)(hl:∀β':Id->Option Loc,(∀i l',β i=some l'->β' i=some l')->β' p=some l->R w I β' [] v a∧dJ w I β' p rows f):gQ w I β f (fun i=>i=p) (fun β'=>R w I β' [] v a) [(p,some rows)]:=by have up:∀i l',β i=some l'->aj β p (some l) i=some l':=fun i l' hl'=>by{by_cases hi:i=p;·{subst hi;rw[hfr]at hl';cases hl'};·simpa[aj,hi]using hl'};obtain⟨r1,r2⟩:=hl _ up (by simp[aj]);refine⟨aj β p (some l),aj (fun _=>[]) p f,up, ?_,r1, ?_, ?_, ?_, ?_⟩;·{intro i hi;have:i≠p:=fun e=>hi _ (Do ..) e.symm;simp[aj,this]};·{intro x hx;obtain rfl:=List.mem_singleton.1 hx;exact⟨rows,rfl,by simpa[aj]using r2⟩};·{intro i;by_cases hi:i=p;·{subst hi;simp[aj,hnd]};·simp[aj,hi]};·{intro i i' b hb hb';by_cases hi:i=p<;>by_cases hi':i'=p;·{rw[hi,hi']};·{simp[aj,hi']at hb'};·{simp[aj,hi]at hb};·simp[aj,hi]at hb};·intro x hx;obtain rfl:=List.mem_singleton.1 hx;rfl
theorem T4{p:Id}{rows:Rows}{len:Nat}{f:List Nat}{v:Value}(h:R w I β f v (.own rows len))(hnd:f.Nodup)(hfr:β p=none):gQ w I β f (fun i=>i=p) (fun β'=>R w I β' [] v (.rs p 0 len)) [(p,some rows)]:=by cases h with|j7=>(exact HK hnd hfr .nil fun β' _ hb=>⟨.iP hb rfl, .inl ⟨hb,rfl,rfl⟩⟩)| @own _ b o sz cap n _ cF jn _ g0 g1 g2 g3 g4 g5 g6=>(refine HK hnd hfr (.blk b o sz n) fun β' up hb=>⟨?_, .inr (.inr ⟨b,o,sz,n,jn,cF,hb,rfl,g2,⟨g0,g1⟩,g3.2,g5,g6.mono (fun _ h=>h) (fun _ _=>rfl) up⟩)⟩;have:=R.rs (w:=w) (I:=I) (off:=0) (len:=len) (cap:=cap) hb (by simpa using g3.1) g4.1;simpa using this)| @kV _ a b o sz n cF jn _ g0 g1 g2 g3 g5 g6=>exact HK hnd hfr (.blk b o sz n) fun β' up hb=>⟨.iP hb rfl, .inr (.inr ⟨b,o,sz,n,jn,cF,hb,rfl,g2,⟨g0,g1⟩,g3,g5,g6.mono (fun _ h=>h) (fun _ _=>rfl) up⟩)⟩
theorem TT{p:Id}{rows:Rows}{f:List Nat}{v:Value}(h:R w I β f v (.ef rows))(hnd:f.Nodup)(hfr:β p=none):gQ w I β f (fun i=>i=p) (fun β'=>R w I β' [] v (.mr p)) [(p,some rows)]:=by obtain⟨b,rfl,rfl,hm⟩:=h.MD;exact HK hnd hfr (.map b) fun β' _ hb=>⟨.mr hb, .inr (.inl ⟨b,hb,rfl,hm⟩)⟩
theorem ai6{p:Id}{cells:List U}{f:List Nat}{v:Value}(h:R w I β f v (.aP cells))(hnd:f.Nodup)(hfr:β p=none):gQ w I β f (fun i=>i=p) (fun β'=>R w I β' [] v (.mp p 0 0)) [(p,some [cells])]:=by cases h with| @aP _ b o n cF jn _ g2 g3 g5 g6=>have up:∀i l',β i=some l'->aj β p (some (.blk b o cells.length n)) i=some l':=fun i l' hl'=>by{by_cases hi:i=p;·{subst hi;rw[hfr]at hl';cases hl'};·simpa[aj,hi]using hl'};refine⟨aj β p (some (.blk b o cells.length n)),aj (fun _=>[]) p (b::cF),up, ?_, ?_, ?_, ?_, ?_, ?_⟩;·{intro i hi;have:i≠p:=fun e=>hi _ (Do ..) e.symm;simp[aj,this]};·{have:=R.mp (w:=w) (I:=I) (β:=aj β p (some (.blk b o cells.length n))) (id:=p) (row:=0) (off:=0) (by simp[aj];exact⟨rfl,rfl,rfl,rfl⟩);simpa using this};·{intro x hx;obtain rfl:=List.mem_singleton.1 hx;exact⟨[cells],rfl, .inr (.inr ⟨b,o,cells.length,n,jn,cF,by simp[aj],by simp[aj],g2,⟨by simp,by simp⟩,by simpa using g3,g5,by simpa using g6.mono (fun _ h=>h) (fun _ _=>rfl) up⟩)⟩};·{intro i;by_cases hi:i=p;·{subst hi;simp only[aj,if_true];exact⟨hnd,fun _ h=>h⟩};·simp[aj,hi]};·{intro i i' b hb hb';by_cases hi:i=p<;>by_cases hi':i'=p;·{rw[hi,hi']};·{simp[aj,hi']at hb'};·{simp[aj,hi]at hb};·simp[aj,hi]at hb};·intro x hx;obtain rfl:=List.mem_singleton.1 hx;rfl
theorem ai7{p:Id}{cells:List U}{f:List Nat}{v:Value}(h:R w I β f v (.aP cells))(hnd:f.Nodup)(hfr:β p=none)(aeJ:∀x∈(bJ p 0 cells).2,β x.1=none):gQ w I β f (fun i=>∃q,i=q++p) (fun β'=>R w I β' [] v (.mp p 0 0)) ((p,some [(bJ p 0 cells).1])::(bJ p 0 cells).2):=by cases h with| @aP _ b o n cF jn _ g2 g3 g5 g6=>have od:cF.Nodup:=(List.nodup_cons.1 hnd).2;have hb:b∉cF:=(List.nodup_cons.1 hnd).1;obtain⟨eY,oG,a1,a2,a3,a4,a5,a6,a7⟩:=It (p:=p) (j:=0) g6 od aeJ;have hnot:∀x∈(bJ p 0 cells).2,x.1≠p:=fun x hx e=>by{obtain⟨k,_,e'⟩:=a7 x hx;rw[e]at e';exact absurd (congrArg H0 e') (by simp)};have LA:eY p=none:=by{rw[(a2 p hnot).1];exact hfr};have up:∀i l',eY i=some l'->aj eY p (some (.blk b o cells.length n)) i=some l':=fun i l' hl'=>by{by_cases hi:i=p;·{subst hi;rw[LA]at hl';cases hl'};·simpa[aj,hi]using hl'};have hlen:(bJ p 0 cells).1.length=cells.length:=by{rw[<-a3.length,av.length g6]};refine⟨aj eY p (some (.blk b o cells.length n)),aj oG p [b],fun i l' h=>up i l' (a1 i l' h), ?_, ?_, ?_, ?_, ?_, ?_⟩;·{intro i hi;have h1:i≠p:=fun e=>hi _ (Do ..) e.symm;have:=a2 i fun x hx=>hi x (GT _ hx);simpa[aj,h1]using this};·{have:=R.mp (w:=w) (I:=I) (β:=aj eY p (some (.blk b o cells.length n))) (id:=p) (row:=0) (off:=0) (by simp[aj];exact⟨rfl,rfl,rfl,rfl⟩);simpa using this};·{intro x hx;rcases List.mem_cons.1 hx with rfl|hx;·{exact⟨_,rfl, .inr (.inr ⟨b,o,cells.length,n,jn,[],by simp[aj],by simp[aj],g2,⟨by simp,by simp[hlen]⟩,by simpa using g3,g5,by simpa using a3.mono (fun _ h=>h) (fun _ _=>rfl) up⟩)⟩};·obtain⟨rows,e,h⟩:=a4 x hx;refine⟨rows,e, ?_⟩;have:=h.mono (w':=w) (I':=I) (fun _ h=>h) (fun _ _=>rfl) up;simpa[aj,hnot x hx]using this};·{intro i;by_cases hi:i=p;·{subst hi;simp[aj]};·simp only[aj,hi,if_false];exact⟨(a5 i).1,fun b hb=>GT _ ((a5 i).2 b hb)⟩};·{intro i i' c hc iB;by_cases hi:i=p<;>by_cases hi':i'=p;·{rw[hi,hi']};·{simp[aj,hi,hi']at hc iB;subst hc;exact(hb ((a5 i').2 _ iB)).elim};·{simp[aj,hi,hi']at hc iB;subst iB;exact(hb ((a5 i).2 _ hc)).elim};·simp only[aj,hi,hi',if_false]at hc iB;exact a6 i i' c hc iB};·intro x hx;rcases List.mem_cons.1 hx with rfl|hx;·{exact⟨[],rfl⟩};·obtain⟨k,_,e⟩:=a7 x hx;exact⟨[k],by simpa using e⟩
theorem R.Rg{f:List Nat}{v:Value}{a:U}(h:R w I β f v a)(h1:∀l m,a≠ .own l m)(h2:∀l,a≠ .aP l)(h3:∀l,a≠ .agg l)(h4:∀l,a≠ .aU l)(h5:∀l,a≠ .ef l):f=[]:=by cases h<;>first|rfl|simp_all
theorem Sq(p:Id):∀{cs:List U}{j:Nat}{f:List Nat}{vs:List Value},av w I β f vs cs->f.Nodup->(∀x∈(eP p j cs).2,β x.1=none)->gQ w I β f (fun i=>∃q k,j<=k∧i=q++k::p) (fun β'=>av w I β' [] vs (eP p j cs).1) (eP p j cs).2|[],j,f,vs,h,_,_=>by{obtain⟨rfl,rfl⟩:=h.gd;exact .zero .nil}|c::cs,j,f,vs,h,hnd,hfr=>by obtain⟨f1,f2,v,vs',rfl,rfl,h1,h2⟩:=av.cons_inv h;have oZ:f2.Nodup:=(List.nodup_append.1 hnd).2.1;have so:f1.Nodup:=(List.nodup_append.1 hnd).1;have vg:∀b,b∈f1->b∈f2->False:=fun b hb hb'=>(List.nodup_append.1 hnd).2.2 b hb b hb' rfl;have go:∀(x:U)(l:List (Id×Option Rows)),eP p j (c::cs)=(x::(eP p (j+1) cs).1,l++(eP p (j+1) cs).2)->(∀eY:Id->Option Loc,(∀i l',β i=some l'->eY i=some l')->(∀x∈l,eY x.1=none)->gQ w I eY f1 (fun i=>∃q,i=q++j::p) (fun β'=>R w I β' [] v x) l)->(∀y∈l,∃q,y.1=q++j::p)->gQ w I β (f1++f2) (fun i=>∃q k,j<=k∧i=q++k::p) (fun β'=>av w I β' [] (v::vs') (eP p j (c::cs)).1) (eP p j (c::cs)).2:=fun x l e hh hn=>by{rw[e]at hfr|-;simp only at hfr|-;have ih:=Sq p (j:=j+1) h2 oZ (fun y hy=>hfr y (List.mem_append.2 (.inr hy)));refine(gQ.join ih hh (fun y hy=>hfr y (List.mem_append.2 (.inl hy))) hn ?_ vg (fun eY cJ up h=>h.mono (fun _ h=>h) (fun _ _=>rfl) up)).weak (fun _ h=>h) ?_ (fun β' _ h=>R.cons (f1:=[]) (f2:=[]) h.1 h.2);·{rintro i⟨q,rfl⟩⟨q',k,hk,e⟩;have hl:=congrArg H0 e;simp only[PQ,List.length_cons]at hl;have:=(List.append_inj e (by omega)).2;simp at this;omega};·rintro i(⟨q,rfl⟩|⟨q,k,hk,rfl⟩);·{exact⟨q,j,Nat.le_refl _,rfl⟩};·exact⟨q,k,by omega,rfl⟩};cases c with|own rows=>(exact go _ [(j::p,some rows)] rfl (fun eY up hf=>(T4 (h1.mono (fun _ h=>h) (fun _ _=>rfl) up) so (hf _ (Do ..))).weak (N':=fun i=>∃q,i=q++j::p) (fun _ h=>h) (fun i e=>⟨[],e⟩) (fun _ _ h=>h)) (fun y hy=>⟨[],by rw[List.mem_singleton.1 hy];rfl⟩))|ef rows=>(exact go _ [(j::p,some rows)] rfl (fun eY up hf=>(TT (h1.mono (fun _ h=>h) (fun _ _=>rfl) up) so (hf _ (Do ..))).weak (N':=fun i=>∃q,i=q++j::p) (fun _ h=>h) (fun i e=>⟨[],e⟩) (fun _ _ h=>h)) (fun y hy=>⟨[],by rw[List.mem_singleton.1 hy];rfl⟩))|aP cells=>(exact go _ [(j::p,some [cells])] rfl (fun eY up hf=>(ai6 (h1.mono (fun _ h=>h) (fun _ _=>rfl) up) so (hf _ (Do ..))).weak (N':=fun i=>∃q,i=q++j::p) (fun _ h=>h) (fun i e=>⟨[],e⟩) (fun _ _ h=>h)) (fun y hy=>⟨[],by rw[List.mem_singleton.1 hy];rfl⟩))|agg l=>(obtain⟨us,rfl,hl⟩:=h1.pP;have GR:∀y∈(bJ (j::p) 0 l).2,∃q,y.1=q++j::p:=fun y hy=>by{obtain⟨_,_,_,_,_,_,_,_,a7⟩:=It (p:=j::p) (j:=0) hl so (fun x hx=>hfr x (List.mem_append.2 (.inl hx)));obtain⟨k,_,e⟩:=a7 y hy;exact⟨[k],by simpa using e⟩};refine go _ (bJ (j::p) 0 l).2 rfl (fun eY up hf=> ?_) GR;have Ap:av w I eY f1 us l:=hl.mono (fun _ h=>h) (fun _ _=>rfl) up;exact(It Ap so hf).weak (fun _ h=>h) (fun i⟨k,_,e⟩=>⟨[k],by simpa using e⟩) (fun _ _ h=>h))|aU l=>(exact go _ [] rfl (fun eY _ _=> .zero .bf) (by simp))|_=>have Al:f1=[]:=h1.Rg (by simp) (by simp) (by simp) (by simp) (by simp);subst Al;exact go _ [] rfl (fun eY up _=> .zero (h1.mono (fun _ h=>h) (fun _ _=>rfl) up)) (by simp)
theorem Dz(p:Id){a:U}{f:List Nat}{v:Value}(h:R w I β f v a)(hnd:f.Nodup)(hfr:∀x∈(imp p a).2,β x.1=none):gQ w I β f (fun i=>∃q,i=q++p) (fun β'=>R w I β' [] v (imp p a).1) (imp p a).2:=by cases a with|own rows=>(exact(T4 h hnd (hfr (p,some rows) (Do ..))).weak (N':=fun i=>∃q,i=q++p) (fun _ h=>h) (fun i e=>⟨[],e⟩) (fun _ _ h=>h))|ef rows=>(exact(TT h hnd (hfr (p,some rows) (Do ..))).weak (N':=fun i=>∃q,i=q++p) (fun _ h=>h) (fun i e=>⟨[],e⟩) (fun _ _ h=>h))|aP cells=>(exact ai7 h hnd (hfr (p,some [(bJ p 0 cells).1]) (Do ..)) (fun x hx=>hfr x (GT _ hx)))|agg l=>(obtain⟨us,rfl,hl⟩:=h.pP;exact(It hl hnd hfr).weak (fun _ h=>h) (fun i⟨k,_,e⟩=>⟨[k],by simpa using e⟩) (fun _ _ h=>h))|aU l=>(obtain⟨us,rfl,hl⟩:=h.By;exact(Sq p hl hnd hfr).weak (fun _ h=>h) (fun i⟨q,k,_,e⟩=>⟨q++[k],by simpa using e⟩) (fun _ _ h=> .aU h))|_=>have hf:f=[]:=h.Rg (by simp) (by simp) (by simp) (by simp) (by simp);subst hf;exact .zero h
end
open Go
def vI:List Nat->List U->List (Id×Option Rows)|s::l,v::vs=>(imp [s] v).2++vI l vs|_,_=>[]
theorem y4(h:Id->Option (Option Rows))(b:List (Id×Option Rows)):∀a,aZ h (a++b)=aZ (aZ h b) a|[]=>rfl|(i,r)::l=>by simp[aZ,y4 h b l]
theorem DT(n:Nat):∀(slots:List Nat)(b9:List U),(aH n slots b9).h=aZ (fun _=>none) (vI slots b9)|[],_=>rfl|_::_,[]=>rfl|s::l,v::vs=>by simp[aH,vI,y4,DT n l vs]
theorem AQ(n:Nat):∀(slots:List Nat)(b9:List U),(aH n slots b9).n=n|[],_=>rfl|_::_,[]=>rfl|s::l,v::vs=>rfl
theorem S9(n:Nat):∀(slots:List Nat)(b9:List U)(t:Nat),t∉slots->(aH n slots b9).t t= .bf|[],_,_,_=>rfl|_::_,[],_,_=>rfl|s::l,v::vs,t,h=>by have h1:t≠s:=fun e=>h (by simp[e]);have h2:t∉l:=fun e=>h (by simp[e]);simp only[aH,aj,h1,if_false];exact S9 n l vs t h2
section
variable{w:World}{I:Nat->Prop}
theorem Ss(p:Id){a:U}{f:List Nat}{v:Value}(h:R w I bL f v a)(hnd:f.Nodup):∀x∈(imp p a).2,∃q,x.1=q++p:=by obtain⟨_,_,_,_,_,_,_,_,a7⟩:=Dz p h hnd (fun _ _=>rfl);exact a7
theorem S7(n:Nat)(g:Nat->Value):∀{slots:List Nat}{b9:List U}{f:List Nat},av w I bL f (slots.map g) b9->slots.Nodup->f.Nodup->gQ w I bL f (fun i=>∃q s,s∈slots∧i=q++[s]) (fun β'=>∀s∈slots,R w I β' [] (g s) ((aH n slots b9).t s)) (vI slots b9)|[],_,_,_,_,_=> .zero (fun s hs=>by cases hs)|s::l,b9,f,h,hs,hf=>by cases h with| @cons _ f1 f2 _ _ v vs h1 h2=>have oZ:f2.Nodup:=(List.nodup_append.1 hf).2.1;have so:f1.Nodup:=(List.nodup_append.1 hf).1;have vg:∀b,b∈f1->b∈f2->False:=fun b hb hb'=>(List.nodup_append.1 hf).2.2 b hb b hb' rfl;have kD:s∉l:=(List.nodup_cons.1 hs).1;have ih:=S7 n g h2 (List.nodup_cons.1 hs).2 oZ;refine(gQ.join (zm:=fun i=>∃q,i=q++[s]) (IW:=fun β'=>R w I β' [] (g s) (imp [s] v).1) (l1:=(imp [s] v).2) ih (fun eY up hfr=>Dz [s] (h1.mono (fun _ h=>h) (fun _ _=>rfl) up) so hfr) (fun _ _=>rfl) (Ss [s] h1 so) ?_ vg ?_).weak (fun _ h=>h) ?_ ?_;·{rintro i⟨q,rfl⟩⟨q',s',hs',e⟩;have:=(List.append_inj' e rfl).2;simp at this;subst this;exact kD hs'};·{intro eY cJ up h s' hs';exact(h s' hs').mono (fun _ h=>h) (fun _ _=>rfl) up};·{rintro i(⟨q,rfl⟩|⟨q,s',hs',rfl⟩);·{exact⟨q,s,Do ..,rfl⟩};·exact⟨q,s',GT _ hs',rfl⟩};·intro β' _⟨r1,r2⟩s' hs';rcases List.mem_cons.1 hs' with rfl|hs';·{simpa[aH,aj]using r1};·have hne:s'≠s:=fun e=>kD (e▸hs');simpa[aH,aj,hne]using r2 s' hs'
theorem aG.enter{C:aF}{E:Env}{a:Act}{n:Nat}{slots:List Nat}{b9:List U}{f:List Nat}(hn:a.tmps.size=n)(hdf:jq w (fun b=>I b∧E.m<=b) E.ds a.defers)(hr:av w I bL f (slots.map (a.tmps.getD · undef)) b9)(hs:slots.Nodup)(hf:f.Nodup)
  (hI:∀b,I b->(E.cH b∨E.eZ b∨E.w0.heap.size<=b)∧b<w.heap.size∧b∉f)(hlt:∀b∈f,b<w.heap.size∧(E.eZ b∨E.w0.heap.size<=b))(hk:Kept E.w0 w E.eZ)
  (hg:∀g cs,C.cu g=some cs->R w I bL [] (.pointer (some ⟨g,0,none⟩)) (.ay cs))(vq:∀t,t<n->∀q,¬E.K (q++[t]):=by exact fun _ _ _ h=>h.elim)(Ln:∀s∈slots,∀q,¬E.K (q++[s]):=by exact fun _ _ _ h=>h.elim):br C E (aH n slots b9) a w:=by
 obtain⟨β',G,a1,a2,a3,a4,a5,a6,a7⟩:=S7 n (a.tmps.getD · undef) hr hs hf
 have oR:∀b,I b->aB E w G b:=fun b hb=>⟨(hI b hb).1,(hI b hb).2.1,fun id hm=>(hI b hb).2.2 ((a5 id).2 b hm)⟩
 refine⟨β',G,{n:=by rw[AQ];exact hn,df:=hdf.mono (fun b hb=>⟨oR b hb.1,hb.2⟩) (fun _ _=>rfl),slot:= ?_,obj:= ?_,dead:= ?_,nd:=fun id=>(a5 id).1,cV:=a6,dom:= ?_,lt:=fun id b hb=>hlt b ((a5 id).2 b hb),kept:=hk,cu:=fun g cs h=>(hg g cs h).mono oR (fun _ _=>rfl) yt,ns:=fun t ht=>vq t (by rw[AQ]at ht;exact ht),kb:=fun k rows hk hr=> ?_}⟩
 ·intro t
  by_cases ht:t∈slots
  ·exact(a3 t ht).mono oR (fun _ _=>rfl) (fun _ _ h=>h)
  ·rw[S9 n slots b9 t ht];exact .bf
 ·intro id rows h
  rw[DT]at h
  rcases gk (fun _=>none) (vI slots b9) id with⟨x,hx,rfl,e⟩|⟨_,e⟩
  ·obtain⟨aY,e',h'⟩:=a4 x hx
   rw[e,e']at h
   simp at h;subst h
   exact h'.mono oR (fun _ _=>rfl) (fun _ _ h=>h)
  ·rw[e]at h;cases h
 ·intro id h
  rw[DT]at h
  rcases gk (fun _=>none) (vI slots b9) id with⟨x,hx,rfl,e⟩|⟨hx,e⟩
  ·obtain⟨aY,e',h'⟩:=a4 x hx
   rw[e,e']at h
   exact absurd rfl (h aY)
  ·exact(a2 id hx).2
 ·intro id h
  rw[DT]at h
  rcases gk (fun _=>none) (vI slots b9) id with⟨x,hx,rfl,e⟩|⟨hx,e⟩
  ·rw[e]at h;cases h
  ·exact(a2 id hx).1
 ·rw[DT]at hr
  rcases gk (fun _=>none) (vI slots b9) k with⟨x,hx,rfl,e⟩|⟨hx,e⟩
  ·obtain⟨q,s,hs',e'⟩:=a7 x hx
   rw[e']at hk
   exact absurd hk (Ln s hs' q)
  ·rw[e]at hr;cases hr
structure fN(l:List Nat):Prop where
 nd:l.Nodup
 no:iL∉l
theorem fN.nil:fN []:=⟨Pi,by simp⟩
theorem LO(q:Id)(s:Nat):j3 (q++[s])=(s==iL):=by induction q with|nil=>(rfl)|cons a q ih=>cases q with|nil=>(rfl)|cons b q=>exact ih
theorem fN.DX{E:Env}{l:List Nat}(h:fN l):∀s∈l,∀q,¬E.K (q++[s]):=fun s hs q hk=>by have:=E.vB _ hk;rw[LO,beq_iff_eq]at this;exact h.no (this▸hs)
end
open Go
def II(P:Program)(f:FuncId)(args:Array Value)(w:World)(Post:Value->World->Prop):Prop:=(∃fn c,P.funcs[f]? =some fn∧fn.body=some c∧Calls P f args w fun e w'=>∃v,e= .returned v∧Post v w')∨(∃v w',(callFunc f args).run P w= .ok (.value v) w'∧Post v w')
def su(cp:List Nat)(vs:List Value):List Value:=cp.map fun j=>vs.getD j undef
structure wQ(w:World)(fp:List Nat)(cH:Nat->Prop)(ls:List Value)(r:U×List U)(v:Value)(w':World):Prop where kept:Kept w w' (·∈fp)ex:∃(I':Nat->Prop)(fr:List Nat),av w' I' bL fr (v::ls) (r.1::r.2)∧fr.Nodup∧(∀b∈fr,b<w'.heap.size∧(b∈fp∨w.heap.size<=b))∧(∀b,I' b->(cH b∨b∈fp∨w.heap.size<=b)∧b<w'.heap.size∧b∉fr)
def qL(C:aF)(f:FuncId)(args:List U)(r:U×List U):Prop:=∀(w:World)(cH:Nat->Prop)(fp:List Nat)(vs:List Value),av w cH bL fp vs args->fp.Nodup->(∀b,cH b->b<w.heap.size∧b∉fp)->(∀b∈fp,b<w.heap.size)->(∀g cs,C.cu g=some cs->R w cH bL [] (.pointer (some ⟨g,0,none⟩)) (.ay cs))->II C.P f ⟨vs⟩ w (wQ w fp cH (su (C.cp f) vs) r)
def Og(P:Program)(f:FuncId)(args:Array Value)(w:World)(Post:Ending->World->Prop):Prop:=(∃fn c,P.funcs[f]? =some fn∧fn.body=some c∧Calls P f args w Post)∨(∃v w',(callFunc f args).run P w= .ok (.value v) w'∧Post (.returned v) w')
structure E0(C:aF)(w:World)(cH:Nat->Prop)(β:Id->Option Loc)(G:Id->List Nat)(hl:List (Id×Rows))(vs:List Value)(as:List U):Prop where
 args:av w cH β [] vs as
 obj:∀k rows,(k,rows)∈hl->dJ w cH β k rows (G k)
 out:∀k,k∉hl.map (·.1)->β k=none∧G k=[]
 nd:∀k,(G k).Nodup
 cV:∀i j b,b∈G i->b∈G j->i=j
 lt:∀k b,b∈G k->b<w.heap.size
 i0:∀b,cH b->b<w.heap.size∧∀k,b∉G k
 cu:∀g cs,C.cu g=some cs->R w cH bL [] (.pointer (some ⟨g,0,none⟩)) (.ay cs)
def BN(w':World)(I':Nat->Prop)(β:Id->Option Loc)(fr:List Nat)(e:Ending):U->Prop| .AY u=>e= .panicked [{v:=u,recovered:=false}]∧fr=[]|r=>∃v,e= .returned v∧R w' I' β fr v r
structure IX(w:World)(cH:Nat->Prop)(β:Id->Option Loc)(G:Id->List Nat)(r:U×List U)(e:Ending)(w':World):Prop where
 kept:Kept w w' fun b=>∃k,b∈G k
 ex:∃(I':Nat->Prop)(G':Id->List Nat)(fr:List Nat),BN w' I' β fr e r.1∧(∀k rows,U.bQ k rows∈r.2->dJ w' I' β k rows (G' k))∧(∀k,(∀rows,U.bQ k rows∉r.2)->G' k=[])∧
  (∀k,(G' k).Nodup)∧(∀i j b,b∈G' i->b∈G' j->i=j)∧fr.Nodup∧(∀k b,b∈G' k->b∉fr)∧
  (∀b,(b∈fr∨∃k,b∈G' k)->b<w'.heap.size∧((∃k,b∈G k)∨w.heap.size<=b))∧
  (∀b,I' b->(cH b∨(∃k,b∈G k)∨w.heap.size<=b)∧b<w'.heap.size∧b∉fr∧∀k,b∉G' k)
def BZ(C:aF)(f:FuncId)(args:List U)(r:U×List U):Prop:=∀obs as hl,args= .aU obs::as->vN obs=some hl->(hl.map (·.1)).Nodup->(∀x∈hl,j3 x.1=true)->∀(w:World)(cH:Nat->Prop)(β:Id->Option Loc)(G:Id->List Nat)(vs:List Value),E0 C w cH β G hl vs as->Og C.P f ⟨vs⟩ w (IX w cH β G r)
def Sound(C:aF)(f:FuncId)(args:List U)(r:U×List U):Prop:=(C.gT f=false->qL C f args r)∧(C.gT f=true->BZ C f args r)
theorem qL.sound{C:aF}{f:FuncId}{args:List U}{r:U×List U}(h:qL C f args r)(hg:C.gT f=false):Sound C f args r:=⟨fun _=>h,fun e=>by rw[hg]at e;cases e⟩
theorem BZ.sound{C:aF}{f:FuncId}{args:List U}{r:U×List U}(h:BZ C f args r)(hg:C.gT f=true):Sound C f args r:=⟨(fun e=>by rw[hg]at e;cases e),fun _=>h⟩
def qJ(P:Program):Prop:=∀(f:FuncId)(fn:Func),P.funcs[f]? =some fn->(fn.name== "runtime.NumGoroutine")=false
section
variable{C:aF}{E:Env}{w:World}{S:ah}{a:Act}{β:Id->Option Loc}{F:Id->List Nat}
variable{next:Act->World->Prop}{Q:Exit->Act->World->Prop}
theorem v7{P:Program}(hN:qJ P){f:FuncId}{fn:Func}{c:Code}(hf:P.funcs[f]? =some fn)(hb:fn.body=some c)(args:Array Value):(callFunc f args).run P w= .ok (.enter f args) w:=by have:¬fn.name= "runtime.NumGoroutine" :=by{simpa using hN f fn hf};simp[callFunc,hf,hb,this]
theorem aG.imported(h:aG C E w S a β F){o:Oper}{d:Nat}(bw:o.dst=some d){w':World}{fr:List Nat}{v:Value}{r:U}(hk:Kept w w' (fun _=>False))(hr:R w' (fun b=>aB E w F b∨(w.heap.size<=b∧b<w'.heap.size∧b∉fr)) bL fr v r)(hnd:fr.Nodup)(hfr:∀b∈fr,w.heap.size<=b∧b<w'.heap.size)(hfresh:fresh S.h (imp [d] r).2=true)(rd:List Id)(hd:cC S (put o (imp [d] r).1 rd (imp [d] r).2)):br C E (S.app (put o (imp [d] r).1 rd (imp [d] r).2)) (a.put o.dst v) w':=by have nw:=Gk hfresh;obtain⟨β',G,a1,a2,a3,a4,a5,a6,a7⟩:=Dz (β:=β) [d] (hr.mono (fun _ h=>h) (fun _ _=>rfl) yt) hnd (fun x hx=>h.dom _ (nw x hx));have r9:∀x∈(imp [d] r).2,F x.1=[]:=fun x hx=>h.dead _ (by rw[nw x hx];simp);have CT:∀i b,b∈G i->w.heap.size<=b∧b<w'.heap.size:=fun i b hb=>hfr b ((a5 i).2 b hb);refine⟨β',fun i=>F i++G i, ?_⟩;have gJ:(∀b,aB E w F b->aB E w' (fun i=>F i++G i) b)->∀b,(aB E w F b∨(w.heap.size<=b∧b<w'.heap.size∧b∉fr))->aB E w' (fun i=>F i++G i) b:=fun hI b hb=>by{rcases hb with hb|⟨h1,h2,h3⟩;·{exact hI b hb};·refine⟨.inr (.inr (Nat.le_trans h.kept.size h1)),h2,fun id hm=> ?_⟩;rcases List.mem_append.1 hm with hm|hm;·{have:=(h.lt id b hm).1;omega};·exact h3 ((a5 id).2 b hm)};have hh:(S.app (put o (imp [d] r).1 rd (imp [d] r).2)).h=aZ S.h (imp [d] r).2:=rfl;refine h.Bm (fun id=>∃x∈(imp [d] r).2,x.1=id) (by rw[uv];exact h.n) hk.size hk.os hk.out hk.eI (fun b hb _=>hk.blk b hb id) a1 ?_ ?_ ?_ ?_ ?_ ?_ ?_ ?_ (fH:=hk.nN) (hok:=kn.of rfl fun x hx _=>by obtain⟨q,e⟩:=a7 x hx;rw[e];exact .inl (h.ns d (by simpa[cC,put,bw]using hd) q));·{intro id b hb;rcases List.mem_append.1 hb with hb|hb;·{exact .inl ⟨id,hb⟩};·exact .inr (CT id b hb)};·{intro id hid;have hno:∀x∈(imp [d] r).2,x.1≠id:=fun x hx e=>hid ⟨x,hx,e⟩;refine⟨by simp[(a2 id hno).2], ?_⟩;rw[hh];rcases gk S.h (imp [d] r).2 id with⟨x,hx,e,_⟩|⟨_,e⟩;·{exact absurd e (hno x hx)};·exact e};·{rintro hI id⟨x,hx,rfl⟩rows hrows;rw[hh]at hrows;rcases gk S.h (imp [d] r).2 x.1 with⟨y,hy,e,e'⟩|⟨hno,_⟩;·{rw[e']at hrows;obtain⟨aY,e2,h2⟩:=a4 y hy;rw[e2]at hrows;simp at hrows;subst hrows;rw[<-e];simp only[r9 y hy,Hc];exact h2.mono (gJ hI) (fun _ _=>rfl) (fun _ _ h=>h)};·exact absurd rfl (hno x hx)};·{rintro id⟨x,hx,rfl⟩hno;rw[hh]at hno;rcases gk S.h (imp [d] r).2 x.1 with⟨y,hy,e,e'⟩|⟨hn,_⟩;·{obtain⟨aY,e2,h2⟩:=a4 y hy;exact absurd (by rw[e',e2]) (hno aY)};·exact absurd rfl (hn x hx)};·{rintro id⟨x,hx,rfl⟩;simp only[r9 x hx,Hc];exact(a5 _).1};·{rintro i j b⟨x,hx,rfl⟩hb hb';simp only[r9 x hx,Hc]at hb;rcases List.mem_append.1 hb' with hb'|hb';·{have:=(h.lt j b hb').1;have:=(CT _ b hb).1;omega};·exact a6 _ _ b hb hb'};·{intro id hid;rw[hh]at hid;rcases gk S.h (imp [d] r).2 id with⟨x,hx,e,e'⟩|⟨hno,e⟩;·{rw[e']at hid;cases hid};·rw[(a2 id hno).1];exact h.dom id (by rw[<-e];exact hid)};·intro hI t;have hd':d<a.tmps.size:=by{rw[h.n];simpa[cC,put,bw]using hd};rw[bw,uu a d t v hd'];by_cases ht:t=d;·{subst ht;rw[if_pos rfl];refine .inr ?_;have:=a3.mono (w':=w') (gJ hI) (fun _ _=>rfl) (fun _ _ h=>h);simpa[ah.app,put,bw,cT,aj]using this};·rw[if_neg ht];refine .inl ⟨rfl, ?_⟩;simp[ah.app,put,bw,cT,aj,ht]
def zl(C:aF)(k:FuncId):Prop:=∀(w:World)(cH:Nat->Prop)(vs us:List Value)(i c:Int)(cells:List U)(ks:Rows)(u:Value),(∀u∈us,eo u=true)->av w cH bL [] vs [.val (.int .i64 i), .ay [.sl (us.map fun u=>[.val u])], .ay cells]->cells[4]? =some (.sl ks)->ks[i.toNat]? =some [.val (.int .i64 c)]->us[c.toNat]? =some u->0<=i->0<=c->(∀b,cH b->b<w.heap.size)->(∀g cs,C.cu g=some cs->R w cH bL [] (.pointer (some ⟨g,0,none⟩)) (.ay cs))->II C.P k ⟨vs⟩ w fun v w'=>v=u∧Kept w w' (fun _=>False)
theorem TV{I:Nat->Prop}:∀{rows:Rows}{f:List Nat}{vs:List Value},av w I β f vs rows.flatten->rows.all AV=true->vs.length=rows.length∧(∀v∈vs,eo v=true)∧∀(k:Nat)(x:U),rows[k]? =some [x]->∃v,vs[k]? =some v∧R w I β [] v x|[],f,vs,h,_=>by{obtain⟨_,rfl⟩:=h.gd;exact⟨rfl,(fun v hv=>by cases hv),fun k x hx=>by simp at hx⟩}|r::rows,f,vs,h,hr=>by simp only[List.all_cons,Ha]at hr;obtain⟨a,ha,GA⟩:∃a,r=[a]∧((∃v,a= .val v)∨∃cs,a= .ay cs):=by{obtain⟨h1,_⟩:=hr;unfold AV at h1;split at h1;·{exact⟨_,rfl, .inl ⟨_,rfl⟩⟩};·{exact⟨_,rfl, .inr ⟨_,rfl⟩⟩};·cases h1};subst ha;simp only[Hb,Kd,Hc]at h;obtain⟨f1,f2,v,vs',e0,rfl,h1,h2⟩:=h.cons_inv;obtain⟨g1,g2,g3⟩:=TV h2 hr.2;have hsc:eo v=true∧R w I β [] v a:=by{rcases GA with⟨u,rfl⟩|⟨cs,rfl⟩;·{cases h1 with|val hh=>exact⟨hh, .val hh⟩};·cases h1 with|ay p1 p2 p3=>exact⟨rfl, .ay p1 p2 p3⟩};refine⟨by simp[g1],fun u hu=> ?_,fun k x hx=> ?_⟩;·{rcases List.mem_cons.1 hu with rfl|hu;·{exact hsc.1};·exact g2 u hu};·cases k with|zero=>(simp only[List.getElem?_cons_zero,AC,List.cons.injEq,and_true]at hx;subst hx;exact⟨v,rfl,hsc.2⟩)|succ k=>simpa using g3 k x (by simpa using hx)
theorem av.vals{I:Nat->Prop}:∀{us:List Value},(∀u∈us,eo u=true)->av w I β [] us (us.map U.val)|[],_=> .nil|u::us,h=>R.cons (f1:=[]) (f2:=[]) (.val (h u (Do ..))) (av.vals fun v hv=>h v (GT _ hv))
theorem Q0:∀us:List Value,(us.map fun u=>[U.val u]).flatten=us.map U.val|[]=>rfl|u::us=>by simp[Q0 us]
theorem aiH(hN:qJ C.P)(h:aG C E w S a β F){o:Oper}{c:Call}{aI:Operand}(ho:o.op= .call c)(hc:c.callee= .value aI){k:FuncId}(hl:zl C k){first caps:List U}{hJ iG:List Value}(l8:a.eval aI= .func (.func k) ⟨hJ⟩ ⟨iG⟩)(h1:av w (aB E w F) β [] hJ first)(h2:av w (aB E w F) β [] iG caps){e:bh}(he:vF S o (first++(c.args.toList.map fun x=>un true (S.get C x))++caps)=some e)(hd:cC S e)(hn:∀a' w',br C E (S.app e) a' w'->next a' w'):o.wp C.P a w next Q:=by have hargs:=av.ofMap h c.args.toList;have hall:av w (aB E w F) β [] (hJ++c.args.toList.map a.eval++iG) (first++(c.args.toList.map fun x=>un true (S.get C x))++caps):=(h1.append hargs).append h2;have qg:(execOp a.eval o).run C.P w=(callFunc k ⟨hJ++c.args.toList.map a.eval++iG⟩).run C.P w:=by{have e2:((⟨hJ⟩:Array Value)++c.args.map a.eval++⟨iG⟩:Array Value)=⟨hJ++c.args.toList.map a.eval++iG⟩:=by{apply Array.ext';simp};have bF:resolve a.eval c o.type=(pure {target:= .fn (.func k) ⟨iG⟩,args:=⟨hJ⟩++c.args.map a.eval}:Sem Deferred):=by{simp[resolve,hc,l8,Deferred.ofValue]};have fh:execOp a.eval o=(do let d<-resolve a.eval c o.type;invoke d.target d.args:Sem Next):=by{simp[execOp,ho]};rw[fh,bF,Sem.run_bind,Sem.run_pure,Result.andThen_ok];simp only[invoke,e2]};generalize hJ++c.args.toList.map a.eval++iG=vs at hall qg;generalize(first++(c.args.toList.map fun x=>un true (S.get C x))++caps)=as at hall he;unfold vF at he;split at he;·{rename_i i id cells;split at he;·{rename_i ks fU n KG hid;split at he;·{rename_i rows c' xL hki;split at he;·{rename_i x vv;split at he;·{rename_i jX;simp only[AC]at he;subst he;obtain⟨hi0,hc0,GS,hrows,KV,bw⟩:=jX;obtain⟨d,bw⟩:=Option.isSome_iff_exists.1 bw;obtain⟨f1,f2,v1,jn,c4,rfl,k1,k2⟩:=hall.cons_inv;obtain⟨f3,f4,v2,arf,am6,rfl,cO,gb⟩:=k2.cons_inv;obtain⟨f5,f6,v3,arh,am7,rfl,kR,yb⟩:=gb.cons_inv;obtain⟨_,rfl⟩:=yb.gd;obtain⟨_,b,o',sz,n1,bA,rfl⟩:=cO.o6;have afe:=h.obj id _ hid;obtain⟨ws,cF,adJ,_,⟨_,_⟩,_,bU,hrl⟩:=afe.at bA;simp only[Hb,Ix,Hm]at hrl;obtain⟨_,_,iq,arj,eb,rfl,Kw,mH⟩:=hrl.cons_inv;obtain⟨_,rfl⟩:=mH.gd;have an7:=bU 0 iq rfl;have hpos:0<rows.length:=by{rcases Nat.lt_or_ge c'.toNat rows.length with h'|h';·{omega};·rw[List.getElem?_eq_none h']at vv;cases vv};obtain⟨_,afF⟩:=Kw.nL;rcases afF with⟨_,_,h0,_⟩|⟨b2,o2,Im,n2,cap,G4,An,hlc,rfl⟩;·{omega};·obtain⟨us,CI,Ac,_,⟨_,Di⟩,_,xH,R6⟩:=(h.obj fU rows xL).at G4;obtain⟨u1,u2,u3⟩:=TV R6 hrows;obtain⟨u,hu,afD⟩:=u3 _ _ vv;have afE:R w (aB E w F) bL [] u x:=afD.og KV;have xU:Im=1:=by{rw[<-Di _ (List.getElem_mem hpos)];have:=List.all_eq_true.1 hrows _ (List.getElem_mem hpos);unfold AV at this;split at this;·{rename_i e;rw[e];rfl};·{rename_i e;rw[e];rfl};·cases this};subst xU;have vp:b∈F id:=by{rw[adJ];exact List.mem_cons_self .. };have hm2:b2∈F fU:=by{rw[Ac];exact List.mem_cons_self .. };let cH:Nat->Prop:=fun x=>aB E w F x∨x=b∨x=b2;have up:∀x,aB E w F x->cH x:=fun _ h=> .inl h;have kD:R w cH bL [] (.slice (some ⟨b2,o2+0*1,none⟩) n cap) (.sl (us.map fun u=>[.val u])):=by{have e1:n=(us.map fun u=>[U.val u]).length:=by{rw[List.length_map,u1,GS]};rw[e1]at hlc|-;refine .sl (sz:=1) (vs:=us) (fun r hr=> ?_) (.inr (.inr rfl)) (by simpa using xH) hlc ?_;·{obtain⟨_,_,rfl⟩:=List.mem_map.1 hr;rfl};·rw[Q0];exact av.vals u2};have aeh:av w cH bL [] [v1, .pointer (some ⟨b,o'+0*sz+0,none⟩),v3] [.val (.int .i64 i), .ay [.sl (us.map fun u=>[.val u])], .ay cells]:=by{refine R.cons (f1:=[]) (f2:=[]) ?_ (R.cons (f1:=[]) (f2:=[]) (.ay (.inr (.inl rfl)) (vs:=[.slice (some ⟨b2,o2+0*1,none⟩) n cap]) ?_ (R.cons (f1:=[]) (f2:=[]) kD .nil)) (R.cons (f1:=[]) (f2:=[]) ?_ .nil));·{cases k1 with|val h=>exact .val h};·{rw[Nat.zero_mul,Nat.add_zero,Nat.add_zero];exact bU};·cases kR with|ay p1 p2 p3=>exact .ay (up _ p1) p2 (p3.mono up (fun _ _=>rfl) (fun _ _ h=>h))};have tM:=hl w cH _ us i c' cells ks u u2 aeh KG hki hu hi0 hc0 (fun x hx=>by rcases hx with hx|rfl|rfl;·{exact hx.2.1};·{exact(h.lt id _ vp).1};·exact(h.lt fU _ hm2).1) (fun g cs hg=>(h.cu g cs hg).qm rfl fun b hb=> .inl hb);have kN:∀w',Kept w w' (fun _=>False)->next (a.put o.dst u) w':=fun w' hk=>by{have hx0:∃y,imp [d] x=(y,[])∧y=x:=by{have:=List.all_eq_true.1 hrows _ (List.mem_of_getElem? vv);unfold AV at this;split at this;·{rename_i e;simp only[List.cons.injEq,and_true]at e;subst e;exact⟨_,rfl,rfl⟩};·{rename_i e;simp only[List.cons.injEq,and_true]at e;subst e;exact⟨_,rfl,rfl⟩};·cases this};obtain⟨y,hy,rfl⟩:=hx0;have:=h.imported (fr:=[]) (r:=y) bw hk (v:=u) ((afE.mono (fun _ h=>h) (fun b hb=>hk.blk b (by rcases hb with hb|hb;exact hb.2.1;cases hb) (fun h=>h)) (fun _ _ h=>h)).mono (fun _ h=> .inl h) (fun _ _=>rfl) (fun _ _ h=>h)) List.nodup_nil (fun b hb=>by cases hb) (by rw[hy];rfl) [id,fU] (by rw[hy];exact hd);rw[hy]at this;exact hn _ _ this};unfold Oper.wp;rw[qg];rcases tM with⟨fn,code,q1,bS,cA⟩|⟨v,w',q1,bS,cA⟩;·{rw[v7 hN q1 bS];simp only[Oper.upon];refine cA.mono fun e' w' hh=> ?_;obtain⟨v,rfl,rfl,hk⟩:=hh;exact kN w' hk};·rw[q1,bS];exact kN w' cA};·cases he};·cases he};·cases he};·cases he};·cases he
theorem aip(hN:qJ C.P)(ae1:∀k,C.look k=true->zl C k)(h:aG C E w S a β F){o:Oper}{c:Call}{aI:Operand}(ho:o.op= .call c)(hc:c.callee= .value aI){f:FuncId}{call:FuncId->List U->Option (U×List U)}(dU:∀k as r,call k as=some r->Sound C k as r){e:bh}(dR:oa C (un true (S.get C aI))=none)(he:qN C f call S o (un true (S.get C aI)) (c.args.toList.map fun x=>un true (S.get C x))=some e)(hd:cC S e)(hn:∀a' w',br C E (S.app e) a' w'->next a' w'):o.wp C.P a w next Q:=by have hfo:=h.dQ aI;have hargs:=av.ofMap h c.args.toList;unfold qN at he;split at he;·{rename_i k first caps hfn;rw[hfn]at hfo dR;have hg0:C.gT k=false:=by{simp only[oa]at dR;split at dR;·{cases dR};·rename_i h;simpa using h};obtain⟨_,hJ,iG,l8,h1,h2⟩:=hfo.p8;by_cases hlk:C.look k=true;·{rw[if_pos hlk]at he;exact aiH hN h ho hc (ae1 k hlk) l8 h1 h2 he hd hn};rw[if_neg hlk]at he;split at he;·{rename_i as seen d KF bw;split at he;·{rename_i r bU;have hs:=(dU _ _ _ bU).1 hg0;have hall:av w (aB E w F) β [] (hJ++c.args.toList.map a.eval++iG) (first++(c.args.toList.map fun x=>un true (S.get C x))++caps):=(h1.append hargs).append h2;have fH:=(Ji (F:=F) (Jn h.obj 9) KF hall).2 (fun b=>aB E w F b∨∃id∈seen,b∈F id) (fun b hb=> .inl hb) (fun b hb=>by cases hb) (fun id hid b hb=> .inr ⟨id,hid,hb⟩);have tM:=hs w _ [] _ fH List.nodup_nil (fun b hb=>⟨hb.elim (fun hb=>hb.2.1) (fun⟨id,_,hb⟩=>(h.lt id b hb).1),by simp⟩) (fun b hb=>by cases hb) (fun g cs hg=>(h.cu g cs hg).qm rfl fun b hb=> .inl hb);have qg:(execOp a.eval o).run C.P w=(callFunc k ⟨hJ++c.args.toList.map a.eval++iG⟩).run C.P w:=by{have e1:(#[]++(⟨hJ⟩:Array Value)++c.args.map a.eval++⟨iG⟩:Array Value)=⟨hJ++c.args.toList.map a.eval++iG⟩:=by{apply Array.ext';simp};have e2:((⟨hJ⟩:Array Value)++c.args.map a.eval++⟨iG⟩:Array Value)=⟨hJ++c.args.toList.map a.eval++iG⟩:=by{apply Array.ext';simp};have bF:resolve a.eval c o.type=(pure {target:= .fn (.func k) ⟨iG⟩,args:=⟨hJ⟩++c.args.map a.eval}:Sem Deferred):=by{simp[resolve,hc,l8,Deferred.ofValue]};have fh:execOp a.eval o=(do let d<-resolve a.eval c o.type;invoke d.target d.args:Sem Next):=by{simp[execOp,ho]};rw[fh,bF,Sem.run_bind,Sem.run_pure,Result.andThen_ok];simp only[invoke,e2]};have kN:∀{ls:List Value}v w',wQ w [] (fun b=>aB E w F b∨∃id∈seen,b∈F id) ls (r,[]) v w'->next (a.put o.dst v) w':=fun v w' hres=>by{obtain⟨I',fr,g1,g2,g3,g4⟩:=hres.ex;replace g1:R w' I' bL fr v r:=by{obtain⟨f1,f2,v1,are,rfl,e1,k1,k2⟩:=av.cons_inv g1;obtain⟨rfl,rfl⟩:=k2.gd;simp only[List.cons.injEq]at e1;obtain⟨rfl,_⟩:=e1;simpa using k1};have hk:Kept w w' (fun _=>False):=⟨hres.kept.size,fun b hb _=>hres.kept.blk b hb (by simp),hres.kept.os,hres.kept.out,hres.kept.eI,hres.kept.nN⟩;generalize hr':(if eX C f o.dst=true then dF r else r)=r' at he;split at he;·{simp at he};·rename_i hm;split at he;·{rename_i hf;simp only[Option.some.injEq]at he;subst he;have base:R w' (fun b=>aB E w F b∨(w.heap.size<=b∧b<w'.heap.size∧b∉fr)) bL fr v r:=by{by_cases Dj:seen=[];·{subst Dj;refine g1.mono (fun b hb=> ?_) (fun _ _=>rfl) (fun _ _ h=>h);obtain⟨k1,k2,cO⟩:=g4 b hb;rcases k1 with(k1|⟨_,k1,_⟩)|k1|k1;·{exact .inl k1};·{cases k1};·{cases k1};·exact .inr ⟨k1,k2,cO⟩};·have:mine r=true:=by{cases hmr:mine r;·{exact absurd (by cases seen<;>simp_all) hm};·rfl};exact g1.mine this _};have KQ:∀b∈fr,w.heap.size<=b∧b<w'.heap.size:=fun b hb=>by{obtain⟨k1,k2⟩:=g3 b hb;rcases k2 with k2|k2;·{cases k2};·exact⟨k2,k1⟩};refine hn _ _ ?_;by_cases hz:eX C f o.dst=true;·{rw[if_pos hz]at hr';subst hr';refine h.imported bw hk (fr:=[]) ?_ List.nodup_nil (fun b hb=>by cases hb) hf seen hd;exact base.dF (fun b hb=>hb.imp id fun⟨k1,k2,_⟩=>⟨k1,k2,by simp⟩) (fun b hb=> .inr ⟨(KQ b hb).1,(KQ b hb).2,by simp⟩)};·rw[if_neg hz]at hr';subst hr';exact h.imported bw hk base g2 KQ hf seen hd};·simp at he};unfold Oper.wp;rw[qg];rcases tM with⟨fn,code,k1,k2,cO⟩|⟨v,w',k1,k2⟩;·{rw[v7 hN k1 k2];simp only[Oper.upon];refine cO.mono fun e' w' hh=> ?_;obtain⟨v,rfl,hres⟩:=hh;exact kN v w' hres};·rw[k1];exact kN v w' k2};·cases he};·cases he};·cases he
end
end Go.Ab
