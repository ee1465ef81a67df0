import Derived.Test.YtkmdadjmdgonbaaGreatDoorAbOps7
open Bool renaming true->bv,false->ci
open Option renaming some->ac,none->am
open Bool renaming and_eq_true->Ha,and_assoc->IH
open List renaming mem_cons_self->A0,mem_cons_of_mem->GE,nil_append->GT,length_take->Hb,flatten_cons->Hc,mem_of_mem_take->Hk,take_left->Hm,nodup_nil->Hn,perm_iff_count->H1,count_append->H2,append_nil->H3,length->H4,flatMap_append->If,take_append_drop->Ix,flatMap_cons->Kd,count_cons->Nm,cons_append->PH,take_zero->PP,drop_left->PQ,append_assoc->Pi,length_append->Ps
open Nat renaming min_eq_left->H5
open Option renaming map_eq_some_iff->Do,bind_eq_some_iff->Hd
open Option.some renaming injEq->AC
set_option linter.all false
namespace Go.Ab
open Go
theorem ac1(a b:List U):dw (a++b)=(dw a&&dw b):=by induction a with|nil=>(simp[dw])|cons c cs ih=>simp[dw,ih,IH]
theorem G6:∀rows:Rows,e6 rows=bv->dw rows.flatten=bv|[],_=>by{simp[dw]}|r::rs,h=>by simp only[e6,Ha]at h;rw[Hc,ac1,h.1,G6 rs h.2];rfl
section
variable{w:World}{I:Nat->Prop}
theorem R.lB{β:Id->Option Loc}{f:List Nat}{v:Value}{a:U}(h:R w I β f v a):flat a=bv->∀dc:Id->Option Loc,R w I dc f v a:=by induction h with|val h=>(intro _ _;exact .val h)|nn=>(intro _ _;exact .nn)|mr _=>(intro hf;simp[flat]at hf)|fo h=>(intro _ _;exact .fo h)|im h1 h2=>(intro _ _;exact .im h1 h2)|iD h1 h2=>(intro _ _;exact .iD h1 h2)|cg=>(intro hf;simp[flat]at hf)|hJ=>(intro _ _;exact .hJ)|sl h1 h2 h3 h4 h5 _=>(intro _ _;exact .sl h1 h2 h3 h4 h5)|bL h1 h2 h3 _=>(intro _ _;exact .bL h1 h2 h3)|jA _ _=>(intro hf;simp[flat]at hf)|rs _ _ _=>(intro hf;simp[flat]at hf)|mp _=>(intro hf;simp[flat]at hf)|fn _ _ ih1 ih2=>(intro hf _;simp only[flat,Ha]at hf;exact .fn (ih1 (by simpa[flat]using hf.1) _) (ih2 (by simpa[flat]using hf.2) _))|nil=>(intro _ _;exact .nil)|cons _ _ ih1 ih2=>(intro hf _;simp only[flat,dw,Ha]at hf;exact .cons (ih1 hf.1 _) (ih2 (by simpa[flat]using hf.2) _))|aC _ ih=>(intro hf _;exact .aC (ih (by simpa[flat]using hf) _))|lK=>(intro _ _;exact .lK)|own h0 h1 h2 h3 h4 h5 _ ih=>(intro hf _;simp only[flat]at hf;exact .own h0 h1 h2 h3 h4 h5 (ih (by simpa[flat]using G6 _ hf) _))|mO h0 h1 h2 h3 h5 _ ih=>(intro hf _;simp only[flat]at hf;exact .mO h0 h1 h2 h3 h5 (ih (by simpa[flat]using G6 _ hf) _))|c8 h1 h2 h3 _ ih=>(intro hf _;simp only[flat]at hf;exact .c8 h1 h2 h3 (ih (by simpa[flat]using hf) _))|rf _ _=>(intro hf;simp[flat]at hf)|q9=>(intro hf;simp[flat]at hf)|aS=>intro _ _;exact .aS
def CV(w:World)(I:Nat->Prop)(β:Id->Option Loc)(F:Id->List Nat)(p:U->Option (U×List Id)):Prop:=∀a x,p a=ac x->∀f v,R w I β f v a->∃fp rest,R w I cr fp v x.1∧(fp++rest).Perm (f++x.2.flatMap F)
variable{β:Id->Option Loc}{F:Id->List Nat}
theorem vk{oC r1 kq r2 f1 g1 f2 g2:List Nat}(h1:(oC++r1).Perm (f1++g1))(h2:(kq++r2).Perm (f2++g2)):((oC++kq)++(r1++r2)).Perm ((f1++f2)++(g1++g2)):=by rw[H1]at h1 h2|-;intro a;have:=h1 a;have:=h2 a;simp only[H2]at*;omega
theorem Rv{p:U->Option (U×List Id)}(hp:CV w I β F p):∀{cs:List U}{x},fe p cs=ac x->∀{f vs},aB w I β f vs cs->x.1.length=cs.length∧∃fp rest,aB w I cr fp vs x.1∧(fp++rest).Perm (f++x.2.flatMap F)|[],x,h,f,vs,hr=>by{simp[fe]at h;subst h;obtain⟨rfl,rfl⟩:=hr.jL;exact⟨rfl,[],[], .nil,by simp⟩}|c::cs,x,h,f,vs,hr=>by simp only[fe,Hd,Do]at h;obtain⟨y,hy,z,hz,rfl⟩:=h;obtain⟨f1,f2,v,vs',rfl,rfl,h1,h2⟩:=hr.cons_inv;obtain⟨oC,r1,g1,g2⟩:=hp _ _ hy _ _ h1;obtain⟨hl,kq,r2,g3,g4⟩:=Rv hp hz h2;refine⟨by simp[hl],oC++kq,r1++r2, .cons g1 g3, ?_⟩;simp only[If];exact vk g2 g4
theorem Iv{p:U->Option (U×List Id)}(hp:CV w I β F p){cs:List U}{x}(h:jN p cs=ac x){f vs}(hr:aB w I β f vs cs):x.1.length=cs.length∧∃fp rest,aB w I cr fp vs x.1∧(fp++rest).Perm (f++x.2.flatMap F):=by unfold jN at h;split at h;·{rename_i hf;simp at h;subst h;exact⟨rfl,f,[],R.lB hr (by simpa[flat]using hf) _,by simp⟩};·exact Rv hp h hr
theorem Rx{p:U->Option (U×List Id)}(hp:CV w I β F p):∀{rs:Rows}{x},fQ (jN p) rs=ac x->∀{f vs},aB w I β f vs rs.flatten->(x.1.length=rs.length∧∀sz,(∀r∈rs,r.length=sz)->∀r∈x.1,r.length=sz)∧∃fp rest,aB w I cr fp vs x.1.flatten∧(fp++rest).Perm (f++x.2.flatMap F)|[],x,h,f,vs,hr=>by{simp[fQ]at h;subst h;obtain⟨rfl,rfl⟩:=hr.jL;exact⟨⟨rfl,λ_ _ _ h=>by cases h⟩,[],[], .nil,by simp⟩}|c::cs,x,h,f,vs,hr=>by simp only[fQ,Hd,Do]at h;obtain⟨y,hy,z,hz,rfl⟩:=h;rw[Hc]at hr;obtain⟨f1,f2,v1,v2,rfl,rfl,h1,h2⟩:=aB.split hr;obtain⟨l1,oC,r1,g1,g2⟩:=Iv hp hy h1;obtain⟨⟨l2,l3⟩,kq,r2,g3,g4⟩:=Rx hp hz h2;refine⟨⟨by simp[l2],λsz hs r hr=> ?_⟩,oC++kq,r1++r2,g1.append g3, ?_⟩;·{rcases List.mem_cons.1 hr with rfl|hr;·{rw[l1];exact hs _ (A0 ..)};·exact l3 sz (λr hr=>hs r (GE _ hr)) r hr};·simp only[If];exact vk g2 g4
theorem Uh{p:U->Option (U×List Id)}(hp:CV w I β F p){rs:Rows}{x}(h:qz p rs=ac x){f vs}(hr:aB w I β f vs rs.flatten):(x.1.length=rs.length∧∀sz,(∀r∈rs,r.length=sz)->∀r∈x.1,r.length=sz)∧∃fp rest,aB w I cr fp vs x.1.flatten∧(fp++rest).Perm (f++x.2.flatMap F):=by unfold qz at h;split at h;·{rename_i hf;simp at h;subst h;exact⟨⟨rfl,λ_ h=>h⟩,f,[],R.lB hr (by simpa[flat]using G6 _ hf) _,by simp⟩};·exact Rx hp h hr
theorem G7{α:Type}(rs:List (List α))(n:Nat):rs.flatten=(rs.take n).flatten++(rs.drop n).flatten:=by rw[<-List.flatten_append,Ix]
theorem BW{L:Id->Option (Option Rows)}(hL:∀id rows,L id=ac (ac rows)->eF w I β id rows (F id)):∀n,CV w I β F (pk L n)|0=>λa x h=>by{simp[pk]at h}|n+1=>λa x h f v hr=>by have ih:=BW hL n;cases a with|rs id off len=>(simp only[pk]at h;split at h;·{rename_i rs hid;split at h;·{rename_i hc;simp only[Do]at h;obtain⟨y,hy,rfl⟩:=h;obtain⟨rfl,hc⟩:=hc;obtain⟨rfl,hv⟩:=hr.xk;rcases hL id rs hid with⟨hb,rfl,hF⟩|⟨bm,hb,_⟩|⟨b,o,sz,n',vs,dn,hb,hF,pn,⟨hne,hsz⟩,hle,cp,hrl⟩;rotate_left;·{rcases hv with⟨a,l,rfl,rfl,hb',hl⟩|⟨b,o,sz,n',cap,hb',_⟩;·{rw[hb]at hb';cases hb';cases hl};·rw[hb]at hb';cases hb'};rotate_left;·{have hy0:y=([],[]):=by{simpa[qz,e6]using hy.symm};subst hy0;simp only[List.length_nil]at hc;rcases hv with⟨a,l,rfl,rfl,_⟩|⟨b,o,sz,n',cap,hb',_⟩;·{exact⟨[],[], .lK,by simp[hF]⟩};·rw[hb]at hb';cases hb'};·obtain⟨⟨l1,l2⟩,fp,rest,g1,g2⟩:=Uh ih hy hrl;have hlen:0<rs.length:=List.length_pos_iff.2 hne;have Sv:y.1≠[]:=λe=>by{rw[e]at l1;simp at l1;omega};have Ea:((b::fp)++rest).Perm ([]++(id::y.2).flatMap F):=by{rw[H1]at g2|-;intro x;have:=g2 x;simp only[Kd,GT,hF,H2,Nm,PH]at*;omega};rcases hv with⟨a,l,rfl,rfl,_⟩|⟨b',o',sz',MK,cap,hb',hle',hcap,rfl⟩;·{exact⟨b::fp,rest, .mO Sv (l2 sz hsz) pn (by rw[l1];exact hle) cp g1,Ea⟩};·rw[hb]at hb';simp only[AC,Loc.blk.injEq]at hb';obtain⟨rfl,rfl,rfl,rfl⟩:=hb';refine⟨b::fp,rest, ?_,Ea⟩;have:=R.own (w:=w) (I:=I) (β:=cr) (cap:=cap) (o:=o) (rows:=y.1) (len:=len) Sv (l2 sz hsz) pn ⟨by simpa using hle',by rw[l1];exact hle⟩ ⟨by omega,by omega⟩ cp g1;simpa using this};·cases h};·cases h)|mp id row off=>(simp only[pk]at h;split at h;·{rename_i cs hid;split at h;·{rename_i hc;obtain⟨rfl,rfl⟩:=hc;simp only[Do]at h;obtain⟨y,hy,rfl⟩:=h;obtain⟨rfl,b',o',sz',n',hb',rfl⟩:=hr.qp;rcases hL id [cs] hid with⟨hb,h0,hF⟩|⟨bm,hb,_⟩|⟨b,o,sz,n',vs,dn,hb,hF,pn,⟨hne,hsz⟩,hle,cp,hrl⟩;·{cases h0};·{rw[hb]at hb';cases hb'};·rw[hb]at hb';simp only[AC,Loc.blk.injEq]at hb';obtain⟨rfl,rfl,rfl,rfl⟩:=hb';simp only[Hc,List.flatten_nil,H3]at hrl;obtain⟨l1,fp,rest,g1,g2⟩:=Iv ih hy hrl;have:=hsz cs (by simp);refine⟨b::fp,rest, ?_, ?_⟩;·{have:=R.c8 (w:=w) (I:=I) (β:=cr) (cells:=y.1) pn (by simp at hle;omega) cp g1;simpa using this};·rw[H1]at g2|-;intro x;have:=g2 x;simp only[Kd,GT,hF,H2,Nm,PH]at*;omega};·cases h};·cases h)|cg=>(simp only[pk,AC]at h;subst h;obtain⟨rfl,a,rfl⟩:=hr.zT;exact⟨[],[], .lK,by simp⟩)|agg cs=>(simp only[pk,Do]at h;obtain⟨y,hy,rfl⟩:=h;obtain⟨vs,rfl,hl⟩:=hr.sw;exact(Iv ih hy hl).2)|aC cs=>(simp only[pk,Do]at h;obtain⟨y,hy,rfl⟩:=h;obtain⟨vs,rfl,hl⟩:=hr.CF;obtain⟨_,fp,rest,g1,g2⟩:=Iv ih hy hl;exact⟨fp,rest, .aC g1,g2⟩)|fn k a b=>(simp only[pk]at h;split at h;·{rename_i hi;simp only[AC]at h;subst h;simp only[Ha]at hi;obtain⟨rfl,vs,cs,rfl,h1,h2⟩:=hr.o7;exact⟨[],[], .fn (h1.s4 hi.1) (h2.s4 hi.2),by simp⟩};·cases h)|dO g y=>(simp only[pk,AC]at h;subst h;exact⟨[],f, .aS,by simp⟩)|own rs len=>(simp only[pk]at h;split at h;·{rename_i hf;simp only[AC]at h;subst h;exact⟨f,[],hr.lB (by simpa[flat]using hf) _,by simp⟩};·cases h)|c8 cs=>(simp only[pk]at h;split at h;·{rename_i hf;simp only[AC]at h;subst h;exact⟨f,[],hr.lB (by simpa[flat]using hf) _,by simp⟩};·cases h)|val u=>(simp only[pk,AC]at h;subst h;exact⟨f,[],hr.lB rfl _,by simp⟩)|nn=>(simp only[pk,AC]at h;subst h;exact⟨f,[],hr.lB rfl _,by simp⟩)|mr id=>(simp only[pk]at h;split at h;·{rename_i rs hid;simp only[AC]at h;subst h;obtain⟨rfl,b,hb',rfl⟩:=hr.Tn;rcases hL id rs hid with⟨hb,_⟩|⟨b2,hb,hF,hm⟩|⟨b2,o,sz,n',vs,dn,hb,_⟩;·{rw[hb]at hb';cases hb'};·{rw[hb]at hb';cases hb';exact⟨[b],[], .fo hm,by simp[hF]⟩};·rw[hb]at hb';cases hb'};·cases h)|fo rows=>(simp only[pk,AC]at h;subst h;exact⟨f,[],hr.lB rfl _,by simp⟩)|im rows=>(simp only[pk,AC]at h;subst h;exact⟨f,[],hr.lB rfl _,by simp⟩)|iD vs=>(simp only[pk,AC]at h;subst h;exact⟨f,[],hr.lB rfl _,by simp⟩)|sl rows=>(simp only[pk,AC]at h;subst h;exact⟨f,[],hr.lB rfl _,by simp⟩)|bL cells=>(simp only[pk,AC]at h;subst h;exact⟨f,[],hr.lB rfl _,by simp⟩)|aE i rs=>(cases hr)|aF u=>(cases hr)|aS=>simp only[pk,AC]at h;subst h;exact⟨f,[],hr.lB rfl _,by simp⟩
/-! ### Borrowing -/
def CL(w:World)(I:Nat->Prop)(β:Id->Option Loc)(F:Id->List Nat)(p:U->Option (U×List Id)):Prop:=∀a x,p a=ac x->∀f v,R w I β f v a->∀I':Nat->Prop,(∀b,I b->I' b)->(∀b∈f,I' b)->(∀id∈x.2,∀b∈F id,I' b)->R w I' cr [] v x.1
theorem R.rJ{f:List Nat}{v:Value}{a:U}(h:R w I β f v a)(hi:gw a=bv){I':Nat->Prop}(hI:∀b,I b->I' b):R w I' cr [] v a:=by have e:=h.Mi hi;subst e;exact(h.s4 hi).mono hI (λ_ _=>rfl) (λ_ _ h=>h)
theorem JQ{p:U->Option (U×List Id)}(hp:CL w I β F p):∀{cs:List U}{x},fe p cs=ac x->∀{f vs},aB w I β f vs cs->x.1.length=cs.length∧∀I':Nat->Prop,(∀b,I b->I' b)->(∀b∈f,I' b)->(∀id∈x.2,∀b∈F id,I' b)->aB w I' cr [] vs x.1|[],x,h,f,vs,hr=>by{simp[fe]at h;subst h;obtain⟨rfl,rfl⟩:=hr.jL;exact⟨rfl,λ_ _ _ _=> .nil⟩}|c::cs,x,h,f,vs,hr=>by simp only[fe,Hd,Do]at h;obtain⟨y,hy,z,hz,rfl⟩:=h;obtain⟨f1,f2,v,vs',rfl,rfl,h1,h2⟩:=hr.cons_inv;obtain⟨hl,g3⟩:=JQ hp hz h2;refine⟨by simp[hl],λI' i1 i2 i3=> ?_⟩;exact R.cons (f1:=[]) (f2:=[]) (hp _ _ hy _ _ h1 I' i1 (λb hb=>i2 b (List.mem_append.2 (.inl hb))) λid hid=>i3 id (List.mem_append.2 (.inl hid))) (g3 I' i1 (λb hb=>i2 b (List.mem_append.2 (.inr hb))) λid hid=>i3 id (List.mem_append.2 (.inr hid)))
theorem yb{p:U->Option (U×List Id)}(hp:CL w I β F p){cs:List U}{x}(h:lA p cs=ac x){f vs}(hr:aB w I β f vs cs):x.1.length=cs.length∧∀I':Nat->Prop,(∀b,I b->I' b)->(∀b∈f,I' b)->(∀id∈x.2,∀b∈F id,I' b)->aB w I' cr [] vs x.1:=by unfold lA at h;split at h;·{rename_i hf;simp at h;subst h;exact⟨rfl,λI' i1 _ _=>R.rJ hr (by simpa[gw]using hf) i1⟩};·exact JQ hp h hr
theorem P9{p:U->Option (U×List Id)}(hp:CL w I β F p):∀{rs:Rows}{x},fQ (lA p) rs=ac x->∀{f vs},aB w I β f vs rs.flatten->(x.1.length=rs.length∧∀sz,(∀r∈rs,r.length=sz)->∀r∈x.1,r.length=sz)∧∀I':Nat->Prop,(∀b,I b->I' b)->(∀b∈f,I' b)->(∀id∈x.2,∀b∈F id,I' b)->aB w I' cr [] vs x.1.flatten|[],x,h,f,vs,hr=>by{simp[fQ]at h;subst h;obtain⟨rfl,rfl⟩:=hr.jL;exact⟨⟨rfl,λ_ _ _ h=>by cases h⟩,λ_ _ _ _=> .nil⟩}|c::cs,x,h,f,vs,hr=>by simp only[fQ,Hd,Do]at h;obtain⟨y,hy,z,hz,rfl⟩:=h;rw[Hc]at hr;obtain⟨f1,f2,v1,v2,rfl,rfl,h1,h2⟩:=aB.split hr;obtain⟨l1,g1⟩:=yb hp hy h1;obtain⟨⟨l2,l3⟩,g3⟩:=P9 hp hz h2;refine⟨⟨by simp[l2],λsz hs r hr=> ?_⟩,λI' i1 i2 i3=> ?_⟩;·{rcases List.mem_cons.1 hr with rfl|hr;·{rw[l1];exact hs _ (A0 ..)};·exact l3 sz (λr hr=>hs r (GE _ hr)) r hr};·have:=(g1 I' i1 (λb hb=>i2 b (List.mem_append.2 (.inl hb))) λid hid=>i3 id (List.mem_append.2 (.inl hid))).append (g3 I' i1 (λb hb=>i2 b (List.mem_append.2 (.inr hb))) λid hid=>i3 id (List.mem_append.2 (.inr hid)));simpa using this
theorem Qe{p:U->Option (U×List Id)}(hp:CL w I β F p){rs:Rows}{x}(h:p4 p rs=ac x){f vs}(hr:aB w I β f vs rs.flatten):(x.1.length=rs.length∧∀sz,(∀r∈rs,r.length=sz)->∀r∈x.1,r.length=sz)∧∀I':Nat->Prop,(∀b,I b->I' b)->(∀b∈f,I' b)->(∀id∈x.2,∀b∈F id,I' b)->aB w I' cr [] vs x.1.flatten:=by unfold p4 at h;split at h;·{rename_i hf;simp at h;subst h;exact⟨⟨rfl,λ_ h=>h⟩,λI' i1 _ _=>R.rJ hr (by simpa[gw]using Mh _ hf) i1⟩};·exact P9 hp h hr
theorem Qh{L:Id->Option (Option Rows)}(hL:∀id rows,L id=ac (ac rows)->eF w I β id rows (F id)):∀n,CL w I β F (cY L n)
 |0=>λa x h=>by simp[cY]at h
 |n+1=>λa x h f v hr I' i1 i2 i3=>by
  have ih:=Qh hL n
  cases a with
  |rs id off len=>
   simp only[cY]at h
   split at h
   ·rename_i rs hid
    split at h
    ·rename_i hc
     simp only[Do]at h
     obtain⟨y,hy,rfl⟩:=h
     obtain⟨rfl,hv⟩:=hr.xk
     have D8:len=0->y.1=[]:=λh0=>by
      have :=congrArg H4 (show(rs.drop off).take len=[]by rw[h0];rfl)
      rw[h0,PP]at hy
      simp[p4,lG]at hy
      rw[<-hy]
     rcases hv with⟨a,l,rfl,rfl,_⟩|⟨b',o',sz',MK,cap,hb',hle',hcap,rfl⟩
     ·rw[D8 rfl];exact .hJ
     ·rcases Nat.eq_zero_or_pos len with h0|h0
      ·subst h0;rw[D8 rfl];exact .hJ
      ·rcases hL id rs hid with⟨hb,rfl,hF⟩|⟨bm,hb,_⟩|⟨b,o,sz,n',vs,dn,hb,hF,pn,⟨hne,hsz⟩,hle,cp,hrl⟩
       ·simp at hc;omega
       ·rw[hb]at hb';cases hb'
       ·rw[hb]at hb'
        simp only[AC,Loc.blk.injEq]at hb'
        obtain⟨rfl,rfl,rfl,rfl⟩:=hb'
        have hsp:rs.flatten=(rs.take off).flatten++(((rs.drop off).take len).flatten++((rs.drop off).drop len).flatten):=by
         rw[<-G7 (rs.drop off) len,<-G7 rs off]
        rw[hsp]at hrl
        obtain⟨f1,f23,v1,v23,rfl,rfl,h1,h23⟩:=aB.split hrl
        obtain⟨f2,f3,v2,v3,rfl,rfl,h2,h3⟩:=aB.split h23
        have EA:=h1.length
        rw[nr (sz:=sz) (λr hr=>hsz r (Hk hr)),Hb,H5 (by omega)]at EA
        obtain⟨⟨l1,l2⟩,g⟩:=Qe ih hy h2
        have s8:y.1.length=len:=by rw[l1,Hb,List.length_drop];omega
        have hin:∀x∈F id,I' x:=i3 id (A0 ..)
        have g':=g I' i1 (λx hx=>hin x (by rw[hF];simp[hx])) λid hid=>i3 id (GE _ hid)
        have Lj:fZ w b (o+off*sz) v2:=by
         have :=(cp.drop v1.length).take v2.length
         rw[PQ,Hm,EA]at this
         exact this
        have :=R.sl (β:=cr) (cap:=cap) (l2 sz λr hr=>hsz r (List.mem_of_mem_drop (Hk hr))) (hin b (by rw[hF];simp)) Lj (by omega) g'
        rw[s8]at this
        exact this
    ·cases h
   ·cases h
  |mp id row off=>
   simp only[cY]at h
   split at h
   ·rename_i rs hid
    split at h
    ·rename_i r hrow
     split at h
     ·rename_i hoff
      simp only[Do]at h
      obtain⟨y,hy,rfl⟩:=h
      obtain⟨rfl,b',o',sz',n',hb',rfl⟩:=hr.qp
      rcases hL id rs hid with⟨hb,h0,hF⟩|⟨bm,hb,_⟩|⟨b,o,sz,n',vs,dn,hb,hF,pn,⟨hne,hsz⟩,hle,cp,hrl⟩
      ·subst h0;simp at hrow
      ·rw[hb]at hb';cases hb'
      ·rw[hb]at hb'
       simp only[AC,Loc.blk.injEq]at hb'
       obtain⟨rfl,rfl,rfl,rfl⟩:=hb'
       obtain⟨hsp,hlt⟩:=NN hrow
       have aoY:r.length=sz:=hsz r (List.mem_of_getElem? hrow)
       have hsp:rs.flatten=((rs.take row).flatten++r.take off)++(r.drop off++(rs.drop (row+1)).flatten):=by
        have e:r.take off++(r.drop off++(rs.drop (row+1)).flatten)=r++(rs.drop (row+1)).flatten:=by rw[<-Pi,Ix]
        rw[Pi,e]
        conv=>lhs;rw[hsp]
        simp
       rw[hsp]at hrl
       obtain⟨f1,f23,v1,v23,rfl,rfl,h1,h23⟩:=aB.split hrl
       obtain⟨f2,f3,v2,v3,rfl,rfl,h2,h3⟩:=aB.split h23
       have EA:=h1.length
       rw[Ps,nr (sz:=sz) (λr hr=>hsz r (Hk hr)),Hb,Hb,H5 (by omega),H5 hoff]at EA
       obtain⟨_,g⟩:=yb ih hy h2
       have hin:∀x∈F id,I' x:=i3 id (A0 ..)
       have g':=g I' i1 (λx hx=>hin x (by rw[hF];simp[hx])) λid hid=>i3 id (GE _ hid)
       have Lj:fZ w b (o+row*sz+off) v2:=by
        have :=(cp.drop v1.length).take v2.length
        rw[PQ,Hm,EA,<-Nat.add_assoc]at this
        exact this
       exact .bL (hin b (by rw[hF];simp)) Lj g'
     ·cases h
    ·cases h
   ·cases h
  |cg=>
   simp only[cY,AC]at h;subst h
   obtain⟨rfl,a,rfl⟩:=hr.zT
   exact .hJ
  |agg cs=>
   simp only[cY,Do]at h
   obtain⟨y,hy,rfl⟩:=h
   obtain⟨vs,rfl,hl⟩:=hr.sw
   exact(yb ih hy hl).2 I' i1 i2 i3
  |aC cs=>
   simp only[cY,Do]at h
   obtain⟨y,hy,rfl⟩:=h
   obtain⟨vs,rfl,hl⟩:=hr.CF
   exact .aC ((yb ih hy hl).2 I' i1 i2 i3)
  |fn k a b=>
   simp only[cY,Do,Hd]at h
   obtain⟨y,hy,z,hz,rfl⟩:=h
   obtain⟨rfl,vs,cs,rfl,h1,h2⟩:=hr.o7
   exact .fn ((yb ih hy h1).2 I' i1 (λ_ h=>by cases h) λid hid=>i3 id (List.mem_append.2 (.inl hid))) ((yb ih hz h2).2 I' i1 (λ_ h=>by cases h) λid hid=>i3 id (List.mem_append.2 (.inr hid)))
  |dO g y=>
   simp only[cY,AC]at h;subst h
   exact .aS
  |own rs len=>
   simp only[cY,Do]at h
   obtain⟨y,hy,rfl⟩:=h
   cases hr with
   |lK=>
    have :y=([],[]):=by simpa[p4,lG]using hy.symm
    subst this;exact .hJ
   |mO _ _ _ _ _ _=>
    have :y=([],[]):=by simpa[p4,lG]using hy.symm
    subst this;exact .hJ
   | @own _ b o sz cap n len dn nL _ g0 g1 g2 g3 g4 g5 g6=>
    rw[G7 rs len]at g6
    obtain⟨f1,f2,v1,v2,rfl,rfl,h1,h2⟩:=aB.split g6
    obtain⟨⟨l1,l2⟩,g⟩:=Qe ih hy h1
    have g':=g I' i1 (λb hb=>i2 b (GE _ (List.mem_append.2 (.inl hb)))) i3
    have Li:fZ w b o v1:=by
     have :=g5.take v1.length
     rwa[Hm]at this
    have s8:y.1.length=len:=by rw[l1,Hb];omega
    have :=R.sl (β:=cr) (cap:=cap) (l2 sz λr hr=>g1 r (Hk hr)) (i2 b (A0 ..)) Li (by omega) g'
    rw[s8]at this
    exact this
  |c8 cs=>
   simp only[cY,Do]at h
   obtain⟨y,hy,rfl⟩:=h
   cases hr with
   | @c8 _ b o n dn nL _ g2 g3 g5 g6=>
    obtain⟨_,g⟩:=yb ih hy g6
    exact .bL (i2 b (A0 ..)) g5 (g I' i1 (λb hb=>i2 b (GE _ hb)) i3)
  |val u=>
   simp only[cY,AC]at h;subst h
   exact hr.rJ rfl i1
  |nn=>
   simp only[cY,AC]at h;subst h
   exact hr.rJ rfl i1
  |mr id=>
   simp only[cY]at h
   split at h
   ·rename_i rs hid
    simp only[AC]at h;subst h
    obtain⟨rfl,b,hb',rfl⟩:=hr.Tn
    rcases hL id rs hid with⟨hb,_⟩|⟨b2,hb,hF,hm⟩|⟨b2,o,sz,n',vs,dn,hb,_⟩
    ·rw[hb]at hb';cases hb'
    ·rw[hb]at hb';cases hb'
     exact .im (i3 id (A0 ..) b (by rw[hF];simp)) hm
    ·rw[hb]at hb';cases hb'
   ·cases h
  |fo rows=>
   simp only[cY,AC]at h;subst h
   obtain⟨b,rfl,rfl,hm⟩:=hr.T5
   exact .im (i2 b (A0 ..)) hm
  |im rows=>
   simp only[cY,AC]at h;subst h
   exact hr.rJ rfl i1
  |iD vs=>
   simp only[cY,AC]at h;subst h
   exact hr.rJ rfl i1
  |sl rows=>
   simp only[cY,AC]at h;subst h
   exact hr.rJ rfl i1
  |bL cells=>
   simp only[cY,AC]at h;subst h
   exact hr.rJ rfl i1
  |aE i rs=>cases hr
  |aF u=>cases hr
  |aS=>
   simp only[cY,AC]at h;subst h
   exact .aS
/-! ### Nothing but its own -/
theorem MF:∀rows:Rows,HW rows=bv->nA rows.flatten=bv|[],_=>by{simp[nA]}|r::rs,h=>by simp only[HW,Ha]at h;have:∀a b:List U,nA (a++b)=(nA a&&nA b):=λa b=>by{induction a with|nil=>(simp[nA])|cons c cs ih=>simp[nA,ih,IH]};rw[Hc,this,h.1,MF rs h.2];rfl
theorem R.mine{f:List Nat}{v:Value}{a:U}(h:R w I β f v a):mine a=bv->∀I':Nat->Prop,R w I' β f v a:=by induction h with|val h=>(intro _ _;exact .val h)|nn=>(intro _ _;exact .nn)|fo h=>(intro _ _;exact .fo h)|cg=>(intro _ _;exact .cg)|nil=>(intro _ _;exact .nil)|cons _ _ ih1 ih2=>(intro hf _;simp only[Ab.mine,nA,Ha]at hf;exact .cons (ih1 hf.1 _) (ih2 (by simpa[Ab.mine]using hf.2) _))|aC _ ih=>(intro hf _;exact .aC (ih (by simpa[Ab.mine]using hf) _))|lK=>(intro _ _;exact .lK)|own h0 h1 h2 h3 h4 h5 _ ih=>(intro hf _;simp only[Ab.mine]at hf;exact .own h0 h1 h2 h3 h4 h5 (ih (by simpa[Ab.mine]using MF _ hf) _))|mO h0 h1 h2 h3 h5 _ ih=>(intro hf _;simp only[Ab.mine]at hf;exact .mO h0 h1 h2 h3 h5 (ih (by simpa[Ab.mine]using MF _ hf) _))|c8 h1 h2 h3 _ ih=>(intro hf _;simp only[Ab.mine]at hf;exact .c8 h1 h2 h3 (ih (by simpa[Ab.mine]using hf) _))|aS=>(intro _ _;exact .aS)|_=>intro hf;simp[Ab.mine]at hf
/-! ### Freezing -/
theorem adG(a b:List U):ku (a++b)=ku a++ku b:=by induction a with|nil=>(rfl)|cons c cs ih=>simp[ku,ih]
theorem adH(a:List U):(ku a).length=a.length:=by induction a with|nil=>(rfl)|cons c cs ih=>simp[ku,ih]
theorem KG:∀rows:Rows,(kQ rows).flatten=ku rows.flatten|[]=>rfl|r::rs=>by simp[kQ,adG,KG rs]
theorem KH:∀rows:Rows,(kQ rows).length=rows.length|[]=>rfl|r::rs=>by simp[kQ,KH rs]
theorem KI:∀{rows:Rows}{r:List U},r∈kQ rows->∃r'∈rows,r.length=r'.length|[],r,h=>by{simp[kQ]at h}|c::rs,r,h=>by simp only[kQ,List.mem_cons]at h;rcases h with rfl|h;·{exact⟨c,A0 ..,adH c⟩};·obtain⟨r',h1,h2⟩:=KI h;exact⟨r',GE _ h1,h2⟩
theorem R.adB{β:Id->Option Loc}{f:List Nat}{v:Value}{a:U}(h:R w I β f v a)(cG:β=cr){I':Nat->Prop}(i1:∀b,I b->I' b):(∀b∈f,I' b)->R w I' cr [] v (ff a):=by induction h with|val h=>(intro _;exact .val h)|nn=>(intro _;exact .nn)|mr h=>(subst cG;cases h)|fo h=>(intro h2;exact .im (h2 _ (A0 ..)) h)|im h1 h2=>(intro _;exact .im (i1 _ h1) h2)|iD h1 h2=>(intro _;exact .iD (i1 _ h1) h2)|cg=>(intro _;exact .cg)|hJ=>(intro _;exact .hJ)|sl h1 h2 h3 h4 h5 _=>(intro _;exact .sl h1 (i1 _ h2) h3 h4 (h5.mono i1 (λ_ _=>rfl) (λ_ _ h=>h)))|bL h1 h2 h3 _=>(intro _;exact .bL (i1 _ h1) h2 (h3.mono i1 (λ_ _=>rfl) (λ_ _ h=>h)))|jA h _=>(subst cG;cases h)|rs h _ _=>(subst cG;cases h)|mp h=>(subst cG;cases h)|fn h1 h2 _ _=>(intro _;subst cG;exact .fn (h1.mono i1 (λ_ _=>rfl) (λ_ _ h=>h)) (h2.mono i1 (λ_ _=>rfl) (λ_ _ h=>h)))|nil=>(intro _;exact .nil)|cons _ _ ih1 ih2=>(intro h;exact R.cons (f1:=[]) (f2:=[]) (ih1 cG λb hb=>h b (List.mem_append.2 (.inl hb))) (ih2 cG λb hb=>h b (List.mem_append.2 (.inr hb))))|aC _ ih=>(intro h;exact .aC (ih cG h))|lK=>(intro _;exact .hJ)|mO _ _ _ _ _ _=>(intro _;simp only[Ab.ff,PP];exact .hJ)| @own _ b o sz cap n len dn nL rows h0 h1 h2 h3 h4 h5 _ ih=>(intro h;have g:=ih cG λb hb=>h b (GE _ hb);simp only[Ab.ff]at g|-;rw[<-KG,G7 (kQ rows) len]at g;obtain⟨f1,f2,v1,v2,e1,e2,g1,g2⟩:=aB.split g;obtain rfl:f1=[]:=(List.append_eq_nil_iff.1 e1.symm).1;have Li:fZ w b o v1:=by{rw[e2]at h5;have:=h5.take v1.length;rwa[Hm]at this};have hl:((kQ rows).take len).length=len:=by{rw[Hb,KH];omega};have:=R.sl (w:=w) (β:=cr) (cap:=cap) (o:=o) (rows:=(kQ rows).take len) (λr hr=>by obtain⟨r',m1,m2⟩:=KI (Hk hr);rw[m2];exact h1 r' m1) (h b (A0 ..)) Li (by omega) g1;rw[hl]at this;exact this)|c8 h1 h2 h3 _ ih=>(intro h;have g:=ih cG λb hb=>h b (GE _ hb);exact .bL (h _ (A0 ..)) h3 g)|rf h _=>(intro _;subst cG;exact .rf (h.mono i1 (λ_ _=>rfl) (λ_ _ h=>h)))|q9=>(intro _;exact .q9)|aS=>intro _;exact .aS
theorem R.ff{f:List Nat}{v:Value}{a:U}(h:R w I cr f v a){I':Nat->Prop}(i1:∀b,I b->I' b)(hf:∀b∈f,I' b):R w I' cr [] v (ff a):=R.adB h rfl i1 hf
end
open Go
def jT(w:World)(I:Nat->Prop)(β:Id->Option Loc)(f:List Nat)(N:Id->Prop)(Rel:(Id->Option Loc)->Prop)(l:List (Id×Option Rows)):Prop:=∃(β':Id->Option Loc)(G:Id->List Nat),(∀i l',β i=ac l'->β' i=ac l')∧(∀i,(∀x∈l,x.1≠i)->β' i=β i∧G i=[])∧Rel β'∧(∀x∈l,∃rows,x.2=ac rows∧eF w I β' x.1 rows (G x.1))∧(∀i,(G i).Nodup∧∀b∈G i,b∈f)∧(∀i i' b,b∈G i->b∈G i'->i=i')∧(∀x∈l,N x.1)
section
variable{w:World}{I:Nat->Prop}{β:Id->Option Loc}
theorem jT.zero{f:List Nat}{N:Id->Prop}{Rel:(Id->Option Loc)->Prop}(h:Rel β):jT w I β f N Rel []:=⟨β,λ_=>[],λ_ _ h=>h,λ_ _=>⟨rfl,rfl⟩,h,(λx hx=>by cases hx),(λi=>⟨Hn,(λb hb=>by cases hb)⟩),(λi i' b hb=>by cases hb),(λx hx=>by cases hx)⟩
theorem jT.weak{f f':List Nat}{N N':Id->Prop}{Rel Rel':(Id->Option Loc)->Prop}{l:List (Id×Option Rows)}(h:jT w I β f N Rel l)(hf:∀b∈f,b∈f')(hN:∀i,N i->N' i)(hR:∀β',(∀i l',β i=ac l'->β' i=ac l')->Rel β'->Rel' β'):jT w I β f' N' Rel' l:=by obtain⟨β',G,h1,h2,h3,h4,h5,h6,h7⟩:=h;exact⟨β',G,h1,h2,hR β' h1 h3,h4,λi=>⟨(h5 i).1,λb hb=>hf b ((h5 i).2 b hb)⟩,h6,λx hx=>hN _ (h7 x hx)⟩
theorem jT.join{f1 f2:List Nat}{CU Ji:Id->Prop}{Jr Gk:(Id->Option Loc)->Prop}{l1 l2:List (Id×Option Rows)}(h2:jT w I β f2 Ji Gk l2)(h1:∀fB,(∀i l',β i=ac l'->fB i=ac l')->(∀x∈l1,fB x.1=am)->jT w I fB f1 CU Jr l1)(hfr:∀x∈l1,β x.1=am)(ael:∀x∈l1,CU x.1)(hN:∀i,CU i->Ji i->False)(hf:∀b,b∈f1->b∈f2->False)(hm:∀fB dc,(∀i l',fB i=ac l'->dc i=ac l')->Gk fB->Gk dc):jT w I β (f1++f2) (λi=>CU i∨Ji i) (fun β'=>Jr β'∧Gk β') (l1++l2):=by obtain⟨fB,xQ,a1,a2,a3,a4,a5,a6,a7⟩:=h2;have hnot:∀x∈l1,∀y∈l2,y.1≠x.1:=λx hx y hy e=>hN x.1 (ael x hx) (e▸a7 y hy);obtain⟨dc,oU,b1,b2,b3,b4,x7,JM,JN⟩:=h1 fB a1 (λx hx=>by rw[(a2 x.1 (hnot x hx)).1];exact hfr x hx);have g1:∀y∈l2,oU y.1=[]:=λy hy=>(b2 y.1 λx hx e=>hnot x hx y hy e.symm).2;have g2:∀x∈l1,xQ x.1=[]:=λx hx=>(a2 x.1 (hnot x hx)).2;have either:∀i,oU i=[]∨xQ i=[]:=λi=>by{by_cases h:∃x∈l1,x.1=i;·{obtain⟨x,hx,rfl⟩:=h;exact .inr (g2 x hx)};·exact .inl (b2 i λx hx e=>h ⟨x,hx,e⟩).2};refine⟨dc,λi=>oU i++xQ i,λi l' h=>b1 i l' (a1 i l' h), ?_,⟨b3,hm _ _ b1 a3⟩, ?_, ?_, ?_, ?_⟩;·{intro i hi;obtain⟨e1,e2⟩:=b2 i λx hx=>hi x (List.mem_append.2 (.inl hx));obtain⟨bn,c4⟩:=a2 i λx hx=>hi x (List.mem_append.2 (.inr hx));exact⟨e1.trans bn,by simp[e2,c4]⟩};·{intro x hx;rcases List.mem_append.1 hx with hx|hx;·{simp only[g2 x hx,H3];exact b4 x hx};·obtain⟨rows,e,h⟩:=a4 x hx;simp only[g1 x hx,GT];exact⟨rows,e,h.mono (λ_ h=>h) (λ_ _=>rfl) b1⟩};·{intro i;refine⟨?_,λb hb=> ?_⟩;·{rcases either i with h|h;·{simp only[h,GT];exact(a5 i).1};·simp only[h,H3];exact(x7 i).1};·rcases List.mem_append.1 hb with hb|hb;·{exact List.mem_append.2 (.inl ((x7 i).2 b hb))};·exact List.mem_append.2 (.inr ((a5 i).2 b hb))};·{intro i i' b hb hb';rcases List.mem_append.1 hb with hb|hb<;>rcases List.mem_append.1 hb' with hb'|hb';·{exact JM i i' b hb hb'};·{exact(hf b ((x7 i).2 b hb) ((a5 i').2 b hb')).elim};·{exact(hf b ((x7 i').2 b hb') ((a5 i).2 b hb)).elim};·exact a6 i i' b hb hb'};·intro x hx;rcases List.mem_append.1 hx with hx|hx;·{exact .inl (JN x hx)};·exact .inr (a7 x hx)
theorem I0{p:Id}{cs:List U}{j:Nat}{f:List Nat}{vs:List Value}(h:aB w I β f vs cs)(hnd:f.Nodup)(hfr:∀x∈(b5 p j cs).2,β x.1=am):jT w I β f (λi=>∃k,j<=k∧i=k::p) (fun β'=>aB w I β' [] vs (b5 p j cs).1) (b5 p j cs).2:=VH p h hnd hfr
theorem Ii{p:Id}{rows:Rows}{a:U}{f:List Nat}{v:Value}(hnd:f.Nodup)(hfr:β p=am)(l:Loc)(hl:∀β':Id->Option Loc,(∀i l',β i=ac l'->β' i=ac l')->β' p=ac l->R w I β' [] v a∧eF w I β' p rows f):jT w I β f (λi=>i=p) (fun β'=>R w I β' [] v a) [(p,ac rows)]:=by have up:∀i l',β i=ac l'->av β p (ac l) i=ac l':=λi l' hl'=>by{by_cases hi:i=p;·{subst hi;rw[hfr]at hl';cases hl'};·simpa[av,hi]using hl'};obtain⟨r1,r2⟩:=hl _ up (by simp[av]);refine⟨av β p (ac l),av (λ_=>[]) p f,up, ?_,r1, ?_, ?_, ?_, ?_⟩;·{intro i hi;have:i≠p:=λe=>hi _ (A0 ..) e.symm;simp[av,this]};·{intro x hx;obtain rfl:=List.mem_singleton.1 hx;exact⟨rows,rfl,by simpa[av]using r2⟩};·{intro i;by_cases hi:i=p;·{subst hi;simp[av,hnd]};·simp[av,hi]};·{intro i i' b hb hb';by_cases hi:i=p<;>by_cases hi':i'=p;·{rw[hi,hi']};·{simp[av,hi']at hb'};·{simp[av,hi]at hb};·simp[av,hi]at hb};·intro x hx;obtain rfl:=List.mem_singleton.1 hx;rfl
theorem Ub{p:Id}{rows:Rows}{len:Nat}{f:List Nat}{v:Value}(h:R w I β f v (.own rows len))(hnd:f.Nodup)(hfr:β p=am):jT w I β f (λi=>i=p) (fun β'=>R w I β' [] v (.rs p 0 len)) [(p,ac rows)]:=by cases h with|lK=>(exact Ii hnd hfr .nil fun β' _ hb=>⟨.jA hb rfl, .inl ⟨hb,rfl,rfl⟩⟩)| @own _ b o sz cap n _ dn nL _ g0 g1 g2 g3 g4 g5 g6=>(refine Ii hnd hfr (.blk b o sz n) fun β' up hb=>⟨?_, .inr (.inr ⟨b,o,sz,n,nL,dn,hb,rfl,g2,⟨g0,g1⟩,g3.2,g5,g6.mono (λ_ h=>h) (λ_ _=>rfl) up⟩)⟩;have:=R.rs (w:=w) (I:=I) (off:=0) (len:=len) (cap:=cap) hb (by simpa using g3.1) g4.1;simpa using this)| @mO _ a b o sz n dn nL _ g0 g1 g2 g3 g5 g6=>exact Ii hnd hfr (.blk b o sz n) fun β' up hb=>⟨.jA hb rfl, .inr (.inr ⟨b,o,sz,n,nL,dn,hb,rfl,g2,⟨g0,g1⟩,g3,g5,g6.mono (λ_ h=>h) (λ_ _=>rfl) up⟩)⟩
theorem T4{p:Id}{rows:Rows}{f:List Nat}{v:Value}(h:R w I β f v (.fo rows))(hnd:f.Nodup)(hfr:β p=am):jT w I β f (λi=>i=p) (fun β'=>R w I β' [] v (.mr p)) [(p,ac rows)]:=by obtain⟨b,rfl,rfl,hm⟩:=h.T5;exact Ii hnd hfr (.map b) fun β' _ hb=>⟨.mr hb, .inr (.inl ⟨b,hb,rfl,hm⟩)⟩
theorem aiR{p:Id}{cells:List U}{f:List Nat}{v:Value}(h:R w I β f v (.c8 cells))(hnd:f.Nodup)(hfr:β p=am):jT w I β f (λi=>i=p) (fun β'=>R w I β' [] v (.mp p 0 0)) [(p,ac [cells])]:=by cases h with| @c8 _ b o n dn nL _ g2 g3 g5 g6=>have up:∀i l',β i=ac l'->av β p (ac (.blk b o cells.length n)) i=ac l':=λi l' hl'=>by{by_cases hi:i=p;·{subst hi;rw[hfr]at hl';cases hl'};·simpa[av,hi]using hl'};refine⟨av β p (ac (.blk b o cells.length n)),av (λ_=>[]) p (b::dn),up, ?_, ?_, ?_, ?_, ?_, ?_⟩;·{intro i hi;have:i≠p:=λe=>hi _ (A0 ..) e.symm;simp[av,this]};·{have:=R.mp (w:=w) (I:=I) (β:=av β p (ac (.blk b o cells.length n))) (id:=p) (row:=0) (off:=0) (by simp[av];exact⟨rfl,rfl,rfl,rfl⟩);simpa using this};·{intro x hx;obtain rfl:=List.mem_singleton.1 hx;exact⟨[cells],rfl, .inr (.inr ⟨b,o,cells.length,n,nL,dn,by simp[av],by simp[av],g2,⟨by simp,by simp⟩,by simpa using g3,g5,by simpa using g6.mono (λ_ h=>h) (λ_ _=>rfl) up⟩)⟩};·{intro i;by_cases hi:i=p;·{subst hi;simp only[av,if_true];exact⟨hnd,λ_ h=>h⟩};·simp[av,hi]};·{intro i i' b hb hb';by_cases hi:i=p<;>by_cases hi':i'=p;·{rw[hi,hi']};·{simp[av,hi']at hb'};·{simp[av,hi]at hb};·simp[av,hi]at hb};·intro x hx;obtain rfl:=List.mem_singleton.1 hx;rfl
theorem aiS{p:Id}{cells:List U}{f:List Nat}{v:Value}(h:R w I β f v (.c8 cells))(hnd:f.Nodup)(hfr:β p=am)(aeN:∀x∈(b5 p 0 cells).2,β x.1=am):jT w I β f (λi=>∃q,i=q++p) (fun β'=>R w I β' [] v (.mp p 0 0)) ((p,ac [(b5 p 0 cells).1])::(b5 p 0 cells).2):=by cases h with| @c8 _ b o n dn nL _ g2 g3 g5 g6=>have oG:dn.Nodup:=(List.nodup_cons.1 hnd).2;have hb:b∉dn:=(List.nodup_cons.1 hnd).1;obtain⟨fB,oU,a1,a2,a3,a4,a5,a6,a7⟩:=I0 (p:=p) (j:=0) g6 oG aeN;have hnot:∀x∈(b5 p 0 cells).2,x.1≠p:=λx hx e=>by{obtain⟨k,_,e'⟩:=a7 x hx;rw[e]at e';exact absurd (congrArg H4 e') (by simp)};have Me:fB p=none:=by{rw[(a2 p hnot).1];exact hfr};have up:∀i l',fB i=ac l'->av fB p (ac (.blk b o cells.length n)) i=ac l':=λi l' hl'=>by{by_cases hi:i=p;·{subst hi;rw[Me]at hl';cases hl'};·simpa[av,hi]using hl'};have hlen:(b5 p 0 cells).1.length=cells.length:=by{rw[<-a3.length,aB.length g6]};refine⟨av fB p (ac (.blk b o cells.length n)),av oU p [b],λi l' h=>up i l' (a1 i l' h), ?_, ?_, ?_, ?_, ?_, ?_⟩;·{intro i hi;have h1:i≠p:=λe=>hi _ (A0 ..) e.symm;have:=a2 i λx hx=>hi x (GE _ hx);simpa[av,h1]using this};·{have:=R.mp (w:=w) (I:=I) (β:=av fB p (ac (.blk b o cells.length n))) (id:=p) (row:=0) (off:=0) (by simp[av];exact⟨rfl,rfl,rfl,rfl⟩);simpa using this};·{intro x hx;rcases List.mem_cons.1 hx with rfl|hx;·{exact⟨_,rfl, .inr (.inr ⟨b,o,cells.length,n,nL,[],by simp[av],by simp[av],g2,⟨by simp,by simp[hlen]⟩,by simpa using g3,g5,by simpa using a3.mono (λ_ h=>h) (λ_ _=>rfl) up⟩)⟩};·obtain⟨rows,e,h⟩:=a4 x hx;refine⟨rows,e, ?_⟩;have:=h.mono (w':=w) (I':=I) (λ_ h=>h) (λ_ _=>rfl) up;simpa[av,hnot x hx]using this};·{intro i;by_cases hi:i=p;·{subst hi;simp[av]};·simp only[av,hi,if_false];exact⟨(a5 i).1,λb hb=>GE _ ((a5 i).2 b hb)⟩};·{intro i i' c hc kC;by_cases hi:i=p<;>by_cases hi':i'=p;·{rw[hi,hi']};·{simp[av,hi,hi']at hc kC;subst hc;exact(hb ((a5 i').2 _ kC)).elim};·{simp[av,hi,hi']at hc kC;subst kC;exact(hb ((a5 i).2 _ hc)).elim};·simp only[av,hi,hi',if_false]at hc kC;exact a6 i i' c hc kC};·intro x hx;rcases List.mem_cons.1 hx with rfl|hx;·{exact⟨[],rfl⟩};·obtain⟨k,_,e⟩:=a7 x hx;exact⟨[k],by simpa using e⟩
theorem R.RB{f:List Nat}{v:Value}{a:U}(h:R w I β f v a)(h1:∀l m,a≠ .own l m)(h2:∀l,a≠ .c8 l)(h3:∀l,a≠ .agg l)(h4:∀l,a≠ .aC l)(h5:∀l,a≠ .fo l):f=[]:=by cases h<;>first|rfl|simp_all
theorem SB(p:Id):∀{cs:List U}{j:Nat}{f:List Nat}{vs:List Value},aB w I β f vs cs->f.Nodup->(∀x∈(fF p j cs).2,β x.1=am)->jT w I β f (λi=>∃q k,j<=k∧i=q++k::p) (fun β'=>aB w I β' [] vs (fF p j cs).1) (fF p j cs).2|[],j,f,vs,h,_,_=>by{obtain⟨rfl,rfl⟩:=h.jL;exact .zero .nil}|c::cs,j,f,vs,h,hnd,hfr=>by obtain⟨f1,f2,v,vs',rfl,rfl,h1,h2⟩:=aB.cons_inv h;have rF:f2.Nodup:=(List.nodup_append.1 hnd).2.1;have sX:f1.Nodup:=(List.nodup_append.1 hnd).1;have A7:∀b,b∈f1->b∈f2->False:=λb hb hb'=>(List.nodup_append.1 hnd).2.2 b hb b hb' rfl;have go:∀(x:U)(l:List (Id×Option Rows)),fF p j (c::cs)=(x::(fF p (j+1) cs).1,l++(fF p (j+1) cs).2)->(∀fB:Id->Option Loc,(∀i l',β i=ac l'->fB i=ac l')->(∀x∈l,fB x.1=am)->jT w I fB f1 (λi=>∃q,i=q++j::p) (fun β'=>R w I β' [] v x) l)->(∀y∈l,∃q,y.1=q++j::p)->jT w I β (f1++f2) (λi=>∃q k,j<=k∧i=q++k::p) (fun β'=>aB w I β' [] (v::vs') (fF p j (c::cs)).1) (fF p j (c::cs)).2:=λx l e hh hn=>by{rw[e]at hfr|-;simp only at hfr|-;have ih:=SB p (j:=j+1) h2 rF (λy hy=>hfr y (List.mem_append.2 (.inr hy)));refine(jT.join ih hh (λy hy=>hfr y (List.mem_append.2 (.inl hy))) hn ?_ A7 (λfB dc up h=>h.mono (λ_ h=>h) (λ_ _=>rfl) up)).weak (λ_ h=>h) ?_ (fun β' _ h=>R.cons (f1:=[]) (f2:=[]) h.1 h.2);·{rintro i⟨q,rfl⟩⟨q',k,hk,e⟩;have hl:=congrArg H4 e;simp only[Ps,List.length_cons]at hl;have:=(List.append_inj e (by omega)).2;simp at this;omega};·rintro i(⟨q,rfl⟩|⟨q,k,hk,rfl⟩);·{exact⟨q,j,Nat.le_refl _,rfl⟩};·exact⟨q,k,by omega,rfl⟩};cases c with|own rows=>(exact go _ [(j::p,ac rows)] rfl (λfB up hf=>(Ub (h1.mono (λ_ h=>h) (λ_ _=>rfl) up) sX (hf _ (A0 ..))).weak (N':=λi=>∃q,i=q++j::p) (λ_ h=>h) (λi e=>⟨[],e⟩) (λ_ _ h=>h)) (λy hy=>⟨[],by rw[List.mem_singleton.1 hy];rfl⟩))|fo rows=>(exact go _ [(j::p,ac rows)] rfl (λfB up hf=>(T4 (h1.mono (λ_ h=>h) (λ_ _=>rfl) up) sX (hf _ (A0 ..))).weak (N':=λi=>∃q,i=q++j::p) (λ_ h=>h) (λi e=>⟨[],e⟩) (λ_ _ h=>h)) (λy hy=>⟨[],by rw[List.mem_singleton.1 hy];rfl⟩))|c8 cells=>(exact go _ [(j::p,ac [cells])] rfl (λfB up hf=>(aiR (h1.mono (λ_ h=>h) (λ_ _=>rfl) up) sX (hf _ (A0 ..))).weak (N':=λi=>∃q,i=q++j::p) (λ_ h=>h) (λi e=>⟨[],e⟩) (λ_ _ h=>h)) (λy hy=>⟨[],by rw[List.mem_singleton.1 hy];rfl⟩))|agg l=>(obtain⟨us,rfl,hl⟩:=h1.sw;have afc:∀y∈(b5 (j::p) 0 l).2,∃q,y.1=q++j::p:=λy hy=>by{obtain⟨_,_,_,_,_,_,_,_,a7⟩:=I0 (p:=j::p) (j:=0) hl sX (λx hx=>hfr x (List.mem_append.2 (.inl hx)));obtain⟨k,_,e⟩:=a7 y hy;exact⟨[k],by simpa using e⟩};refine go _ (b5 (j::p) 0 l).2 rfl (λfB up hf=> ?_) afc;have hl1:aB w I fB f1 us l:=hl.mono (λ_ h=>h) (λ_ _=>rfl) up;exact(I0 hl1 sX hf).weak (λ_ h=>h) (λi⟨k,_,e⟩=>⟨[k],by simpa using e⟩) (λ_ _ h=>h))|aC l=>(exact go _ [] rfl (λfB _ _=> .zero .aS) (by simp))|_=>have wA:f1=[]:=h1.RB (by simp) (by simp) (by simp) (by simp) (by simp);subst wA;exact go _ [] rfl (λfB up _=> .zero (h1.mono (λ_ h=>h) (λ_ _=>rfl) up)) (by simp)
theorem HI(p:Id){a:U}{f:List Nat}{v:Value}(h:R w I β f v a)(hnd:f.Nodup)(hfr:∀x∈(imp p a).2,β x.1=am):jT w I β f (λi=>∃q,i=q++p) (fun β'=>R w I β' [] v (imp p a).1) (imp p a).2:=by cases a with|own rows=>(exact(Ub h hnd (hfr (p,ac rows) (A0 ..))).weak (N':=λi=>∃q,i=q++p) (λ_ h=>h) (λi e=>⟨[],e⟩) (λ_ _ h=>h))|fo rows=>(exact(T4 h hnd (hfr (p,ac rows) (A0 ..))).weak (N':=λi=>∃q,i=q++p) (λ_ h=>h) (λi e=>⟨[],e⟩) (λ_ _ h=>h))|c8 cells=>(exact aiS h hnd (hfr (p,ac [(b5 p 0 cells).1]) (A0 ..)) (λx hx=>hfr x (GE _ hx)))|agg l=>(obtain⟨us,rfl,hl⟩:=h.sw;exact(I0 hl hnd hfr).weak (λ_ h=>h) (λi⟨k,_,e⟩=>⟨[k],by simpa using e⟩) (λ_ _ h=>h))|aC l=>(obtain⟨us,rfl,hl⟩:=h.CF;exact(SB p hl hnd hfr).weak (λ_ h=>h) (λi⟨q,k,_,e⟩=>⟨q++[k],by simpa using e⟩) (λ_ _ h=> .aC h))|_=>have hf:f=[]:=h.RB (by simp) (by simp) (by simp) (by simp) (by simp);subst hf;exact .zero h
end
open Go
def wN:List Nat->List U->List (Id×Option Rows)|s::l,v::vs=>(imp [s] v).2++wN l vs|_,_=>[]
theorem vA(h:Id->Option (Option Rows))(b:List (Id×Option Rows)):∀a,bD h (a++b)=bD (bD h b) a|[]=>rfl|(i,r)::l=>by simp[bD,vA h b l]
theorem ED(n:Nat):∀(slots:List Nat)(cw:List U),(bp n slots cw).h=bD (λ_=>am) (wN slots cw)|[],_=>rfl|_::_,[]=>rfl|s::l,v::vs=>by simp[bp,wN,vA,ED n l vs]
theorem BF(n:Nat):∀(slots:List Nat)(cw:List U),(bp n slots cw).n=n|[],_=>rfl|_::_,[]=>rfl|s::l,v::vs=>rfl
theorem Ti(n:Nat):∀(slots:List Nat)(cw:List U)(t:Nat),t∉slots->(bp n slots cw).t t= .aS|[],_,_,_=>rfl|_::_,[],_,_=>rfl|s::l,v::vs,t,h=>by have h1:t≠s:=λe=>h (by simp[e]);have h2:t∉l:=λe=>h (by simp[e]);simp only[bp,av,h1,if_false];exact Ti n l vs t h2
section
variable{w:World}{I:Nat->Prop}
theorem af1(p:Id){a:U}{f:List Nat}{v:Value}(h:R w I cr f v a)(hnd:f.Nodup):∀x∈(imp p a).2,∃q,x.1=q++p:=by obtain⟨_,_,_,_,_,_,_,_,a7⟩:=HI p h hnd (λ_ _=>rfl);exact a7
theorem Th(n:Nat)(g:Nat->Value):∀{slots:List Nat}{cw:List U}{f:List Nat},aB w I cr f (slots.map g) cw->slots.Nodup->f.Nodup->jT w I cr f (λi=>∃q s,s∈slots∧i=q++[s]) (fun β'=>∀s∈slots,R w I β' [] (g s) ((bp n slots cw).t s)) (wN slots cw)|[],_,_,_,_,_=> .zero (λs hs=>by cases hs)|s::l,cw,f,h,hs,hf=>by cases h with| @cons _ f1 f2 _ _ v vs h1 h2=>have rF:f2.Nodup:=(List.nodup_append.1 hf).2.1;have sX:f1.Nodup:=(List.nodup_append.1 hf).1;have A7:∀b,b∈f1->b∈f2->False:=λb hb hb'=>(List.nodup_append.1 hf).2.2 b hb b hb' rfl;have nx:s∉l:=(List.nodup_cons.1 hs).1;have ih:=Th n g h2 (List.nodup_cons.1 hs).2 rF;refine(jT.join (CU:=λi=>∃q,i=q++[s]) (Jr:=fun β'=>R w I β' [] (g s) (imp [s] v).1) (l1:=(imp [s] v).2) ih (λfB up hfr=>HI [s] (h1.mono (λ_ h=>h) (λ_ _=>rfl) up) sX hfr) (λ_ _=>rfl) (af1 [s] h1 sX) ?_ A7 ?_).weak (λ_ h=>h) ?_ ?_;·{rintro i⟨q,rfl⟩⟨q',s',hs',e⟩;have:=(List.append_inj' e rfl).2;simp at this;subst this;exact nx hs'};·{intro fB dc up h s' hs';exact(h s' hs').mono (λ_ h=>h) (λ_ _=>rfl) up};·{rintro i(⟨q,rfl⟩|⟨q,s',hs',rfl⟩);·{exact⟨q,s,A0 ..,rfl⟩};·exact⟨q,s',GE _ hs',rfl⟩};·intro β' _⟨r1,r2⟩s' hs';rcases List.mem_cons.1 hs' with rfl|hs';·{simpa[bp,av]using r1};·have hne:s'≠s:=λe=>nx (e▸hs');simpa[bp,av,hne]using r2 s' hs'
theorem aW.enter{C:aH}{E:Env}{a:Act}{n:Nat}{slots:List Nat}{cw:List U}{f:List Nat}(hn:a.tmps.size=n)(hdf:nP w (λb=>I b∧E.m<=b) E.ds a.defers)(hr:aB w I cr f (slots.map (a.tmps.getD · undef)) cw)(hs:slots.Nodup)(hf:f.Nodup)
  (hI:∀b,I b->(E.dr b∨E.jD b∨E.w0.heap.size<=b)∧b<w.heap.size∧b∉f)(hlt:∀b∈f,b<w.heap.size∧(E.jD b∨E.w0.heap.size<=b))(hk:Kept E.w0 w E.jD)
  (hg:∀g cs,C.ez g=ac cs->R w I cr [] (.pointer (ac ⟨g,0,am⟩)) (nX cs))(afh:∀t,t<n->∀q,¬E.K (q++[t]):=by exact λ_ _ _ h=>h.elim)(LZ:∀s∈slots,∀q,¬E.K (q++[s]):=by exact λ_ _ _ h=>h.elim):bW C E (bp n slots cw) a w:=by
 obtain⟨β',G,a1,a2,a3,a4,a5,a6,a7⟩:=Th n (a.tmps.getD · undef) hr hs hf
 have sO:∀b,I b->aU E w G b:=λb hb=>⟨(hI b hb).1,(hI b hb).2.1,λid hm=>(hI b hb).2.2 ((a5 id).2 b hm)⟩
 refine⟨β',G,{n:=by rw[BF];exact hn,df:=hdf.mono (λb hb=>⟨sO b hb.1,hb.2⟩) (λ_ _=>rfl),slot:= ?_,obj:= ?_,dead:= ?_,nd:=λid=>(a5 id).1,eJ:=a6,dom:= ?_,lt:=λid b hb=>hlt b ((a5 id).2 b hb),kept:=hk,ez:=λg cs h=>(hg g cs h).mono sO (λ_ _=>rfl) H7,ns:=λt ht=>afh t (by rw[BF]at ht;exact ht),kb:=λk rows hk hr=> ?_}⟩
 ·intro t
  by_cases ht:t∈slots
  ·exact(a3 t ht).mono sO (λ_ _=>rfl) (λ_ _ h=>h)
  ·rw[Ti n slots cw t ht];exact .aS
 ·intro id rows h
  rw[ED]at h
  rcases jo (λ_=>am) (wN slots cw) id with⟨x,hx,rfl,e⟩|⟨_,e⟩
  ·obtain⟨bQ,e',h'⟩:=a4 x hx
   rw[e,e']at h
   simp at h;subst h
   exact h'.mono sO (λ_ _=>rfl) (λ_ _ h=>h)
  ·rw[e]at h;cases h
 ·intro id h
  rw[ED]at h
  rcases jo (λ_=>am) (wN slots cw) id with⟨x,hx,rfl,e⟩|⟨hx,e⟩
  ·obtain⟨bQ,e',h'⟩:=a4 x hx
   rw[e,e']at h
   exact absurd rfl (h bQ)
  ·exact(a2 id hx).2
 ·intro id h
  rw[ED]at h
  rcases jo (λ_=>am) (wN slots cw) id with⟨x,hx,rfl,e⟩|⟨hx,e⟩
  ·rw[e]at h;cases h
  ·exact(a2 id hx).1
 ·rw[ED]at hr
  rcases jo (λ_=>am) (wN slots cw) k with⟨x,hx,rfl,e⟩|⟨hx,e⟩
  ·obtain⟨q,s,hs',e'⟩:=a7 x hx
   rw[e']at hk
   exact absurd hk (LZ s hs' q)
  ·rw[e]at hr;cases hr
structure iF(l:List Nat):Prop where
 nd:l.Nodup
 no:iS∉l
theorem iF.nil:iF []:=⟨Hn,by simp⟩
theorem Mj(q:Id)(s:Nat):iR (q++[s])=(s==iS):=by induction q with|nil=>(rfl)|cons a q ih=>cases q with|nil=>(rfl)|cons b q=>exact ih
theorem iF.EH{E:Env}{l:List Nat}(h:iF l):∀s∈l,∀q,¬E.K (q++[s]):=λs hs q hk=>by have:=E.wL _ hk;rw[Mj,beq_iff_eq]at this;exact h.no (this▸hs)
end
open Go
def F7(P:Program)(f:FuncId)(args:Array Value)(w:World)(Post:Value->World->Prop):Prop:=(∃fn c,P.funcs[f]? =ac fn∧fn.body=ac c∧Calls P f args w λe w'=>∃v,e= .returned v∧Post v w')∨(∃v w',(callFunc f args).run P w= .ok (.value v) w'∧Post v w')
def Ex(dR:List Nat)(vs:List Value):List Value:=dR.map λj=>vs.getD j undef
structure Ai(w:World)(fp:List Nat)(dr:Nat->Prop)(ls:List Value)(r:U×List U)(v:Value)(w':World):Prop where kept:Kept w w' (·∈fp)ex:∃(I':Nat->Prop)(fr:List Nat),aB w' I' cr fr (v::ls) (r.1::r.2)∧fr.Nodup∧(∀b∈fr,b<w'.heap.size∧(b∈fp∨w.heap.size<=b))∧(∀b,I' b->(dr b∨b∈fp∨w.heap.size<=b)∧b<w'.heap.size∧b∉fr)
def oY(C:aH)(f:FuncId)(args:List U)(r:U×List U):Prop:=∀(w:World)(dr:Nat->Prop)(fp:List Nat)(vs:List Value),aB w dr cr fp vs args->fp.Nodup->(∀b,dr b->b<w.heap.size∧b∉fp)->(∀b∈fp,b<w.heap.size)->(∀g cs,C.ez g=ac cs->R w dr cr [] (.pointer (ac ⟨g,0,am⟩)) (nX cs))->F7 C.P f ⟨vs⟩ w (Ai w fp dr (Ex (C.dR f) vs) r)
def Ok(P:Program)(f:FuncId)(args:Array Value)(w:World)(Post:Ending->World->Prop):Prop:=(∃fn c,P.funcs[f]? =ac fn∧fn.body=ac c∧Calls P f args w Post)∨(∃v w',(callFunc f args).run P w= .ok (.value v) w'∧Post (.returned v) w')
structure Gc(C:aH)(w:World)(dr:Nat->Prop)(β:Id->Option Loc)(G:Id->List Nat)(hl:List (Id×Rows))(vs:List Value)(as:List U):Prop where
 args:aB w dr β [] vs as
 obj:∀k rows,(k,rows)∈hl->eF w dr β k rows (G k)
 out:∀k,k∉hl.map (·.1)->β k=am∧G k=[]
 nd:∀k,(G k).Nodup
 eJ:∀i j b,b∈G i->b∈G j->i=j
 lt:∀k b,b∈G k->b<w.heap.size
 i0:∀b,dr b->b<w.heap.size∧∀k,b∉G k
 ez:∀g cs,C.ez g=ac cs->R w dr cr [] (.pointer (ac ⟨g,0,am⟩)) (nX cs)
def CO(w':World)(I':Nat->Prop)(β:Id->Option Loc)(fr:List Nat)(e:Ending):U->Prop| .aF u=>e= .panicked [{v:=u,recovered:=ci}]∧fr=[]|r=>∃v,e= .returned v∧R w' I' β fr v r
structure Gl(w:World)(dr:Nat->Prop)(β:Id->Option Loc)(G:Id->List Nat)(r:U×List U)(e:Ending)(w':World):Prop where
 kept:Kept w w' λb=>∃k,b∈G k
 ex:∃(I':Nat->Prop)(G':Id->List Nat)(fr:List Nat),CO w' I' β fr e r.1∧(∀k rows,U.aE k rows∈r.2->eF w' I' β k rows (G' k))∧(∀k,(∀rows,U.aE k rows∉r.2)->G' k=[])∧
  (∀k,(G' k).Nodup)∧(∀i j b,b∈G' i->b∈G' j->i=j)∧fr.Nodup∧(∀k b,b∈G' k->b∉fr)∧
  (∀b,(b∈fr∨∃k,b∈G' k)->b<w'.heap.size∧((∃k,b∈G k)∨w.heap.size<=b))∧
  (∀b,I' b->(dr b∨(∃k,b∈G k)∨w.heap.size<=b)∧b<w'.heap.size∧b∉fr∧∀k,b∉G' k)
def C2(C:aH)(f:FuncId)(args:List U)(r:U×List U):Prop:=∀obs as hl,args= .aC obs::as->wT obs=ac hl->(hl.map (·.1)).Nodup->(∀x∈hl,iR x.1=bv)->∀(w:World)(dr:Nat->Prop)(β:Id->Option Loc)(G:Id->List Nat)(vs:List Value),Gc C w dr β G hl vs as->Ok C.P f ⟨vs⟩ w (Gl w dr β G r)
def Sound(C:aH)(f:FuncId)(args:List U)(r:U×List U):Prop:=(C.jg f=ci->oY C f args r)∧(C.jg f=bv->C2 C f args r)
theorem oY.sound{C:aH}{f:FuncId}{args:List U}{r:U×List U}(h:oY C f args r)(hg:C.jg f=ci):Sound C f args r:=⟨λ_=>h,λe=>by rw[hg]at e;cases e⟩
theorem C2.sound{C:aH}{f:FuncId}{args:List U}{r:U×List U}(h:C2 C f args r)(hg:C.jg f=bv):Sound C f args r:=⟨(λe=>by rw[hg]at e;cases e),λ_=>h⟩
def tZ(P:Program):Prop:=∀(f:FuncId)(fn:Func),P.funcs[f]? =ac fn->(fn.name== "runtime.NumGoroutine")=ci
section
variable{C:aH}{E:Env}{w:World}{S:ai}{a:Act}{β:Id->Option Loc}{F:Id->List Nat}
variable{next:Act->World->Prop}{Q:Exit->Act->World->Prop}
theorem Fl{P:Program}(hN:tZ P){f:FuncId}{fn:Func}{c:Code}(hf:P.funcs[f]? =ac fn)(hb:fn.body=ac c)(args:Array Value):(callFunc f args).run P w= .ok (.enter f args) w:=by have:¬fn.name= "runtime.NumGoroutine" :=by{simpa using hN f fn hf};simp[callFunc,hf,hb,this]
theorem aW.imported(h:aW C E w S a β F){o:Oper}{d:Nat}(bV:o.dst=ac d){w':World}{fr:List Nat}{v:Value}{r:U}(hk:Kept w w' (λ_=>False))(hr:R w' (λb=>aU E w F b∨(w.heap.size<=b∧b<w'.heap.size∧b∉fr)) cr fr v r)(hnd:fr.Nodup)(hfr:∀b∈fr,w.heap.size<=b∧b<w'.heap.size)(hfresh:fresh S.h (imp [d] r).2=bv)(rd:List Id)(hd:fG S (put o (imp [d] r).1 rd (imp [d] r).2)):bW C E (S.app (put o (imp [d] r).1 rd (imp [d] r).2)) (a.put o.dst v) w':=by have sU:=KE hfresh;obtain⟨β',G,a1,a2,a3,a4,a5,a6,a7⟩:=HI (β:=β) [d] (hr.mono (λ_ h=>h) (λ_ _=>rfl) H7) hnd (λx hx=>h.dom _ (sU x hx));have wo:∀x∈(imp [d] r).2,F x.1=[]:=λx hx=>h.dead _ (by rw[sU x hx];simp);have RW:∀i b,b∈G i->w.heap.size<=b∧b<w'.heap.size:=λi b hb=>hfr b ((a5 i).2 b hb);refine⟨β',λi=>F i++G i, ?_⟩;have jj:(∀b,aU E w F b->aU E w' (λi=>F i++G i) b)->∀b,(aU E w F b∨(w.heap.size<=b∧b<w'.heap.size∧b∉fr))->aU E w' (λi=>F i++G i) b:=λhI b hb=>by{rcases hb with hb|⟨h1,h2,h3⟩;·{exact hI b hb};·refine⟨.inr (.inr (Nat.le_trans h.kept.size h1)),h2,λid hm=> ?_⟩;rcases List.mem_append.1 hm with hm|hm;·{have:=(h.lt id b hm).1;omega};·exact h3 ((a5 id).2 b hm)};have hh:(S.app (put o (imp [d] r).1 rd (imp [d] r).2)).h=bD S.h (imp [d] r).2:=rfl;refine h.IP (λid=>∃x∈(imp [d] r).2,x.1=id) (by rw[zK];exact h.n) hk.size hk.os hk.out hk.gu (λb hb _=>hk.blk b hb id) a1 ?_ ?_ ?_ ?_ ?_ ?_ ?_ ?_ (lD:=hk.tK) (hok:=lp.of rfl λx hx _=>by obtain⟨q,e⟩:=a7 x hx;rw[e];exact .inl (h.ns d (by simpa[fG,put,bV]using hd) q));·{intro id b hb;rcases List.mem_append.1 hb with hb|hb;·{exact .inl ⟨id,hb⟩};·exact .inr (RW id b hb)};·{intro id hid;have hno:∀x∈(imp [d] r).2,x.1≠id:=λx hx e=>hid ⟨x,hx,e⟩;refine⟨by simp[(a2 id hno).2], ?_⟩;rw[hh];rcases jo S.h (imp [d] r).2 id with⟨x,hx,e,_⟩|⟨_,e⟩;·{exact absurd e (hno x hx)};·exact e};·{rintro hI id⟨x,hx,rfl⟩rows hrows;rw[hh]at hrows;rcases jo S.h (imp [d] r).2 x.1 with⟨y,hy,e,e'⟩|⟨hno,_⟩;·{rw[e']at hrows;obtain⟨bQ,e2,h2⟩:=a4 y hy;rw[e2]at hrows;simp at hrows;subst hrows;rw[<-e];simp only[wo y hy,GT];exact h2.mono (jj hI) (λ_ _=>rfl) (λ_ _ h=>h)};·exact absurd rfl (hno x hx)};·{rintro id⟨x,hx,rfl⟩hno;rw[hh]at hno;rcases jo S.h (imp [d] r).2 x.1 with⟨y,hy,e,e'⟩|⟨hn,_⟩;·{obtain⟨bQ,e2,h2⟩:=a4 y hy;exact absurd (by rw[e',e2]) (hno bQ)};·exact absurd rfl (hn x hx)};·{rintro id⟨x,hx,rfl⟩;simp only[wo x hx,GT];exact(a5 _).1};·{rintro i j b⟨x,hx,rfl⟩hb hb';simp only[wo x hx,GT]at hb;rcases List.mem_append.1 hb' with hb'|hb';·{have:=(h.lt j b hb').1;have:=(RW _ b hb).1;omega};·exact a6 _ _ b hb hb'};·{intro id hid;rw[hh]at hid;rcases jo S.h (imp [d] r).2 id with⟨x,hx,e,e'⟩|⟨hno,e⟩;·{rw[e']at hid;cases hid};·rw[(a2 id hno).1];exact h.dom id (by rw[<-e];exact hid)};·intro hI t;have hd':d<a.tmps.size:=by{rw[h.n];simpa[fG,put,bV]using hd};rw[bV,zJ a d t v hd'];by_cases ht:t=d;·{subst ht;rw[if_pos rfl];refine .inr ?_;have:=a3.mono (w':=w') (jj hI) (λ_ _=>rfl) (λ_ _ h=>h);simpa[ai.app,put,bV,dM,av]using this};·rw[if_neg ht];refine .inl ⟨rfl, ?_⟩;simp[ai.app,put,bV,dM,av,ht]
def Je(C:aH)(k:FuncId):Prop:=∀(w:World)(dr:Nat->Prop)(vs us:List Value)(i c:Int)(cells:List U)(ks:Rows)(u:Value),(∀u∈us,gX u=bv)->aB w dr cr [] vs [.val (.int .i64 i), .bL [.sl (us.map λu=>[.val u])], .bL cells]->cells[4]? =ac (.sl ks)->ks[i.toNat]? =ac [.val (.int .i64 c)]->us[c.toNat]? =ac u->0<=i->0<=c->(∀b,dr b->b<w.heap.size)->(∀g cs,C.ez g=ac cs->R w dr cr [] (.pointer (ac ⟨g,0,am⟩)) (nX cs))->F7 C.P k ⟨vs⟩ w λv w'=>v=u∧Kept w w' (λ_=>False)
theorem aiA(hN:tZ C.P)(h:aW C E w S a β F){o:Oper}{c:Call}{cU:Operand}(ho:o.op= .call c)(hc:c.callee= .value cU){k:FuncId}(hl:Je C k){first caps:List U}{j6 kj:List Value}(qe:a.eval cU= .func (.func k) ⟨j6⟩ ⟨kj⟩)(h1:aB w (aU E w F) β [] j6 first)(h2:aB w (aU E w F) β [] kj caps){e:bg}(he:HQ S o (first++(c.args.toList.map λx=>un bv (S.get C x))++caps)=ac e):gk C E S a w next Q e o:=by intro hd hn;cases he
theorem aii(hN:tZ C.P)(ae7:∀k,C.look k=bv->Je C k)(h:aW C E w S a β F){o:Oper}{c:Call}{cU:Operand}(ho:o.op= .call c)(hc:c.callee= .value cU){f:FuncId}{call:FuncId->List U->Option (U×List U)}(dj:∀k as r,call k as=ac r->Sound C k as r){e:bg}(ew:mb C (un bv (S.get C cU))=am)(he:sA C f call S o (un bv (S.get C cU)) (c.args.toList.map λx=>un bv (S.get C x))=ac e):gk C E S a w next Q e o:=by intro hd hn;have hfo:=h.e7 cU;have hargs:=aB.ofMap h c.args.toList;unfold sA at he;split at he;·{rename_i k first caps hfn;rw[hfn]at hfo ew;have hg0:C.jg k=false:=by{simp only[mb]at ew;split at ew;·{cases ew};·rename_i h;simpa using h};obtain⟨_,j6,kj,qe,h1,h2⟩:=hfo.o7;by_cases hlk:C.look k=bv;·{rw[if_pos hlk]at he;exact aiA hN h ho hc (ae7 k hlk) qe h1 h2 he hd hn};rw[if_neg hlk]at he;split at he;·{rename_i as seen d Lg bV;split at he;·{rename_i r cp;have hs:=(dj _ _ _ cp).1 hg0;have hall:aB w (aU E w F) β [] (j6++c.args.toList.map a.eval++kj) (first++(c.args.toList.map λx=>un bv (S.get C x))++caps):=(h1.append hargs).append h2;have lD:=(JQ (F:=F) (Qh h.obj 9) Lg hall).2 (λb=>aU E w F b∨∃id∈seen,b∈F id) (λb hb=> .inl hb) (λb hb=>by cases hb) (λid hid b hb=> .inr ⟨id,hid,hb⟩);have DV:=hs w _ [] _ lD Hn (λb hb=>⟨hb.elim (λhb=>hb.2.1) (λ⟨id,_,hb⟩=>(h.lt id b hb).1),by simp⟩) (λb hb=>by cases hb) (λg cs hg=>(h.ez g cs hg).rJ (KL cs) λb hb=> .inl hb);have DZ:(execOp a.eval o).run C.P w=(callFunc k ⟨j6++c.args.toList.map a.eval++kj⟩).run C.P w:=by{have e1:(#[]++(⟨j6⟩:Array Value)++c.args.map a.eval++⟨kj⟩:Array Value)=⟨j6++c.args.toList.map a.eval++kj⟩:=by{apply Array.ext';simp};have e2:((⟨j6⟩:Array Value)++c.args.map a.eval++⟨kj⟩:Array Value)=⟨j6++c.args.toList.map a.eval++kj⟩:=by{apply Array.ext';simp};have bn:resolve a.eval c o.type=(pure {target:= .fn (.func k) ⟨kj⟩,args:=⟨j6⟩++c.args.map a.eval}:Sem Deferred):=by{simp[resolve,hc,qe,Deferred.ofValue]};have c4:execOp a.eval o=(do let d<-resolve a.eval c o.type;invoke d.target d.args:Sem Next):=by{simp[execOp,ho]};rw[c4,bn,Sem.run_bind,Sem.run_pure,Result.andThen_ok];simp only[invoke,e2]};have kA:∀{ls:List Value}v w',Ai w [] (λb=>aU E w F b∨∃id∈seen,b∈F id) ls (r,[]) v w'->next (a.put o.dst v) w':=λv w' hres=>by{obtain⟨I',fr,g1,g2,g3,g4⟩:=hres.ex;replace g1:R w' I' cr fr v r:=by{obtain⟨f1,f2,v1,ar8,rfl,e1,k1,k2⟩:=aB.cons_inv g1;obtain⟨rfl,rfl⟩:=k2.jL;simp only[List.cons.injEq]at e1;obtain⟨rfl,_⟩:=e1;simpa using k1};have hk:Kept w w' (λ_=>False):=⟨hres.kept.size,λb hb _=>hres.kept.blk b hb (by simp),hres.kept.os,hres.kept.out,hres.kept.gu,hres.kept.tK⟩;generalize hr':(if gW C f o.dst=bv then ff r else r)=r' at he;split at he;·{simp at he};·rename_i hm;split at he;·{rename_i hf;simp only[AC]at he;subst he;have base:R w' (λb=>aU E w F b∨(w.heap.size<=b∧b<w'.heap.size∧b∉fr)) cr fr v r:=by{by_cases afu:seen=[];·{subst afu;refine g1.mono (λb hb=> ?_) (λ_ _=>rfl) (λ_ _ h=>h);obtain⟨k1,k2,dZ⟩:=g4 b hb;rcases k1 with(k1|⟨_,k1,_⟩)|k1|k1;·{exact .inl k1};·{cases k1};·{cases k1};·exact .inr ⟨k1,k2,dZ⟩};·have:mine r=true:=by{cases hmr:mine r;·{exact absurd (by cases seen<;>simp_all) hm};·rfl};exact g1.mine this _};have LA:∀b∈fr,w.heap.size<=b∧b<w'.heap.size:=λb hb=>by{obtain⟨k1,k2⟩:=g3 b hb;rcases k2 with k2|k2;·{cases k2};·exact⟨k2,k1⟩};refine hn _ _ ?_;by_cases hz:gW C f o.dst=bv;·{rw[if_pos hz]at hr';subst hr';refine h.imported bV hk (fr:=[]) ?_ Hn (λb hb=>by cases hb) hf seen hd;exact base.ff (λb hb=>hb.imp id λ⟨k1,k2,_⟩=>⟨k1,k2,by simp⟩) (λb hb=> .inr ⟨(LA b hb).1,(LA b hb).2,by simp⟩)};·rw[if_neg hz]at hr';subst hr';exact h.imported bV hk base g2 LA hf seen hd};·simp at he};unfold Oper.wp;rw[DZ];rcases DV with⟨fn,code,k1,k2,dZ⟩|⟨v,w',k1,k2⟩;·{rw[Fl hN k1 k2];simp only[Oper.upon];refine dZ.mono λe' w' hh=> ?_;obtain⟨v,rfl,hres⟩:=hh;exact kA v w' hres};·rw[k1];exact kA v w' k2};·cases he};·cases he};·cases he
end
end Go.Ab
