import Derived.Test.YtbbhbdlljfffdaaGreatDoorAbOps7
open Bool renaming and_eq_true->Ha,and_assoc->H3
open List renaming mem_cons_self->Do,mem_cons_of_mem->GT,flatten_cons->Hb,nil_append->Hc,length_take->Hk,append_nil->Hm,mem_of_mem_take->Hn,length->H0,take_left->H2,perm_iff_count->H4,count_append->H5,flatMap_append->IH,take_append_drop->If,flatten_nil->Ix,cons_append->Kd,take_zero->Lk,drop_left->Nm,append_assoc->PH,length_append->PP,nodup_nil->PQ
open Nat renaming min_eq_left->H1
open Option renaming map_eq_some_iff->GE,bind_eq_some_iff->Hd
open Option.some renaming injEq->AC
set_option linter.all false
namespace Go.Ab
open Go
theorem aeS(a b:List U):dF (a++b)=(dF a&&dF b):=by induction a with|nil=>(simp[dF])|cons c cs ih=>simp[dF,ih,H3]
theorem IW:∀rows:Rows,e4 rows=true->dF rows.flatten=true|[],_=>by{simp[dF]}|r::rs,h=>by simp only[e4,Ha]at h;rw[Hb,aeS,h.1,IW rs h.2];rfl
section
variable{w:World}{I:Nat->Prop}
theorem R.mu{β:Id->Option Loc}{f:List Nat}{v:Value}{a:U}(h:R w I β f v a):flat a=true->∀dh:Id->Option Loc,R w I dh f v a:=by induction h with|val h=>(intro _ _;exact .val h)|nn=>(intro _ _;exact .nn)|mr _=>(intro hf;simp[flat]at hf)|fh h=>(intro _ _;exact .fh h)|im h1 h2=>(intro _ _;exact .im h1 h2)|cB=>(intro hf;simp[flat]at hf)|iC=>(intro _ _;exact .iC)|sl h1 h2 h3 h4 h5 _=>(intro _ _;exact .sl h1 h2 h3 h4 h5)|bx h1 h2 h3 _=>(intro _ _;exact .bx h1 h2 h3)|jK _ _=>(intro hf;simp[flat]at hf)|rs _ _ _=>(intro hf;simp[flat]at hf)|mp _=>(intro hf;simp[flat]at hf)|fn _ _ ih1 ih2=>(intro hf _;simp only[flat,Ha]at hf;exact .fn (ih1 (by simpa[flat]using hf.1) _) (ih2 (by simpa[flat]using hf.2) _))|nil=>(intro _ _;exact .nil)|cons _ _ ih1 ih2=>(intro hf _;simp only[flat,dF,Ha]at hf;exact .cons (ih1 hf.1 _) (ih2 (by simpa[flat]using hf.2) _))|aI _ ih=>(intro hf _;exact .aI (ih (by simpa[flat]using hf) _))|kV=>(intro _ _;exact .kV)|own h0 h1 h2 h3 h4 h5 _ ih=>(intro hf _;simp only[flat]at hf;exact .own h0 h1 h2 h3 h4 h5 (ih (by simpa[flat]using IW _ hf) _))|lY h0 h1 h2 h3 h5 _ ih=>(intro hf _;simp only[flat]at hf;exact .lY h0 h1 h2 h3 h5 (ih (by simpa[flat]using IW _ hf) _))|c7 h1 h2 h3 _ ih=>(intro hf _;simp only[flat]at hf;exact .c7 h1 h2 h3 (ih (by simpa[flat]using hf) _))|sB _ _=>(intro hf;simp[flat]at hf)|sA=>(intro hf;simp[flat]at hf)|aU=>intro _ _;exact .aU
def DU(w:World)(I:Nat->Prop)(β:Id->Option Loc)(F:Id->List Nat)(p:U->Option (U×List Id)):Prop:=∀a x,p a=some x->∀f v,R w I β f v a->∃fp rest,R w I b6 fp v x.1∧(fp++rest).Perm (f++x.2.flatMap F)
variable{β:Id->Option Loc}{F:Id->List Nat}
theorem uA{mX r1 kL r2 f1 g1 f2 g2:List Nat}(h1:(mX++r1).Perm (f1++g1))(h2:(kL++r2).Perm (f2++g2)):((mX++kL)++(r1++r2)).Perm ((f1++f2)++(g1++g2)):=by rw[H4]at h1 h2|-;intro a;have:=h1 a;have:=h2 a;simp only[H5]at*;omega
theorem To{p:U->Option (U×List Id)}(hp:DU w I β F p):∀{cs:List U}{x},fc p cs=some x->∀{f vs},ay w I β f vs cs->x.1.length=cs.length∧∃fp rest,ay w I b6 fp vs x.1∧(fp++rest).Perm (f++x.2.flatMap F)|[],x,h,f,vs,hr=>by{simp[fc]at h;subst h;obtain⟨rfl,rfl⟩:=hr.gU;exact⟨rfl,[],[], .nil,by simp⟩}|c::cs,x,h,f,vs,hr=>by simp only[fc,Hd,GE]at h;obtain⟨y,hy,z,hz,rfl⟩:=h;obtain⟨f1,f2,v,vs',rfl,rfl,h1,h2⟩:=hr.cons_inv;obtain⟨mX,r1,g1,g2⟩:=hp _ _ hy _ _ h1;obtain⟨hl,kL,r2,g3,g4⟩:=To hp hz h2;refine⟨by simp[hl],mX++kL,r1++r2, .cons g1 g3, ?_⟩;simp only[IH];exact uA g2 g4
theorem Ke{p:U->Option (U×List Id)}(hp:DU w I β F p){cs:List U}{x}(h:jV p cs=some x){f vs}(hr:ay w I β f vs cs):x.1.length=cs.length∧∃fp rest,ay w I b6 fp vs x.1∧(fp++rest).Perm (f++x.2.flatMap F):=by unfold jV at h;split at h;·{rename_i hf;simp at h;subst h;exact⟨rfl,f,[],R.mu hr (by simpa[flat]using hf) _,by simp⟩};·exact To hp h hr
theorem Tq{p:U->Option (U×List Id)}(hp:DU w I β F p):∀{rs:Rows}{x},fR (jV p) rs=some x->∀{f vs},ay w I β f vs rs.flatten->(x.1.length=rs.length∧∀sz,(∀r∈rs,r.length=sz)->∀r∈x.1,r.length=sz)∧∃fp rest,ay w I b6 fp vs x.1.flatten∧(fp++rest).Perm (f++x.2.flatMap F)|[],x,h,f,vs,hr=>by{simp[fR]at h;subst h;obtain⟨rfl,rfl⟩:=hr.gU;exact⟨⟨rfl,fun _ _ _ h=>by cases h⟩,[],[], .nil,by simp⟩}|c::cs,x,h,f,vs,hr=>by simp only[fR,Hd,GE]at h;obtain⟨y,hy,z,hz,rfl⟩:=h;rw[Hb]at hr;obtain⟨f1,f2,v1,v2,rfl,rfl,h1,h2⟩:=ay.split hr;obtain⟨l1,mX,r1,g1,g2⟩:=Ke hp hy h1;obtain⟨⟨l2,l3⟩,kL,r2,g3,g4⟩:=Tq hp hz h2;refine⟨⟨by simp[l2],fun sz hs r hr=> ?_⟩,mX++kL,r1++r2,g1.append g3, ?_⟩;·{rcases List.mem_cons.1 hr with rfl|hr;·{rw[l1];exact hs _ (Do ..)};·exact l3 sz (fun r hr=>hs r (GT _ hr)) r hr};·simp only[IH];exact uA g2 g4
theorem Wd{p:U->Option (U×List Id)}(hp:DU w I β F p){rs:Rows}{x}(h:rM p rs=some x){f vs}(hr:ay w I β f vs rs.flatten):(x.1.length=rs.length∧∀sz,(∀r∈rs,r.length=sz)->∀r∈x.1,r.length=sz)∧∃fp rest,ay w I b6 fp vs x.1.flatten∧(fp++rest).Perm (f++x.2.flatMap F):=by unfold rM at h;split at h;·{rename_i hf;simp at h;subst h;exact⟨⟨rfl,fun _ h=>h⟩,f,[],R.mu hr (by simpa[flat]using IW _ hf) _,by simp⟩};·exact Tq hp h hr
theorem IY{α:Type}(rs:List (List α))(n:Nat):rs.flatten=(rs.take n).flatten++(rs.drop n).flatten:=by rw[<-List.flatten_append,If]
theorem yj{L:Id->Option (Option Rows)}(hL:∀id rows,L id=some (some rows)->eu w I β id rows (F id)):∀n,DU w I β F (pk L n)|0=>fun a x h=>by{simp[pk]at h}|n+1=>fun a x h f v hr=>by have ih:=yj hL n;cases a with|rs id off len=>(simp only[pk]at h;split at h;·{rename_i rs hid;split at h;·{rename_i hc;simp only[GE]at h;obtain⟨y,hy,rfl⟩:=h;obtain⟨rfl,hc⟩:=hc;obtain⟨rfl,hv⟩:=hr.oS;rcases hL id rs hid with⟨hb,rfl,hF⟩|⟨bm,hb,_⟩|⟨b,o,sz,n',vs,cZ,hb,hF,qo,⟨hne,hsz⟩,hle,bU,hrl⟩;rotate_left;·{rcases hv with⟨a,l,rfl,rfl,hb',hl⟩|⟨b,o,sz,n',cap,hb',_⟩;·{rw[hb]at hb';cases hb';cases hl};·rw[hb]at hb';cases hb'};rotate_left;·{have hy0:y=([],[]):=by{simpa[rM,e4]using hy.symm};subst hy0;simp only[List.length_nil]at hc;rcases hv with⟨a,l,rfl,rfl,_⟩|⟨b,o,sz,n',cap,hb',_⟩;·{exact⟨[],[], .kV,by simp[hF]⟩};·rw[hb]at hb';cases hb'};·obtain⟨⟨l1,l2⟩,fp,rest,g1,g2⟩:=Wd ih hy hrl;have hlen:0<rs.length:=List.length_pos_iff.2 hne;have Uy:y.1≠[]:=fun e=>by{rw[e]at l1;simp at l1;omega};have FA:((b::fp)++rest).Perm ([]++(id::y.2).flatMap F):=by{rw[List.perm_iff_count]at g2|-;intro x;have:=g2 x;simp only[List.flatMap_cons,List.nil_append,hF,List.count_append,List.count_cons,List.cons_append]at*;omega};rcases hv with⟨a,l,rfl,rfl,_⟩|⟨b',o',sz',Ot,cap,hb',hle',hcap,rfl⟩;·{exact⟨b::fp,rest, .lY Uy (l2 sz hsz) qo (by rw[l1];exact hle) bU g1,FA⟩};·rw[hb]at hb';simp only[Option.some.injEq,Loc.blk.injEq]at hb';obtain⟨rfl,rfl,rfl,rfl⟩:=hb';refine⟨b::fp,rest, ?_,FA⟩;have:=R.own (w:=w) (I:=I) (β:=b6) (cap:=cap) (o:=o) (rows:=y.1) (len:=len) Uy (l2 sz hsz) qo ⟨by simpa using hle',by rw[l1];exact hle⟩ ⟨by omega,by omega⟩ bU g1;simpa using this};·cases h};·cases h)|mp id row off=>(simp only[pk]at h;split at h;·{rename_i cs hid;split at h;·{rename_i hc;obtain⟨rfl,rfl⟩:=hc;simp only[GE]at h;obtain⟨y,hy,rfl⟩:=h;obtain⟨rfl,b',o',sz',n',hb',rfl⟩:=hr.oH;rcases hL id [cs] hid with⟨hb,h0,hF⟩|⟨bm,hb,_⟩|⟨b,o,sz,n',vs,cZ,hb,hF,qo,⟨hne,hsz⟩,hle,bU,hrl⟩;·{cases h0};·{rw[hb]at hb';cases hb'};·rw[hb]at hb';simp only[AC,Loc.blk.injEq]at hb';obtain⟨rfl,rfl,rfl,rfl⟩:=hb';simp only[Hb,Ix,Hm]at hrl;obtain⟨l1,fp,rest,g1,g2⟩:=Ke ih hy hrl;have:=hsz cs (by simp);refine⟨b::fp,rest, ?_, ?_⟩;·{have:=R.c7 (w:=w) (I:=I) (β:=b6) (cells:=y.1) qo (by simp at hle;omega) bU g1;simpa using this};·rw[H4]at g2|-;intro x;have:=g2 x;simp only[List.flatMap_cons,Hc,hF,H5,List.count_cons,Kd]at*;omega};·cases h};·cases h)|cB=>(simp only[pk,AC]at h;subst h;obtain⟨rfl,a,rfl⟩:=hr.A6;exact⟨[],[], .kV,by simp⟩)|agg cs=>(simp only[pk,GE]at h;obtain⟨y,hy,rfl⟩:=h;obtain⟨vs,rfl,hl⟩:=hr.qU;exact(Ke ih hy hl).2)|aI cs=>(simp only[pk,GE]at h;obtain⟨y,hy,rfl⟩:=h;obtain⟨vs,rfl,hl⟩:=hr.DK;obtain⟨_,fp,rest,g1,g2⟩:=Ke ih hy hl;exact⟨fp,rest, .aI g1,g2⟩)|fn k a b=>(simp only[pk]at h;split at h;·{rename_i hi;simp only[AC]at h;subst h;simp only[Ha]at hi;obtain⟨rfl,vs,cs,rfl,h1,h2⟩:=hr.qj;exact⟨[],[], .fn (h1.sP hi.1) (h2.sP hi.2),by simp⟩};·cases h)|dR g y=>(simp only[pk,AC]at h;subst h;exact⟨[],f, .aU,by simp⟩)|own rs len=>(simp only[pk]at h;split at h;·{rename_i hf;simp only[AC]at h;subst h;exact⟨f,[],hr.mu (by simpa[flat]using hf) _,by simp⟩};·cases h)|c7 cs=>(simp only[pk]at h;split at h;·{rename_i hf;simp only[AC]at h;subst h;exact⟨f,[],hr.mu (by simpa[flat]using hf) _,by simp⟩};·cases h)|val u=>(simp only[pk,AC]at h;subst h;exact⟨f,[],hr.mu rfl _,by simp⟩)|nn=>(simp only[pk,AC]at h;subst h;exact⟨f,[],hr.mu rfl _,by simp⟩)|mr id=>(simp only[pk]at h;split at h;·{rename_i rs hid;simp only[AC]at h;subst h;obtain⟨rfl,b,hb',rfl⟩:=hr.F2;rcases hL id rs hid with⟨hb,_⟩|⟨b2,hb,hF,hm⟩|⟨b2,o,sz,n',vs,cZ,hb,_⟩;·{rw[hb]at hb';cases hb'};·{rw[hb]at hb';cases hb';exact⟨[b],[], .fh hm,by simp[hF]⟩};·rw[hb]at hb';cases hb'};·cases h)|fh rows=>(simp only[pk,AC]at h;subst h;exact⟨f,[],hr.mu rfl _,by simp⟩)|im rows=>(simp only[pk,AC]at h;subst h;exact⟨f,[],hr.mu rfl _,by simp⟩)|sl rows=>(simp only[pk,AC]at h;subst h;exact⟨f,[],hr.mu rfl _,by simp⟩)|bx cells=>(simp only[pk,AC]at h;subst h;exact⟨f,[],hr.mu rfl _,by simp⟩)|aP i rs=>(cases hr)|av u=>(cases hr)|aU=>simp only[pk,AC]at h;subst h;exact⟨f,[],hr.mu rfl _,by simp⟩
/-! ### Borrowing -/
def DO(w:World)(I:Nat->Prop)(β:Id->Option Loc)(F:Id->List Nat)(p:U->Option (U×List Id)):Prop:=∀a x,p a=some x->∀f v,R w I β f v a->∀I':Nat->Prop,(∀b,I b->I' b)->(∀b∈f,I' b)->(∀id∈x.2,∀b∈F id,I' b)->R w I' b6 [] v x.1
theorem R.ri{f:List Nat}{v:Value}{a:U}(h:R w I β f v a)(hi:gy a=true){I':Nat->Prop}(hI:∀b,I b->I' b):R w I' b6 [] v a:=by have e:=h.NY hi;subst e;exact(h.sP hi).mono hI (fun _ _=>rfl) (fun _ _ h=>h)
theorem Lw{p:U->Option (U×List Id)}(hp:DO w I β F p):∀{cs:List U}{x},fc p cs=some x->∀{f vs},ay w I β f vs cs->x.1.length=cs.length∧∀I':Nat->Prop,(∀b,I b->I' b)->(∀b∈f,I' b)->(∀id∈x.2,∀b∈F id,I' b)->ay w I' b6 [] vs x.1|[],x,h,f,vs,hr=>by{simp[fc]at h;subst h;obtain⟨rfl,rfl⟩:=hr.gU;exact⟨rfl,fun _ _ _ _=> .nil⟩}|c::cs,x,h,f,vs,hr=>by simp only[fc,Hd,GE]at h;obtain⟨y,hy,z,hz,rfl⟩:=h;obtain⟨f1,f2,v,vs',rfl,rfl,h1,h2⟩:=hr.cons_inv;obtain⟨hl,g3⟩:=Lw hp hz h2;refine⟨by simp[hl],fun I' i1 i2 i3=> ?_⟩;exact R.cons (f1:=[]) (f2:=[]) (hp _ _ hy _ _ h1 I' i1 (fun b hb=>i2 b (List.mem_append.2 (.inl hb))) fun id hid=>i3 id (List.mem_append.2 (.inl hid))) (g3 I' i1 (fun b hb=>i2 b (List.mem_append.2 (.inr hb))) fun id hid=>i3 id (List.mem_append.2 (.inr hid)))
theorem zg{p:U->Option (U×List Id)}(hp:DO w I β F p){cs:List U}{x}(h:lO p cs=some x){f vs}(hr:ay w I β f vs cs):x.1.length=cs.length∧∀I':Nat->Prop,(∀b,I b->I' b)->(∀b∈f,I' b)->(∀id∈x.2,∀b∈F id,I' b)->ay w I' b6 [] vs x.1:=by unfold lO at h;split at h;·{rename_i hf;simp at h;subst h;exact⟨rfl,fun I' i1 _ _=>R.ri hr (by simpa[gy]using hf) i1⟩};·exact Lw hp h hr
theorem R6{p:U->Option (U×List Id)}(hp:DO w I β F p):∀{rs:Rows}{x},fR (lO p) rs=some x->∀{f vs},ay w I β f vs rs.flatten->(x.1.length=rs.length∧∀sz,(∀r∈rs,r.length=sz)->∀r∈x.1,r.length=sz)∧∀I':Nat->Prop,(∀b,I b->I' b)->(∀b∈f,I' b)->(∀id∈x.2,∀b∈F id,I' b)->ay w I' b6 [] vs x.1.flatten|[],x,h,f,vs,hr=>by{simp[fR]at h;subst h;obtain⟨rfl,rfl⟩:=hr.gU;exact⟨⟨rfl,fun _ _ _ h=>by cases h⟩,fun _ _ _ _=> .nil⟩}|c::cs,x,h,f,vs,hr=>by simp only[fR,Hd,GE]at h;obtain⟨y,hy,z,hz,rfl⟩:=h;rw[Hb]at hr;obtain⟨f1,f2,v1,v2,rfl,rfl,h1,h2⟩:=ay.split hr;obtain⟨l1,g1⟩:=zg hp hy h1;obtain⟨⟨l2,l3⟩,g3⟩:=R6 hp hz h2;refine⟨⟨by simp[l2],fun sz hs r hr=> ?_⟩,fun I' i1 i2 i3=> ?_⟩;·{rcases List.mem_cons.1 hr with rfl|hr;·{rw[l1];exact hs _ (Do ..)};·exact l3 sz (fun r hr=>hs r (GT _ hr)) r hr};·have:=(g1 I' i1 (fun b hb=>i2 b (List.mem_append.2 (.inl hb))) fun id hid=>i3 id (List.mem_append.2 (.inl hid))).append (g3 I' i1 (fun b hb=>i2 b (List.mem_append.2 (.inr hb))) fun id hid=>i3 id (List.mem_append.2 (.inr hid)));simpa using this
theorem Sc{p:U->Option (U×List Id)}(hp:DO w I β F p){rs:Rows}{x}(h:qW p rs=some x){f vs}(hr:ay w I β f vs rs.flatten):(x.1.length=rs.length∧∀sz,(∀r∈rs,r.length=sz)->∀r∈x.1,r.length=sz)∧∀I':Nat->Prop,(∀b,I b->I' b)->(∀b∈f,I' b)->(∀id∈x.2,∀b∈F id,I' b)->ay w I' b6 [] vs x.1.flatten:=by unfold qW at h;split at h;·{rename_i hf;simp at h;subst h;exact⟨⟨rfl,fun _ h=>h⟩,fun I' i1 _ _=>R.ri hr (by simpa[gy]using NX _ hf) i1⟩};·exact R6 hp h hr
theorem LF{L:Id->Option (Option Rows)}(hL:∀id rows,L id=some (some rows)->eu w I β id rows (F id)):∀n,DO w I β F (cV L n)
 |0=>fun a x h=>by simp[cV]at h
 |n+1=>fun a x h f v hr I' i1 i2 i3=>by
  have ih:=LF hL n
  cases a with
  |rs id off len=>
   simp only[cV]at h
   split at h
   ·rename_i rs hid
    split at h
    ·rename_i hc
     simp only[GE]at h
     obtain⟨y,hy,rfl⟩:=h
     obtain⟨rfl,hv⟩:=hr.oS
     have Fw:len=0->y.1=[]:=fun h0=>by
      have :=congrArg H0 (show(rs.drop off).take len=[]by rw[h0];rfl)
      rw[h0,Lk]at hy
      simp[qW,lT]at hy
      rw[<-hy]
     rcases hv with⟨a,l,rfl,rfl,_⟩|⟨b',o',sz',Ot,cap,hb',hle',hcap,rfl⟩
     ·rw[Fw rfl];exact .iC
     ·rcases Nat.eq_zero_or_pos len with h0|h0
      ·subst h0;rw[Fw rfl];exact .iC
      ·rcases hL id rs hid with⟨hb,rfl,hF⟩|⟨bm,hb,_⟩|⟨b,o,sz,n',vs,cZ,hb,hF,qo,⟨hne,hsz⟩,hle,bU,hrl⟩
       ·simp at hc;omega
       ·rw[hb]at hb';cases hb'
       ·rw[hb]at hb'
        simp only[AC,Loc.blk.injEq]at hb'
        obtain⟨rfl,rfl,rfl,rfl⟩:=hb'
        have hsp:rs.flatten=(rs.take off).flatten++(((rs.drop off).take len).flatten++((rs.drop off).drop len).flatten):=by
         rw[<-IY (rs.drop off) len,<-IY rs off]
        rw[hsp]at hrl
        obtain⟨f1,f23,v1,v23,rfl,rfl,h1,h23⟩:=ay.split hrl
        obtain⟨f2,f3,v2,v3,rfl,rfl,h2,h3⟩:=ay.split h23
        have FX:=h1.length
        rw[mW (sz:=sz) (fun r hr=>hsz r (Hn hr)),Hk,H1 (by omega)]at FX
        obtain⟨⟨l1,l2⟩,g⟩:=Sc ih hy h2
        have sV:y.1.length=len:=by rw[l1,Hk,List.length_drop];omega
        have hin:∀x∈F id,I' x:=i3 id (Do ..)
        have g':=g I' i1 (fun x hx=>hin x (by rw[hF];simp[hx])) fun id hid=>i3 id (GT _ hid)
        have zP:gb w b (o+off*sz) v2:=by
         have :=(bU.drop v1.length).take v2.length
         rw[Nm,H2,FX]at this
         exact this
        have :=R.sl (β:=b6) (cap:=cap) (l2 sz fun r hr=>hsz r (List.mem_of_mem_drop (Hn hr))) (hin b (by rw[hF];simp)) zP (by omega) g'
        rw[sV]at this
        exact this
    ·cases h
   ·cases h
  |mp id row off=>
   simp only[cV]at h
   split at h
   ·rename_i rs hid
    split at h
    ·rename_i r hrow
     split at h
     ·rename_i hoff
      simp only[GE]at h
      obtain⟨y,hy,rfl⟩:=h
      obtain⟨rfl,b',o',sz',n',hb',rfl⟩:=hr.oH
      rcases hL id rs hid with⟨hb,h0,hF⟩|⟨bm,hb,_⟩|⟨b,o,sz,n',vs,cZ,hb,hF,qo,⟨hne,hsz⟩,hle,bU,hrl⟩
      ·subst h0;simp at hrow
      ·rw[hb]at hb';cases hb'
      ·rw[hb]at hb'
       simp only[AC,Loc.blk.injEq]at hb'
       obtain⟨rfl,rfl,rfl,rfl⟩:=hb'
       obtain⟨hsp,hlt⟩:=PD hrow
       have Uo:r.length=sz:=hsz r (List.mem_of_getElem? hrow)
       have hsp:rs.flatten=((rs.take row).flatten++r.take off)++(r.drop off++(rs.drop (row+1)).flatten):=by
        have e:r.take off++(r.drop off++(rs.drop (row+1)).flatten)=r++(rs.drop (row+1)).flatten:=by rw[<-PH,If]
        rw[PH,e]
        conv=>lhs;rw[hsp]
        simp
       rw[hsp]at hrl
       obtain⟨f1,f23,v1,v23,rfl,rfl,h1,h23⟩:=ay.split hrl
       obtain⟨f2,f3,v2,v3,rfl,rfl,h2,h3⟩:=ay.split h23
       have FX:=h1.length
       rw[PP,mW (sz:=sz) (fun r hr=>hsz r (Hn hr)),Hk,Hk,H1 (by omega),H1 hoff]at FX
       obtain⟨_,g⟩:=zg ih hy h2
       have hin:∀x∈F id,I' x:=i3 id (Do ..)
       have g':=g I' i1 (fun x hx=>hin x (by rw[hF];simp[hx])) fun id hid=>i3 id (GT _ hid)
       have zP:gb w b (o+row*sz+off) v2:=by
        have :=(bU.drop v1.length).take v2.length
        rw[Nm,H2,FX,<-Nat.add_assoc]at this
        exact this
       exact .bx (hin b (by rw[hF];simp)) zP g'
     ·cases h
    ·cases h
   ·cases h
  |cB=>
   simp only[cV,AC]at h;subst h
   obtain⟨rfl,a,rfl⟩:=hr.A6
   exact .iC
  |agg cs=>
   simp only[cV,GE]at h
   obtain⟨y,hy,rfl⟩:=h
   obtain⟨vs,rfl,hl⟩:=hr.qU
   exact(zg ih hy hl).2 I' i1 i2 i3
  |aI cs=>
   simp only[cV,GE]at h
   obtain⟨y,hy,rfl⟩:=h
   obtain⟨vs,rfl,hl⟩:=hr.DK
   exact .aI ((zg ih hy hl).2 I' i1 i2 i3)
  |fn k a b=>
   simp only[cV,GE,Hd]at h
   obtain⟨y,hy,z,hz,rfl⟩:=h
   obtain⟨rfl,vs,cs,rfl,h1,h2⟩:=hr.qj
   exact .fn ((zg ih hy h1).2 I' i1 (fun _ h=>by cases h) fun id hid=>i3 id (List.mem_append.2 (.inl hid))) ((zg ih hz h2).2 I' i1 (fun _ h=>by cases h) fun id hid=>i3 id (List.mem_append.2 (.inr hid)))
  |dR g y=>
   simp only[cV,AC]at h;subst h
   exact .aU
  |own rs len=>
   simp only[cV,GE]at h
   obtain⟨y,hy,rfl⟩:=h
   cases hr with
   |kV=>
    have :y=([],[]):=by simpa[qW,lT]using hy.symm
    subst this;exact .iC
   |lY _ _ _ _ _ _=>
    have :y=([],[]):=by simpa[qW,lT]using hy.symm
    subst this;exact .iC
   | @own _ b o sz cap n len cZ jZ _ g0 g1 g2 g3 g4 g5 g6=>
    rw[IY rs len]at g6
    obtain⟨f1,f2,v1,v2,rfl,rfl,h1,h2⟩:=ay.split g6
    obtain⟨⟨l1,l2⟩,g⟩:=Sc ih hy h1
    have g':=g I' i1 (fun b hb=>i2 b (GT _ (List.mem_append.2 (.inl hb)))) i3
    have MZ:gb w b o v1:=by
     have :=g5.take v1.length
     rwa[H2]at this
    have sV:y.1.length=len:=by rw[l1,Hk];omega
    have :=R.sl (β:=b6) (cap:=cap) (l2 sz fun r hr=>g1 r (Hn hr)) (i2 b (Do ..)) MZ (by omega) g'
    rw[sV]at this
    exact this
  |c7 cs=>
   simp only[cV,GE]at h
   obtain⟨y,hy,rfl⟩:=h
   cases hr with
   | @c7 _ b o n cZ jZ _ g2 g3 g5 g6=>
    obtain⟨_,g⟩:=zg ih hy g6
    exact .bx (i2 b (Do ..)) g5 (g I' i1 (fun b hb=>i2 b (GT _ hb)) i3)
  |val u=>
   simp only[cV,AC]at h;subst h
   exact hr.ri rfl i1
  |nn=>
   simp only[cV,AC]at h;subst h
   exact hr.ri rfl i1
  |mr id=>
   simp only[cV]at h
   split at h
   ·rename_i rs hid
    simp only[AC]at h;subst h
    obtain⟨rfl,b,hb',rfl⟩:=hr.F2
    rcases hL id rs hid with⟨hb,_⟩|⟨b2,hb,hF,hm⟩|⟨b2,o,sz,n',vs,cZ,hb,_⟩
    ·rw[hb]at hb';cases hb'
    ·rw[hb]at hb';cases hb'
     exact .im (i3 id (Do ..) b (by rw[hF];simp)) hm
    ·rw[hb]at hb';cases hb'
   ·cases h
  |fh rows=>
   simp only[cV,AC]at h;subst h
   obtain⟨b,rfl,rfl,hm⟩:=hr.OS
   exact .im (i2 b (Do ..)) hm
  |im rows=>
   simp only[cV,AC]at h;subst h
   exact hr.ri rfl i1
  |sl rows=>
   simp only[cV,AC]at h;subst h
   exact hr.ri rfl i1
  |bx cells=>
   simp only[cV,AC]at h;subst h
   exact hr.ri rfl i1
  |aP i rs=>cases hr
  |av u=>cases hr
  |aU=>
   simp only[cV,AC]at h;subst h
   exact .aU
/-! ### Nothing but its own -/
theorem Ol:∀rows:Rows,JO rows=true->nT rows.flatten=true|[],_=>by{simp[nT]}|r::rs,h=>by simp only[JO,Ha]at h;have:∀a b:List U,nT (a++b)=(nT a&&nT b):=fun a b=>by{induction a with|nil=>(simp[nT])|cons c cs ih=>simp[nT,ih,H3]};rw[Hb,this,h.1,Ol rs h.2];rfl
theorem R.mine{f:List Nat}{v:Value}{a:U}(h:R w I β f v a):mine a=true->∀I':Nat->Prop,R w I' β f v a:=by induction h with|val h=>(intro _ _;exact .val h)|nn=>(intro _ _;exact .nn)|fh h=>(intro _ _;exact .fh h)|cB=>(intro _ _;exact .cB)|nil=>(intro _ _;exact .nil)|cons _ _ ih1 ih2=>(intro hf _;simp only[Ab.mine,nT,Ha]at hf;exact .cons (ih1 hf.1 _) (ih2 (by simpa[Ab.mine]using hf.2) _))|aI _ ih=>(intro hf _;exact .aI (ih (by simpa[Ab.mine]using hf) _))|kV=>(intro _ _;exact .kV)|own h0 h1 h2 h3 h4 h5 _ ih=>(intro hf _;simp only[Ab.mine]at hf;exact .own h0 h1 h2 h3 h4 h5 (ih (by simpa[Ab.mine]using Ol _ hf) _))|lY h0 h1 h2 h3 h5 _ ih=>(intro hf _;simp only[Ab.mine]at hf;exact .lY h0 h1 h2 h3 h5 (ih (by simpa[Ab.mine]using Ol _ hf) _))|c7 h1 h2 h3 _ ih=>(intro hf _;simp only[Ab.mine]at hf;exact .c7 h1 h2 h3 (ih (by simpa[Ab.mine]using hf) _))|aU=>(intro _ _;exact .aU)|_=>intro hf;simp[Ab.mine]at hf
/-! ### Freezing -/
theorem afF(a b:List U):kN (a++b)=kN a++kN b:=by induction a with|nil=>(rfl)|cons c cs ih=>simp[kN,ih]
theorem afG(a:List U):(kN a).length=a.length:=by induction a with|nil=>(rfl)|cons c cs ih=>simp[kN,ih]
theorem Mg:∀rows:Rows,(lp rows).flatten=kN rows.flatten|[]=>rfl|r::rs=>by simp[lp,afF,Mg rs]
theorem Mh:∀rows:Rows,(lp rows).length=rows.length|[]=>rfl|r::rs=>by simp[lp,Mh rs]
theorem Mi:∀{rows:Rows}{r:List U},r∈lp rows->∃r'∈rows,r.length=r'.length|[],r,h=>by{simp[lp]at h}|c::rs,r,h=>by simp only[lp,List.mem_cons]at h;rcases h with rfl|h;·{exact⟨c,Do ..,afG c⟩};·obtain⟨r',h1,h2⟩:=Mi h;exact⟨r',GT _ h1,h2⟩
theorem R.afA{β:Id->Option Loc}{f:List Nat}{v:Value}{a:U}(h:R w I β f v a)(bL:β=b6){I':Nat->Prop}(i1:∀b,I b->I' b):(∀b∈f,I' b)->R w I' b6 [] v (ey a):=by induction h with|val h=>(intro _;exact .val h)|nn=>(intro _;exact .nn)|mr h=>(subst bL;cases h)|fh h=>(intro h2;exact .im (h2 _ (Do ..)) h)|im h1 h2=>(intro _;exact .im (i1 _ h1) h2)|cB=>(intro _;exact .cB)|iC=>(intro _;exact .iC)|sl h1 h2 h3 h4 h5 _=>(intro _;exact .sl h1 (i1 _ h2) h3 h4 (h5.mono i1 (fun _ _=>rfl) (fun _ _ h=>h)))|bx h1 h2 h3 _=>(intro _;exact .bx (i1 _ h1) h2 (h3.mono i1 (fun _ _=>rfl) (fun _ _ h=>h)))|jK h _=>(subst bL;cases h)|rs h _ _=>(subst bL;cases h)|mp h=>(subst bL;cases h)|fn h1 h2 _ _=>(intro _;subst bL;exact .fn (h1.mono i1 (fun _ _=>rfl) (fun _ _ h=>h)) (h2.mono i1 (fun _ _=>rfl) (fun _ _ h=>h)))|nil=>(intro _;exact .nil)|cons _ _ ih1 ih2=>(intro h;exact R.cons (f1:=[]) (f2:=[]) (ih1 bL fun b hb=>h b (List.mem_append.2 (.inl hb))) (ih2 bL fun b hb=>h b (List.mem_append.2 (.inr hb))))|aI _ ih=>(intro h;exact .aI (ih bL h))|kV=>(intro _;exact .iC)|lY _ _ _ _ _ _=>(intro _;simp only[Ab.ey,Lk];exact .iC)| @own _ b o sz cap n len cZ jZ rows h0 h1 h2 h3 h4 h5 _ ih=>(intro h;have g:=ih bL fun b hb=>h b (GT _ hb);simp only[Ab.ey]at g|-;rw[<-Mg,IY (lp rows) len]at g;obtain⟨f1,f2,v1,v2,e1,e2,g1,g2⟩:=ay.split g;obtain rfl:f1=[]:=(List.append_eq_nil_iff.1 e1.symm).1;have MZ:gb w b o v1:=by{rw[e2]at h5;have:=h5.take v1.length;rwa[List.take_left]at this};have hl:((lp rows).take len).length=len:=by{rw[List.length_take,Mh];omega};have:=R.sl (w:=w) (β:=b6) (cap:=cap) (o:=o) (rows:=(lp rows).take len) (fun r hr=>by obtain⟨r',m1,m2⟩:=Mi (List.mem_of_mem_take hr);rw[m2];exact h1 r' m1) (h b (List.mem_cons_self ..)) MZ (by omega) g1;rw[hl]at this;exact this)|c7 h1 h2 h3 _ ih=>(intro h;have g:=ih bL fun b hb=>h b (GT _ hb);exact .bx (h _ (Do ..)) h3 g)|sB h _=>(intro _;subst bL;exact .sB (h.mono i1 (fun _ _=>rfl) (fun _ _ h=>h)))|sA=>(intro _;exact .sA)|aU=>intro _;exact .aU
theorem R.ey{f:List Nat}{v:Value}{a:U}(h:R w I b6 f v a){I':Nat->Prop}(i1:∀b,I b->I' b)(hf:∀b∈f,I' b):R w I' b6 [] v (ey a):=R.afA h rfl i1 hf
end
open Go
def iS(w:World)(I:Nat->Prop)(β:Id->Option Loc)(f:List Nat)(N:Id->Prop)(Rel:(Id->Option Loc)->Prop)(l:List (Id×Option Rows)):Prop:=∃(β':Id->Option Loc)(G:Id->List Nat),(∀i l',β i=some l'->β' i=some l')∧(∀i,(∀x∈l,x.1≠i)->β' i=β i∧G i=[])∧Rel β'∧(∀x∈l,∃rows,x.2=some rows∧eu w I β' x.1 rows (G x.1))∧(∀i,(G i).Nodup∧∀b∈G i,b∈f)∧(∀i i' b,b∈G i->b∈G i'->i=i')∧(∀x∈l,N x.1)
section
variable{w:World}{I:Nat->Prop}{β:Id->Option Loc}
theorem iS.zero{f:List Nat}{N:Id->Prop}{Rel:(Id->Option Loc)->Prop}(h:Rel β):iS w I β f N Rel []:=⟨β,fun _=>[],fun _ _ h=>h,fun _ _=>⟨rfl,rfl⟩,h,(fun x hx=>by cases hx),(fun i=>⟨PQ,(fun b hb=>by cases hb)⟩),(fun i i' b hb=>by cases hb),(fun x hx=>by cases hx)⟩
theorem iS.weak{f f':List Nat}{N N':Id->Prop}{Rel Rel':(Id->Option Loc)->Prop}{l:List (Id×Option Rows)}(h:iS w I β f N Rel l)(hf:∀b∈f,b∈f')(hN:∀i,N i->N' i)(hR:∀β',(∀i l',β i=some l'->β' i=some l')->Rel β'->Rel' β'):iS w I β f' N' Rel' l:=by obtain⟨β',G,h1,h2,h3,h4,h5,h6,h7⟩:=h;exact⟨β',G,h1,h2,hR β' h1 h3,h4,fun i=>⟨(h5 i).1,fun b hb=>hf b ((h5 i).2 b hb)⟩,h6,fun x hx=>hN _ (h7 x hx)⟩
theorem iS.join{f1 f2:List Nat}{az aT:Id->Prop}{K1 D0:(Id->Option Loc)->Prop}{l1 l2:List (Id×Option Rows)}(h2:iS w I β f2 aT D0 l2)(h1:∀fu,(∀i l',β i=some l'->fu i=some l')->(∀x∈l1,fu x.1=none)->iS w I fu f1 az K1 l1)(hfr:∀x∈l1,β x.1=none)(lQ:∀x∈l1,az x.1)(hN:∀i,az i->aT i->False)(hf:∀b,b∈f1->b∈f2->False)(hm:∀fu dh,(∀i l',fu i=some l'->dh i=some l')->D0 fu->D0 dh):iS w I β (f1++f2) (fun i=>az i∨aT i) (fun β'=>K1 β'∧D0 β') (l1++l2):=by obtain⟨fu,uS,a1,a2,a3,a4,a5,a6,a7⟩:=h2;have hnot:∀x∈l1,∀y∈l2,y.1≠x.1:=fun x hx y hy e=>hN x.1 (lQ x hx) (e▸a7 y hy);obtain⟨dh,p7,b1,b2,b3,b4,BC,Lp,Lq⟩:=h1 fu a1 (fun x hx=>by rw[(a2 x.1 (hnot x hx)).1];exact hfr x hx);have g1:∀y∈l2,p7 y.1=[]:=fun y hy=>(b2 y.1 fun x hx e=>hnot x hx y hy e.symm).2;have g2:∀x∈l1,uS x.1=[]:=fun x hx=>(a2 x.1 (hnot x hx)).2;have either:∀i,p7 i=[]∨uS i=[]:=fun i=>by{by_cases h:∃x∈l1,x.1=i;·{obtain⟨x,hx,rfl⟩:=h;exact .inr (g2 x hx)};·exact .inl (b2 i fun x hx e=>h ⟨x,hx,e⟩).2};refine⟨dh,fun i=>p7 i++uS i,fun i l' h=>b1 i l' (a1 i l' h), ?_,⟨b3,hm _ _ b1 a3⟩, ?_, ?_, ?_, ?_⟩;·{intro i hi;obtain⟨e1,e2⟩:=b2 i fun x hx=>hi x (List.mem_append.2 (.inl hx));obtain⟨bY,gv⟩:=a2 i fun x hx=>hi x (List.mem_append.2 (.inr hx));exact⟨e1.trans bY,by simp[e2,gv]⟩};·{intro x hx;rcases List.mem_append.1 hx with hx|hx;·{simp only[g2 x hx,Hm];exact b4 x hx};·obtain⟨rows,e,h⟩:=a4 x hx;simp only[g1 x hx,Hc];exact⟨rows,e,h.mono (fun _ h=>h) (fun _ _=>rfl) b1⟩};·{intro i;refine⟨?_,fun b hb=> ?_⟩;·{rcases either i with h|h;·{simp only[h,Hc];exact(a5 i).1};·simp only[h,Hm];exact(BC i).1};·rcases List.mem_append.1 hb with hb|hb;·{exact List.mem_append.2 (.inl ((BC i).2 b hb))};·exact List.mem_append.2 (.inr ((a5 i).2 b hb))};·{intro i i' b hb hb';rcases List.mem_append.1 hb with hb|hb<;>rcases List.mem_append.1 hb' with hb'|hb';·{exact Lp i i' b hb hb'};·{exact(hf b ((BC i).2 b hb) ((a5 i').2 b hb')).elim};·{exact(hf b ((BC i').2 b hb') ((a5 i).2 b hb)).elim};·exact a6 i i' b hb hb'};·intro x hx;rcases List.mem_append.1 hx with hx|hx;·{exact .inl (Lq x hx)};·exact .inr (a7 x hx)
theorem KK{p:Id}{cs:List U}{j:Nat}{f:List Nat}{vs:List Value}(h:ay w I β f vs cs)(hnd:f.Nodup)(hfr:∀x∈(bV p j cs).2,β x.1=none):iS w I β f (fun i=>∃k,j<=k∧i=k::p) (fun β'=>ay w I β' [] vs (bV p j cs).1) (bV p j cs).2:=XV p h hnd hfr
theorem J5{p:Id}{rows:Rows}{a:U}{f:List Nat}{v:Value}(hnd:f.Nodup)(hfr:β p=none)(l:Loc)(hl:∀β':Id->Option Loc,(∀i l',β i=some l'->β' i=some l')->β' p=some l->R w I β' [] v a∧eu w I β' p rows f):iS w I β f (fun i=>i=p) (fun β'=>R w I β' [] v a) [(p,some rows)]:=by have up:∀i l',β i=some l'->au β p (some l) i=some l':=fun i l' hl'=>by{by_cases hi:i=p;·{subst hi;rw[hfr]at hl';cases hl'};·simpa[au,hi]using hl'};obtain⟨r1,r2⟩:=hl _ up (by simp[au]);refine⟨au β p (some l),au (fun _=>[]) p f,up, ?_,r1, ?_, ?_, ?_, ?_⟩;·{intro i hi;have:i≠p:=fun e=>hi _ (Do ..) e.symm;simp[au,this]};·{intro x hx;obtain rfl:=List.mem_singleton.1 hx;exact⟨rows,rfl,by simpa[au]using r2⟩};·{intro i;by_cases hi:i=p;·{subst hi;simp[au,hnd]};·simp[au,hi]};·{intro i i' b hb hb';by_cases hi:i=p<;>by_cases hi':i'=p;·{rw[hi,hi']};·{simp[au,hi']at hb'};·{simp[au,hi]at hb};·simp[au,hi]at hb};·intro x hx;obtain rfl:=List.mem_singleton.1 hx;rfl
theorem V7{p:Id}{rows:Rows}{len:Nat}{f:List Nat}{v:Value}(h:R w I β f v (.own rows len))(hnd:f.Nodup)(hfr:β p=none):iS w I β f (fun i=>i=p) (fun β'=>R w I β' [] v (.rs p 0 len)) [(p,some rows)]:=by cases h with|kV=>(exact J5 hnd hfr .nil fun β' _ hb=>⟨.jK hb rfl, .inl ⟨hb,rfl,rfl⟩⟩)| @own _ b o sz cap n _ cZ jZ _ g0 g1 g2 g3 g4 g5 g6=>(refine J5 hnd hfr (.blk b o sz n) fun β' up hb=>⟨?_, .inr (.inr ⟨b,o,sz,n,jZ,cZ,hb,rfl,g2,⟨g0,g1⟩,g3.2,g5,g6.mono (fun _ h=>h) (fun _ _=>rfl) up⟩)⟩;have:=R.rs (w:=w) (I:=I) (off:=0) (len:=len) (cap:=cap) hb (by simpa using g3.1) g4.1;simpa using this)| @lY _ a b o sz n cZ jZ _ g0 g1 g2 g3 g5 g6=>exact J5 hnd hfr (.blk b o sz n) fun β' up hb=>⟨.jK hb rfl, .inr (.inr ⟨b,o,sz,n,jZ,cZ,hb,rfl,g2,⟨g0,g1⟩,g3,g5,g6.mono (fun _ h=>h) (fun _ _=>rfl) up⟩)⟩
theorem VZ{p:Id}{rows:Rows}{f:List Nat}{v:Value}(h:R w I β f v (.fh rows))(hnd:f.Nodup)(hfr:β p=none):iS w I β f (fun i=>i=p) (fun β'=>R w I β' [] v (.mr p)) [(p,some rows)]:=by obtain⟨b,rfl,rfl,hm⟩:=h.OS;exact J5 hnd hfr (.map b) fun β' _ hb=>⟨.mr hb, .inr (.inl ⟨b,hb,rfl,hm⟩)⟩
theorem alh{p:Id}{cells:List U}{f:List Nat}{v:Value}(h:R w I β f v (.c7 cells))(hnd:f.Nodup)(hfr:β p=none):iS w I β f (fun i=>i=p) (fun β'=>R w I β' [] v (.mp p 0 0)) [(p,some [cells])]:=by cases h with| @c7 _ b o n cZ jZ _ g2 g3 g5 g6=>have up:∀i l',β i=some l'->au β p (some (.blk b o cells.length n)) i=some l':=fun i l' hl'=>by{by_cases hi:i=p;·{subst hi;rw[hfr]at hl';cases hl'};·simpa[au,hi]using hl'};refine⟨au β p (some (.blk b o cells.length n)),au (fun _=>[]) p (b::cZ),up, ?_, ?_, ?_, ?_, ?_, ?_⟩;·{intro i hi;have:i≠p:=fun e=>hi _ (Do ..) e.symm;simp[au,this]};·{have:=R.mp (w:=w) (I:=I) (β:=au β p (some (.blk b o cells.length n))) (id:=p) (row:=0) (off:=0) (by simp[au];exact⟨rfl,rfl,rfl,rfl⟩);simpa using this};·{intro x hx;obtain rfl:=List.mem_singleton.1 hx;exact⟨[cells],rfl, .inr (.inr ⟨b,o,cells.length,n,jZ,cZ,by simp[au],by simp[au],g2,⟨by simp,by simp⟩,by simpa using g3,g5,by simpa using g6.mono (fun _ h=>h) (fun _ _=>rfl) up⟩)⟩};·{intro i;by_cases hi:i=p;·{subst hi;simp only[au,if_true];exact⟨hnd,fun _ h=>h⟩};·simp[au,hi]};·{intro i i' b hb hb';by_cases hi:i=p<;>by_cases hi':i'=p;·{rw[hi,hi']};·{simp[au,hi']at hb'};·{simp[au,hi]at hb};·simp[au,hi]at hb};·intro x hx;obtain rfl:=List.mem_singleton.1 hx;rfl
theorem ali{p:Id}{cells:List U}{f:List Nat}{v:Value}(h:R w I β f v (.c7 cells))(hnd:f.Nodup)(hfr:β p=none)(ag0:∀x∈(bV p 0 cells).2,β x.1=none):iS w I β f (fun i=>∃q,i=q++p) (fun β'=>R w I β' [] v (.mp p 0 0)) ((p,some [(bV p 0 cells).1])::(bV p 0 cells).2):=by cases h with| @c7 _ b o n cZ jZ _ g2 g3 g5 g6=>have pF:cZ.Nodup:=(List.nodup_cons.1 hnd).2;have hb:b∉cZ:=(List.nodup_cons.1 hnd).1;obtain⟨fu,p7,a1,a2,a3,a4,a5,a6,a7⟩:=KK (p:=p) (j:=0) g6 pF ag0;have hnot:∀x∈(bV p 0 cells).2,x.1≠p:=fun x hx e=>by{obtain⟨k,_,e'⟩:=a7 x hx;rw[e]at e';exact absurd (congrArg H0 e') (by simp)};have NU:fu p=none:=by{rw[(a2 p hnot).1];exact hfr};have up:∀i l',fu i=some l'->au fu p (some (.blk b o cells.length n)) i=some l':=fun i l' hl'=>by{by_cases hi:i=p;·{subst hi;rw[NU]at hl';cases hl'};·simpa[au,hi]using hl'};have hlen:(bV p 0 cells).1.length=cells.length:=by{rw[<-a3.length,ay.length g6]};refine⟨au fu p (some (.blk b o cells.length n)),au p7 p [b],fun i l' h=>up i l' (a1 i l' h), ?_, ?_, ?_, ?_, ?_, ?_⟩;·{intro i hi;have h1:i≠p:=fun e=>hi _ (Do ..) e.symm;have:=a2 i fun x hx=>hi x (GT _ hx);simpa[au,h1]using this};·{have:=R.mp (w:=w) (I:=I) (β:=au fu p (some (.blk b o cells.length n))) (id:=p) (row:=0) (off:=0) (by simp[au];exact⟨rfl,rfl,rfl,rfl⟩);simpa using this};·{intro x hx;rcases List.mem_cons.1 hx with rfl|hx;·{exact⟨_,rfl, .inr (.inr ⟨b,o,cells.length,n,jZ,[],by simp[au],by simp[au],g2,⟨by simp,by simp[hlen]⟩,by simpa using g3,g5,by simpa using a3.mono (fun _ h=>h) (fun _ _=>rfl) up⟩)⟩};·obtain⟨rows,e,h⟩:=a4 x hx;refine⟨rows,e, ?_⟩;have:=h.mono (w':=w) (I':=I) (fun _ h=>h) (fun _ _=>rfl) up;simpa[au,hnot x hx]using this};·{intro i;by_cases hi:i=p;·{subst hi;simp[au]};·simp only[au,hi,if_false];exact⟨(a5 i).1,fun b hb=>GT _ ((a5 i).2 b hb)⟩};·{intro i i' c hc vB;by_cases hi:i=p<;>by_cases hi':i'=p;·{rw[hi,hi']};·{simp[au,hi,hi']at hc vB;subst hc;exact(hb ((a5 i').2 _ vB)).elim};·{simp[au,hi,hi']at hc vB;subst vB;exact(hb ((a5 i).2 _ hc)).elim};·simp only[au,hi,hi',if_false]at hc vB;exact a6 i i' c hc vB};·intro x hx;rcases List.mem_cons.1 hx with rfl|hx;·{exact⟨[],rfl⟩};·obtain⟨k,_,e⟩:=a7 x hx;exact⟨[k],by simpa using e⟩
theorem R.Tu{f:List Nat}{v:Value}{a:U}(h:R w I β f v a)(h1:∀l m,a≠ .own l m)(h2:∀l,a≠ .c7 l)(h3:∀l,a≠ .agg l)(h4:∀l,a≠ .aI l)(h5:∀l,a≠ .fh l):f=[]:=by cases h<;>first|rfl|simp_all
theorem UD(p:Id):∀{cs:List U}{j:Nat}{f:List Nat}{vs:List Value},ay w I β f vs cs->f.Nodup->(∀x∈(fJ p j cs).2,β x.1=none)->iS w I β f (fun i=>∃q k,j<=k∧i=q++k::p) (fun β'=>ay w I β' [] vs (fJ p j cs).1) (fJ p j cs).2|[],j,f,vs,h,_,_=>by{obtain⟨rfl,rfl⟩:=h.gU;exact .zero .nil}|c::cs,j,f,vs,h,hnd,hfr=>by obtain⟨f1,f2,v,vs',rfl,rfl,h1,h2⟩:=ay.cons_inv h;have sK:f2.Nodup:=(List.nodup_append.1 hnd).2.1;have uf:f1.Nodup:=(List.nodup_append.1 hnd).1;have xx:∀b,b∈f1->b∈f2->False:=fun b hb hb'=>(List.nodup_append.1 hnd).2.2 b hb b hb' rfl;have go:∀(x:U)(l:List (Id×Option Rows)),fJ p j (c::cs)=(x::(fJ p (j+1) cs).1,l++(fJ p (j+1) cs).2)->(∀fu:Id->Option Loc,(∀i l',β i=some l'->fu i=some l')->(∀x∈l,fu x.1=none)->iS w I fu f1 (fun i=>∃q,i=q++j::p) (fun β'=>R w I β' [] v x) l)->(∀y∈l,∃q,y.1=q++j::p)->iS w I β (f1++f2) (fun i=>∃q k,j<=k∧i=q++k::p) (fun β'=>ay w I β' [] (v::vs') (fJ p j (c::cs)).1) (fJ p j (c::cs)).2:=fun x l e hh hn=>by{rw[e]at hfr|-;simp only at hfr|-;have ih:=UD p (j:=j+1) h2 sK (fun y hy=>hfr y (List.mem_append.2 (.inr hy)));refine(iS.join ih hh (fun y hy=>hfr y (List.mem_append.2 (.inl hy))) hn ?_ xx (fun fu dh up h=>h.mono (fun _ h=>h) (fun _ _=>rfl) up)).weak (fun _ h=>h) ?_ (fun β' _ h=>R.cons (f1:=[]) (f2:=[]) h.1 h.2);·{rintro i⟨q,rfl⟩⟨q',k,hk,e⟩;have hl:=congrArg H0 e;simp only[PP,List.length_cons]at hl;have:=(List.append_inj e (by omega)).2;simp at this;omega};·rintro i(⟨q,rfl⟩|⟨q,k,hk,rfl⟩);·{exact⟨q,j,Nat.le_refl _,rfl⟩};·exact⟨q,k,by omega,rfl⟩};cases c with|own rows=>(exact go _ [(j::p,some rows)] rfl (fun fu up hf=>(V7 (h1.mono (fun _ h=>h) (fun _ _=>rfl) up) uf (hf _ (Do ..))).weak (N':=fun i=>∃q,i=q++j::p) (fun _ h=>h) (fun i e=>⟨[],e⟩) (fun _ _ h=>h)) (fun y hy=>⟨[],by rw[List.mem_singleton.1 hy];rfl⟩))|fh rows=>(exact go _ [(j::p,some rows)] rfl (fun fu up hf=>(VZ (h1.mono (fun _ h=>h) (fun _ _=>rfl) up) uf (hf _ (Do ..))).weak (N':=fun i=>∃q,i=q++j::p) (fun _ h=>h) (fun i e=>⟨[],e⟩) (fun _ _ h=>h)) (fun y hy=>⟨[],by rw[List.mem_singleton.1 hy];rfl⟩))|c7 cells=>(exact go _ [(j::p,some [cells])] rfl (fun fu up hf=>(alh (h1.mono (fun _ h=>h) (fun _ _=>rfl) up) uf (hf _ (Do ..))).weak (N':=fun i=>∃q,i=q++j::p) (fun _ h=>h) (fun i e=>⟨[],e⟩) (fun _ _ h=>h)) (fun y hy=>⟨[],by rw[List.mem_singleton.1 hy];rfl⟩))|agg l=>(obtain⟨us,rfl,hl⟩:=h1.qU;have ahr:∀y∈(bV (j::p) 0 l).2,∃q,y.1=q++j::p:=fun y hy=>by{obtain⟨_,_,_,_,_,_,_,_,a7⟩:=KK (p:=j::p) (j:=0) hl uf (fun x hx=>hfr x (List.mem_append.2 (.inl hx)));obtain⟨k,_,e⟩:=a7 y hy;exact⟨[k],by simpa using e⟩};refine go _ (bV (j::p) 0 l).2 rfl (fun fu up hf=> ?_) ahr;have lR:ay w I fu f1 us l:=hl.mono (fun _ h=>h) (fun _ _=>rfl) up;exact(KK lR uf hf).weak (fun _ h=>h) (fun i⟨k,_,e⟩=>⟨[k],by simpa using e⟩) (fun _ _ h=>h))|aI l=>(exact go _ [] rfl (fun fu _ _=> .zero .aU) (by simp))|_=>have Cd:f1=[]:=h1.Tu (by simp) (by simp) (by simp) (by simp) (by simp);subst Cd;exact go _ [] rfl (fun fu up _=> .zero (h1.mono (fun _ h=>h) (fun _ _=>rfl) up)) (by simp)
theorem FM(p:Id){a:U}{f:List Nat}{v:Value}(h:R w I β f v a)(hnd:f.Nodup)(hfr:∀x∈(imp p a).2,β x.1=none):iS w I β f (fun i=>∃q,i=q++p) (fun β'=>R w I β' [] v (imp p a).1) (imp p a).2:=by cases a with|own rows=>(exact(V7 h hnd (hfr (p,some rows) (Do ..))).weak (N':=fun i=>∃q,i=q++p) (fun _ h=>h) (fun i e=>⟨[],e⟩) (fun _ _ h=>h))|fh rows=>(exact(VZ h hnd (hfr (p,some rows) (Do ..))).weak (N':=fun i=>∃q,i=q++p) (fun _ h=>h) (fun i e=>⟨[],e⟩) (fun _ _ h=>h))|c7 cells=>(exact ali h hnd (hfr (p,some [(bV p 0 cells).1]) (Do ..)) (fun x hx=>hfr x (GT _ hx)))|agg l=>(obtain⟨us,rfl,hl⟩:=h.qU;exact(KK hl hnd hfr).weak (fun _ h=>h) (fun i⟨k,_,e⟩=>⟨[k],by simpa using e⟩) (fun _ _ h=>h))|aI l=>(obtain⟨us,rfl,hl⟩:=h.DK;exact(UD p hl hnd hfr).weak (fun _ h=>h) (fun i⟨q,k,_,e⟩=>⟨q++[k],by simpa using e⟩) (fun _ _ h=> .aI h))|_=>have hf:f=[]:=h.Tu (by simp) (by simp) (by simp) (by simp) (by simp);subst hf;exact .zero h
end
open Go
def xU:List Nat->List U->List (Id×Option Rows)|s::l,v::vs=>(imp [s] v).2++xU l vs|_,_=>[]
theorem uM(h:Id->Option (Option Rows))(b:List (Id×Option Rows)):∀a,bl h (a++b)=bl (bl h b) a|[]=>rfl|(i,r)::l=>by simp[bl,uM h b l]
theorem F1(n:Nat):∀(slots:List Nat)(cr:List U),(bq n slots cr).h=bl (fun _=>none) (xU slots cr)|[],_=>rfl|_::_,[]=>rfl|s::l,v::vs=>by simp[bq,xU,uM,F1 n l vs]
theorem CF(n:Nat):∀(slots:List Nat)(cr:List U),(bq n slots cr).n=n|[],_=>rfl|_::_,[]=>rfl|s::l,v::vs=>rfl
theorem Vo(n:Nat):∀(slots:List Nat)(cr:List U)(t:Nat),t∉slots->(bq n slots cr).t t= .aU|[],_,_,_=>rfl|_::_,[],_,_=>rfl|s::l,v::vs,t,h=>by have h1:t≠s:=fun e=>h (by simp[e]);have h2:t∉l:=fun e=>h (by simp[e]);simp only[bq,au,h1,if_false];exact Vo n l vs t h2
section
variable{w:World}{I:Nat->Prop}
theorem UE(p:Id){a:U}{f:List Nat}{v:Value}(h:R w I b6 f v a)(hnd:f.Nodup):∀x∈(imp p a).2,∃q,x.1=q++p:=by obtain⟨_,_,_,_,_,_,_,_,a7⟩:=FM p h hnd (fun _ _=>rfl);exact a7
theorem Vn(n:Nat)(g:Nat->Value):∀{slots:List Nat}{cr:List U}{f:List Nat},ay w I b6 f (slots.map g) cr->slots.Nodup->f.Nodup->iS w I b6 f (fun i=>∃q s,s∈slots∧i=q++[s]) (fun β'=>∀s∈slots,R w I β' [] (g s) ((bq n slots cr).t s)) (xU slots cr)|[],_,_,_,_,_=> .zero (fun s hs=>by cases hs)|s::l,cr,f,h,hs,hf=>by cases h with| @cons _ f1 f2 _ _ v vs h1 h2=>have sK:f2.Nodup:=(List.nodup_append.1 hf).2.1;have uf:f1.Nodup:=(List.nodup_append.1 hf).1;have xx:∀b,b∈f1->b∈f2->False:=fun b hb hb'=>(List.nodup_append.1 hf).2.2 b hb b hb' rfl;have mD:s∉l:=(List.nodup_cons.1 hs).1;have ih:=Vn n g h2 (List.nodup_cons.1 hs).2 sK;refine(iS.join (az:=fun i=>∃q,i=q++[s]) (K1:=fun β'=>R w I β' [] (g s) (imp [s] v).1) (l1:=(imp [s] v).2) ih (fun fu up hfr=>FM [s] (h1.mono (fun _ h=>h) (fun _ _=>rfl) up) uf hfr) (fun _ _=>rfl) (UE [s] h1 uf) ?_ xx ?_).weak (fun _ h=>h) ?_ ?_;·{rintro i⟨q,rfl⟩⟨q',s',hs',e⟩;have:=(List.append_inj' e rfl).2;simp at this;subst this;exact mD hs'};·{intro fu dh up h s' hs';exact(h s' hs').mono (fun _ h=>h) (fun _ _=>rfl) up};·{rintro i(⟨q,rfl⟩|⟨q,s',hs',rfl⟩);·{exact⟨q,s,Do ..,rfl⟩};·exact⟨q,s',GT _ hs',rfl⟩};·intro β' _⟨r1,r2⟩s' hs';rcases List.mem_cons.1 hs' with rfl|hs';·{simpa[bq,au]using r1};·have hne:s'≠s:=fun e=>mD (e▸hs');simpa[bq,au,hne]using r2 s' hs'
theorem aJ.enter{C:aE}{E:Env}{a:Act}{n:Nat}{slots:List Nat}{cr:List U}{f:List Nat}(hn:a.tmps.size=n)(hdf:oe w (fun b=>I b∧E.m<=b) E.ds a.defers)(hr:ay w I b6 f (slots.map (a.tmps.getD · undef)) cr)(hs:slots.Nodup)(hf:f.Nodup)
  (hI:∀b,I b->(E.dw b∨E.jM b∨E.w0.heap.size<=b)∧b<w.heap.size∧b∉f)(hlt:∀b∈f,b<w.heap.size∧(E.jM b∨E.w0.heap.size<=b))(hk:Kept E.w0 w E.jM)
  (hg:∀g cs,C.eA g=some cs->R w I b6 [] (.pointer (some ⟨g,0,none⟩)) (.bx cs))(ahv:∀t,t<n->∀q,¬E.K (q++[t]):=by exact fun _ _ _ h=>h.elim)(NG:∀s∈slots,∀q,¬E.K (q++[s]):=by exact fun _ _ _ h=>h.elim):br C E (bq n slots cr) a w:=by
 obtain⟨β',G,a1,a2,a3,a4,a5,a6,a7⟩:=Vn n (a.tmps.getD · undef) hr hs hf
 have tZ:∀b,I b->aO E w G b:=fun b hb=>⟨(hI b hb).1,(hI b hb).2.1,fun id hm=>(hI b hb).2.2 ((a5 id).2 b hm)⟩
 refine⟨β',G,{n:=by rw[CF];exact hn,df:=hdf.mono (fun b hb=>⟨tZ b hb.1,hb.2⟩) (fun _ _=>rfl),slot:= ?_,obj:= ?_,dead:= ?_,nd:=fun id=>(a5 id).1,ew:=a6,dom:= ?_,lt:=fun id b hb=>hlt b ((a5 id).2 b hb),kept:=hk,eA:=fun g cs h=>(hg g cs h).mono tZ (fun _ _=>rfl) Au,ns:=fun t ht=>ahv t (by rw[CF]at ht;exact ht),kb:=fun k rows hk hr=> ?_}⟩
 ·intro t
  by_cases ht:t∈slots
  ·exact(a3 t ht).mono tZ (fun _ _=>rfl) (fun _ _ h=>h)
  ·rw[Vo n slots cr t ht];exact .aU
 ·intro id rows h
  rw[F1]at h
  rcases gO (fun _=>none) (xU slots cr) id with⟨x,hx,rfl,e⟩|⟨_,e⟩
  ·obtain⟨bA,e',h'⟩:=a4 x hx
   rw[e,e']at h
   simp at h;subst h
   exact h'.mono tZ (fun _ _=>rfl) (fun _ _ h=>h)
  ·rw[e]at h;cases h
 ·intro id h
  rw[F1]at h
  rcases gO (fun _=>none) (xU slots cr) id with⟨x,hx,rfl,e⟩|⟨hx,e⟩
  ·obtain⟨bA,e',h'⟩:=a4 x hx
   rw[e,e']at h
   exact absurd rfl (h bA)
  ·exact(a2 id hx).2
 ·intro id h
  rw[F1]at h
  rcases gO (fun _=>none) (xU slots cr) id with⟨x,hx,rfl,e⟩|⟨hx,e⟩
  ·rw[e]at h;cases h
  ·exact(a2 id hx).1
 ·rw[F1]at hr
  rcases gO (fun _=>none) (xU slots cr) k with⟨x,hx,rfl,e⟩|⟨hx,e⟩
  ·obtain⟨q,s,hs',e'⟩:=a7 x hx
   rw[e']at hk
   exact absurd hk (NG s hs' q)
  ·rw[e]at hr;cases hr
structure iT(l:List Nat):Prop where
 nd:l.Nodup
 no:jj∉l
theorem iT.nil:iT []:=⟨PQ,by simp⟩
theorem NZ(q:Id)(s:Nat):jT (q++[s])=(s==jj):=by induction q with|nil=>(rfl)|cons a q ih=>cases q with|nil=>(rfl)|cons b q=>exact ih
theorem iT.F5{E:Env}{l:List Nat}(h:iT l):∀s∈l,∀q,¬E.K (q++[s]):=fun s hs q hk=>by have:=E.xP _ hk;rw[NZ,beq_iff_eq]at this;exact h.no (this▸hs)
end
open Go
def KO(P:Program)(f:FuncId)(args:Array Value)(w:World)(Post:Value->World->Prop):Prop:=(∃fn c,P.funcs[f]? =some fn∧fn.body=some c∧Calls P f args w fun e w'=>∃v,e= .returned v∧Post v w')∨(∃v w',(callFunc f args).run P w= .ok (.value v) w'∧Post v w')
def vW(cM:List Nat)(vs:List Value):List Value:=cM.map fun j=>vs.getD j undef
structure Bo(w:World)(fp:List Nat)(dw:Nat->Prop)(ls:List Value)(r:U×List U)(v:Value)(w':World):Prop where kept:Kept w w' (·∈fp)ex:∃(I':Nat->Prop)(fr:List Nat),ay w' I' b6 fr (v::ls) (r.1::r.2)∧fr.Nodup∧(∀b∈fr,b<w'.heap.size∧(b∈fp∨w.heap.size<=b))∧(∀b,I' b->(dw b∨b∈fp∨w.heap.size<=b)∧b<w'.heap.size∧b∉fr)
def r6(C:aE)(f:FuncId)(args:List U)(r:U×List U):Prop:=∀(w:World)(dw:Nat->Prop)(fp:List Nat)(vs:List Value),ay w dw b6 fp vs args->fp.Nodup->(∀b,dw b->b<w.heap.size∧b∉fp)->(∀b∈fp,b<w.heap.size)->(∀g cs,C.eA g=some cs->R w dw b6 [] (.pointer (some ⟨g,0,none⟩)) (.bx cs))->KO C.P f ⟨vs⟩ w (Bo w fp dw (vW (C.cM f) vs) r)
def Ql(P:Program)(f:FuncId)(args:Array Value)(w:World)(Post:Ending->World->Prop):Prop:=(∃fn c,P.funcs[f]? =some fn∧fn.body=some c∧Calls P f args w Post)∨(∃v w',(callFunc f args).run P w= .ok (.value v) w'∧Post (.returned v) w')
structure HI(C:aE)(w:World)(dw:Nat->Prop)(β:Id->Option Loc)(G:Id->List Nat)(hl:List (Id×Rows))(vs:List Value)(as:List U):Prop where
 args:ay w dw β [] vs as
 obj:∀k rows,(k,rows)∈hl->eu w dw β k rows (G k)
 out:∀k,k∉hl.map (·.1)->β k=none∧G k=[]
 nd:∀k,(G k).Nodup
 ew:∀i j b,b∈G i->b∈G j->i=j
 lt:∀k b,b∈G k->b<w.heap.size
 i0:∀b,dw b->b<w.heap.size∧∀k,b∉G k
 eA:∀g cs,C.eA g=some cs->R w dw b6 [] (.pointer (some ⟨g,0,none⟩)) (.bx cs)
def DQ(w':World)(I':Nat->Prop)(β:Id->Option Loc)(fr:List Nat)(e:Ending):U->Prop| .av u=>e= .panicked [{v:=u,recovered:=false}]∧fr=[]|r=>∃v,e= .returned v∧R w' I' β fr v r
structure HQ(w:World)(dw:Nat->Prop)(β:Id->Option Loc)(G:Id->List Nat)(r:U×List U)(e:Ending)(w':World):Prop where
 kept:Kept w w' fun b=>∃k,b∈G k
 ex:∃(I':Nat->Prop)(G':Id->List Nat)(fr:List Nat),DQ w' I' β fr e r.1∧(∀k rows,U.aP k rows∈r.2->eu w' I' β k rows (G' k))∧(∀k,(∀rows,U.aP k rows∉r.2)->G' k=[])∧
  (∀k,(G' k).Nodup)∧(∀i j b,b∈G' i->b∈G' j->i=j)∧fr.Nodup∧(∀k b,b∈G' k->b∉fr)∧
  (∀b,(b∈fr∨∃k,b∈G' k)->b<w'.heap.size∧((∃k,b∈G k)∨w.heap.size<=b))∧
  (∀b,I' b->(dw b∨(∃k,b∈G k)∨w.heap.size<=b)∧b<w'.heap.size∧b∉fr∧∀k,b∉G' k)
def D2(C:aE)(f:FuncId)(args:List U)(r:U×List U):Prop:=∀obs as hl,args= .aI obs::as->x5 obs=some hl->(hl.map (·.1)).Nodup->(∀x∈hl,jT x.1=true)->∀(w:World)(dw:Nat->Prop)(β:Id->Option Loc)(G:Id->List Nat)(vs:List Value),HI C w dw β G hl vs as->Ql C.P f ⟨vs⟩ w (HQ w dw β G r)
def Sound(C:aE)(f:FuncId)(args:List U)(r:U×List U):Prop:=(C.iY f=false->r6 C f args r)∧(C.iY f=true->D2 C f args r)
theorem r6.sound{C:aE}{f:FuncId}{args:List U}{r:U×List U}(h:r6 C f args r)(hg:C.iY f=false):Sound C f args r:=⟨fun _=>h,fun e=>by rw[hg]at e;cases e⟩
theorem D2.sound{C:aE}{f:FuncId}{args:List U}{r:U×List U}(h:D2 C f args r)(hg:C.iY f=true):Sound C f args r:=⟨(fun e=>by rw[hg]at e;cases e),fun _=>h⟩
def uV(P:Program):Prop:=∀(f:FuncId)(fn:Func),P.funcs[f]? =some fn->(fn.name== "runtime.NumGoroutine")=false
section
variable{C:aE}{E:Env}{w:World}{S:ai}{a:Act}{β:Id->Option Loc}{F:Id->List Nat}
variable{next:Act->World->Prop}{Q:Exit->Act->World->Prop}
theorem yD{P:Program}(hN:uV P){f:FuncId}{fn:Func}{c:Code}(hf:P.funcs[f]? =some fn)(hb:fn.body=some c)(args:Array Value):(callFunc f args).run P w= .ok (.enter f args) w:=by have:¬fn.name= "runtime.NumGoroutine" :=by{simpa using hN f fn hf};simp[callFunc,hf,hb,this]
theorem aJ.imported(h:aJ C E w S a β F){o:Oper}{d:Nat}(bB:o.dst=some d){w':World}{fr:List Nat}{v:Value}{r:U}(hk:Kept w w' (fun _=>False))(hr:R w' (fun b=>aO E w F b∨(w.heap.size<=b∧b<w'.heap.size∧b∉fr)) b6 fr v r)(hnd:fr.Nodup)(hfr:∀b∈fr,w.heap.size<=b∧b<w'.heap.size)(hfresh:fresh S.h (imp [d] r).2=true)(rd:List Id)(hd:cO S (put o (imp [d] r).1 rd (imp [d] r).2)):br C E (S.app (put o (imp [d] r).1 rd (imp [d] r).2)) (a.put o.dst v) w':=by have oC:=IZ hfresh;obtain⟨β',G,a1,a2,a3,a4,a5,a6,a7⟩:=FM (β:=β) [d] (hr.mono (fun _ h=>h) (fun _ _=>rfl) Au) hnd (fun x hx=>h.dom _ (oC x hx));have tY:∀x∈(imp [d] r).2,F x.1=[]:=fun x hx=>h.dead _ (by rw[oC x hx];simp);have E7:∀i b,b∈G i->w.heap.size<=b∧b<w'.heap.size:=fun i b hb=>hfr b ((a5 i).2 b hb);refine⟨β',fun i=>F i++G i, ?_⟩;have iL:(∀b,aO E w F b->aO E w' (fun i=>F i++G i) b)->∀b,(aO E w F b∨(w.heap.size<=b∧b<w'.heap.size∧b∉fr))->aO E w' (fun i=>F i++G i) b:=fun hI b hb=>by{rcases hb with hb|⟨h1,h2,h3⟩;·{exact hI b hb};·refine⟨.inr (.inr (Nat.le_trans h.kept.size h1)),h2,fun id hm=> ?_⟩;rcases List.mem_append.1 hm with hm|hm;·{have:=(h.lt id b hm).1;omega};·exact h3 ((a5 id).2 b hm)};have hh:(S.app (put o (imp [d] r).1 rd (imp [d] r).2)).h=bl S.h (imp [d] r).2:=rfl;refine h.G0 (fun id=>∃x∈(imp [d] r).2,x.1=id) (by rw[ym];exact h.n) hk.size hk.os hk.out hk.fX (fun b hb _=>hk.blk b hb id) a1 ?_ ?_ ?_ ?_ ?_ ?_ ?_ ?_ (gx:=hk.rY) (hok:=k7.of rfl fun x hx _=>by obtain⟨q,e⟩:=a7 x hx;rw[e];exact .inl (h.ns d (by simpa[cO,put,bB]using hd) q));·{intro id b hb;rcases List.mem_append.1 hb with hb|hb;·{exact .inl ⟨id,hb⟩};·exact .inr (E7 id b hb)};·{intro id hid;have hno:∀x∈(imp [d] r).2,x.1≠id:=fun x hx e=>hid ⟨x,hx,e⟩;refine⟨by simp[(a2 id hno).2], ?_⟩;rw[hh];rcases gO S.h (imp [d] r).2 id with⟨x,hx,e,_⟩|⟨_,e⟩;·{exact absurd e (hno x hx)};·exact e};·{rintro hI id⟨x,hx,rfl⟩rows hrows;rw[hh]at hrows;rcases gO S.h (imp [d] r).2 x.1 with⟨y,hy,e,e'⟩|⟨hno,_⟩;·{rw[e']at hrows;obtain⟨bA,e2,h2⟩:=a4 y hy;rw[e2]at hrows;simp at hrows;subst hrows;rw[<-e];simp only[tY y hy,Hc];exact h2.mono (iL hI) (fun _ _=>rfl) (fun _ _ h=>h)};·exact absurd rfl (hno x hx)};·{rintro id⟨x,hx,rfl⟩hno;rw[hh]at hno;rcases gO S.h (imp [d] r).2 x.1 with⟨y,hy,e,e'⟩|⟨hn,_⟩;·{obtain⟨bA,e2,h2⟩:=a4 y hy;exact absurd (by rw[e',e2]) (hno bA)};·exact absurd rfl (hn x hx)};·{rintro id⟨x,hx,rfl⟩;simp only[tY x hx,Hc];exact(a5 _).1};·{rintro i j b⟨x,hx,rfl⟩hb hb';simp only[tY x hx,Hc]at hb;rcases List.mem_append.1 hb' with hb'|hb';·{have:=(h.lt j b hb').1;have:=(E7 _ b hb).1;omega};·exact a6 _ _ b hb hb'};·{intro id hid;rw[hh]at hid;rcases gO S.h (imp [d] r).2 id with⟨x,hx,e,e'⟩|⟨hno,e⟩;·{rw[e']at hid;cases hid};·rw[(a2 id hno).1];exact h.dom id (by rw[<-e];exact hid)};·intro hI t;have hd':d<a.tmps.size:=by{rw[h.n];simpa[cO,put,bB]using hd};rw[bB,yl a d t v hd'];by_cases ht:t=d;·{subst ht;rw[if_pos rfl];refine .inr ?_;have:=a3.mono (w':=w') (iL hI) (fun _ _=>rfl) (fun _ _ h=>h);simpa[ai.app,put,bB,dL,au]using this};·rw[if_neg ht];refine .inl ⟨rfl, ?_⟩;simp[ai.app,put,bB,dL,au,ht]
def KU(C:aE)(k:FuncId):Prop:=∀(w:World)(dw:Nat->Prop)(vs us:List Value)(i c:Int)(cells:List U)(ks:Rows)(u:Value),(∀u∈us,eS u=true)->ay w dw b6 [] vs [.val (.int .i64 i), .bx [.sl (us.map fun u=>[.val u])], .bx cells]->cells[4]? =some (.sl ks)->ks[i.toNat]? =some [.val (.int .i64 c)]->us[c.toNat]? =some u->0<=i->0<=c->(∀b,dw b->b<w.heap.size)->(∀g cs,C.eA g=some cs->R w dw b6 [] (.pointer (some ⟨g,0,none⟩)) (.bx cs))->KO C.P k ⟨vs⟩ w fun v w'=>v=u∧Kept w w' (fun _=>False)
theorem V1{I:Nat->Prop}:∀{rows:Rows}{f:List Nat}{vs:List Value},ay w I β f vs rows.flatten->rows.all Gd=true->vs.length=rows.length∧(∀v∈vs,eS v=true)∧∀(k:Nat)(x:U),rows[k]? =some [x]->∃v,vs[k]? =some v∧R w I β [] v x|[],f,vs,h,_=>by{obtain⟨_,rfl⟩:=h.gU;exact⟨rfl,(fun v hv=>by cases hv),fun k x hx=>by simp at hx⟩}|r::rows,f,vs,h,hr=>by simp only[List.all_cons,Ha]at hr;obtain⟨a,ha,Jb⟩:∃a,r=[a]∧((∃v,a= .val v)∨∃cs,a= .bx cs):=by{obtain⟨h1,_⟩:=hr;unfold Gd at h1;split at h1;·{exact⟨_,rfl, .inl ⟨_,rfl⟩⟩};·{exact⟨_,rfl, .inr ⟨_,rfl⟩⟩};·cases h1};subst ha;simp only[Hb,Kd,Hc]at h;obtain⟨f1,f2,v,vs',e0,rfl,h1,h2⟩:=h.cons_inv;obtain⟨g1,g2,g3⟩:=V1 h2 hr.2;have hsc:eS v=true∧R w I β [] v a:=by{rcases Jb with⟨u,rfl⟩|⟨cs,rfl⟩;·{cases h1 with|val hh=>exact⟨hh, .val hh⟩};·cases h1 with|bx p1 p2 p3=>exact⟨rfl, .bx p1 p2 p3⟩};refine⟨by simp[g1],fun u hu=> ?_,fun k x hx=> ?_⟩;·{rcases List.mem_cons.1 hu with rfl|hu;·{exact hsc.1};·exact g2 u hu};·cases k with|zero=>(simp only[List.getElem?_cons_zero,AC,List.cons.injEq,and_true]at hx;subst hx;exact⟨v,rfl,hsc.2⟩)|succ k=>simpa using g3 k x (by simpa using hx)
theorem ay.vals{I:Nat->Prop}:∀{us:List Value},(∀u∈us,eS u=true)->ay w I β [] us (us.map U.val)|[],_=> .nil|u::us,h=>R.cons (f1:=[]) (f2:=[]) (.val (h u (Do ..))) (ay.vals fun v hv=>h v (GT _ hv))
theorem Th:∀us:List Value,(us.map fun u=>[U.val u]).flatten=us.map U.val|[]=>rfl|u::us=>by simp[Th us]
theorem akY(hN:uV C.P)(h:aJ C E w S a β F){o:Oper}{c:Call}{cD:Operand}(ho:o.op= .call c)(hc:c.callee= .value cD){k:FuncId}(hl:KU C k){first caps:List U}{ic iW:List Value}(oD:a.eval cD= .func (.func k) ⟨ic⟩ ⟨iW⟩)(h1:ay w (aO E w F) β [] ic first)(h2:ay w (aO E w F) β [] iW caps){e:aZ}(he:Ar S o (first++(c.args.toList.map fun x=>un true (S.get C x))++caps)=some e)(hd:cO S e)(hn:∀a' w',br C E (S.app e) a' w'->next a' w'):o.wp C.P a w next Q:=by have hargs:=ay.ofMap h c.args.toList;have hall:ay w (aO E w F) β [] (ic++c.args.toList.map a.eval++iW) (first++(c.args.toList.map fun x=>un true (S.get C x))++caps):=(h1.append hargs).append h2;have q7:(execOp a.eval o).run C.P w=(callFunc k ⟨ic++c.args.toList.map a.eval++iW⟩).run C.P w:=by{have e2:((⟨ic⟩:Array Value)++c.args.map a.eval++⟨iW⟩:Array Value)=⟨ic++c.args.toList.map a.eval++iW⟩:=by{apply Array.ext';simp};have bY:resolve a.eval c o.type=(pure {target:= .fn (.func k) ⟨iW⟩,args:=⟨ic⟩++c.args.map a.eval}:Sem Deferred):=by{simp[resolve,hc,oD,Deferred.ofValue]};have gv:execOp a.eval o=(do let d<-resolve a.eval c o.type;invoke d.target d.args:Sem Next):=by{simp[execOp,ho]};rw[gv,bY,Sem.run_bind,Sem.run_pure,Result.andThen_ok];simp only[invoke,e2]};generalize ic++c.args.toList.map a.eval++iW=vs at hall q7;generalize(first++(c.args.toList.map fun x=>un true (S.get C x))++caps)=as at hall he;unfold Ar at he;split at he;·{rename_i i id cells;split at he;·{rename_i ks kf n agK hid;split at he;·{rename_i rows c' Fp hki;split at he;·{rename_i x xH;split at he;·{rename_i iK;simp only[AC]at he;subst he;obtain⟨hi0,hc0,Jo,hrows,ag6,bB⟩:=iK;obtain⟨d,bB⟩:=Option.isSome_iff_exists.1 bB;obtain⟨f1,f2,v1,jZ,bn,rfl,k1,k2⟩:=hall.cons_inv;obtain⟨f3,f4,v2,X3,aqc,rfl,dB,kg⟩:=k2.cons_inv;obtain⟨f5,f6,v3,auC,aqd,rfl,nh,Ap⟩:=kg.cons_inv;obtain⟨_,rfl⟩:=Ap.gU;obtain⟨_,b,o',sz,n1,bL,rfl⟩:=dB.oH;have ahx:=h.obj id _ hid;obtain⟨ws,cZ,ago,_,⟨_,_⟩,_,bU,hrl⟩:=ahx.at bL;simp only[Hb,Ix,Hm]at hrl;obtain⟨_,_,jt,auD,eb,rfl,vA,mZ⟩:=hrl.cons_inv;obtain⟨_,rfl⟩:=mZ.gU;have aq8:=bU 0 jt rfl;have hpos:0<rows.length:=by{rcases Nat.lt_or_ge c'.toNat rows.length with h'|h';·{omega};·rw[List.getElem?_eq_none h']at xH;cases xH};obtain⟨_,ahX⟩:=vA.oS;rcases ahX with⟨_,_,h0,_⟩|⟨b2,o2,KC,n2,cap,Jz,Ce,hlc,rfl⟩;·{omega};·obtain⟨us,EU,B4,_,⟨_,ND⟩,_,zP,Uo⟩:=(h.obj kf rows Fp).at Jz;obtain⟨u1,u2,u3⟩:=V1 Uo hrows;obtain⟨u,hu,ahV⟩:=u3 _ _ xH;have ahW:R w (aO E w F) b6 [] u x:=ahV.sP ag6;have FE:KC=1:=by{rw[<-ND _ (List.getElem_mem hpos)];have:=List.all_eq_true.1 hrows _ (List.getElem_mem hpos);unfold Gd at this;split at this;·{rename_i e;rw[e];rfl};·{rename_i e;rw[e];rfl};·cases this};subst FE;have pE:b∈F id:=by{rw[ago];exact List.mem_cons_self .. };have hm2:b2∈F kf:=by{rw[B4];exact List.mem_cons_self .. };let dw:Nat->Prop:=fun x=>aO E w F x∨x=b∨x=b2;have up:∀x,aO E w F x->dw x:=fun _ h=> .inl h;have mD:R w dw b6 [] (.slice (some ⟨b2,o2+0*1,none⟩) n cap) (.sl (us.map fun u=>[.val u])):=by{have e1:n=(us.map fun u=>[U.val u]).length:=by{rw[List.length_map,u1,Jo]};rw[e1]at hlc|-;refine .sl (sz:=1) (vs:=us) (fun r hr=> ?_) (.inr (.inr rfl)) (by simpa using zP) hlc ?_;·{obtain⟨_,_,rfl⟩:=List.mem_map.1 hr;rfl};·rw[Th];exact ay.vals u2};have agB:ay w dw b6 [] [v1, .pointer (some ⟨b,o'+0*sz+0,none⟩),v3] [.val (.int .i64 i), .bx [.sl (us.map fun u=>[.val u])], .bx cells]:=by{refine R.cons (f1:=[]) (f2:=[]) ?_ (R.cons (f1:=[]) (f2:=[]) (.bx (.inr (.inl rfl)) (vs:=[.slice (some ⟨b2,o2+0*1,none⟩) n cap]) ?_ (R.cons (f1:=[]) (f2:=[]) mD .nil)) (R.cons (f1:=[]) (f2:=[]) ?_ .nil));·{cases k1 with|val h=>exact .val h};·{rw[Nat.zero_mul,Nat.add_zero,Nat.add_zero];exact bU};·cases nh with|bx p1 p2 p3=>exact .bx (up _ p1) p2 (p3.mono up (fun _ _=>rfl) (fun _ _ h=>h))};have sI:=hl w dw _ us i c' cells ks u u2 agB agK hki hu hi0 hc0 (fun x hx=>by rcases hx with hx|rfl|rfl;·{exact hx.2.1};·{exact(h.lt id _ pE).1};·exact(h.lt kf _ hm2).1) (fun g cs hg=>(h.eA g cs hg).ri rfl fun b hb=> .inl hb);have gH:∀w',Kept w w' (fun _=>False)->next (a.put o.dst u) w':=fun w' hk=>by{have hx0:∃y,imp [d] x=(y,[])∧y=x:=by{have:=List.all_eq_true.1 hrows _ (List.mem_of_getElem? xH);unfold Gd at this;split at this;·{rename_i e;simp only[List.cons.injEq,and_true]at e;subst e;exact⟨_,rfl,rfl⟩};·{rename_i e;simp only[List.cons.injEq,and_true]at e;subst e;exact⟨_,rfl,rfl⟩};·cases this};obtain⟨y,hy,rfl⟩:=hx0;have:=h.imported (fr:=[]) (r:=y) bB hk (v:=u) ((ahW.mono (fun _ h=>h) (fun b hb=>hk.blk b (by rcases hb with hb|hb;exact hb.2.1;cases hb) (fun h=>h)) (fun _ _ h=>h)).mono (fun _ h=> .inl h) (fun _ _=>rfl) (fun _ _ h=>h)) List.nodup_nil (fun b hb=>by cases hb) (by rw[hy];rfl) [id,kf] (by rw[hy];exact hd);rw[hy]at this;exact hn _ _ this};unfold Oper.wp;rw[q7];rcases sI with⟨fn,code,q1,cq,dO⟩|⟨v,w',q1,cq,dO⟩;·{rw[yD hN q1 cq];simp only[Oper.upon];refine dO.mono fun e' w' hh=> ?_;obtain⟨v,rfl,rfl,hk⟩:=hh;exact gH w' hk};·rw[q1,cq];exact gH w' dO};·cases he};·cases he};·cases he};·cases he};·cases he
theorem akG(hN:uV C.P)(ahn:∀k,C.look k=true->KU C k)(h:aJ C E w S a β F){o:Oper}{c:Call}{cD:Operand}(ho:o.op= .call c)(hc:c.callee= .value cD){f:FuncId}{call:FuncId->List U->Option (U×List U)}(dr:∀k as r,call k as=some r->Sound C k as r){e:aZ}(ec:mz C (un true (S.get C cD))=none)(he:tI C f call S o (un true (S.get C cD)) (c.args.toList.map fun x=>un true (S.get C x))=some e)(hd:cO S e)(hn:∀a' w',br C E (S.app e) a' w'->next a' w'):o.wp C.P a w next Q:=by have hfo:=h.eH cD;have hargs:=ay.ofMap h c.args.toList;unfold tI at he;split at he;·{rename_i k first caps hfn;rw[hfn]at hfo ec;have hg0:C.iY k=false:=by{simp only[mz]at ec;split at ec;·{cases ec};·rename_i h;simpa using h};obtain⟨_,ic,iW,oD,h1,h2⟩:=hfo.qj;by_cases hlk:C.look k=true;·{rw[if_pos hlk]at he;exact akY hN h ho hc (ahn k hlk) oD h1 h2 he hd hn};rw[if_neg hlk]at he;split at he;·{rename_i as seen d MX bB;split at he;·{rename_i r bU;have hs:=(dr _ _ _ bU).1 hg0;have hall:ay w (aO E w F) β [] (ic++c.args.toList.map a.eval++iW) (first++(c.args.toList.map fun x=>un true (S.get C x))++caps):=(h1.append hargs).append h2;have gx:=(Lw (F:=F) (LF h.obj 9) MX hall).2 (fun b=>aO E w F b∨∃id∈seen,b∈F id) (fun b hb=> .inl hb) (fun b hb=>by cases hb) (fun id hid b hb=> .inr ⟨id,hid,hb⟩);have sI:=hs w _ [] _ gx List.nodup_nil (fun b hb=>⟨hb.elim (fun hb=>hb.2.1) (fun⟨id,_,hb⟩=>(h.lt id b hb).1),by simp⟩) (fun b hb=>by cases hb) (fun g cs hg=>(h.eA g cs hg).ri rfl fun b hb=> .inl hb);have q7:(execOp a.eval o).run C.P w=(callFunc k ⟨ic++c.args.toList.map a.eval++iW⟩).run C.P w:=by{have e1:(#[]++(⟨ic⟩:Array Value)++c.args.map a.eval++⟨iW⟩:Array Value)=⟨ic++c.args.toList.map a.eval++iW⟩:=by{apply Array.ext';simp};have e2:((⟨ic⟩:Array Value)++c.args.map a.eval++⟨iW⟩:Array Value)=⟨ic++c.args.toList.map a.eval++iW⟩:=by{apply Array.ext';simp};have bY:resolve a.eval c o.type=(pure {target:= .fn (.func k) ⟨iW⟩,args:=⟨ic⟩++c.args.map a.eval}:Sem Deferred):=by{simp[resolve,hc,oD,Deferred.ofValue]};have gv:execOp a.eval o=(do let d<-resolve a.eval c o.type;invoke d.target d.args:Sem Next):=by{simp[execOp,ho]};rw[gv,bY,Sem.run_bind,Sem.run_pure,Result.andThen_ok];simp only[invoke,e2]};have gH:∀{ls:List Value}v w',Bo w [] (fun b=>aO E w F b∨∃id∈seen,b∈F id) ls (r,[]) v w'->next (a.put o.dst v) w':=fun v w' hres=>by{obtain⟨I',fr,g1,g2,g3,g4⟩:=hres.ex;replace g1:R w' I' b6 fr v r:=by{obtain⟨f1,f2,v1,auB,rfl,e1,k1,k2⟩:=ay.cons_inv g1;obtain⟨rfl,rfl⟩:=k2.gU;simp only[List.cons.injEq]at e1;obtain⟨rfl,_⟩:=e1;simpa using k1};have hk:Kept w w' (fun _=>False):=⟨hres.kept.size,fun b hb _=>hres.kept.blk b hb (by simp),hres.kept.os,hres.kept.out,hres.kept.fX,hres.kept.rY⟩;generalize hr':(if fA C f o.dst=true then ey r else r)=r' at he;split at he;·{simp at he};·rename_i hm;split at he;·{rename_i hf;simp only[Option.some.injEq]at he;subst he;have base:R w' (fun b=>aO E w F b∨(w.heap.size<=b∧b<w'.heap.size∧b∉fr)) b6 fr v r:=by{by_cases z6:seen=[];·{subst z6;refine g1.mono (fun b hb=> ?_) (fun _ _=>rfl) (fun _ _ h=>h);obtain⟨k1,k2,dB⟩:=g4 b hb;rcases k1 with(k1|⟨_,k1,_⟩)|k1|k1;·{exact .inl k1};·{cases k1};·{cases k1};·exact .inr ⟨k1,k2,dB⟩};·have:mine r=true:=by{cases hmr:mine r;·{exact absurd (by cases seen<;>simp_all) hm};·rfl};exact g1.mine this _};have Nd:∀b∈fr,w.heap.size<=b∧b<w'.heap.size:=fun b hb=>by{obtain⟨k1,k2⟩:=g3 b hb;rcases k2 with k2|k2;·{cases k2};·exact⟨k2,k1⟩};refine hn _ _ ?_;by_cases hz:fA C f o.dst=true;·{rw[if_pos hz]at hr';subst hr';refine h.imported bB hk (fr:=[]) ?_ List.nodup_nil (fun b hb=>by cases hb) hf seen hd;exact base.ey (fun b hb=>hb.imp id fun⟨k1,k2,_⟩=>⟨k1,k2,by simp⟩) (fun b hb=> .inr ⟨(Nd b hb).1,(Nd b hb).2,by simp⟩)};·rw[if_neg hz]at hr';subst hr';exact h.imported bB hk base g2 Nd hf seen hd};·simp at he};unfold Oper.wp;rw[q7];rcases sI with⟨fn,code,k1,k2,dB⟩|⟨v,w',k1,k2⟩;·{rw[yD hN k1 k2];simp only[Oper.upon];refine dB.mono fun e' w' hh=> ?_;obtain⟨v,rfl,hres⟩:=hh;exact gH v w' hres};·rw[k1];exact gH v w' k2};·cases he};·cases he};·cases he
end
end Go.Ab
