import Derived.Test.YtbbhbdlljfffdaaGreatDoorAbOps7
open Array renaming ext'->Ix
open Bool renaming and_eq_true->Hb,and_assoc->Kd
open List renaming mem_cons_self->Do,mem_cons_of_mem->GT,nil_append->Ha,flatten_cons->Hc,length_take->Hd,mem_of_mem_take->Hm,nodup_nil->Hn,append_nil->H0,take_left->H1,perm_iff_count->H3,count_append->H4,cons_append->H5,length->IH,flatMap_append->Lk,take_append_drop->Nm,flatMap_cons->PH,count_cons->PP,flatten_nil->PQ,take_zero->Pi,drop_left->Ps,mem_of_getElem?->QP,append_assoc->QQ,length_append->QR,getElem_mem->RK
open List.cons renaming injEq->H2
open Nat renaming min_eq_left->If
open Option renaming map_eq_some_iff->GE,bind_eq_some_iff->Hk
open Option.some renaming injEq->AC
set_option linter.all false
namespace Go.Ab
open Go
theorem acF(a b:List U):dJ (a++b)=(dJ a&&dJ b):=by induction a with|nil=>(simp[dJ])|cons c cs ih=>simp[dJ,ih,Kd]
theorem HW:∀rows:Rows,fy rows=true->dJ rows.flatten=true|[],_=>by{simp[dJ]}|r::rs,h=>by simp only[fy,Hb]at h;rw[Hc,acF,h.1,HW rs h.2];rfl
section
variable{w:World}{I:Nat->Prop}
theorem R.mC{β:Id->Option Loc}{f:List Nat}{v:Value}{a:U}(h:R w I β f v a):flat a=true->∀dy:Id->Option Loc,R w I dy f v a:=by induction h with|val h=>(intro _ _;exact .val h)|nn=>(intro _ _;exact .nn)|mr _=>(intro hf;simp[flat]at hf)|fH h=>(intro _ _;exact .fH h)|im h1 h2=>(intro _ _;exact .im h1 h2)|cI=>(intro hf;simp[flat]at hf)|iL=>(intro _ _;exact .iL)|sl h1 h2 h3 h4 h5 _=>(intro _ _;exact .sl h1 h2 h3 h4 h5)|bD h1 h2 h3 _=>(intro _ _;exact .bD h1 h2 h3)|j4 _ _=>(intro hf;simp[flat]at hf)|rs _ _ _=>(intro hf;simp[flat]at hf)|mp _=>(intro hf;simp[flat]at hf)|fn _ _ ih1 ih2=>(intro hf _;simp only[flat,Hb]at hf;exact .fn (ih1 (by simpa[flat]using hf.1) _) (ih2 (by simpa[flat]using hf.2) _))|nil=>(intro _ _;exact .nil)|cons _ _ ih1 ih2=>(intro hf _;simp only[flat,dJ,Hb]at hf;exact .cons (ih1 hf.1 _) (ih2 (by simpa[flat]using hf.2) _))|aL _ ih=>(intro hf _;exact .aL (ih (by simpa[flat]using hf) _))|k8=>(intro _ _;exact .k8)|own h0 h1 h2 h3 h4 h5 _ ih=>(intro hf _;simp only[flat]at hf;exact .own h0 h1 h2 h3 h4 h5 (ih (by simpa[flat]using HW _ hf) _))|l7 h0 h1 h2 h3 h5 _ ih=>(intro hf _;simp only[flat]at hf;exact .l7 h0 h1 h2 h3 h5 (ih (by simpa[flat]using HW _ hf) _))|bh h1 h2 h3 _ ih=>(intro hf _;simp only[flat]at hf;exact .bh h1 h2 h3 (ih (by simpa[flat]using hf) _))|r6 _ _=>(intro hf;simp[flat]at hf)|r5=>(intro hf;simp[flat]at hf)|aW=>intro _ _;exact .aW
def Dt(w:World)(I:Nat->Prop)(β:Id->Option Loc)(F:Id->List Nat)(p:U->Option (U×List Id)):Prop:=∀a x,p a=some x->∀f v,R w I β f v a->∃fp rest,R w I cm fp v x.1∧(fp++rest).Perm (f++x.2.flatMap F)
variable{β:Id->Option Loc}{F:Id->List Nat}
theorem tW{nc r1 k3 r2 f1 g1 f2 g2:List Nat}(h1:(nc++r1).Perm (f1++g1))(h2:(k3++r2).Perm (f2++g2)):((nc++k3)++(r1++r2)).Perm ((f1++f2)++(g1++g2)):=by rw[H3]at h1 h2|-;intro a;have:=h1 a;have:=h2 a;simp only[H4]at*;omega
theorem Rn{p:U->Option (U×List Id)}(hp:Dt w I β F p):∀{cs:List U}{x},fF p cs=some x->∀{f vs},ay w I β f vs cs->x.1.length=cs.length∧∃fp rest,ay w I cm fp vs x.1∧(fp++rest).Perm (f++x.2.flatMap F)|[],x,h,f,vs,hr=>by{simp[fF]at h;subst h;obtain⟨rfl,rfl⟩:=hr.iX;exact⟨rfl,[],[], .nil,by simp⟩}|c::cs,x,h,f,vs,hr=>by simp only[fF,Hk,GE]at h;obtain⟨y,hy,z,hz,rfl⟩:=h;obtain⟨f1,f2,v,vs',rfl,rfl,h1,h2⟩:=hr.cons_inv;obtain⟨nc,r1,g1,g2⟩:=hp _ _ hy _ _ h1;obtain⟨hl,k3,r2,g3,g4⟩:=Rn hp hz h2;refine⟨by simp[hl],nc++k3,r1++r2, .cons g1 g3, ?_⟩;simp only[Lk];exact tW g2 g4
theorem Jh{p:U->Option (U×List Id)}(hp:Dt w I β F p){cs:List U}{x}(h:kn p cs=some x){f vs}(hr:ay w I β f vs cs):x.1.length=cs.length∧∃fp rest,ay w I cm fp vs x.1∧(fp++rest).Perm (f++x.2.flatMap F):=by unfold kn at h;split at h;·{rename_i hf;simp at h;subst h;exact⟨rfl,f,[],R.mC hr (by simpa[flat]using hf) _,by simp⟩};·exact Rn hp h hr
theorem Rp{p:U->Option (U×List Id)}(hp:Dt w I β F p):∀{rs:Rows}{x},fW (kn p) rs=some x->∀{f vs},ay w I β f vs rs.flatten->(x.1.length=rs.length∧∀sz,(∀r∈rs,r.length=sz)->∀r∈x.1,r.length=sz)∧∃fp rest,ay w I cm fp vs x.1.flatten∧(fp++rest).Perm (f++x.2.flatMap F)|[],x,h,f,vs,hr=>by{simp[fW]at h;subst h;obtain⟨rfl,rfl⟩:=hr.iX;exact⟨⟨rfl,fun _ _ _ h=>by cases h⟩,[],[], .nil,by simp⟩}|c::cs,x,h,f,vs,hr=>by simp only[fW,Hk,GE]at h;obtain⟨y,hy,z,hz,rfl⟩:=h;rw[Hc]at hr;obtain⟨f1,f2,v1,v2,rfl,rfl,h1,h2⟩:=ay.split hr;obtain⟨l1,nc,r1,g1,g2⟩:=Jh hp hy h1;obtain⟨⟨l2,l3⟩,k3,r2,g3,g4⟩:=Rp hp hz h2;refine⟨⟨by simp[l2],fun sz hs r hr=> ?_⟩,nc++k3,r1++r2,g1.append g3, ?_⟩;·{rcases List.mem_cons.1 hr with rfl|hr;·{rw[l1];exact hs _ (Do ..)};·exact l3 sz (fun r hr=>hs r (GT _ hr)) r hr};·simp only[Lk];exact tW g2 g4
theorem T6{p:U->Option (U×List Id)}(hp:Dt w I β F p){rs:Rows}{x}(h:ru p rs=some x){f vs}(hr:ay w I β f vs rs.flatten):(x.1.length=rs.length∧∀sz,(∀r∈rs,r.length=sz)->∀r∈x.1,r.length=sz)∧∃fp rest,ay w I cm fp vs x.1.flatten∧(fp++rest).Perm (f++x.2.flatMap F):=by unfold ru at h;split at h;·{rename_i hf;simp at h;subst h;exact⟨⟨rfl,fun _ h=>h⟩,f,[],R.mC hr (by simpa[flat]using HW _ hf) _,by simp⟩};·exact Rp hp h hr
theorem HX{α:Type}(rs:List (List α))(n:Nat):rs.flatten=(rs.take n).flatten++(rs.drop n).flatten:=by rw[<-List.flatten_append,Nm]
theorem xM{L:Id->Option (Option Rows)}(hL:∀id rows,L id=some (some rows)->eD w I β id rows (F id)):∀n,Dt w I β F (pk L n)|0=>fun a x h=>by{simp[pk]at h}|n+1=>fun a x h f v hr=>by have ih:=xM hL n;cases a with|rs id off len=>(simp only[pk]at h;split at h;·{rename_i rs hid;split at h;·{rename_i hc;simp only[GE]at h;obtain⟨y,hy,rfl⟩:=h;obtain⟨rfl,hc⟩:=hc;obtain⟨rfl,hv⟩:=hr.rC;rcases hL id rs hid with⟨hb,rfl,hF⟩|⟨bm,hb,_⟩|⟨b,o,sz,n',vs,dx,hb,hF,qd,⟨hne,hsz⟩,hle,cq,hrl⟩;rotate_left;·{rcases hv with⟨a,l,rfl,rfl,hb',hl⟩|⟨b,o,sz,n',cap,hb',_⟩;·{rw[hb]at hb';cases hb';cases hl};·rw[hb]at hb';cases hb'};rotate_left;·{have hy0:y=([],[]):=by{simpa[ru,fy]using hy.symm};subst hy0;simp only[List.length_nil]at hc;rcases hv with⟨a,l,rfl,rfl,_⟩|⟨b,o,sz,n',cap,hb',_⟩;·{exact⟨[],[], .k8,by simp[hF]⟩};·rw[hb]at hb';cases hb'};·obtain⟨⟨l1,l2⟩,fp,rest,g1,g2⟩:=T6 ih hy hrl;have hlen:0<rs.length:=List.length_pos_iff.2 hne;have Sr:y.1≠[]:=fun e=>by{rw[e]at l1;simp at l1;omega};have EY:((b::fp)++rest).Perm ([]++(id::y.2).flatMap F):=by{rw[H3]at g2|-;intro x;have:=g2 x;simp only[PH,Ha,hF,H4,PP,H5]at*;omega};rcases hv with⟨a,l,rfl,rfl,_⟩|⟨b',o',sz',M9,cap,hb',hle',hcap,rfl⟩;·{exact⟨b::fp,rest, .l7 Sr (l2 sz hsz) qd (by rw[l1];exact hle) cq g1,EY⟩};·rw[hb]at hb';simp only[AC,Loc.blk.injEq]at hb';obtain⟨rfl,rfl,rfl,rfl⟩:=hb';refine⟨b::fp,rest, ?_,EY⟩;have:=R.own (w:=w) (I:=I) (β:=cm) (cap:=cap) (o:=o) (rows:=y.1) (len:=len) Sr (l2 sz hsz) qd ⟨by simpa using hle',by rw[l1];exact hle⟩ ⟨by omega,by omega⟩ cq g1;simpa using this};·cases h};·cases h)|mp id row off=>(simp only[pk]at h;split at h;·{rename_i cs hid;split at h;·{rename_i hc;obtain⟨rfl,rfl⟩:=hc;simp only[GE]at h;obtain⟨y,hy,rfl⟩:=h;obtain⟨rfl,b',o',sz',n',hb',rfl⟩:=hr.pF;rcases hL id [cs] hid with⟨hb,h0,hF⟩|⟨bm,hb,_⟩|⟨b,o,sz,n',vs,dx,hb,hF,qd,⟨hne,hsz⟩,hle,cq,hrl⟩;·{cases h0};·{rw[hb]at hb';cases hb'};·rw[hb]at hb';simp only[AC,Loc.blk.injEq]at hb';obtain⟨rfl,rfl,rfl,rfl⟩:=hb';simp only[Hc,PQ,H0]at hrl;obtain⟨l1,fp,rest,g1,g2⟩:=Jh ih hy hrl;have:=hsz cs (by simp);refine⟨b::fp,rest, ?_, ?_⟩;·{have:=R.bh (w:=w) (I:=I) (β:=cm) (cells:=y.1) qd (by simp at hle;omega) cq g1;simpa using this};·rw[H3]at g2|-;intro x;have:=g2 x;simp only[PH,Ha,hF,H4,PP,H5]at*;omega};·cases h};·cases h)|cI=>(simp only[pk,AC]at h;subst h;obtain⟨rfl,a,rfl⟩:=hr.AW;exact⟨[],[], .k8,by simp⟩)|agg cs=>(simp only[pk,GE]at h;obtain⟨y,hy,rfl⟩:=h;obtain⟨vs,rfl,hl⟩:=hr.qI;exact(Jh ih hy hl).2)|aL cs=>(simp only[pk,GE]at h;obtain⟨y,hy,rfl⟩:=h;obtain⟨vs,rfl,hl⟩:=hr.Di;obtain⟨_,fp,rest,g1,g2⟩:=Jh ih hy hl;exact⟨fp,rest, .aL g1,g2⟩)|fn k a b=>(simp only[pk]at h;split at h;·{rename_i hi;simp only[AC]at h;subst h;simp only[Hb]at hi;obtain⟨rfl,vs,cs,rfl,h1,h2⟩:=hr.p6;exact⟨[],[], .fn (h1.sw hi.1) (h2.sw hi.2),by simp⟩};·cases h)|dV g y=>(simp only[pk,AC]at h;subst h;exact⟨[],f, .aW,by simp⟩)|own rs len=>(simp only[pk]at h;split at h;·{rename_i hf;simp only[AC]at h;subst h;exact⟨f,[],hr.mC (by simpa[flat]using hf) _,by simp⟩};·cases h)|bh cs=>(simp only[pk]at h;split at h;·{rename_i hf;simp only[AC]at h;subst h;exact⟨f,[],hr.mC (by simpa[flat]using hf) _,by simp⟩};·cases h)|val u=>(simp only[pk,AC]at h;subst h;exact⟨f,[],hr.mC rfl _,by simp⟩)|nn=>(simp only[pk,AC]at h;subst h;exact⟨f,[],hr.mC rfl _,by simp⟩)|mr id=>(simp only[pk]at h;split at h;·{rename_i rs hid;simp only[AC]at h;subst h;obtain⟨rfl,b,hb',rfl⟩:=hr.M8;rcases hL id rs hid with⟨hb,_⟩|⟨b2,hb,hF,hm⟩|⟨b2,o,sz,n',vs,dx,hb,_⟩;·{rw[hb]at hb';cases hb'};·{rw[hb]at hb';cases hb';exact⟨[b],[], .fH hm,by simp[hF]⟩};·rw[hb]at hb';cases hb'};·cases h)|fH rows=>(simp only[pk,AC]at h;subst h;exact⟨f,[],hr.mC rfl _,by simp⟩)|im rows=>(simp only[pk,AC]at h;subst h;exact⟨f,[],hr.mC rfl _,by simp⟩)|sl rows=>(simp only[pk,AC]at h;subst h;exact⟨f,[],hr.mC rfl _,by simp⟩)|bD cells=>(simp only[pk,AC]at h;subst h;exact⟨f,[],hr.mC rfl _,by simp⟩)|aT i rs=>(cases hr)|az u=>(cases hr)|aW=>simp only[pk,AC]at h;subst h;exact⟨f,[],hr.mC rfl _,by simp⟩
/-! ### Borrowing -/
def Dl(w:World)(I:Nat->Prop)(β:Id->Option Loc)(F:Id->List Nat)(p:U->Option (U×List Id)):Prop:=∀a x,p a=some x->∀f v,R w I β f v a->∀I':Nat->Prop,(∀b,I b->I' b)->(∀b∈f,I' b)->(∀id∈x.2,∀b∈F id,I' b)->R w I' cm [] v x.1
theorem R.qY{f:List Nat}{v:Value}{a:U}(h:R w I β f v a)(hi:gE a=true){I':Nat->Prop}(hI:∀b,I b->I' b):R w I' cm [] v a:=by have e:=h.ME hi;subst e;exact(h.sw hi).mono hI (fun _ _=>rfl) (fun _ _ h=>h)
theorem Km{p:U->Option (U×List Id)}(hp:Dl w I β F p):∀{cs:List U}{x},fF p cs=some x->∀{f vs},ay w I β f vs cs->x.1.length=cs.length∧∀I':Nat->Prop,(∀b,I b->I' b)->(∀b∈f,I' b)->(∀id∈x.2,∀b∈F id,I' b)->ay w I' cm [] vs x.1|[],x,h,f,vs,hr=>by{simp[fF]at h;subst h;obtain⟨rfl,rfl⟩:=hr.iX;exact⟨rfl,fun _ _ _ _=> .nil⟩}|c::cs,x,h,f,vs,hr=>by simp only[fF,Hk,GE]at h;obtain⟨y,hy,z,hz,rfl⟩:=h;obtain⟨f1,f2,v,vs',rfl,rfl,h1,h2⟩:=hr.cons_inv;obtain⟨hl,g3⟩:=Km hp hz h2;refine⟨by simp[hl],fun I' i1 i2 i3=> ?_⟩;exact R.cons (f1:=[]) (f2:=[]) (hp _ _ hy _ _ h1 I' i1 (fun b hb=>i2 b (List.mem_append.2 (.inl hb))) fun id hid=>i3 id (List.mem_append.2 (.inl hid))) (g3 I' i1 (fun b hb=>i2 b (List.mem_append.2 (.inr hb))) fun id hid=>i3 id (List.mem_append.2 (.inr hid)))
theorem yV{p:U->Option (U×List Id)}(hp:Dl w I β F p){cs:List U}{x}(h:lS p cs=some x){f vs}(hr:ay w I β f vs cs):x.1.length=cs.length∧∀I':Nat->Prop,(∀b,I b->I' b)->(∀b∈f,I' b)->(∀id∈x.2,∀b∈F id,I' b)->ay w I' cm [] vs x.1:=by unfold lS at h;split at h;·{rename_i hf;simp at h;subst h;exact⟨rfl,fun I' i1 _ _=>R.qY hr (by simpa[gE]using hf) i1⟩};·exact Km hp h hr
theorem Qg{p:U->Option (U×List Id)}(hp:Dl w I β F p):∀{rs:Rows}{x},fW (lS p) rs=some x->∀{f vs},ay w I β f vs rs.flatten->(x.1.length=rs.length∧∀sz,(∀r∈rs,r.length=sz)->∀r∈x.1,r.length=sz)∧∀I':Nat->Prop,(∀b,I b->I' b)->(∀b∈f,I' b)->(∀id∈x.2,∀b∈F id,I' b)->ay w I' cm [] vs x.1.flatten|[],x,h,f,vs,hr=>by{simp[fW]at h;subst h;obtain⟨rfl,rfl⟩:=hr.iX;exact⟨⟨rfl,fun _ _ _ h=>by cases h⟩,fun _ _ _ _=> .nil⟩}|c::cs,x,h,f,vs,hr=>by simp only[fW,Hk,GE]at h;obtain⟨y,hy,z,hz,rfl⟩:=h;rw[Hc]at hr;obtain⟨f1,f2,v1,v2,rfl,rfl,h1,h2⟩:=ay.split hr;obtain⟨l1,g1⟩:=yV hp hy h1;obtain⟨⟨l2,l3⟩,g3⟩:=Qg hp hz h2;refine⟨⟨by simp[l2],fun sz hs r hr=> ?_⟩,fun I' i1 i2 i3=> ?_⟩;·{rcases List.mem_cons.1 hr with rfl|hr;·{rw[l1];exact hs _ (Do ..)};·exact l3 sz (fun r hr=>hs r (GT _ hr)) r hr};·have:=(g1 I' i1 (fun b hb=>i2 b (List.mem_append.2 (.inl hb))) fun id hid=>i3 id (List.mem_append.2 (.inl hid))).append (g3 I' i1 (fun b hb=>i2 b (List.mem_append.2 (.inr hb))) fun id hid=>i3 id (List.mem_append.2 (.inr hid)));simpa using this
theorem Qk{p:U->Option (U×List Id)}(hp:Dl w I β F p){rs:Rows}{x}(h:qJ p rs=some x){f vs}(hr:ay w I β f vs rs.flatten):(x.1.length=rs.length∧∀sz,(∀r∈rs,r.length=sz)->∀r∈x.1,r.length=sz)∧∀I':Nat->Prop,(∀b,I b->I' b)->(∀b∈f,I' b)->(∀id∈x.2,∀b∈F id,I' b)->ay w I' cm [] vs x.1.flatten:=by unfold qJ at h;split at h;·{rename_i hf;simp at h;subst h;exact⟨⟨rfl,fun _ h=>h⟩,fun I' i1 _ _=>R.qY hr (by simpa[gE]using MD _ hf) i1⟩};·exact Qg hp h hr
theorem Ku{L:Id->Option (Option Rows)}(hL:∀id rows,L id=some (some rows)->eD w I β id rows (F id)):∀n,Dl w I β F (dh L n)
 |0=>fun a x h=>by simp[dh]at h
 |n+1=>fun a x h f v hr I' i1 i2 i3=>by
  have ih:=Ku hL n
  cases a with
  |rs id off len=>
   simp only[dh]at h
   split at h
   ·rename_i rs hid
    split at h
    ·rename_i hc
     simp only[GE]at h
     obtain⟨y,hy,rfl⟩:=h
     obtain⟨rfl,hv⟩:=hr.rC
     have EW:len=0->y.1=[]:=fun h0=>by
      have :=congrArg IH (show(rs.drop off).take len=[]by rw[h0];rfl)
      rw[h0,Pi]at hy
      simp[qJ,lX]at hy
      rw[<-hy]
     rcases hv with⟨a,l,rfl,rfl,_⟩|⟨b',o',sz',M9,cap,hb',hle',hcap,rfl⟩
     ·rw[EW rfl];exact .iL
     ·rcases Nat.eq_zero_or_pos len with h0|h0
      ·subst h0;rw[EW rfl];exact .iL
      ·rcases hL id rs hid with⟨hb,rfl,hF⟩|⟨bm,hb,_⟩|⟨b,o,sz,n',vs,dx,hb,hF,qd,⟨hne,hsz⟩,hle,cq,hrl⟩
       ·simp at hc;omega
       ·rw[hb]at hb';cases hb'
       ·rw[hb]at hb'
        simp only[AC,Loc.blk.injEq]at hb'
        obtain⟨rfl,rfl,rfl,rfl⟩:=hb'
        have hsp:rs.flatten=(rs.take off).flatten++(((rs.drop off).take len).flatten++((rs.drop off).drop len).flatten):=by
         rw[<-HX (rs.drop off) len,<-HX rs off]
        rw[hsp]at hrl
        obtain⟨f1,f23,v1,v23,rfl,rfl,h1,h23⟩:=ay.split hrl
        obtain⟨f2,f3,v2,v3,rfl,rfl,h2,h3⟩:=ay.split h23
        have Fj:=h1.length
        rw[nM (sz:=sz) (fun r hr=>hsz r (Hm hr)),Hd,If (by omega)]at Fj
        obtain⟨⟨l1,l2⟩,g⟩:=Qk ih hy h2
        have tP:y.1.length=len:=by rw[l1,Hd,List.length_drop];omega
        have hin:∀x∈F id,I' x:=i3 id (Do ..)
        have g':=g I' i1 (fun x hx=>hin x (by rw[hF];simp[hx])) fun id hid=>i3 id (GT _ hid)
        have EK:gk w b (o+off*sz) v2:=by
         have :=(cq.drop v1.length).take v2.length
         rw[Ps,H1,Fj]at this
         exact this
        have :=R.sl (β:=cm) (cap:=cap) (l2 sz fun r hr=>hsz r (List.mem_of_mem_drop (Hm hr))) (hin b (by rw[hF];simp)) EK (by omega) g'
        rw[tP]at this
        exact this
    ·cases h
   ·cases h
  |mp id row off=>
   simp only[dh]at h
   split at h
   ·rename_i rs hid
    split at h
    ·rename_i r hrow
     split at h
     ·rename_i hoff
      simp only[GE]at h
      obtain⟨y,hy,rfl⟩:=h
      obtain⟨rfl,b',o',sz',n',hb',rfl⟩:=hr.pF
      rcases hL id rs hid with⟨hb,h0,hF⟩|⟨bm,hb,_⟩|⟨b,o,sz,n',vs,dx,hb,hF,qd,⟨hne,hsz⟩,hle,cq,hrl⟩
      ·subst h0;simp at hrow
      ·rw[hb]at hb';cases hb'
      ·rw[hb]at hb'
       simp only[AC,Loc.blk.injEq]at hb'
       obtain⟨rfl,rfl,rfl,rfl⟩:=hb'
       obtain⟨hsp,hlt⟩:=N8 hrow
       have Sj:r.length=sz:=hsz r (QP hrow)
       have hsp:rs.flatten=((rs.take row).flatten++r.take off)++(r.drop off++(rs.drop (row+1)).flatten):=by
        have e:r.take off++(r.drop off++(rs.drop (row+1)).flatten)=r++(rs.drop (row+1)).flatten:=by rw[<-QQ,Nm]
        rw[QQ,e]
        conv=>lhs;rw[hsp]
        simp
       rw[hsp]at hrl
       obtain⟨f1,f23,v1,v23,rfl,rfl,h1,h23⟩:=ay.split hrl
       obtain⟨f2,f3,v2,v3,rfl,rfl,h2,h3⟩:=ay.split h23
       have Fj:=h1.length
       rw[QR,nM (sz:=sz) (fun r hr=>hsz r (Hm hr)),Hd,Hd,If (by omega),If hoff]at Fj
       obtain⟨_,g⟩:=yV ih hy h2
       have hin:∀x∈F id,I' x:=i3 id (Do ..)
       have g':=g I' i1 (fun x hx=>hin x (by rw[hF];simp[hx])) fun id hid=>i3 id (GT _ hid)
       have EK:gk w b (o+row*sz+off) v2:=by
        have :=(cq.drop v1.length).take v2.length
        rw[Ps,H1,Fj,<-Nat.add_assoc]at this
        exact this
       exact .bD (hin b (by rw[hF];simp)) EK g'
     ·cases h
    ·cases h
   ·cases h
  |cI=>
   simp only[dh,AC]at h;subst h
   obtain⟨rfl,a,rfl⟩:=hr.AW
   exact .iL
  |agg cs=>
   simp only[dh,GE]at h
   obtain⟨y,hy,rfl⟩:=h
   obtain⟨vs,rfl,hl⟩:=hr.qI
   exact(yV ih hy hl).2 I' i1 i2 i3
  |aL cs=>
   simp only[dh,GE]at h
   obtain⟨y,hy,rfl⟩:=h
   obtain⟨vs,rfl,hl⟩:=hr.Di
   exact .aL ((yV ih hy hl).2 I' i1 i2 i3)
  |fn k a b=>
   simp only[dh,GE,Hk]at h
   obtain⟨y,hy,z,hz,rfl⟩:=h
   obtain⟨rfl,vs,cs,rfl,h1,h2⟩:=hr.p6
   exact .fn ((yV ih hy h1).2 I' i1 (fun _ h=>by cases h) fun id hid=>i3 id (List.mem_append.2 (.inl hid))) ((yV ih hz h2).2 I' i1 (fun _ h=>by cases h) fun id hid=>i3 id (List.mem_append.2 (.inr hid)))
  |dV g y=>
   simp only[dh,AC]at h;subst h
   exact .aW
  |own rs len=>
   simp only[dh,GE]at h
   obtain⟨y,hy,rfl⟩:=h
   cases hr with
   |k8=>
    have :y=([],[]):=by simpa[qJ,lX]using hy.symm
    subst this;exact .iL
   |l7 _ _ _ _ _ _=>
    have :y=([],[]):=by simpa[qJ,lX]using hy.symm
    subst this;exact .iL
   | @own _ b o sz cap n len dx lf _ g0 g1 g2 g3 g4 g5 g6=>
    rw[HX rs len]at g6
    obtain⟨f1,f2,v1,v2,rfl,rfl,h1,h2⟩:=ay.split g6
    obtain⟨⟨l1,l2⟩,g⟩:=Qk ih hy h1
    have g':=g I' i1 (fun b hb=>i2 b (GT _ (List.mem_append.2 (.inl hb)))) i3
    have LK:gk w b o v1:=by
     have :=g5.take v1.length
     rwa[H1]at this
    have tP:y.1.length=len:=by rw[l1,Hd];omega
    have :=R.sl (β:=cm) (cap:=cap) (l2 sz fun r hr=>g1 r (Hm hr)) (i2 b (Do ..)) LK (by omega) g'
    rw[tP]at this
    exact this
  |bh cs=>
   simp only[dh,GE]at h
   obtain⟨y,hy,rfl⟩:=h
   cases hr with
   | @bh _ b o n dx lf _ g2 g3 g5 g6=>
    obtain⟨_,g⟩:=yV ih hy g6
    exact .bD (i2 b (Do ..)) g5 (g I' i1 (fun b hb=>i2 b (GT _ hb)) i3)
  |val u=>
   simp only[dh,AC]at h;subst h
   exact hr.qY rfl i1
  |nn=>
   simp only[dh,AC]at h;subst h
   exact hr.qY rfl i1
  |mr id=>
   simp only[dh]at h
   split at h
   ·rename_i rs hid
    simp only[AC]at h;subst h
    obtain⟨rfl,b,hb',rfl⟩:=hr.M8
    rcases hL id rs hid with⟨hb,_⟩|⟨b2,hb,hF,hm⟩|⟨b2,o,sz,n',vs,dx,hb,_⟩
    ·rw[hb]at hb';cases hb'
    ·rw[hb]at hb';cases hb'
     exact .im (i3 id (Do ..) b (by rw[hF];simp)) hm
    ·rw[hb]at hb';cases hb'
   ·cases h
  |fH rows=>
   simp only[dh,AC]at h;subst h
   obtain⟨b,rfl,rfl,hm⟩:=hr.NA
   exact .im (i2 b (Do ..)) hm
  |im rows=>
   simp only[dh,AC]at h;subst h
   exact hr.qY rfl i1
  |sl rows=>
   simp only[dh,AC]at h;subst h
   exact hr.qY rfl i1
  |bD cells=>
   simp only[dh,AC]at h;subst h
   exact hr.qY rfl i1
  |aT i rs=>cases hr
  |az u=>cases hr
  |aW=>
   simp only[dh,AC]at h;subst h
   exact .aW
/-! ### Nothing but its own -/
theorem M3:∀rows:Rows,IV rows=true->nT rows.flatten=true|[],_=>by{simp[nT]}|r::rs,h=>by simp only[IV,Hb]at h;have:∀a b:List U,nT (a++b)=(nT a&&nT b):=fun a b=>by{induction a with|nil=>(simp[nT])|cons c cs ih=>simp[nT,ih,Kd]};rw[Hc,this,h.1,M3 rs h.2];rfl
theorem R.mine{f:List Nat}{v:Value}{a:U}(h:R w I β f v a):mine a=true->∀I':Nat->Prop,R w I' β f v a:=by induction h with|val h=>(intro _ _;exact .val h)|nn=>(intro _ _;exact .nn)|fH h=>(intro _ _;exact .fH h)|cI=>(intro _ _;exact .cI)|nil=>(intro _ _;exact .nil)|cons _ _ ih1 ih2=>(intro hf _;simp only[Ab.mine,nT,Hb]at hf;exact .cons (ih1 hf.1 _) (ih2 (by simpa[Ab.mine]using hf.2) _))|aL _ ih=>(intro hf _;exact .aL (ih (by simpa[Ab.mine]using hf) _))|k8=>(intro _ _;exact .k8)|own h0 h1 h2 h3 h4 h5 _ ih=>(intro hf _;simp only[Ab.mine]at hf;exact .own h0 h1 h2 h3 h4 h5 (ih (by simpa[Ab.mine]using M3 _ hf) _))|l7 h0 h1 h2 h3 h5 _ ih=>(intro hf _;simp only[Ab.mine]at hf;exact .l7 h0 h1 h2 h3 h5 (ih (by simpa[Ab.mine]using M3 _ hf) _))|bh h1 h2 h3 _ ih=>(intro hf _;simp only[Ab.mine]at hf;exact .bh h1 h2 h3 (ih (by simpa[Ab.mine]using hf) _))|aW=>(intro _ _;exact .aW)|_=>intro hf;simp[Ab.mine]at hf
/-! ### Freezing -/
theorem adn(a b:List U):k5 (a++b)=k5 a++k5 b:=by induction a with|nil=>(rfl)|cons c cs ih=>simp[k5,ih]
theorem ado(a:List U):(k5 a).length=a.length:=by induction a with|nil=>(rfl)|cons c cs ih=>simp[k5,ih]
theorem K7:∀rows:Rows,(lC rows).flatten=k5 rows.flatten|[]=>rfl|r::rs=>by simp[lC,adn,K7 rs]
theorem K8:∀rows:Rows,(lC rows).length=rows.length|[]=>rfl|r::rs=>by simp[lC,K8 rs]
theorem K9:∀{rows:Rows}{r:List U},r∈lC rows->∃r'∈rows,r.length=r'.length|[],r,h=>by{simp[lC]at h}|c::rs,r,h=>by simp only[lC,List.mem_cons]at h;rcases h with rfl|h;·{exact⟨c,Do ..,ado c⟩};·obtain⟨r',h1,h2⟩:=K9 h;exact⟨r',GT _ h1,h2⟩
theorem R.adi{β:Id->Option Loc}{f:List Nat}{v:Value}{a:U}(h:R w I β f v a)(cl:β=cm){I':Nat->Prop}(i1:∀b,I b->I' b):(∀b∈f,I' b)->R w I' cm [] v (ey a):=by induction h with|val h=>(intro _;exact .val h)|nn=>(intro _;exact .nn)|mr h=>(subst cl;cases h)|fH h=>(intro h2;exact .im (h2 _ (Do ..)) h)|im h1 h2=>(intro _;exact .im (i1 _ h1) h2)|cI=>(intro _;exact .cI)|iL=>(intro _;exact .iL)|sl h1 h2 h3 h4 h5 _=>(intro _;exact .sl h1 (i1 _ h2) h3 h4 (h5.mono i1 (fun _ _=>rfl) (fun _ _ h=>h)))|bD h1 h2 h3 _=>(intro _;exact .bD (i1 _ h1) h2 (h3.mono i1 (fun _ _=>rfl) (fun _ _ h=>h)))|j4 h _=>(subst cl;cases h)|rs h _ _=>(subst cl;cases h)|mp h=>(subst cl;cases h)|fn h1 h2 _ _=>(intro _;subst cl;exact .fn (h1.mono i1 (fun _ _=>rfl) (fun _ _ h=>h)) (h2.mono i1 (fun _ _=>rfl) (fun _ _ h=>h)))|nil=>(intro _;exact .nil)|cons _ _ ih1 ih2=>(intro h;exact R.cons (f1:=[]) (f2:=[]) (ih1 cl fun b hb=>h b (List.mem_append.2 (.inl hb))) (ih2 cl fun b hb=>h b (List.mem_append.2 (.inr hb))))|aL _ ih=>(intro h;exact .aL (ih cl h))|k8=>(intro _;exact .iL)|l7 _ _ _ _ _ _=>(intro _;simp only[Ab.ey,Pi];exact .iL)| @own _ b o sz cap n len dx lf rows h0 h1 h2 h3 h4 h5 _ ih=>(intro h;have g:=ih cl fun b hb=>h b (GT _ hb);simp only[Ab.ey]at g|-;rw[<-K7,HX (lC rows) len]at g;obtain⟨f1,f2,v1,v2,e1,e2,g1,g2⟩:=ay.split g;obtain rfl:f1=[]:=(List.append_eq_nil_iff.1 e1.symm).1;have LK:gk w b o v1:=by{rw[e2]at h5;have:=h5.take v1.length;rwa[H1]at this};have hl:((lC rows).take len).length=len:=by{rw[Hd,K8];omega};have:=R.sl (w:=w) (β:=cm) (cap:=cap) (o:=o) (rows:=(lC rows).take len) (fun r hr=>by obtain⟨r',m1,m2⟩:=K9 (Hm hr);rw[m2];exact h1 r' m1) (h b (Do ..)) LK (by omega) g1;rw[hl]at this;exact this)|bh h1 h2 h3 _ ih=>(intro h;have g:=ih cl fun b hb=>h b (GT _ hb);exact .bD (h _ (Do ..)) h3 g)|r6 h _=>(intro _;subst cl;exact .r6 (h.mono i1 (fun _ _=>rfl) (fun _ _ h=>h)))|r5=>(intro _;exact .r5)|aW=>intro _;exact .aW
theorem R.ey{f:List Nat}{v:Value}{a:U}(h:R w I cm f v a){I':Nat->Prop}(i1:∀b,I b->I' b)(hf:∀b∈f,I' b):R w I' cm [] v (ey a):=R.adi h rfl i1 hf
end
open Go
def jd(w:World)(I:Nat->Prop)(β:Id->Option Loc)(f:List Nat)(N:Id->Prop)(Rel:(Id->Option Loc)->Prop)(l:List (Id×Option Rows)):Prop:=∃(β':Id->Option Loc)(G:Id->List Nat),(∀i l',β i=some l'->β' i=some l')∧(∀i,(∀x∈l,x.1≠i)->β' i=β i∧G i=[])∧Rel β'∧(∀x∈l,∃rows,x.2=some rows∧eD w I β' x.1 rows (G x.1))∧(∀i,(G i).Nodup∧∀b∈G i,b∈f)∧(∀i i' b,b∈G i->b∈G i'->i=i')∧(∀x∈l,N x.1)
section
variable{w:World}{I:Nat->Prop}{β:Id->Option Loc}
theorem jd.zero{f:List Nat}{N:Id->Prop}{Rel:(Id->Option Loc)->Prop}(h:Rel β):jd w I β f N Rel []:=⟨β,fun _=>[],fun _ _ h=>h,fun _ _=>⟨rfl,rfl⟩,h,(fun x hx=>by cases hx),(fun i=>⟨Hn,(fun b hb=>by cases hb)⟩),(fun i i' b hb=>by cases hb),(fun x hx=>by cases hx)⟩
theorem jd.weak{f f':List Nat}{N N':Id->Prop}{Rel Rel':(Id->Option Loc)->Prop}{l:List (Id×Option Rows)}(h:jd w I β f N Rel l)(hf:∀b∈f,b∈f')(hN:∀i,N i->N' i)(hR:∀β',(∀i l',β i=some l'->β' i=some l')->Rel β'->Rel' β'):jd w I β f' N' Rel' l:=by obtain⟨β',G,h1,h2,h3,h4,h5,h6,h7⟩:=h;exact⟨β',G,h1,h2,hR β' h1 h3,h4,fun i=>⟨(h5 i).1,fun b hb=>hf b ((h5 i).2 b hb)⟩,h6,fun x hx=>hN _ (h7 x hx)⟩
theorem jd.join{f1 f2:List Nat}{aB bg:Id->Prop}{JY Dz:(Id->Option Loc)->Prop}{l1 l2:List (Id×Option Rows)}(h2:jd w I β f2 bg Dz l2)(h1:∀fM,(∀i l',β i=some l'->fM i=some l')->(∀x∈l1,fM x.1=none)->jd w I fM f1 aB JY l1)(hfr:∀x∈l1,β x.1=none)(aeb:∀x∈l1,aB x.1)(hN:∀i,aB i->bg i->False)(hf:∀b,b∈f1->b∈f2->False)(hm:∀fM dy,(∀i l',fM i=some l'->dy i=some l')->Dz fM->Dz dy):jd w I β (f1++f2) (fun i=>aB i∨bg i) (fun β'=>JY β'∧Dz β') (l1++l2):=by obtain⟨fM,uu,a1,a2,a3,a4,a5,a6,a7⟩:=h2;have hnot:∀x∈l1,∀y∈l2,y.1≠x.1:=fun x hx y hy e=>hN x.1 (aeb x hx) (e▸a7 y hy);obtain⟨dy,pU,b1,b2,b3,b4,Hq,ZF,ZG⟩:=h1 fM a1 (fun x hx=>by rw[(a2 x.1 (hnot x hx)).1];exact hfr x hx);have g1:∀y∈l2,pU y.1=[]:=fun y hy=>(b2 y.1 fun x hx e=>hnot x hx y hy e.symm).2;have g2:∀x∈l1,uu x.1=[]:=fun x hx=>(a2 x.1 (hnot x hx)).2;have either:∀i,pU i=[]∨uu i=[]:=fun i=>by{by_cases h:∃x∈l1,x.1=i;·{obtain⟨x,hx,rfl⟩:=h;exact .inr (g2 x hx)};·exact .inl (b2 i fun x hx e=>h ⟨x,hx,e⟩).2};refine⟨dy,fun i=>pU i++uu i,fun i l' h=>b1 i l' (a1 i l' h), ?_,⟨b3,hm _ _ b1 a3⟩, ?_, ?_, ?_, ?_⟩;·{intro i hi;obtain⟨e1,e2⟩:=b2 i fun x hx=>hi x (List.mem_append.2 (.inl hx));obtain⟨cp,gC⟩:=a2 i fun x hx=>hi x (List.mem_append.2 (.inr hx));exact⟨e1.trans cp,by simp[e2,gC]⟩};·{intro x hx;rcases List.mem_append.1 hx with hx|hx;·{simp only[g2 x hx,H0];exact b4 x hx};·obtain⟨rows,e,h⟩:=a4 x hx;simp only[g1 x hx,Ha];exact⟨rows,e,h.mono (fun _ h=>h) (fun _ _=>rfl) b1⟩};·{intro i;refine⟨?_,fun b hb=> ?_⟩;·{rcases either i with h|h;·{simp only[h,Ha];exact(a5 i).1};·simp only[h,H0];exact(Hq i).1};·rcases List.mem_append.1 hb with hb|hb;·{exact List.mem_append.2 (.inl ((Hq i).2 b hb))};·exact List.mem_append.2 (.inr ((a5 i).2 b hb))};·{intro i i' b hb hb';rcases List.mem_append.1 hb with hb|hb<;>rcases List.mem_append.1 hb' with hb'|hb';·{exact ZF i i' b hb hb'};·{exact(hf b ((Hq i).2 b hb) ((a5 i').2 b hb')).elim};·{exact(hf b ((Hq i').2 b hb') ((a5 i).2 b hb)).elim};·exact a6 i i' b hb hb'};·intro x hx;rcases List.mem_append.1 hx with hx|hx;·{exact .inl (ZG x hx)};·exact .inr (a7 x hx)
theorem JI{p:Id}{cs:List U}{j:Nat}{f:List Nat}{vs:List Value}(h:ay w I β f vs cs)(hnd:f.Nodup)(hfr:∀x∈(cc p j cs).2,β x.1=none):jd w I β f (fun i=>∃k,j<=k∧i=k::p) (fun β'=>ay w I β' [] vs (cc p j cs).1) (cc p j cs).2:=VB p h hnd hfr
theorem Ja{p:Id}{rows:Rows}{a:U}{f:List Nat}{v:Value}(hnd:f.Nodup)(hfr:β p=none)(l:Loc)(hl:∀β':Id->Option Loc,(∀i l',β i=some l'->β' i=some l')->β' p=some l->R w I β' [] v a∧eD w I β' p rows f):jd w I β f (fun i=>i=p) (fun β'=>R w I β' [] v a) [(p,some rows)]:=by have up:∀i l',β i=some l'->au β p (some l) i=some l':=fun i l' hl'=>by{by_cases hi:i=p;·{subst hi;rw[hfr]at hl';cases hl'};·simpa[au,hi]using hl'};obtain⟨r1,r2⟩:=hl _ up (by simp[au]);refine⟨au β p (some l),au (fun _=>[]) p f,up, ?_,r1, ?_, ?_, ?_, ?_⟩;·{intro i hi;have:i≠p:=fun e=>hi _ (Do ..) e.symm;simp[au,this]};·{intro x hx;obtain rfl:=List.mem_singleton.1 hx;exact⟨rows,rfl,by simpa[au]using r2⟩};·{intro i;by_cases hi:i=p;·{subst hi;simp[au,hnd]};·simp[au,hi]};·{intro i i' b hb hb';by_cases hi:i=p<;>by_cases hi':i'=p;·{rw[hi,hi']};·{simp[au,hi']at hb'};·{simp[au,hi]at hb};·simp[au,hi]at hb};·intro x hx;obtain rfl:=List.mem_singleton.1 hx;rfl
theorem TW{p:Id}{rows:Rows}{len:Nat}{f:List Nat}{v:Value}(h:R w I β f v (.own rows len))(hnd:f.Nodup)(hfr:β p=none):jd w I β f (fun i=>i=p) (fun β'=>R w I β' [] v (.rs p 0 len)) [(p,some rows)]:=by cases h with|k8=>(exact Ja hnd hfr .nil fun β' _ hb=>⟨.j4 hb rfl, .inl ⟨hb,rfl,rfl⟩⟩)| @own _ b o sz cap n _ dx lf _ g0 g1 g2 g3 g4 g5 g6=>(refine Ja hnd hfr (.blk b o sz n) fun β' up hb=>⟨?_, .inr (.inr ⟨b,o,sz,n,lf,dx,hb,rfl,g2,⟨g0,g1⟩,g3.2,g5,g6.mono (fun _ h=>h) (fun _ _=>rfl) up⟩)⟩;have:=R.rs (w:=w) (I:=I) (off:=0) (len:=len) (cap:=cap) hb (by simpa using g3.1) g4.1;simpa using this)| @l7 _ a b o sz n dx lf _ g0 g1 g2 g3 g5 g6=>exact Ja hnd hfr (.blk b o sz n) fun β' up hb=>⟨.j4 hb rfl, .inr (.inr ⟨b,o,sz,n,lf,dx,hb,rfl,g2,⟨g0,g1⟩,g3,g5,g6.mono (fun _ h=>h) (fun _ _=>rfl) up⟩)⟩
theorem TO{p:Id}{rows:Rows}{f:List Nat}{v:Value}(h:R w I β f v (.fH rows))(hnd:f.Nodup)(hfr:β p=none):jd w I β f (fun i=>i=p) (fun β'=>R w I β' [] v (.mr p)) [(p,some rows)]:=by obtain⟨b,rfl,rfl,hm⟩:=h.NA;exact Ja hnd hfr (.map b) fun β' _ hb=>⟨.mr hb, .inr (.inl ⟨b,hb,rfl,hm⟩)⟩
theorem aiK{p:Id}{cells:List U}{f:List Nat}{v:Value}(h:R w I β f v (.bh cells))(hnd:f.Nodup)(hfr:β p=none):jd w I β f (fun i=>i=p) (fun β'=>R w I β' [] v (.mp p 0 0)) [(p,some [cells])]:=by cases h with| @bh _ b o n dx lf _ g2 g3 g5 g6=>have up:∀i l',β i=some l'->au β p (some (.blk b o cells.length n)) i=some l':=fun i l' hl'=>by{by_cases hi:i=p;·{subst hi;rw[hfr]at hl';cases hl'};·simpa[au,hi]using hl'};refine⟨au β p (some (.blk b o cells.length n)),au (fun _=>[]) p (b::dx),up, ?_, ?_, ?_, ?_, ?_, ?_⟩;·{intro i hi;have:i≠p:=fun e=>hi _ (Do ..) e.symm;simp[au,this]};·{have:=R.mp (w:=w) (I:=I) (β:=au β p (some (.blk b o cells.length n))) (id:=p) (row:=0) (off:=0) (by simp[au];exact⟨rfl,rfl,rfl,rfl⟩);simpa using this};·{intro x hx;obtain rfl:=List.mem_singleton.1 hx;exact⟨[cells],rfl, .inr (.inr ⟨b,o,cells.length,n,lf,dx,by simp[au],by simp[au],g2,⟨by simp,by simp⟩,by simpa using g3,g5,by simpa using g6.mono (fun _ h=>h) (fun _ _=>rfl) up⟩)⟩};·{intro i;by_cases hi:i=p;·{subst hi;simp only[au,if_true];exact⟨hnd,fun _ h=>h⟩};·simp[au,hi]};·{intro i i' b hb hb';by_cases hi:i=p<;>by_cases hi':i'=p;·{rw[hi,hi']};·{simp[au,hi']at hb'};·{simp[au,hi]at hb};·simp[au,hi]at hb};·intro x hx;obtain rfl:=List.mem_singleton.1 hx;rfl
theorem aiL{p:Id}{cells:List U}{f:List Nat}{v:Value}(h:R w I β f v (.bh cells))(hnd:f.Nodup)(hfr:β p=none)(aeH:∀x∈(cc p 0 cells).2,β x.1=none):jd w I β f (fun i=>∃q,i=q++p) (fun β'=>R w I β' [] v (.mp p 0 0)) ((p,some [(cc p 0 cells).1])::(cc p 0 cells).2):=by cases h with| @bh _ b o n dx lf _ g2 g3 g5 g6=>have pe:dx.Nodup:=(List.nodup_cons.1 hnd).2;have hb:b∉dx:=(List.nodup_cons.1 hnd).1;obtain⟨fM,pU,a1,a2,a3,a4,a5,a6,a7⟩:=JI (p:=p) (j:=0) g6 pe aeH;have hnot:∀x∈(cc p 0 cells).2,x.1≠p:=fun x hx e=>by{obtain⟨k,_,e'⟩:=a7 x hx;rw[e]at e';exact absurd (congrArg IH e') (by simp)};have MA:fM p=none:=by{rw[(a2 p hnot).1];exact hfr};have up:∀i l',fM i=some l'->au fM p (some (.blk b o cells.length n)) i=some l':=fun i l' hl'=>by{by_cases hi:i=p;·{subst hi;rw[MA]at hl';cases hl'};·simpa[au,hi]using hl'};have hlen:(cc p 0 cells).1.length=cells.length:=by{rw[<-a3.length,ay.length g6]};refine⟨au fM p (some (.blk b o cells.length n)),au pU p [b],fun i l' h=>up i l' (a1 i l' h), ?_, ?_, ?_, ?_, ?_, ?_⟩;·{intro i hi;have h1:i≠p:=fun e=>hi _ (Do ..) e.symm;have:=a2 i fun x hx=>hi x (GT _ hx);simpa[au,h1]using this};·{have:=R.mp (w:=w) (I:=I) (β:=au fM p (some (.blk b o cells.length n))) (id:=p) (row:=0) (off:=0) (by simp[au];exact⟨rfl,rfl,rfl,rfl⟩);simpa using this};·{intro x hx;rcases List.mem_cons.1 hx with rfl|hx;·{exact⟨_,rfl, .inr (.inr ⟨b,o,cells.length,n,lf,[],by simp[au],by simp[au],g2,⟨by simp,by simp[hlen]⟩,by simpa using g3,g5,by simpa using a3.mono (fun _ h=>h) (fun _ _=>rfl) up⟩)⟩};·obtain⟨rows,e,h⟩:=a4 x hx;refine⟨rows,e, ?_⟩;have:=h.mono (w':=w) (I':=I) (fun _ h=>h) (fun _ _=>rfl) up;simpa[au,hnot x hx]using this};·{intro i;by_cases hi:i=p;·{subst hi;simp[au]};·simp only[au,hi,if_false];exact⟨(a5 i).1,fun b hb=>GT _ ((a5 i).2 b hb)⟩};·{intro i i' c hc qe;by_cases hi:i=p<;>by_cases hi':i'=p;·{rw[hi,hi']};·{simp[au,hi,hi']at hc qe;subst hc;exact(hb ((a5 i').2 _ qe)).elim};·{simp[au,hi,hi']at hc qe;subst qe;exact(hb ((a5 i).2 _ hc)).elim};·simp only[au,hi,hi',if_false]at hc qe;exact a6 i i' c hc qe};·intro x hx;rcases List.mem_cons.1 hx with rfl|hx;·{exact⟨[],rfl⟩};·obtain⟨k,_,e⟩:=a7 x hx;exact⟨[k],by simpa using e⟩
theorem R.Rt{f:List Nat}{v:Value}{a:U}(h:R w I β f v a)(h1:∀l m,a≠ .own l m)(h2:∀l,a≠ .bh l)(h3:∀l,a≠ .agg l)(h4:∀l,a≠ .aL l)(h5:∀l,a≠ .fH l):f=[]:=by cases h<;>first|rfl|simp_all
theorem Sw(p:Id):∀{cs:List U}{j:Nat}{f:List Nat}{vs:List Value},ay w I β f vs cs->f.Nodup->(∀x∈(fG p j cs).2,β x.1=none)->jd w I β f (fun i=>∃q k,j<=k∧i=q++k::p) (fun β'=>ay w I β' [] vs (fG p j cs).1) (fG p j cs).2|[],j,f,vs,h,_,_=>by{obtain⟨rfl,rfl⟩:=h.iX;exact .zero .nil}|c::cs,j,f,vs,h,hnd,hfr=>by obtain⟨f1,f2,v,vs',rfl,rfl,h1,h2⟩:=ay.cons_inv h;have sj:f2.Nodup:=(List.nodup_append.1 hnd).2.1;have tK:f1.Nodup:=(List.nodup_append.1 hnd).1;have wZ:∀b,b∈f1->b∈f2->False:=fun b hb hb'=>(List.nodup_append.1 hnd).2.2 b hb b hb' rfl;have go:∀(x:U)(l:List (Id×Option Rows)),fG p j (c::cs)=(x::(fG p (j+1) cs).1,l++(fG p (j+1) cs).2)->(∀fM:Id->Option Loc,(∀i l',β i=some l'->fM i=some l')->(∀x∈l,fM x.1=none)->jd w I fM f1 (fun i=>∃q,i=q++j::p) (fun β'=>R w I β' [] v x) l)->(∀y∈l,∃q,y.1=q++j::p)->jd w I β (f1++f2) (fun i=>∃q k,j<=k∧i=q++k::p) (fun β'=>ay w I β' [] (v::vs') (fG p j (c::cs)).1) (fG p j (c::cs)).2:=fun x l e hh hn=>by{rw[e]at hfr|-;simp only at hfr|-;have ih:=Sw p (j:=j+1) h2 sj (fun y hy=>hfr y (List.mem_append.2 (.inr hy)));refine(jd.join ih hh (fun y hy=>hfr y (List.mem_append.2 (.inl hy))) hn ?_ wZ (fun fM dy up h=>h.mono (fun _ h=>h) (fun _ _=>rfl) up)).weak (fun _ h=>h) ?_ (fun β' _ h=>R.cons (f1:=[]) (f2:=[]) h.1 h.2);·{rintro i⟨q,rfl⟩⟨q',k,hk,e⟩;have hl:=congrArg IH e;simp only[QR,List.length_cons]at hl;have:=(List.append_inj e (by omega)).2;simp at this;omega};·rintro i(⟨q,rfl⟩|⟨q,k,hk,rfl⟩);·{exact⟨q,j,Nat.le_refl _,rfl⟩};·exact⟨q,k,by omega,rfl⟩};cases c with|own rows=>(exact go _ [(j::p,some rows)] rfl (fun fM up hf=>(TW (h1.mono (fun _ h=>h) (fun _ _=>rfl) up) tK (hf _ (Do ..))).weak (N':=fun i=>∃q,i=q++j::p) (fun _ h=>h) (fun i e=>⟨[],e⟩) (fun _ _ h=>h)) (fun y hy=>⟨[],by rw[List.mem_singleton.1 hy];rfl⟩))|fH rows=>(exact go _ [(j::p,some rows)] rfl (fun fM up hf=>(TO (h1.mono (fun _ h=>h) (fun _ _=>rfl) up) tK (hf _ (Do ..))).weak (N':=fun i=>∃q,i=q++j::p) (fun _ h=>h) (fun i e=>⟨[],e⟩) (fun _ _ h=>h)) (fun y hy=>⟨[],by rw[List.mem_singleton.1 hy];rfl⟩))|bh cells=>(exact go _ [(j::p,some [cells])] rfl (fun fM up hf=>(aiK (h1.mono (fun _ h=>h) (fun _ _=>rfl) up) tK (hf _ (Do ..))).weak (N':=fun i=>∃q,i=q++j::p) (fun _ h=>h) (fun i e=>⟨[],e⟩) (fun _ _ h=>h)) (fun y hy=>⟨[],by rw[List.mem_singleton.1 hy];rfl⟩))|agg l=>(obtain⟨us,rfl,hl⟩:=h1.qI;have ae5:∀y∈(cc (j::p) 0 l).2,∃q,y.1=q++j::p:=fun y hy=>by{obtain⟨_,_,_,_,_,_,_,_,a7⟩:=JI (p:=j::p) (j:=0) hl tK (fun x hx=>hfr x (List.mem_append.2 (.inl hx)));obtain⟨k,_,e⟩:=a7 y hy;exact⟨[k],by simpa using e⟩};refine go _ (cc (j::p) 0 l).2 rfl (fun fM up hf=> ?_) ae5;have R6:ay w I fM f1 us l:=hl.mono (fun _ h=>h) (fun _ _=>rfl) up;exact(JI R6 tK hf).weak (fun _ h=>h) (fun i⟨k,_,e⟩=>⟨[k],by simpa using e⟩) (fun _ _ h=>h))|aL l=>(exact go _ [] rfl (fun fM _ _=> .zero .aW) (by simp))|_=>have B2:f1=[]:=h1.Rt (by simp) (by simp) (by simp) (by simp) (by simp);subst B2;exact go _ [] rfl (fun fM up _=> .zero (h1.mono (fun _ h=>h) (fun _ _=>rfl) up)) (by simp)
theorem Fa(p:Id){a:U}{f:List Nat}{v:Value}(h:R w I β f v a)(hnd:f.Nodup)(hfr:∀x∈(imp p a).2,β x.1=none):jd w I β f (fun i=>∃q,i=q++p) (fun β'=>R w I β' [] v (imp p a).1) (imp p a).2:=by cases a with|own rows=>(exact(TW h hnd (hfr (p,some rows) (Do ..))).weak (N':=fun i=>∃q,i=q++p) (fun _ h=>h) (fun i e=>⟨[],e⟩) (fun _ _ h=>h))|fH rows=>(exact(TO h hnd (hfr (p,some rows) (Do ..))).weak (N':=fun i=>∃q,i=q++p) (fun _ h=>h) (fun i e=>⟨[],e⟩) (fun _ _ h=>h))|bh cells=>(exact aiL h hnd (hfr (p,some [(cc p 0 cells).1]) (Do ..)) (fun x hx=>hfr x (GT _ hx)))|agg l=>(obtain⟨us,rfl,hl⟩:=h.qI;exact(JI hl hnd hfr).weak (fun _ h=>h) (fun i⟨k,_,e⟩=>⟨[k],by simpa using e⟩) (fun _ _ h=>h))|aL l=>(obtain⟨us,rfl,hl⟩:=h.Di;exact(Sw p hl hnd hfr).weak (fun _ h=>h) (fun i⟨q,k,_,e⟩=>⟨q++[k],by simpa using e⟩) (fun _ _ h=> .aL h))|_=>have hf:f=[]:=h.Rt (by simp) (by simp) (by simp) (by simp) (by simp);subst hf;exact .zero h
end
open Go
def xx:List Nat->List U->List (Id×Option Rows)|s::l,v::vs=>(imp [s] v).2++xx l vs|_,_=>[]
theorem uk(h:Id->Option (Option Rows))(b:List (Id×Option Rows)):∀a,bE h (a++b)=bE (bE h b) a|[]=>rfl|(i,r)::l=>by simp[bE,uk h b l]
theorem Fl(n:Nat):∀(slots:List Nat)(cG:List U),(aO n slots cG).h=bE (fun _=>none) (xx slots cG)|[],_=>rfl|_::_,[]=>rfl|s::l,v::vs=>by simp[aO,xx,uk,Fl n l vs]
theorem Ct(n:Nat):∀(slots:List Nat)(cG:List U),(aO n slots cG).n=n|[],_=>rfl|_::_,[]=>rfl|s::l,v::vs=>rfl
theorem S8(n:Nat):∀(slots:List Nat)(cG:List U)(t:Nat),t∉slots->(aO n slots cG).t t= .aW|[],_,_,_=>rfl|_::_,[],_,_=>rfl|s::l,v::vs,t,h=>by have h1:t≠s:=fun e=>h (by simp[e]);have h2:t∉l:=fun e=>h (by simp[e]);simp only[aO,au,h1,if_false];exact S8 n l vs t h2
section
variable{w:World}{I:Nat->Prop}
theorem Sx(p:Id){a:U}{f:List Nat}{v:Value}(h:R w I cm f v a)(hnd:f.Nodup):∀x∈(imp p a).2,∃q,x.1=q++p:=by obtain⟨_,_,_,_,_,_,_,_,a7⟩:=Fa p h hnd (fun _ _=>rfl);exact a7
theorem S7(n:Nat)(g:Nat->Value):∀{slots:List Nat}{cG:List U}{f:List Nat},ay w I cm f (slots.map g) cG->slots.Nodup->f.Nodup->jd w I cm f (fun i=>∃q s,s∈slots∧i=q++[s]) (fun β'=>∀s∈slots,R w I β' [] (g s) ((aO n slots cG).t s)) (xx slots cG)|[],_,_,_,_,_=> .zero (fun s hs=>by cases hs)|s::l,cG,f,h,hs,hf=>by cases h with| @cons _ f1 f2 _ _ v vs h1 h2=>have sj:f2.Nodup:=(List.nodup_append.1 hf).2.1;have tK:f1.Nodup:=(List.nodup_append.1 hf).1;have wZ:∀b,b∈f1->b∈f2->False:=fun b hb hb'=>(List.nodup_append.1 hf).2.2 b hb b hb' rfl;have mI:s∉l:=(List.nodup_cons.1 hs).1;have ih:=S7 n g h2 (List.nodup_cons.1 hs).2 sj;refine(jd.join (aB:=fun i=>∃q,i=q++[s]) (JY:=fun β'=>R w I β' [] (g s) (imp [s] v).1) (l1:=(imp [s] v).2) ih (fun fM up hfr=>Fa [s] (h1.mono (fun _ h=>h) (fun _ _=>rfl) up) tK hfr) (fun _ _=>rfl) (Sx [s] h1 tK) ?_ wZ ?_).weak (fun _ h=>h) ?_ ?_;·{rintro i⟨q,rfl⟩⟨q',s',hs',e⟩;have:=(List.append_inj' e rfl).2;simp at this;subst this;exact mI hs'};·{intro fM dy up h s' hs';exact(h s' hs').mono (fun _ h=>h) (fun _ _=>rfl) up};·{rintro i(⟨q,rfl⟩|⟨q,s',hs',rfl⟩);·{exact⟨q,s,Do ..,rfl⟩};·exact⟨q,s',GT _ hs',rfl⟩};·intro β' _⟨r1,r2⟩s' hs';rcases List.mem_cons.1 hs' with rfl|hs';·{simpa[aO,au]using r1};·have hne:s'≠s:=fun e=>mI (e▸hs');simpa[aO,au,hne]using r2 s' hs'
theorem aY.enter{C:aF}{E:Env}{a:Act}{n:Nat}{slots:List Nat}{cG:List U}{f:List Nat}(hn:a.tmps.size=n)(hdf:oa w (fun b=>I b∧E.m<=b) E.ds a.defers)(hr:ay w I cm f (slots.map (a.tmps.getD · undef)) cG)(hs:slots.Nodup)(hf:f.Nodup)
  (hI:∀b,I b->(E.dG b∨E.j7 b∨E.w0.heap.size<=b)∧b<w.heap.size∧b∉f)(hlt:∀b∈f,b<w.heap.size∧(E.j7 b∨E.w0.heap.size<=b))(hk:Kept E.w0 w E.j7)
  (hg:∀g cs,C.eH g=some cs->R w I cm [] (.pointer (some ⟨g,0,none⟩)) (.bD cs))(afb:∀t,t<n->∀q,¬E.K (q++[t]):=by exact fun _ _ _ h=>h.elim)(Mj:∀s∈slots,∀q,¬E.K (q++[s]):=by exact fun _ _ _ h=>h.elim):bA C E (aO n slots cG) a w:=by
 obtain⟨β',G,a1,a2,a3,a4,a5,a6,a7⟩:=S7 n (a.tmps.getD · undef) hr hs hf
 have tD:∀b,I b->aR E w G b:=fun b hb=>⟨(hI b hb).1,(hI b hb).2.1,fun id hm=>(hI b hb).2.2 ((a5 id).2 b hm)⟩
 refine⟨β',G,{n:=by rw[Ct];exact hn,df:=hdf.mono (fun b hb=>⟨tD b hb.1,hb.2⟩) (fun _ _=>rfl),slot:= ?_,obj:= ?_,dead:= ?_,nd:=fun id=>(a5 id).1,eG:=a6,dom:= ?_,lt:=fun id b hb=>hlt b ((a5 id).2 b hb),kept:=hk,eH:=fun g cs h=>(hg g cs h).mono tD (fun _ _=>rfl) z7,ns:=fun t ht=>afb t (by rw[Ct]at ht;exact ht),kb:=fun k rows hk hr=> ?_}⟩
 ·intro t
  by_cases ht:t∈slots
  ·exact(a3 t ht).mono tD (fun _ _=>rfl) (fun _ _ h=>h)
  ·rw[S8 n slots cG t ht];exact .aW
 ·intro id rows h
  rw[Fl]at h
  rcases gR (fun _=>none) (xx slots cG) id with⟨x,hx,rfl,e⟩|⟨_,e⟩
  ·obtain⟨bQ,e',h'⟩:=a4 x hx
   rw[e,e']at h
   simp at h;subst h
   exact h'.mono tD (fun _ _=>rfl) (fun _ _ h=>h)
  ·rw[e]at h;cases h
 ·intro id h
  rw[Fl]at h
  rcases gR (fun _=>none) (xx slots cG) id with⟨x,hx,rfl,e⟩|⟨hx,e⟩
  ·obtain⟨bQ,e',h'⟩:=a4 x hx
   rw[e,e']at h
   exact absurd rfl (h bQ)
  ·exact(a2 id hx).2
 ·intro id h
  rw[Fl]at h
  rcases gR (fun _=>none) (xx slots cG) id with⟨x,hx,rfl,e⟩|⟨hx,e⟩
  ·rw[e]at h;cases h
  ·exact(a2 id hx).1
 ·rw[Fl]at hr
  rcases gR (fun _=>none) (xx slots cG) k with⟨x,hx,rfl,e⟩|⟨hx,e⟩
  ·obtain⟨q,s,hs',e'⟩:=a7 x hx
   rw[e']at hk
   exact absurd hk (Mj s hs' q)
  ·rw[e]at hr;cases hr
structure je(l:List Nat):Prop where
 nd:l.Nodup
 no:ju∉l
theorem je.nil:je []:=⟨Hn,by simp⟩
theorem MF(q:Id)(s:Nat):kg (q++[s])=(s==ju):=by induction q with|nil=>(rfl)|cons a q ih=>cases q with|nil=>(rfl)|cons b q=>exact ih
theorem je.Fq{E:Env}{l:List Nat}(h:je l):∀s∈l,∀q,¬E.K (q++[s]):=fun s hs q hk=>by have:=E.xp _ hk;rw[MF,beq_iff_eq]at this;exact h.no (this▸hs)
end
open Go
def JL(P:Program)(f:FuncId)(args:Array Value)(w:World)(Post:Value->World->Prop):Prop:=(∃fn c,P.funcs[f]? =some fn∧fn.body=some c∧Calls P f args w fun e w'=>∃v,e= .returned v∧Post v w')∨(∃v w',(callFunc f args).run P w= .ok (.value v) w'∧Post v w')
def vp(c4:List Nat)(vs:List Value):List Value:=c4.map fun j=>vs.getD j undef
structure Bg(w:World)(fp:List Nat)(dG:Nat->Prop)(ls:List Value)(r:U×List U)(v:Value)(w':World):Prop where kept:Kept w w' (·∈fp)ex:∃(I':Nat->Prop)(fr:List Nat),ay w' I' cm fr (v::ls) (r.1::r.2)∧fr.Nodup∧(∀b∈fr,b<w'.heap.size∧(b∈fp∨w.heap.size<=b))∧(∀b,I' b->(dG b∨b∈fp∨w.heap.size<=b)∧b<w'.heap.size∧b∉fr)
def rO(C:aF)(f:FuncId)(args:List U)(r:U×List U):Prop:=∀(w:World)(dG:Nat->Prop)(fp:List Nat)(vs:List Value),ay w dG cm fp vs args->fp.Nodup->(∀b,dG b->b<w.heap.size∧b∉fp)->(∀b∈fp,b<w.heap.size)->(∀g cs,C.eH g=some cs->R w dG cm [] (.pointer (some ⟨g,0,none⟩)) (.bD cs))->JL C.P f ⟨vs⟩ w (Bg w fp dG (vp (C.c4 f) vs) r)
def OE(P:Program)(f:FuncId)(args:Array Value)(w:World)(Post:Ending->World->Prop):Prop:=(∃fn c,P.funcs[f]? =some fn∧fn.body=some c∧Calls P f args w Post)∨(∃v w',(callFunc f args).run P w= .ok (.value v) w'∧Post (.returned v) w')
structure GR(C:aF)(w:World)(dG:Nat->Prop)(β:Id->Option Loc)(G:Id->List Nat)(hl:List (Id×Rows))(vs:List Value)(as:List U):Prop where
 args:ay w dG β [] vs as
 obj:∀k rows,(k,rows)∈hl->eD w dG β k rows (G k)
 out:∀k,k∉hl.map (·.1)->β k=none∧G k=[]
 nd:∀k,(G k).Nodup
 eG:∀i j b,b∈G i->b∈G j->i=j
 lt:∀k b,b∈G k->b<w.heap.size
 i0:∀b,dG b->b<w.heap.size∧∀k,b∉G k
 eH:∀g cs,C.eH g=some cs->R w dG cm [] (.pointer (some ⟨g,0,none⟩)) (.bD cs)
def Dn(w':World)(I':Nat->Prop)(β:Id->Option Loc)(fr:List Nat)(e:Ending):U->Prop| .az u=>e= .panicked [{v:=u,recovered:=false}]∧fr=[]|r=>∃v,e= .returned v∧R w' I' β fr v r
structure G1(w:World)(dG:Nat->Prop)(β:Id->Option Loc)(G:Id->List Nat)(r:U×List U)(e:Ending)(w':World):Prop where
 kept:Kept w w' fun b=>∃k,b∈G k
 ex:∃(I':Nat->Prop)(G':Id->List Nat)(fr:List Nat),Dn w' I' β fr e r.1∧(∀k rows,U.aT k rows∈r.2->eD w' I' β k rows (G' k))∧(∀k,(∀rows,U.aT k rows∉r.2)->G' k=[])∧
  (∀k,(G' k).Nodup)∧(∀i j b,b∈G' i->b∈G' j->i=j)∧fr.Nodup∧(∀k b,b∈G' k->b∉fr)∧
  (∀b,(b∈fr∨∃k,b∈G' k)->b<w'.heap.size∧((∃k,b∈G k)∨w.heap.size<=b))∧
  (∀b,I' b->(dG b∨(∃k,b∈G k)∨w.heap.size<=b)∧b<w'.heap.size∧b∉fr∧∀k,b∉G' k)
def DB(C:aF)(f:FuncId)(args:List U)(r:U×List U):Prop:=∀obs as hl,args= .aL obs::as->xA obs=some hl->(hl.map (·.1)).Nodup->(∀x∈hl,kg x.1=true)->∀(w:World)(dG:Nat->Prop)(β:Id->Option Loc)(G:Id->List Nat)(vs:List Value),GR C w dG β G hl vs as->OE C.P f ⟨vs⟩ w (G1 w dG β G r)
def Sound(C:aF)(f:FuncId)(args:List U)(r:U×List U):Prop:=(C.ji f=false->rO C f args r)∧(C.ji f=true->DB C f args r)
theorem rO.sound{C:aF}{f:FuncId}{args:List U}{r:U×List U}(h:rO C f args r)(hg:C.ji f=false):Sound C f args r:=⟨fun _=>h,fun e=>by rw[hg]at e;cases e⟩
theorem DB.sound{C:aF}{f:FuncId}{args:List U}{r:U×List U}(h:DB C f args r)(hg:C.ji f=true):Sound C f args r:=⟨(fun e=>by rw[hg]at e;cases e),fun _=>h⟩
def uv(P:Program):Prop:=∀(f:FuncId)(fn:Func),P.funcs[f]? =some fn->(fn.name== "runtime.NumGoroutine")=false
section
variable{C:aF}{E:Env}{w:World}{S:aj}{a:Act}{β:Id->Option Loc}{F:Id->List Nat}
variable{next:Act->World->Prop}{Q:Exit->Act->World->Prop}
theorem AS{P:Program}(hN:uv P){f:FuncId}{fn:Func}{c:Code}(hf:P.funcs[f]? =some fn)(hb:fn.body=some c)(args:Array Value):(callFunc f args).run P w= .ok (.enter f args) w:=by have:¬fn.name= "runtime.NumGoroutine" :=by{simpa using hN f fn hf};simp[callFunc,hf,hb,this]
theorem aY.imported(h:aY C E w S a β F){o:Oper}{d:Nat}(bO:o.dst=some d){w':World}{fr:List Nat}{v:Value}{r:U}(hk:Kept w w' (fun _=>False))(hr:R w' (fun b=>aR E w F b∨(w.heap.size<=b∧b<w'.heap.size∧b∉fr)) cm fr v r)(hnd:fr.Nodup)(hfr:∀b∈fr,w.heap.size<=b∧b<w'.heap.size)(hfresh:fresh S.h (imp [d] r).2=true)(rd:List Id)(hd:dc S (put o (imp [d] r).1 rd (imp [d] r).2)):bA C E (S.app (put o (imp [d] r).1 rd (imp [d] r).2)) (a.put o.dst v) w':=by have oA:=HZ hfresh;obtain⟨β',G,a1,a2,a3,a4,a5,a6,a7⟩:=Fa (β:=β) [d] (hr.mono (fun _ h=>h) (fun _ _=>rfl) z7) hnd (fun x hx=>h.dom _ (oA x hx));have tC:∀x∈(imp [d] r).2,F x.1=[]:=fun x hx=>h.dead _ (by rw[oA x hx];simp);have EB:∀i b,b∈G i->w.heap.size<=b∧b<w'.heap.size:=fun i b hb=>hfr b ((a5 i).2 b hb);refine⟨β',fun i=>F i++G i, ?_⟩;have iW:(∀b,aR E w F b->aR E w' (fun i=>F i++G i) b)->∀b,(aR E w F b∨(w.heap.size<=b∧b<w'.heap.size∧b∉fr))->aR E w' (fun i=>F i++G i) b:=fun hI b hb=>by{rcases hb with hb|⟨h1,h2,h3⟩;·{exact hI b hb};·refine⟨.inr (.inr (Nat.le_trans h.kept.size h1)),h2,fun id hm=> ?_⟩;rcases List.mem_append.1 hm with hm|hm;·{have:=(h.lt id b hm).1;omega};·exact h3 ((a5 id).2 b hm)};have hh:(S.app (put o (imp [d] r).1 rd (imp [d] r).2)).h=bE S.h (imp [d] r).2:=rfl;refine h.Gk (fun id=>∃x∈(imp [d] r).2,x.1=id) (by rw[xO];exact h.n) hk.size hk.os hk.out hk.gd (fun b hb _=>hk.blk b hb id) a1 ?_ ?_ ?_ ?_ ?_ ?_ ?_ ?_ (gL:=hk.rH) (hok:=lq.of rfl fun x hx _=>by obtain⟨q,e⟩:=a7 x hx;rw[e];exact .inl (h.ns d (by simpa[dc,put,bO]using hd) q));·{intro id b hb;rcases List.mem_append.1 hb with hb|hb;·{exact .inl ⟨id,hb⟩};·exact .inr (EB id b hb)};·{intro id hid;have hno:∀x∈(imp [d] r).2,x.1≠id:=fun x hx e=>hid ⟨x,hx,e⟩;refine⟨by simp[(a2 id hno).2], ?_⟩;rw[hh];rcases gR S.h (imp [d] r).2 id with⟨x,hx,e,_⟩|⟨_,e⟩;·{exact absurd e (hno x hx)};·exact e};·{rintro hI id⟨x,hx,rfl⟩rows hrows;rw[hh]at hrows;rcases gR S.h (imp [d] r).2 x.1 with⟨y,hy,e,e'⟩|⟨hno,_⟩;·{rw[e']at hrows;obtain⟨bQ,e2,h2⟩:=a4 y hy;rw[e2]at hrows;simp at hrows;subst hrows;rw[<-e];simp only[tC y hy,Ha];exact h2.mono (iW hI) (fun _ _=>rfl) (fun _ _ h=>h)};·exact absurd rfl (hno x hx)};·{rintro id⟨x,hx,rfl⟩hno;rw[hh]at hno;rcases gR S.h (imp [d] r).2 x.1 with⟨y,hy,e,e'⟩|⟨hn,_⟩;·{obtain⟨bQ,e2,h2⟩:=a4 y hy;exact absurd (by rw[e',e2]) (hno bQ)};·exact absurd rfl (hn x hx)};·{rintro id⟨x,hx,rfl⟩;simp only[tC x hx,Ha];exact(a5 _).1};·{rintro i j b⟨x,hx,rfl⟩hb hb';simp only[tC x hx,Ha]at hb;rcases List.mem_append.1 hb' with hb'|hb';·{have:=(h.lt j b hb').1;have:=(EB _ b hb).1;omega};·exact a6 _ _ b hb hb'};·{intro id hid;rw[hh]at hid;rcases gR S.h (imp [d] r).2 id with⟨x,hx,e,e'⟩|⟨hno,e⟩;·{rw[e']at hid;cases hid};·rw[(a2 id hno).1];exact h.dom id (by rw[<-e];exact hid)};·intro hI t;have hd':d<a.tmps.size:=by{rw[h.n];simpa[dc,put,bO]using hd};rw[bO,xN a d t v hd'];by_cases ht:t=d;·{subst ht;rw[if_pos rfl];refine .inr ?_;have:=a3.mono (w':=w') (iW hI) (fun _ _=>rfl) (fun _ _ h=>h);simpa[aj.app,put,bO,dR,au]using this};·rw[if_neg ht];refine .inl ⟨rfl, ?_⟩;simp[aj.app,put,bO,dR,au,ht]
def JQ(C:aF)(k:FuncId):Prop:=∀(w:World)(dG:Nat->Prop)(vs us:List Value)(i c:Int)(cells:List U)(ks:Rows)(u:Value),(∀u∈us,gN u=true)->ay w dG cm [] vs [.val (.int .i64 i), .bD [.sl (us.map fun u=>[.val u])], .bD cells]->cells[4]? =some (.sl ks)->ks[i.toNat]? =some [.val (.int .i64 c)]->us[c.toNat]? =some u->0<=i->0<=c->(∀b,dG b->b<w.heap.size)->(∀g cs,C.eH g=some cs->R w dG cm [] (.pointer (some ⟨g,0,none⟩)) (.bD cs))->JL C.P k ⟨vs⟩ w fun v w'=>v=u∧Kept w w' (fun _=>False)
theorem TP{I:Nat->Prop}:∀{rows:Rows}{f:List Nat}{vs:List Value},ay w I β f vs rows.flatten->rows.all Fy=true->vs.length=rows.length∧(∀v∈vs,gN v=true)∧∀(k:Nat)(x:U),rows[k]? =some [x]->∃v,vs[k]? =some v∧R w I β [] v x|[],f,vs,h,_=>by{obtain⟨_,rfl⟩:=h.iX;exact⟨rfl,(fun v hv=>by cases hv),fun k x hx=>by simp at hx⟩}|r::rows,f,vs,h,hr=>by simp only[List.all_cons,Hb]at hr;obtain⟨a,ha,Ij⟩:∃a,r=[a]∧((∃v,a= .val v)∨∃cs,a= .bD cs):=by{obtain⟨h1,_⟩:=hr;unfold Fy at h1;split at h1;·{exact⟨_,rfl, .inl ⟨_,rfl⟩⟩};·{exact⟨_,rfl, .inr ⟨_,rfl⟩⟩};·cases h1};subst ha;simp only[Hc,H5,Ha]at h;obtain⟨f1,f2,v,vs',e0,rfl,h1,h2⟩:=h.cons_inv;obtain⟨g1,g2,g3⟩:=TP h2 hr.2;have hsc:gN v=true∧R w I β [] v a:=by{rcases Ij with⟨u,rfl⟩|⟨cs,rfl⟩;·{cases h1 with|val hh=>exact⟨hh, .val hh⟩};·cases h1 with|bD p1 p2 p3=>exact⟨rfl, .bD p1 p2 p3⟩};refine⟨by simp[g1],fun u hu=> ?_,fun k x hx=> ?_⟩;·{rcases List.mem_cons.1 hu with rfl|hu;·{exact hsc.1};·exact g2 u hu};·cases k with|zero=>(simp only[List.getElem?_cons_zero,AC,H2,and_true]at hx;subst hx;exact⟨v,rfl,hsc.2⟩)|succ k=>simpa using g3 k x (by simpa using hx)
theorem ay.vals{I:Nat->Prop}:∀{us:List Value},(∀u∈us,gN u=true)->ay w I β [] us (us.map U.val)|[],_=> .nil|u::us,h=>R.cons (f1:=[]) (f2:=[]) (.val (h u (Do ..))) (ay.vals fun v hv=>h v (GT _ hv))
theorem Rj:∀us:List Value,(us.map fun u=>[U.val u]).flatten=us.map U.val|[]=>rfl|u::us=>by simp[Rj us]
theorem air(hN:uv C.P)(h:aY C E w S a β F){o:Oper}{c:Call}{cW:Operand}(ho:o.op= .call c)(hc:c.callee= .value cW){k:FuncId}(hl:JQ C k){first caps:List U}{iN jh:List Value}(oB:a.eval cW= .func (.func k) ⟨iN⟩ ⟨jh⟩)(h1:ay w (aR E w F) β [] iN first)(h2:ay w (aR E w F) β [] jh caps){e:bn}(he:zZ S o (first++(c.args.toList.map fun x=>un true (S.get C x))++caps)=some e)(hd:dc S e)(hn:∀a' w',bA C E (S.app e) a' w'->next a' w'):o.wp C.P a w next Q:=by have hargs:=ay.ofMap h c.args.toList;have hall:ay w (aR E w F) β [] (iN++c.args.toList.map a.eval++jh) (first++(c.args.toList.map fun x=>un true (S.get C x))++caps):=(h1.append hargs).append h2;have tI:(execOp a.eval o).run C.P w=(callFunc k ⟨iN++c.args.toList.map a.eval++jh⟩).run C.P w:=by{have e2:((⟨iN⟩:Array Value)++c.args.map a.eval++⟨jh⟩:Array Value)=⟨iN++c.args.toList.map a.eval++jh⟩:=by{apply Ix;simp};have cp:resolve a.eval c o.type=(pure {target:= .fn (.func k) ⟨jh⟩,args:=⟨iN⟩++c.args.map a.eval}:Sem Deferred):=by{simp[resolve,hc,oB,Deferred.ofValue]};have gC:execOp a.eval o=(do let d<-resolve a.eval c o.type;invoke d.target d.args:Sem Next):=by{simp[execOp,ho]};rw[gC,cp,Sem.run_bind,Sem.run_pure,Result.andThen_ok];simp only[invoke,e2]};generalize iN++c.args.toList.map a.eval++jh=vs at hall tI;generalize(first++(c.args.toList.map fun x=>un true (S.get C x))++caps)=as at hall he;unfold zZ at he;split at he;·{rename_i i id cells;split at he;·{rename_i ks qX n aet hid;split at he;·{rename_i rows c' aeM hki;split at he;·{rename_i x xg;split at he;·{rename_i mG;simp only[AC]at he;subst he;obtain⟨hi0,hc0,Iv,hrows,aeN,bO⟩:=mG;obtain⟨d,bO⟩:=Option.isSome_iff_exists.1 bO;obtain⟨f1,f2,v1,lf,bz,rfl,k1,k2⟩:=hall.cons_inv;obtain⟨f3,f4,v2,VH,ant,rfl,dF,kF⟩:=k2.cons_inv;obtain⟨f5,f6,v3,arV,anu,rfl,nk,zV⟩:=kF.cons_inv;obtain⟨_,rfl⟩:=zV.iX;obtain⟨_,b,o',sz,n1,cl,rfl⟩:=dF.pF;have afe:=h.obj id _ hid;obtain⟨ws,dx,ad6,_,⟨_,_⟩,_,cq,hrl⟩:=afe.at cl;simp only[Hc,PQ,H0]at hrl;obtain⟨_,_,jB,arW,eb,rfl,uW,nh⟩:=hrl.cons_inv;obtain⟨_,rfl⟩:=nh.iX;have aou:=cq 0 jB rfl;have hpos:0<rows.length:=by{rcases Nat.lt_or_ge c'.toNat rows.length with h'|h';·{omega};·rw[List.getElem?_eq_none h']at xg;cases xg};obtain⟨_,afC⟩:=uW.rC;rcases afC with⟨_,_,h0,_⟩|⟨b2,o2,Vr,n2,cap,afO,Is,hlc,rfl⟩;·{omega};·obtain⟨us,HY,BV,_,⟨_,afo⟩,_,EK,Sj⟩:=(h.obj qX rows aeM).at afO;obtain⟨u1,u2,u3⟩:=TP Sj hrows;obtain⟨u,hu,afA⟩:=u3 _ _ xg;have afB:R w (aR E w F) cm [] u x:=afA.sw aeN;have afv:Vr=1:=by{rw[<-afo _ (RK hpos)];have:=List.all_eq_true.1 hrows _ (RK hpos);unfold Fy at this;split at this;·{rename_i e;rw[e];rfl};·{rename_i e;rw[e];rfl};·cases this};subst afv;have o9:b∈F id:=by{rw[ad6];exact Do .. };have hm2:b2∈F qX:=by{rw[BV];exact Do .. };let dG:Nat->Prop:=fun x=>aR E w F x∨x=b∨x=b2;have up:∀x,aR E w F x->dG x:=fun _ h=> .inl h;have mI:R w dG cm [] (.slice (some ⟨b2,o2+0*1,none⟩) n cap) (.sl (us.map fun u=>[.val u])):=by{have e1:n=(us.map fun u=>[U.val u]).length:=by{rw[List.length_map,u1,Iv]};rw[e1]at hlc|-;refine .sl (sz:=1) (vs:=us) (fun r hr=> ?_) (.inr (.inr rfl)) (by simpa using EK) hlc ?_;·{obtain⟨_,_,rfl⟩:=List.mem_map.1 hr;rfl};·rw[Rj];exact ay.vals u2};have aek:ay w dG cm [] [v1, .pointer (some ⟨b,o'+0*sz+0,none⟩),v3] [.val (.int .i64 i), .bD [.sl (us.map fun u=>[.val u])], .bD cells]:=by{refine R.cons (f1:=[]) (f2:=[]) ?_ (R.cons (f1:=[]) (f2:=[]) (.bD (.inr (.inl rfl)) (vs:=[.slice (some ⟨b2,o2+0*1,none⟩) n cap]) ?_ (R.cons (f1:=[]) (f2:=[]) mI .nil)) (R.cons (f1:=[]) (f2:=[]) ?_ .nil));·{cases k1 with|val h=>exact .val h};·{rw[Nat.zero_mul,Nat.add_zero,Nat.add_zero];exact cq};·cases nk with|bD p1 p2 p3=>exact .bD (up _ p1) p2 (p3.mono up (fun _ _=>rfl) (fun _ _ h=>h))};have uZ:=hl w dG _ us i c' cells ks u u2 aek aet hki hu hi0 hc0 (fun x hx=>by rcases hx with hx|rfl|rfl;·{exact hx.2.1};·{exact(h.lt id _ o9).1};·exact(h.lt qX _ hm2).1) (fun g cs hg=>(h.eH g cs hg).qY rfl fun b hb=> .inl hb);have iC:∀w',Kept w w' (fun _=>False)->next (a.put o.dst u) w':=fun w' hk=>by{have hx0:∃y,imp [d] x=(y,[])∧y=x:=by{have:=List.all_eq_true.1 hrows _ (QP xg);unfold Fy at this;split at this;·{rename_i e;simp only[H2,and_true]at e;subst e;exact⟨_,rfl,rfl⟩};·{rename_i e;simp only[H2,and_true]at e;subst e;exact⟨_,rfl,rfl⟩};·cases this};obtain⟨y,hy,rfl⟩:=hx0;have:=h.imported (fr:=[]) (r:=y) bO hk (v:=u) ((afB.mono (fun _ h=>h) (fun b hb=>hk.blk b (by rcases hb with hb|hb;exact hb.2.1;cases hb) (fun h=>h)) (fun _ _ h=>h)).mono (fun _ h=> .inl h) (fun _ _=>rfl) (fun _ _ h=>h)) Hn (fun b hb=>by cases hb) (by rw[hy];rfl) [id,qX] (by rw[hy];exact hd);rw[hy]at this;exact hn _ _ this};unfold Oper.wp;rw[tI];rcases uZ with⟨fn,code,q1,dI,eW⟩|⟨v,w',q1,dI,eW⟩;·{rw[AS hN q1 dI];simp only[Oper.upon];refine eW.mono fun e' w' hh=> ?_;obtain⟨v,rfl,rfl,hk⟩:=hh;exact iC w' hk};·rw[q1,dI];exact iC w' eW};·cases he};·cases he};·cases he};·cases he};·cases he
theorem ah8(hN:uv C.P)(ae1:∀k,C.look k=true->JQ C k)(h:aY C E w S a β F){o:Oper}{c:Call}{cW:Operand}(ho:o.op= .call c)(hc:c.callee= .value cW){f:FuncId}{call:FuncId->List U->Option (U×List U)}(dD:∀k as r,call k as=some r->Sound C k as r){e:bn}(ek:mE C (un true (S.get C cW))=none)(he:tf C f call S o (un true (S.get C cW)) (c.args.toList.map fun x=>un true (S.get C x))=some e)(hd:dc S e)(hn:∀a' w',bA C E (S.app e) a' w'->next a' w'):o.wp C.P a w next Q:=by have hfo:=h.fz cW;have hargs:=ay.ofMap h c.args.toList;unfold tf at he;split at he;·{rename_i k first caps hfn;rw[hfn]at hfo ek;have hg0:C.ji k=false:=by{simp only[mE]at ek;split at ek;·{cases ek};·rename_i h;simpa using h};obtain⟨_,iN,jh,oB,h1,h2⟩:=hfo.p6;by_cases hlk:C.look k=true;·{rw[if_pos hlk]at he;exact air hN h ho hc (ae1 k hlk) oB h1 h2 he hd hn};rw[if_neg hlk]at he;split at he;·{rename_i as seen d LI bO;split at he;·{rename_i r cq;have hs:=(dD _ _ _ cq).1 hg0;have hall:ay w (aR E w F) β [] (iN++c.args.toList.map a.eval++jh) (first++(c.args.toList.map fun x=>un true (S.get C x))++caps):=(h1.append hargs).append h2;have gL:=(Km (F:=F) (Ku h.obj 9) LI hall).2 (fun b=>aR E w F b∨∃id∈seen,b∈F id) (fun b hb=> .inl hb) (fun b hb=>by cases hb) (fun id hid b hb=> .inr ⟨id,hid,hb⟩);have uZ:=hs w _ [] _ gL Hn (fun b hb=>⟨hb.elim (fun hb=>hb.2.1) (fun⟨id,_,hb⟩=>(h.lt id b hb).1),by simp⟩) (fun b hb=>by cases hb) (fun g cs hg=>(h.eH g cs hg).qY rfl fun b hb=> .inl hb);have tI:(execOp a.eval o).run C.P w=(callFunc k ⟨iN++c.args.toList.map a.eval++jh⟩).run C.P w:=by{have e1:(#[]++(⟨iN⟩:Array Value)++c.args.map a.eval++⟨jh⟩:Array Value)=⟨iN++c.args.toList.map a.eval++jh⟩:=by{apply Ix;simp};have e2:((⟨iN⟩:Array Value)++c.args.map a.eval++⟨jh⟩:Array Value)=⟨iN++c.args.toList.map a.eval++jh⟩:=by{apply Ix;simp};have cp:resolve a.eval c o.type=(pure {target:= .fn (.func k) ⟨jh⟩,args:=⟨iN⟩++c.args.map a.eval}:Sem Deferred):=by{simp[resolve,hc,oB,Deferred.ofValue]};have gC:execOp a.eval o=(do let d<-resolve a.eval c o.type;invoke d.target d.args:Sem Next):=by{simp[execOp,ho]};rw[gC,cp,Sem.run_bind,Sem.run_pure,Result.andThen_ok];simp only[invoke,e2]};have iC:∀{ls:List Value}v w',Bg w [] (fun b=>aR E w F b∨∃id∈seen,b∈F id) ls (r,[]) v w'->next (a.put o.dst v) w':=fun v w' hres=>by{obtain⟨I',fr,g1,g2,g3,g4⟩:=hres.ex;replace g1:R w' I' cm fr v r:=by{obtain⟨f1,f2,v1,arU,rfl,e1,k1,k2⟩:=ay.cons_inv g1;obtain⟨rfl,rfl⟩:=k2.iX;simp only[H2]at e1;obtain⟨rfl,_⟩:=e1;simpa using k1};have hk:Kept w w' (fun _=>False):=⟨hres.kept.size,fun b hb _=>hres.kept.blk b hb (by simp),hres.kept.os,hres.kept.out,hres.kept.gd,hres.kept.rH⟩;generalize hr':(if fP C f o.dst=true then ey r else r)=r' at he;split at he;·{simp at he};·rename_i hm;split at he;·{rename_i hf;simp only[AC]at he;subst he;have base:R w' (fun b=>aR E w F b∨(w.heap.size<=b∧b<w'.heap.size∧b∉fr)) cm fr v r:=by{by_cases E0:seen=[];·{subst E0;refine g1.mono (fun b hb=> ?_) (fun _ _=>rfl) (fun _ _ h=>h);obtain⟨k1,k2,dF⟩:=g4 b hb;rcases k1 with(k1|⟨_,k1,_⟩)|k1|k1;·{exact .inl k1};·{cases k1};·{cases k1};·exact .inr ⟨k1,k2,dF⟩};·have:mine r=true:=by{cases hmr:mine r;·{exact absurd (by cases seen<;>simp_all) hm};·rfl};exact g1.mine this _};have LW:∀b∈fr,w.heap.size<=b∧b<w'.heap.size:=fun b hb=>by{obtain⟨k1,k2⟩:=g3 b hb;rcases k2 with k2|k2;·{cases k2};·exact⟨k2,k1⟩};refine hn _ _ ?_;by_cases hz:fP C f o.dst=true;·{rw[if_pos hz]at hr';subst hr';refine h.imported bO hk (fr:=[]) ?_ Hn (fun b hb=>by cases hb) hf seen hd;exact base.ey (fun b hb=>hb.imp id fun⟨k1,k2,_⟩=>⟨k1,k2,by simp⟩) (fun b hb=> .inr ⟨(LW b hb).1,(LW b hb).2,by simp⟩)};·rw[if_neg hz]at hr';subst hr';exact h.imported bO hk base g2 LW hf seen hd};·simp at he};unfold Oper.wp;rw[tI];rcases uZ with⟨fn,code,k1,k2,dF⟩|⟨v,w',k1,k2⟩;·{rw[AS hN k1 k2];simp only[Oper.upon];refine dF.mono fun e' w' hh=> ?_;obtain⟨v,rfl,hres⟩:=hh;exact iC v w' hres};·rw[k1];exact iC v w' k2};·cases he};·cases he};·cases he
end
end Go.Ab
