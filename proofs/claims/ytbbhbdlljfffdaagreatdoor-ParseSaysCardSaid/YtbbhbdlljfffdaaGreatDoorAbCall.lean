import Derived.Test.YtbbhbdlljfffdaaGreatDoorAbOps7
open Bool renaming and_eq_true->Ha,and_assoc->H3
open List renaming mem_cons_self->Do,mem_cons_of_mem->GT,flatten_cons->Hb,nil_append->Hc,length_take->Hk,append_nil->Hm,mem_of_mem_take->Hn,length->H0,take_left->H2,perm_iff_count->H4,count_append->H5,flatMap_append->IH,take_append_drop->If,flatten_nil->Ix,cons_append->Kd,take_zero->Lk,drop_left->Nm,append_assoc->PH,length_append->PP,nodup_nil->PQ
open Nat renaming min_eq_left->H1
open Option renaming map_eq_some_iff->GE,bind_eq_some_iff->Hd
open Option.some renaming injEq->AC
set_option linter.all false
namespace Go.Ab
open Go
theorem YJ(a b:List U):cT (a++b)=(cT a&&cT b):=by induction a with|nil=>(simp[cT])|cons c cs ih=>simp[cT,ih,H3]
theorem E6:∀rows:Rows,eB rows=true->cT rows.flatten=true|[],_=>by{simp[cT]}|r::rs,h=>by simp only[eB,Ha]at h;rw[Hb,YJ,h.1,E6 rs h.2];rfl
section
variable{w:World}{I:Nat->Prop}
theorem R.kF{β:Id->Option Loc}{f:List Nat}{v:Value}{a:U}(h:R w I β f v a):flat a=true->∀cj:Id->Option Loc,R w I cj f v a:=by induction h with|val h=>(intro _ _;exact .val h)|nn=>(intro _ _;exact .nn)|mr _=>(intro hf;simp[flat]at hf)|ey h=>(intro _ _;exact .ey h)|im h1 h2=>(intro _ _;exact .im h1 h2)|bW=>(intro hf;simp[flat]at hf)|gi=>(intro _ _;exact .gi)|sl h1 h2 h3 h4 h5 _=>(intro _ _;exact .sl h1 h2 h3 h4 h5)|aP h1 h2 h3 _=>(intro _ _;exact .aP h1 h2 h3)|iA _ _=>(intro hf;simp[flat]at hf)|rs _ _ _=>(intro hf;simp[flat]at hf)|mp _=>(intro hf;simp[flat]at hf)|fn _ _ ih1 ih2=>(intro hf _;simp only[flat,Ha]at hf;exact .fn (ih1 (by simpa[flat]using hf.1) _) (ih2 (by simpa[flat]using hf.2) _))|nil=>(intro _ _;exact .nil)|cons _ _ ih1 ih2=>(intro hf _;simp only[flat,cT,Ha]at hf;exact .cons (ih1 hf.1 _) (ih2 (by simpa[flat]using hf.2) _))|aI _ ih=>(intro hf _;exact .aI (ih (by simpa[flat]using hf) _))|jB=>(intro _ _;exact .jB)|own h0 h1 h2 h3 h4 h5 _ ih=>(intro hf _;simp only[flat]at hf;exact .own h0 h1 h2 h3 h4 h5 (ih (by simpa[flat]using E6 _ hf) _))|kj h0 h1 h2 h3 h5 _ ih=>(intro hf _;simp only[flat]at hf;exact .kj h0 h1 h2 h3 h5 (ih (by simpa[flat]using E6 _ hf) _))|bf h1 h2 h3 _ ih=>(intro hf _;simp only[flat]at hf;exact .bf h1 h2 h3 (ih (by simpa[flat]using hf) _))|qf _ _=>(intro hf;simp[flat]at hf)|qe=>(intro hf;simp[flat]at hf)|aF=>intro _ _;exact .aF
def A9(w:World)(I:Nat->Prop)(β:Id->Option Loc)(F:Id->List Nat)(p:U->Option (U×List Id)):Prop:=∀a x,p a=some x->∀f v,R w I β f v a->∃fp rest,R w I br fp v x.1∧(fp++rest).Perm (f++x.2.flatMap F)
variable{β:Id->Option Loc}{F:Id->List Nat}
theorem rT{k7 r1 jq r2 f1 g1 f2 g2:List Nat}(h1:(k7++r1).Perm (f1++g1))(h2:(jq++r2).Perm (f2++g2)):((k7++jq)++(r1++r2)).Perm ((f1++f2)++(g1++g2)):=by rw[H4]at h1 h2|-;intro a;have:=h1 a;have:=h2 a;simp only[H5]at*;omega
theorem N6{p:U->Option (U×List Id)}(hp:A9 w I β F p):∀{cs:List U}{x},eu p cs=some x->∀{f vs},an w I β f vs cs->x.1.length=cs.length∧∃fp rest,an w I br fp vs x.1∧(fp++rest).Perm (f++x.2.flatMap F)|[],x,h,f,vs,hr=>by{simp[eu]at h;subst h;obtain⟨rfl,rfl⟩:=hr.fc;exact⟨rfl,[],[], .nil,by simp⟩}|c::cs,x,h,f,vs,hr=>by simp only[eu,Hd,GE]at h;obtain⟨y,hy,z,hz,rfl⟩:=h;obtain⟨f1,f2,v,vs',rfl,rfl,h1,h2⟩:=hr.cons_inv;obtain⟨k7,r1,g1,g2⟩:=hp _ _ hy _ _ h1;obtain⟨hl,jq,r2,g3,g4⟩:=N6 hp hz h2;refine⟨by simp[hl],k7++jq,r1++r2, .cons g1 g3, ?_⟩;simp only[IH];exact rT g2 g4
theorem Gg{p:U->Option (U×List Id)}(hp:A9 w I β F p){cs:List U}{x}(h:iM p cs=some x){f vs}(hr:an w I β f vs cs):x.1.length=cs.length∧∃fp rest,an w I br fp vs x.1∧(fp++rest).Perm (f++x.2.flatMap F):=by unfold iM at h;split at h;·{rename_i hf;simp at h;subst h;exact⟨rfl,f,[],R.kF hr (by simpa[flat]using hf) _,by simp⟩};·exact N6 hp h hr
theorem N8{p:U->Option (U×List Id)}(hp:A9 w I β F p):∀{rs:Rows}{x},eS (iM p) rs=some x->∀{f vs},an w I β f vs rs.flatten->(x.1.length=rs.length∧∀sz,(∀r∈rs,r.length=sz)->∀r∈x.1,r.length=sz)∧∃fp rest,an w I br fp vs x.1.flatten∧(fp++rest).Perm (f++x.2.flatMap F)|[],x,h,f,vs,hr=>by{simp[eS]at h;subst h;obtain⟨rfl,rfl⟩:=hr.fc;exact⟨⟨rfl,fun _ _ _ h=>by cases h⟩,[],[], .nil,by simp⟩}|c::cs,x,h,f,vs,hr=>by simp only[eS,Hd,GE]at h;obtain⟨y,hy,z,hz,rfl⟩:=h;rw[Hb]at hr;obtain⟨f1,f2,v1,v2,rfl,rfl,h1,h2⟩:=an.split hr;obtain⟨l1,k7,r1,g1,g2⟩:=Gg hp hy h1;obtain⟨⟨l2,l3⟩,jq,r2,g3,g4⟩:=N8 hp hz h2;refine⟨⟨by simp[l2],fun sz hs r hr=> ?_⟩,k7++jq,r1++r2,g1.append g3, ?_⟩;·{rcases List.mem_cons.1 hr with rfl|hr;·{rw[l1];exact hs _ (Do ..)};·exact l3 sz (fun r hr=>hs r (GT _ hr)) r hr};·simp only[IH];exact rT g2 g4
theorem Q1{p:U->Option (U×List Id)}(hp:A9 w I β F p){rs:Rows}{x}(h:pL p rs=some x){f vs}(hr:an w I β f vs rs.flatten):(x.1.length=rs.length∧∀sz,(∀r∈rs,r.length=sz)->∀r∈x.1,r.length=sz)∧∃fp rest,an w I br fp vs x.1.flatten∧(fp++rest).Perm (f++x.2.flatMap F):=by unfold pL at h;split at h;·{rename_i hf;simp at h;subst h;exact⟨⟨rfl,fun _ h=>h⟩,f,[],R.kF hr (by simpa[flat]using E6 _ hf) _,by simp⟩};·exact N8 hp h hr
theorem E8{α:Type}(rs:List (List α))(n:Nat):rs.flatten=(rs.take n).flatten++(rs.drop n).flatten:=by rw[<-List.flatten_append,If]
theorem vm{L:Id->Option (Option Rows)}(hL:∀id rows,L id=some (some rows)->dx w I β id rows (F id)):∀n,A9 w I β F (pk L n)|0=>fun a x h=>by{simp[pk]at h}|n+1=>fun a x h f v hr=>by have ih:=vm hL n;cases a with|rs id off len=>(simp only[pk]at h;split at h;·{rename_i rs hid;split at h;·{rename_i hc;simp only[GE]at h;obtain⟨y,hy,rfl⟩:=h;obtain⟨rfl,hc⟩:=hc;obtain⟨rfl,hv⟩:=hr.mZ;rcases hL id rs hid with⟨hb,rfl,hF⟩|⟨bm,hb,_⟩|⟨b,o,sz,n',vs,cx,hb,hF,od,⟨hne,hsz⟩,hle,bz,hrl⟩;rotate_left;·{rcases hv with⟨a,l,rfl,rfl,hb',hl⟩|⟨b,o,sz,n',cap,hb',_⟩;·{rw[hb]at hb';cases hb';cases hl};·rw[hb]at hb';cases hb'};rotate_left;·{have hy0:y=([],[]):=by{simpa[pL,eB]using hy.symm};subst hy0;simp only[List.length_nil]at hc;rcases hv with⟨a,l,rfl,rfl,_⟩|⟨b,o,sz,n',cap,hb',_⟩;·{exact⟨[],[], .jB,by simp[hF]⟩};·rw[hb]at hb';cases hb'};·obtain⟨⟨l1,l2⟩,fp,rest,g1,g2⟩:=Q1 ih hy hrl;have hlen:0<rs.length:=List.length_pos_iff.2 hne;have Pj:y.1≠[]:=fun e=>by{rw[e]at l1;simp at l1;omega};have Cp:((b::fp)++rest).Perm ([]++(id::y.2).flatMap F):=by{rw[List.perm_iff_count]at g2|-;intro x;have:=g2 x;simp only[List.flatMap_cons,List.nil_append,hF,List.count_append,List.count_cons,List.cons_append]at*;omega};rcases hv with⟨a,l,rfl,rfl,_⟩|⟨b',o',sz',Kh,cap,hb',hle',hcap,rfl⟩;·{exact⟨b::fp,rest, .kj Pj (l2 sz hsz) od (by rw[l1];exact hle) bz g1,Cp⟩};·rw[hb]at hb';simp only[Option.some.injEq,Loc.blk.injEq]at hb';obtain⟨rfl,rfl,rfl,rfl⟩:=hb';refine⟨b::fp,rest, ?_,Cp⟩;have:=R.own (w:=w) (I:=I) (β:=br) (cap:=cap) (o:=o) (rows:=y.1) (len:=len) Pj (l2 sz hsz) od ⟨by simpa using hle',by rw[l1];exact hle⟩ ⟨by omega,by omega⟩ bz g1;simpa using this};·cases h};·cases h)|mp id row off=>(simp only[pk]at h;split at h;·{rename_i cs hid;split at h;·{rename_i hc;obtain⟨rfl,rfl⟩:=hc;simp only[GE]at h;obtain⟨y,hy,rfl⟩:=h;obtain⟨rfl,b',o',sz',n',hb',rfl⟩:=hr.mR;rcases hL id [cs] hid with⟨hb,h0,hF⟩|⟨bm,hb,_⟩|⟨b,o,sz,n',vs,cx,hb,hF,od,⟨hne,hsz⟩,hle,bz,hrl⟩;·{cases h0};·{rw[hb]at hb';cases hb'};·rw[hb]at hb';simp only[AC,Loc.blk.injEq]at hb';obtain⟨rfl,rfl,rfl,rfl⟩:=hb';simp only[Hb,Ix,Hm]at hrl;obtain⟨l1,fp,rest,g1,g2⟩:=Gg ih hy hrl;have:=hsz cs (by simp);refine⟨b::fp,rest, ?_, ?_⟩;·{have:=R.bf (w:=w) (I:=I) (β:=br) (cells:=y.1) od (by simp at hle;omega) bz g1;simpa using this};·rw[H4]at g2|-;intro x;have:=g2 x;simp only[List.flatMap_cons,Hc,hF,H5,List.count_cons,Kd]at*;omega};·cases h};·cases h)|bW=>(simp only[pk,AC]at h;subst h;obtain⟨rfl,a,rfl⟩:=hr.yd;exact⟨[],[], .jB,by simp⟩)|agg cs=>(simp only[pk,GE]at h;obtain⟨y,hy,rfl⟩:=h;obtain⟨vs,rfl,hl⟩:=hr.oR;exact(Gg ih hy hl).2)|aI cs=>(simp only[pk,GE]at h;obtain⟨y,hy,rfl⟩:=h;obtain⟨vs,rfl,hl⟩:=hr.AW;obtain⟨_,fp,rest,g1,g2⟩:=Gg ih hy hl;exact⟨fp,rest, .aI g1,g2⟩)|fn k a b=>(simp only[pk]at h;split at h;·{rename_i hi;simp only[AC]at h;subst h;simp only[Ha]at hi;obtain⟨rfl,vs,cs,rfl,h1,h2⟩:=hr.mH;exact⟨[],[], .fn (h1.nF hi.1) (h2.nF hi.2),by simp⟩};·cases h)|c6 g y=>(simp only[pk,AC]at h;subst h;exact⟨[],f, .aF,by simp⟩)|own rs len=>(simp only[pk]at h;split at h;·{rename_i hf;simp only[AC]at h;subst h;exact⟨f,[],hr.kF (by simpa[flat]using hf) _,by simp⟩};·cases h)|bf cs=>(simp only[pk]at h;split at h;·{rename_i hf;simp only[AC]at h;subst h;exact⟨f,[],hr.kF (by simpa[flat]using hf) _,by simp⟩};·cases h)|val u=>(simp only[pk,AC]at h;subst h;exact⟨f,[],hr.kF rfl _,by simp⟩)|nn=>(simp only[pk,AC]at h;subst h;exact⟨f,[],hr.kF rfl _,by simp⟩)|mr id=>(simp only[pk]at h;split at h;·{rename_i rs hid;simp only[AC]at h;subst h;obtain⟨rfl,b,hb',rfl⟩:=hr.CS;rcases hL id rs hid with⟨hb,_⟩|⟨b2,hb,hF,hm⟩|⟨b2,o,sz,n',vs,cx,hb,_⟩;·{rw[hb]at hb';cases hb'};·{rw[hb]at hb';cases hb';exact⟨[b],[], .ey hm,by simp[hF]⟩};·rw[hb]at hb';cases hb'};·cases h)|ey rows=>(simp only[pk,AC]at h;subst h;exact⟨f,[],hr.kF rfl _,by simp⟩)|im rows=>(simp only[pk,AC]at h;subst h;exact⟨f,[],hr.kF rfl _,by simp⟩)|sl rows=>(simp only[pk,AC]at h;subst h;exact⟨f,[],hr.kF rfl _,by simp⟩)|aP cells=>(simp only[pk,AC]at h;subst h;exact⟨f,[],hr.kF rfl _,by simp⟩)|bM i rs=>(cases hr)|bl u=>(cases hr)|aF=>simp only[pk,AC]at h;subst h;exact⟨f,[],hr.kF rfl _,by simp⟩
/-! ### Borrowing -/
def A2(w:World)(I:Nat->Prop)(β:Id->Option Loc)(F:Id->List Nat)(p:U->Option (U×List Id)):Prop:=∀a x,p a=some x->∀f v,R w I β f v a->∀I':Nat->Prop,(∀b,I b->I' b)->(∀b∈f,I' b)->(∀id∈x.2,∀b∈F id,I' b)->R w I' br [] v x.1
theorem R.pn{f:List Nat}{v:Value}{a:U}(h:R w I β f v a)(hi:e9 a=true){I':Nat->Prop}(hI:∀b,I b->I' b):R w I' br [] v a:=by have e:=h.JQ hi;subst e;exact(h.nF hi).mono hI (fun _ _=>rfl) (fun _ _ h=>h)
theorem Hp{p:U->Option (U×List Id)}(hp:A2 w I β F p):∀{cs:List U}{x},eu p cs=some x->∀{f vs},an w I β f vs cs->x.1.length=cs.length∧∀I':Nat->Prop,(∀b,I b->I' b)->(∀b∈f,I' b)->(∀id∈x.2,∀b∈F id,I' b)->an w I' br [] vs x.1|[],x,h,f,vs,hr=>by{simp[eu]at h;subst h;obtain⟨rfl,rfl⟩:=hr.fc;exact⟨rfl,fun _ _ _ _=> .nil⟩}|c::cs,x,h,f,vs,hr=>by simp only[eu,Hd,GE]at h;obtain⟨y,hy,z,hz,rfl⟩:=h;obtain⟨f1,f2,v,vs',rfl,rfl,h1,h2⟩:=hr.cons_inv;obtain⟨hl,g3⟩:=Hp hp hz h2;refine⟨by simp[hl],fun I' i1 i2 i3=> ?_⟩;exact R.cons (f1:=[]) (f2:=[]) (hp _ _ hy _ _ h1 I' i1 (fun b hb=>i2 b (List.mem_append.2 (.inl hb))) fun id hid=>i3 id (List.mem_append.2 (.inl hid))) (g3 I' i1 (fun b hb=>i2 b (List.mem_append.2 (.inr hb))) fun id hid=>i3 id (List.mem_append.2 (.inr hid)))
theorem vX{p:U->Option (U×List Id)}(hp:A2 w I β F p){cs:List U}{x}(h:j3 p cs=some x){f vs}(hr:an w I β f vs cs):x.1.length=cs.length∧∀I':Nat->Prop,(∀b,I b->I' b)->(∀b∈f,I' b)->(∀id∈x.2,∀b∈F id,I' b)->an w I' br [] vs x.1:=by unfold j3 at h;split at h;·{rename_i hf;simp at h;subst h;exact⟨rfl,fun I' i1 _ _=>R.pn hr (by simpa[e9]using hf) i1⟩};·exact Hp hp h hr
theorem MR{p:U->Option (U×List Id)}(hp:A2 w I β F p):∀{rs:Rows}{x},eS (j3 p) rs=some x->∀{f vs},an w I β f vs rs.flatten->(x.1.length=rs.length∧∀sz,(∀r∈rs,r.length=sz)->∀r∈x.1,r.length=sz)∧∀I':Nat->Prop,(∀b,I b->I' b)->(∀b∈f,I' b)->(∀id∈x.2,∀b∈F id,I' b)->an w I' br [] vs x.1.flatten|[],x,h,f,vs,hr=>by{simp[eS]at h;subst h;obtain⟨rfl,rfl⟩:=hr.fc;exact⟨⟨rfl,fun _ _ _ h=>by cases h⟩,fun _ _ _ _=> .nil⟩}|c::cs,x,h,f,vs,hr=>by simp only[eS,Hd,GE]at h;obtain⟨y,hy,z,hz,rfl⟩:=h;rw[Hb]at hr;obtain⟨f1,f2,v1,v2,rfl,rfl,h1,h2⟩:=an.split hr;obtain⟨l1,g1⟩:=vX hp hy h1;obtain⟨⟨l2,l3⟩,g3⟩:=MR hp hz h2;refine⟨⟨by simp[l2],fun sz hs r hr=> ?_⟩,fun I' i1 i2 i3=> ?_⟩;·{rcases List.mem_cons.1 hr with rfl|hr;·{rw[l1];exact hs _ (Do ..)};·exact l3 sz (fun r hr=>hs r (GT _ hr)) r hr};·have:=(g1 I' i1 (fun b hb=>i2 b (List.mem_append.2 (.inl hb))) fun id hid=>i3 id (List.mem_append.2 (.inl hid))).append (g3 I' i1 (fun b hb=>i2 b (List.mem_append.2 (.inr hb))) fun id hid=>i3 id (List.mem_append.2 (.inr hid)));simpa using this
theorem MV{p:U->Option (U×List Id)}(hp:A2 w I β F p){rs:Rows}{x}(h:oS p rs=some x){f vs}(hr:an w I β f vs rs.flatten):(x.1.length=rs.length∧∀sz,(∀r∈rs,r.length=sz)->∀r∈x.1,r.length=sz)∧∀I':Nat->Prop,(∀b,I b->I' b)->(∀b∈f,I' b)->(∀id∈x.2,∀b∈F id,I' b)->an w I' br [] vs x.1.flatten:=by unfold oS at h;split at h;·{rename_i hf;simp at h;subst h;exact⟨⟨rfl,fun _ h=>h⟩,fun I' i1 _ _=>R.pn hr (by simpa[e9]using JP _ hf) i1⟩};·exact MR hp h hr
theorem Hw{L:Id->Option (Option Rows)}(hL:∀id rows,L id=some (some rows)->dx w I β id rows (F id)):∀n,A2 w I β F (ct L n)
 |0=>fun a x h=>by simp[ct]at h
 |n+1=>fun a x h f v hr I' i1 i2 i3=>by
  have ih:=Hw hL n
  cases a with
  |rs id off len=>
   simp only[ct]at h
   split at h
   ·rename_i rs hid
    split at h
    ·rename_i hc
     simp only[GE]at h
     obtain⟨y,hy,rfl⟩:=h
     obtain⟨rfl,hv⟩:=hr.mZ
     have Cm:len=0->y.1=[]:=fun h0=>by
      have :=congrArg H0 (show(rs.drop off).take len=[]by rw[h0];rfl)
      rw[h0,Lk]at hy
      simp[oS,j9]at hy
      rw[<-hy]
     rcases hv with⟨a,l,rfl,rfl,_⟩|⟨b',o',sz',Kh,cap,hb',hle',hcap,rfl⟩
     ·rw[Cm rfl];exact .gi
     ·rcases Nat.eq_zero_or_pos len with h0|h0
      ·subst h0;rw[Cm rfl];exact .gi
      ·rcases hL id rs hid with⟨hb,rfl,hF⟩|⟨bm,hb,_⟩|⟨b,o,sz,n',vs,cx,hb,hF,od,⟨hne,hsz⟩,hle,bz,hrl⟩
       ·simp at hc;omega
       ·rw[hb]at hb';cases hb'
       ·rw[hb]at hb'
        simp only[AC,Loc.blk.injEq]at hb'
        obtain⟨rfl,rfl,rfl,rfl⟩:=hb'
        have hsp:rs.flatten=(rs.take off).flatten++(((rs.drop off).take len).flatten++((rs.drop off).drop len).flatten):=by
         rw[<-E8 (rs.drop off) len,<-E8 rs off]
        rw[hsp]at hrl
        obtain⟨f1,f23,v1,v23,rfl,rfl,h1,h23⟩:=an.split hrl
        obtain⟨f2,f3,v2,v3,rfl,rfl,h2,h3⟩:=an.split h23
        have CM:=h1.length
        rw[k5 (sz:=sz) (fun r hr=>hsz r (Hn hr)),Hk,H1 (by omega)]at CM
        obtain⟨⟨l1,l2⟩,g⟩:=MV ih hy h2
        have rH:y.1.length=len:=by rw[l1,Hk,List.length_drop];omega
        have hin:∀x∈F id,I' x:=i3 id (Do ..)
        have g':=g I' i1 (fun x hx=>hin x (by rw[hF];simp[hx])) fun id hid=>i3 id (GT _ hid)
        have wI:e3 w b (o+off*sz) v2:=by
         have :=(bz.drop v1.length).take v2.length
         rw[Nm,H2,CM]at this
         exact this
        have :=R.sl (β:=br) (cap:=cap) (l2 sz fun r hr=>hsz r (List.mem_of_mem_drop (Hn hr))) (hin b (by rw[hF];simp)) wI (by omega) g'
        rw[rH]at this
        exact this
    ·cases h
   ·cases h
  |mp id row off=>
   simp only[ct]at h
   split at h
   ·rename_i rs hid
    split at h
    ·rename_i r hrow
     split at h
     ·rename_i hoff
      simp only[GE]at h
      obtain⟨y,hy,rfl⟩:=h
      obtain⟨rfl,b',o',sz',n',hb',rfl⟩:=hr.mR
      rcases hL id rs hid with⟨hb,h0,hF⟩|⟨bm,hb,_⟩|⟨b,o,sz,n',vs,cx,hb,hF,od,⟨hne,hsz⟩,hle,bz,hrl⟩
      ·subst h0;simp at hrow
      ·rw[hb]at hb';cases hb'
      ·rw[hb]at hb'
       simp only[AC,Loc.blk.injEq]at hb'
       obtain⟨rfl,rfl,rfl,rfl⟩:=hb'
       obtain⟨hsp,hlt⟩:=Lc hrow
       have O9:r.length=sz:=hsz r (List.mem_of_getElem? hrow)
       have hsp:rs.flatten=((rs.take row).flatten++r.take off)++(r.drop off++(rs.drop (row+1)).flatten):=by
        have e:r.take off++(r.drop off++(rs.drop (row+1)).flatten)=r++(rs.drop (row+1)).flatten:=by rw[<-PH,If]
        rw[PH,e]
        conv=>lhs;rw[hsp]
        simp
       rw[hsp]at hrl
       obtain⟨f1,f23,v1,v23,rfl,rfl,h1,h23⟩:=an.split hrl
       obtain⟨f2,f3,v2,v3,rfl,rfl,h2,h3⟩:=an.split h23
       have CM:=h1.length
       rw[PP,k5 (sz:=sz) (fun r hr=>hsz r (Hn hr)),Hk,Hk,H1 (by omega),H1 hoff]at CM
       obtain⟨_,g⟩:=vX ih hy h2
       have hin:∀x∈F id,I' x:=i3 id (Do ..)
       have g':=g I' i1 (fun x hx=>hin x (by rw[hF];simp[hx])) fun id hid=>i3 id (GT _ hid)
       have wI:e3 w b (o+row*sz+off) v2:=by
        have :=(bz.drop v1.length).take v2.length
        rw[Nm,H2,CM,<-Nat.add_assoc]at this
        exact this
       exact .aP (hin b (by rw[hF];simp)) wI g'
     ·cases h
    ·cases h
   ·cases h
  |bW=>
   simp only[ct,AC]at h;subst h
   obtain⟨rfl,a,rfl⟩:=hr.yd
   exact .gi
  |agg cs=>
   simp only[ct,GE]at h
   obtain⟨y,hy,rfl⟩:=h
   obtain⟨vs,rfl,hl⟩:=hr.oR
   exact(vX ih hy hl).2 I' i1 i2 i3
  |aI cs=>
   simp only[ct,GE]at h
   obtain⟨y,hy,rfl⟩:=h
   obtain⟨vs,rfl,hl⟩:=hr.AW
   exact .aI ((vX ih hy hl).2 I' i1 i2 i3)
  |fn k a b=>
   simp only[ct,GE,Hd]at h
   obtain⟨y,hy,z,hz,rfl⟩:=h
   obtain⟨rfl,vs,cs,rfl,h1,h2⟩:=hr.mH
   exact .fn ((vX ih hy h1).2 I' i1 (fun _ h=>by cases h) fun id hid=>i3 id (List.mem_append.2 (.inl hid))) ((vX ih hz h2).2 I' i1 (fun _ h=>by cases h) fun id hid=>i3 id (List.mem_append.2 (.inr hid)))
  |c6 g y=>
   simp only[ct,AC]at h;subst h
   exact .aF
  |own rs len=>
   simp only[ct,GE]at h
   obtain⟨y,hy,rfl⟩:=h
   cases hr with
   |jB=>
    have :y=([],[]):=by simpa[oS,j9]using hy.symm
    subst this;exact .gi
   |kj _ _ _ _ _ _=>
    have :y=([],[]):=by simpa[oS,j9]using hy.symm
    subst this;exact .gi
   | @own _ b o sz cap n len cx iO _ g0 g1 g2 g3 g4 g5 g6=>
    rw[E8 rs len]at g6
    obtain⟨f1,f2,v1,v2,rfl,rfl,h1,h2⟩:=an.split g6
    obtain⟨⟨l1,l2⟩,g⟩:=MV ih hy h1
    have g':=g I' i1 (fun b hb=>i2 b (GT _ (List.mem_append.2 (.inl hb)))) i3
    have IQ:e3 w b o v1:=by
     have :=g5.take v1.length
     rwa[H2]at this
    have rH:y.1.length=len:=by rw[l1,Hk];omega
    have :=R.sl (β:=br) (cap:=cap) (l2 sz fun r hr=>g1 r (Hn hr)) (i2 b (Do ..)) IQ (by omega) g'
    rw[rH]at this
    exact this
  |bf cs=>
   simp only[ct,GE]at h
   obtain⟨y,hy,rfl⟩:=h
   cases hr with
   | @bf _ b o n cx iO _ g2 g3 g5 g6=>
    obtain⟨_,g⟩:=vX ih hy g6
    exact .aP (i2 b (Do ..)) g5 (g I' i1 (fun b hb=>i2 b (GT _ hb)) i3)
  |val u=>
   simp only[ct,AC]at h;subst h
   exact hr.pn rfl i1
  |nn=>
   simp only[ct,AC]at h;subst h
   exact hr.pn rfl i1
  |mr id=>
   simp only[ct]at h
   split at h
   ·rename_i rs hid
    simp only[AC]at h;subst h
    obtain⟨rfl,b,hb',rfl⟩:=hr.CS
    rcases hL id rs hid with⟨hb,_⟩|⟨b2,hb,hF,hm⟩|⟨b2,o,sz,n',vs,cx,hb,_⟩
    ·rw[hb]at hb';cases hb'
    ·rw[hb]at hb';cases hb'
     exact .im (i3 id (Do ..) b (by rw[hF];simp)) hm
    ·rw[hb]at hb';cases hb'
   ·cases h
  |ey rows=>
   simp only[ct,AC]at h;subst h
   obtain⟨b,rfl,rfl,hm⟩:=hr.KF
   exact .im (i2 b (Do ..)) hm
  |im rows=>
   simp only[ct,AC]at h;subst h
   exact hr.pn rfl i1
  |sl rows=>
   simp only[ct,AC]at h;subst h
   exact hr.pn rfl i1
  |aP cells=>
   simp only[ct,AC]at h;subst h
   exact hr.pn rfl i1
  |bM i rs=>cases hr
  |bl u=>cases hr
  |aF=>
   simp only[ct,AC]at h;subst h
   exact .aF
/-! ### Nothing but its own -/
theorem Kc:∀rows:Rows,FV rows=true->l7 rows.flatten=true|[],_=>by{simp[l7]}|r::rs,h=>by simp only[FV,Ha]at h;have:∀a b:List U,l7 (a++b)=(l7 a&&l7 b):=fun a b=>by{induction a with|nil=>(simp[l7])|cons c cs ih=>simp[l7,ih,H3]};rw[Hb,this,h.1,Kc rs h.2];rfl
theorem R.mine{f:List Nat}{v:Value}{a:U}(h:R w I β f v a):mine a=true->∀I':Nat->Prop,R w I' β f v a:=by induction h with|val h=>(intro _ _;exact .val h)|nn=>(intro _ _;exact .nn)|ey h=>(intro _ _;exact .ey h)|bW=>(intro _ _;exact .bW)|nil=>(intro _ _;exact .nil)|cons _ _ ih1 ih2=>(intro hf _;simp only[Ab.mine,l7,Ha]at hf;exact .cons (ih1 hf.1 _) (ih2 (by simpa[Ab.mine]using hf.2) _))|aI _ ih=>(intro hf _;exact .aI (ih (by simpa[Ab.mine]using hf) _))|jB=>(intro _ _;exact .jB)|own h0 h1 h2 h3 h4 h5 _ ih=>(intro hf _;simp only[Ab.mine]at hf;exact .own h0 h1 h2 h3 h4 h5 (ih (by simpa[Ab.mine]using Kc _ hf) _))|kj h0 h1 h2 h3 h5 _ ih=>(intro hf _;simp only[Ab.mine]at hf;exact .kj h0 h1 h2 h3 h5 (ih (by simpa[Ab.mine]using Kc _ hf) _))|bf h1 h2 h3 _ ih=>(intro hf _;simp only[Ab.mine]at hf;exact .bf h1 h2 h3 (ih (by simpa[Ab.mine]using hf) _))|aF=>(intro _ _;exact .aF)|_=>intro hf;simp[Ab.mine]at hf
/-! ### Freezing -/
theorem Zn(a b:List U):jr (a++b)=jr a++jr b:=by induction a with|nil=>(rfl)|cons c cs ih=>simp[jr,ih]
theorem Zo(a:List U):(jr a).length=a.length:=by induction a with|nil=>(rfl)|cons c cs ih=>simp[jr,ih]
theorem Ii:∀rows:Rows,(jK rows).flatten=jr rows.flatten|[]=>rfl|r::rs=>by simp[jK,Zn,Ii rs]
theorem Ij:∀rows:Rows,(jK rows).length=rows.length|[]=>rfl|r::rs=>by simp[jK,Ij rs]
theorem Ik:∀{rows:Rows}{r:List U},r∈jK rows->∃r'∈rows,r.length=r'.length|[],r,h=>by{simp[jK]at h}|c::rs,r,h=>by simp only[jK,List.mem_cons]at h;rcases h with rfl|h;·{exact⟨c,Do ..,Zo c⟩};·obtain⟨r',h1,h2⟩:=Ik h;exact⟨r',GT _ h1,h2⟩
theorem R.Zj{β:Id->Option Loc}{f:List Nat}{v:Value}{a:U}(h:R w I β f v a)(bg:β=br){I':Nat->Prop}(i1:∀b,I b->I' b):(∀b∈f,I' b)->R w I' br [] v (dy a):=by induction h with|val h=>(intro _;exact .val h)|nn=>(intro _;exact .nn)|mr h=>(subst bg;cases h)|ey h=>(intro h2;exact .im (h2 _ (Do ..)) h)|im h1 h2=>(intro _;exact .im (i1 _ h1) h2)|bW=>(intro _;exact .bW)|gi=>(intro _;exact .gi)|sl h1 h2 h3 h4 h5 _=>(intro _;exact .sl h1 (i1 _ h2) h3 h4 (h5.mono i1 (fun _ _=>rfl) (fun _ _ h=>h)))|aP h1 h2 h3 _=>(intro _;exact .aP (i1 _ h1) h2 (h3.mono i1 (fun _ _=>rfl) (fun _ _ h=>h)))|iA h _=>(subst bg;cases h)|rs h _ _=>(subst bg;cases h)|mp h=>(subst bg;cases h)|fn h1 h2 _ _=>(intro _;subst bg;exact .fn (h1.mono i1 (fun _ _=>rfl) (fun _ _ h=>h)) (h2.mono i1 (fun _ _=>rfl) (fun _ _ h=>h)))|nil=>(intro _;exact .nil)|cons _ _ ih1 ih2=>(intro h;exact R.cons (f1:=[]) (f2:=[]) (ih1 bg fun b hb=>h b (List.mem_append.2 (.inl hb))) (ih2 bg fun b hb=>h b (List.mem_append.2 (.inr hb))))|aI _ ih=>(intro h;exact .aI (ih bg h))|jB=>(intro _;exact .gi)|kj _ _ _ _ _ _=>(intro _;simp only[Ab.dy,Lk];exact .gi)| @own _ b o sz cap n len cx iO rows h0 h1 h2 h3 h4 h5 _ ih=>(intro h;have g:=ih bg fun b hb=>h b (GT _ hb);simp only[Ab.dy]at g|-;rw[<-Ii,E8 (jK rows) len]at g;obtain⟨f1,f2,v1,v2,e1,e2,g1,g2⟩:=an.split g;obtain rfl:f1=[]:=(List.append_eq_nil_iff.1 e1.symm).1;have IQ:e3 w b o v1:=by{rw[e2]at h5;have:=h5.take v1.length;rwa[List.take_left]at this};have hl:((jK rows).take len).length=len:=by{rw[List.length_take,Ij];omega};have:=R.sl (w:=w) (β:=br) (cap:=cap) (o:=o) (rows:=(jK rows).take len) (fun r hr=>by obtain⟨r',m1,m2⟩:=Ik (List.mem_of_mem_take hr);rw[m2];exact h1 r' m1) (h b (List.mem_cons_self ..)) IQ (by omega) g1;rw[hl]at this;exact this)|bf h1 h2 h3 _ ih=>(intro h;have g:=ih bg fun b hb=>h b (GT _ hb);exact .aP (h _ (Do ..)) h3 g)|qf h _=>(intro _;subst bg;exact .qf (h.mono i1 (fun _ _=>rfl) (fun _ _ h=>h)))|qe=>(intro _;exact .qe)|aF=>intro _;exact .aF
theorem R.dy{f:List Nat}{v:Value}{a:U}(h:R w I br f v a){I':Nat->Prop}(i1:∀b,I b->I' b)(hf:∀b∈f,I' b):R w I' br [] v (dy a):=R.Zj h rfl i1 hf
end
open Go
def gz(w:World)(I:Nat->Prop)(β:Id->Option Loc)(f:List Nat)(N:Id->Prop)(Rel:(Id->Option Loc)->Prop)(l:List (Id×Option Rows)):Prop:=∃(β':Id->Option Loc)(G:Id->List Nat),(∀i l',β i=some l'->β' i=some l')∧(∀i,(∀x∈l,x.1≠i)->β' i=β i∧G i=[])∧Rel β'∧(∀x∈l,∃rows,x.2=some rows∧dx w I β' x.1 rows (G x.1))∧(∀i,(G i).Nodup∧∀b∈G i,b∈f)∧(∀i i' b,b∈G i->b∈G i'->i=i')∧(∀x∈l,N x.1)
section
variable{w:World}{I:Nat->Prop}{β:Id->Option Loc}
theorem gz.zero{f:List Nat}{N:Id->Prop}{Rel:(Id->Option Loc)->Prop}(h:Rel β):gz w I β f N Rel []:=⟨β,fun _=>[],fun _ _ h=>h,fun _ _=>⟨rfl,rfl⟩,h,(fun x hx=>by cases hx),(fun i=>⟨PQ,(fun b hb=>by cases hb)⟩),(fun i i' b hb=>by cases hb),(fun x hx=>by cases hx)⟩
theorem gz.weak{f f':List Nat}{N N':Id->Prop}{Rel Rel':(Id->Option Loc)->Prop}{l:List (Id×Option Rows)}(h:gz w I β f N Rel l)(hf:∀b∈f,b∈f')(hN:∀i,N i->N' i)(hR:∀β',(∀i l',β i=some l'->β' i=some l')->Rel β'->Rel' β'):gz w I β f' N' Rel' l:=by obtain⟨β',G,h1,h2,h3,h4,h5,h6,h7⟩:=h;exact⟨β',G,h1,h2,hR β' h1 h3,h4,fun i=>⟨(h5 i).1,fun b hb=>hf b ((h5 i).2 b hb)⟩,h6,fun x hx=>hN _ (h7 x hx)⟩
theorem gz.join{f1 f2:List Nat}{aZ cP:Id->Prop}{G2 Bf:(Id->Option Loc)->Prop}{l1 l2:List (Id×Option Rows)}(h2:gz w I β f2 cP Bf l2)(h1:∀eF,(∀i l',β i=some l'->eF i=some l')->(∀x∈l1,eF x.1=none)->gz w I eF f1 aZ G2 l1)(hfr:∀x∈l1,β x.1=none)(aab:∀x∈l1,aZ x.1)(hN:∀i,aZ i->cP i->False)(hf:∀b,b∈f1->b∈f2->False)(hm:∀eF cj,(∀i l',eF i=some l'->cj i=some l')->Bf eF->Bf cj):gz w I β (f1++f2) (fun i=>aZ i∨cP i) (fun β'=>G2 β'∧Bf β') (l1++l2):=by obtain⟨eF,sj,a1,a2,a3,a4,a5,a6,a7⟩:=h2;have hnot:∀x∈l1,∀y∈l2,y.1≠x.1:=fun x hx y hy e=>hN x.1 (aab x hx) (e▸a7 y hy);obtain⟨cj,nX,b1,b2,b3,b4,EB,VV,VW⟩:=h1 eF a1 (fun x hx=>by rw[(a2 x.1 (hnot x hx)).1];exact hfr x hx);have g1:∀y∈l2,nX y.1=[]:=fun y hy=>(b2 y.1 fun x hx e=>hnot x hx y hy e.symm).2;have g2:∀x∈l1,sj x.1=[]:=fun x hx=>(a2 x.1 (hnot x hx)).2;have either:∀i,nX i=[]∨sj i=[]:=fun i=>by{by_cases h:∃x∈l1,x.1=i;·{obtain⟨x,hx,rfl⟩:=h;exact .inr (g2 x hx)};·exact .inl (b2 i fun x hx e=>h ⟨x,hx,e⟩).2};refine⟨cj,fun i=>nX i++sj i,fun i l' h=>b1 i l' (a1 i l' h), ?_,⟨b3,hm _ _ b1 a3⟩, ?_, ?_, ?_, ?_⟩;·{intro i hi;obtain⟨e1,e2⟩:=b2 i fun x hx=>hi x (List.mem_append.2 (.inl hx));obtain⟨bh,e5⟩:=a2 i fun x hx=>hi x (List.mem_append.2 (.inr hx));exact⟨e1.trans bh,by simp[e2,e5]⟩};·{intro x hx;rcases List.mem_append.1 hx with hx|hx;·{simp only[g2 x hx,Hm];exact b4 x hx};·obtain⟨rows,e,h⟩:=a4 x hx;simp only[g1 x hx,Hc];exact⟨rows,e,h.mono (fun _ h=>h) (fun _ _=>rfl) b1⟩};·{intro i;refine⟨?_,fun b hb=> ?_⟩;·{rcases either i with h|h;·{simp only[h,Hc];exact(a5 i).1};·simp only[h,Hm];exact(EB i).1};·rcases List.mem_append.1 hb with hb|hb;·{exact List.mem_append.2 (.inl ((EB i).2 b hb))};·exact List.mem_append.2 (.inr ((a5 i).2 b hb))};·{intro i i' b hb hb';rcases List.mem_append.1 hb with hb|hb<;>rcases List.mem_append.1 hb' with hb'|hb';·{exact VV i i' b hb hb'};·{exact(hf b ((EB i).2 b hb) ((a5 i').2 b hb')).elim};·{exact(hf b ((EB i').2 b hb') ((a5 i).2 b hb)).elim};·exact a6 i i' b hb hb'};·intro x hx;rcases List.mem_append.1 hx with hx|hx;·{exact .inl (VW x hx)};·exact .inr (a7 x hx)
theorem GL{p:Id}{cs:List U}{j:Nat}{f:List Nat}{vs:List Value}(h:an w I β f vs cs)(hnd:f.Nodup)(hfr:∀x∈(bB p j cs).2,β x.1=none):gz w I β f (fun i=>∃k,j<=k∧i=k::p) (fun β'=>an w I β' [] vs (bB p j cs).1) (bB p j cs).2:=Sz p h hnd hfr
theorem Ga{p:Id}{rows:Rows}{a:U}{f:List Nat}{v:Value}(hnd:f.Nodup)(hfr:β p=none)(l:Loc)(hl:∀β':Id->Option Loc,(∀i l',β i=some l'->β' i=some l')->β' p=some l->R w I β' [] v a∧dx w I β' p rows f):gz w I β f (fun i=>i=p) (fun β'=>R w I β' [] v a) [(p,some rows)]:=by have up:∀i l',β i=some l'->aj β p (some l) i=some l':=fun i l' hl'=>by{by_cases hi:i=p;·{subst hi;rw[hfr]at hl';cases hl'};·simpa[aj,hi]using hl'};obtain⟨r1,r2⟩:=hl _ up (by simp[aj]);refine⟨aj β p (some l),aj (fun _=>[]) p f,up, ?_,r1, ?_, ?_, ?_, ?_⟩;·{intro i hi;have:i≠p:=fun e=>hi _ (Do ..) e.symm;simp[aj,this]};·{intro x hx;obtain rfl:=List.mem_singleton.1 hx;exact⟨rows,rfl,by simpa[aj]using r2⟩};·{intro i;by_cases hi:i=p;·{subst hi;simp[aj,hnd]};·simp[aj,hi]};·{intro i i' b hb hb';by_cases hi:i=p<;>by_cases hi':i'=p;·{rw[hi,hi']};·{simp[aj,hi']at hb'};·{simp[aj,hi]at hb};·simp[aj,hi]at hb};·intro x hx;obtain rfl:=List.mem_singleton.1 hx;rfl
theorem QV{p:Id}{rows:Rows}{len:Nat}{f:List Nat}{v:Value}(h:R w I β f v (.own rows len))(hnd:f.Nodup)(hfr:β p=none):gz w I β f (fun i=>i=p) (fun β'=>R w I β' [] v (.rs p 0 len)) [(p,some rows)]:=by cases h with|jB=>(exact Ga hnd hfr .nil fun β' _ hb=>⟨.iA hb rfl, .inl ⟨hb,rfl,rfl⟩⟩)| @own _ b o sz cap n _ cx iO _ g0 g1 g2 g3 g4 g5 g6=>(refine Ga hnd hfr (.blk b o sz n) fun β' up hb=>⟨?_, .inr (.inr ⟨b,o,sz,n,iO,cx,hb,rfl,g2,⟨g0,g1⟩,g3.2,g5,g6.mono (fun _ h=>h) (fun _ _=>rfl) up⟩)⟩;have:=R.rs (w:=w) (I:=I) (off:=0) (len:=len) (cap:=cap) hb (by simpa using g3.1) g4.1;simpa using this)| @kj _ a b o sz n cx iO _ g0 g1 g2 g3 g5 g6=>exact Ga hnd hfr (.blk b o sz n) fun β' up hb=>⟨.iA hb rfl, .inr (.inr ⟨b,o,sz,n,iO,cx,hb,rfl,g2,⟨g0,g1⟩,g3,g5,g6.mono (fun _ h=>h) (fun _ _=>rfl) up⟩)⟩
theorem QK{p:Id}{rows:Rows}{f:List Nat}{v:Value}(h:R w I β f v (.ey rows))(hnd:f.Nodup)(hfr:β p=none):gz w I β f (fun i=>i=p) (fun β'=>R w I β' [] v (.mr p)) [(p,some rows)]:=by obtain⟨b,rfl,rfl,hm⟩:=h.KF;exact Ga hnd hfr (.map b) fun β' _ hb=>⟨.mr hb, .inr (.inl ⟨b,hb,rfl,hm⟩)⟩
theorem aeV{p:Id}{cells:List U}{f:List Nat}{v:Value}(h:R w I β f v (.bf cells))(hnd:f.Nodup)(hfr:β p=none):gz w I β f (fun i=>i=p) (fun β'=>R w I β' [] v (.mp p 0 0)) [(p,some [cells])]:=by cases h with| @bf _ b o n cx iO _ g2 g3 g5 g6=>have up:∀i l',β i=some l'->aj β p (some (.blk b o cells.length n)) i=some l':=fun i l' hl'=>by{by_cases hi:i=p;·{subst hi;rw[hfr]at hl';cases hl'};·simpa[aj,hi]using hl'};refine⟨aj β p (some (.blk b o cells.length n)),aj (fun _=>[]) p (b::cx),up, ?_, ?_, ?_, ?_, ?_, ?_⟩;·{intro i hi;have:i≠p:=fun e=>hi _ (Do ..) e.symm;simp[aj,this]};·{have:=R.mp (w:=w) (I:=I) (β:=aj β p (some (.blk b o cells.length n))) (id:=p) (row:=0) (off:=0) (by simp[aj];exact⟨rfl,rfl,rfl,rfl⟩);simpa using this};·{intro x hx;obtain rfl:=List.mem_singleton.1 hx;exact⟨[cells],rfl, .inr (.inr ⟨b,o,cells.length,n,iO,cx,by simp[aj],by simp[aj],g2,⟨by simp,by simp⟩,by simpa using g3,g5,by simpa using g6.mono (fun _ h=>h) (fun _ _=>rfl) up⟩)⟩};·{intro i;by_cases hi:i=p;·{subst hi;simp only[aj,if_true];exact⟨hnd,fun _ h=>h⟩};·simp[aj,hi]};·{intro i i' b hb hb';by_cases hi:i=p<;>by_cases hi':i'=p;·{rw[hi,hi']};·{simp[aj,hi']at hb'};·{simp[aj,hi]at hb};·simp[aj,hi]at hb};·intro x hx;obtain rfl:=List.mem_singleton.1 hx;rfl
theorem aeW{p:Id}{cells:List U}{f:List Nat}{v:Value}(h:R w I β f v (.bf cells))(hnd:f.Nodup)(hfr:β p=none)(aaP:∀x∈(bB p 0 cells).2,β x.1=none):gz w I β f (fun i=>∃q,i=q++p) (fun β'=>R w I β' [] v (.mp p 0 0)) ((p,some [(bB p 0 cells).1])::(bB p 0 cells).2):=by cases h with| @bf _ b o n cx iO _ g2 g3 g5 g6=>have nD:cx.Nodup:=(List.nodup_cons.1 hnd).2;have hb:b∉cx:=(List.nodup_cons.1 hnd).1;obtain⟨eF,nX,a1,a2,a3,a4,a5,a6,a7⟩:=GL (p:=p) (j:=0) g6 nD aaP;have hnot:∀x∈(bB p 0 cells).2,x.1≠p:=fun x hx e=>by{obtain⟨k,_,e'⟩:=a7 x hx;rw[e]at e';exact absurd (congrArg H0 e') (by simp)};have JK:eF p=none:=by{rw[(a2 p hnot).1];exact hfr};have up:∀i l',eF i=some l'->aj eF p (some (.blk b o cells.length n)) i=some l':=fun i l' hl'=>by{by_cases hi:i=p;·{subst hi;rw[JK]at hl';cases hl'};·simpa[aj,hi]using hl'};have hlen:(bB p 0 cells).1.length=cells.length:=by{rw[<-a3.length,an.length g6]};refine⟨aj eF p (some (.blk b o cells.length n)),aj nX p [b],fun i l' h=>up i l' (a1 i l' h), ?_, ?_, ?_, ?_, ?_, ?_⟩;·{intro i hi;have h1:i≠p:=fun e=>hi _ (Do ..) e.symm;have:=a2 i fun x hx=>hi x (GT _ hx);simpa[aj,h1]using this};·{have:=R.mp (w:=w) (I:=I) (β:=aj eF p (some (.blk b o cells.length n))) (id:=p) (row:=0) (off:=0) (by simp[aj];exact⟨rfl,rfl,rfl,rfl⟩);simpa using this};·{intro x hx;rcases List.mem_cons.1 hx with rfl|hx;·{exact⟨_,rfl, .inr (.inr ⟨b,o,cells.length,n,iO,[],by simp[aj],by simp[aj],g2,⟨by simp,by simp[hlen]⟩,by simpa using g3,g5,by simpa using a3.mono (fun _ h=>h) (fun _ _=>rfl) up⟩)⟩};·obtain⟨rows,e,h⟩:=a4 x hx;refine⟨rows,e, ?_⟩;have:=h.mono (w':=w) (I':=I) (fun _ h=>h) (fun _ _=>rfl) up;simpa[aj,hnot x hx]using this};·{intro i;by_cases hi:i=p;·{subst hi;simp[aj]};·simp only[aj,hi,if_false];exact⟨(a5 i).1,fun b hb=>GT _ ((a5 i).2 b hb)⟩};·{intro i i' c hc oe;by_cases hi:i=p<;>by_cases hi':i'=p;·{rw[hi,hi']};·{simp[aj,hi,hi']at hc oe;subst hc;exact(hb ((a5 i').2 _ oe)).elim};·{simp[aj,hi,hi']at hc oe;subst oe;exact(hb ((a5 i).2 _ hc)).elim};·simp only[aj,hi,hi',if_false]at hc oe;exact a6 i i' c hc oe};·intro x hx;rcases List.mem_cons.1 hx with rfl|hx;·{exact⟨[],rfl⟩};·obtain⟨k,_,e⟩:=a7 x hx;exact⟨[k],by simpa using e⟩
theorem R.Oc{f:List Nat}{v:Value}{a:U}(h:R w I β f v a)(h1:∀l m,a≠ .own l m)(h2:∀l,a≠ .bf l)(h3:∀l,a≠ .agg l)(h4:∀l,a≠ .aI l)(h5:∀l,a≠ .ey l):f=[]:=by cases h<;>first|rfl|simp_all
theorem Pn(p:Id):∀{cs:List U}{j:Nat}{f:List Nat}{vs:List Value},an w I β f vs cs->f.Nodup->(∀x∈(eM p j cs).2,β x.1=none)->gz w I β f (fun i=>∃q k,j<=k∧i=q++k::p) (fun β'=>an w I β' [] vs (eM p j cs).1) (eM p j cs).2|[],j,f,vs,h,_,_=>by{obtain⟨rfl,rfl⟩:=h.fc;exact .zero .nil}|c::cs,j,f,vs,h,hnd,hfr=>by obtain⟨f1,f2,v,vs',rfl,rfl,h1,h2⟩:=an.cons_inv h;have oh:f2.Nodup:=(List.nodup_append.1 hnd).2.1;have rB:f1.Nodup:=(List.nodup_append.1 hnd).1;have uK:∀b,b∈f1->b∈f2->False:=fun b hb hb'=>(List.nodup_append.1 hnd).2.2 b hb b hb' rfl;have go:∀(x:U)(l:List (Id×Option Rows)),eM p j (c::cs)=(x::(eM p (j+1) cs).1,l++(eM p (j+1) cs).2)->(∀eF:Id->Option Loc,(∀i l',β i=some l'->eF i=some l')->(∀x∈l,eF x.1=none)->gz w I eF f1 (fun i=>∃q,i=q++j::p) (fun β'=>R w I β' [] v x) l)->(∀y∈l,∃q,y.1=q++j::p)->gz w I β (f1++f2) (fun i=>∃q k,j<=k∧i=q++k::p) (fun β'=>an w I β' [] (v::vs') (eM p j (c::cs)).1) (eM p j (c::cs)).2:=fun x l e hh hn=>by{rw[e]at hfr|-;simp only at hfr|-;have ih:=Pn p (j:=j+1) h2 oh (fun y hy=>hfr y (List.mem_append.2 (.inr hy)));refine(gz.join ih hh (fun y hy=>hfr y (List.mem_append.2 (.inl hy))) hn ?_ uK (fun eF cj up h=>h.mono (fun _ h=>h) (fun _ _=>rfl) up)).weak (fun _ h=>h) ?_ (fun β' _ h=>R.cons (f1:=[]) (f2:=[]) h.1 h.2);·{rintro i⟨q,rfl⟩⟨q',k,hk,e⟩;have hl:=congrArg H0 e;simp only[PP,List.length_cons]at hl;have:=(List.append_inj e (by omega)).2;simp at this;omega};·rintro i(⟨q,rfl⟩|⟨q,k,hk,rfl⟩);·{exact⟨q,j,Nat.le_refl _,rfl⟩};·exact⟨q,k,by omega,rfl⟩};cases c with|own rows=>(exact go _ [(j::p,some rows)] rfl (fun eF up hf=>(QV (h1.mono (fun _ h=>h) (fun _ _=>rfl) up) rB (hf _ (Do ..))).weak (N':=fun i=>∃q,i=q++j::p) (fun _ h=>h) (fun i e=>⟨[],e⟩) (fun _ _ h=>h)) (fun y hy=>⟨[],by rw[List.mem_singleton.1 hy];rfl⟩))|ey rows=>(exact go _ [(j::p,some rows)] rfl (fun eF up hf=>(QK (h1.mono (fun _ h=>h) (fun _ _=>rfl) up) rB (hf _ (Do ..))).weak (N':=fun i=>∃q,i=q++j::p) (fun _ h=>h) (fun i e=>⟨[],e⟩) (fun _ _ h=>h)) (fun y hy=>⟨[],by rw[List.mem_singleton.1 hy];rfl⟩))|bf cells=>(exact go _ [(j::p,some [cells])] rfl (fun eF up hf=>(aeV (h1.mono (fun _ h=>h) (fun _ _=>rfl) up) rB (hf _ (Do ..))).weak (N':=fun i=>∃q,i=q++j::p) (fun _ h=>h) (fun i e=>⟨[],e⟩) (fun _ _ h=>h)) (fun y hy=>⟨[],by rw[List.mem_singleton.1 hy];rfl⟩))|agg l=>(obtain⟨us,rfl,hl⟩:=h1.oR;have abd:∀y∈(bB (j::p) 0 l).2,∃q,y.1=q++j::p:=fun y hy=>by{obtain⟨_,_,_,_,_,_,_,_,a7⟩:=GL (p:=j::p) (j:=0) hl rB (fun x hx=>hfr x (List.mem_append.2 (.inl hx)));obtain⟨k,_,e⟩:=a7 y hy;exact⟨[k],by simpa using e⟩};refine go _ (bB (j::p) 0 l).2 rfl (fun eF up hf=> ?_) abd;have wP:an w I eF f1 us l:=hl.mono (fun _ h=>h) (fun _ _=>rfl) up;exact(GL wP rB hf).weak (fun _ h=>h) (fun i⟨k,_,e⟩=>⟨[k],by simpa using e⟩) (fun _ _ h=>h))|aI l=>(exact go _ [] rfl (fun eF _ _=> .zero .aF) (by simp))|_=>have zD:f1=[]:=h1.Oc (by simp) (by simp) (by simp) (by simp) (by simp);subst zD;exact go _ [] rfl (fun eF up _=> .zero (h1.mono (fun _ h=>h) (fun _ _=>rfl) up)) (by simp)
theorem CC(p:Id){a:U}{f:List Nat}{v:Value}(h:R w I β f v a)(hnd:f.Nodup)(hfr:∀x∈(imp p a).2,β x.1=none):gz w I β f (fun i=>∃q,i=q++p) (fun β'=>R w I β' [] v (imp p a).1) (imp p a).2:=by cases a with|own rows=>(exact(QV h hnd (hfr (p,some rows) (Do ..))).weak (N':=fun i=>∃q,i=q++p) (fun _ h=>h) (fun i e=>⟨[],e⟩) (fun _ _ h=>h))|ey rows=>(exact(QK h hnd (hfr (p,some rows) (Do ..))).weak (N':=fun i=>∃q,i=q++p) (fun _ h=>h) (fun i e=>⟨[],e⟩) (fun _ _ h=>h))|bf cells=>(exact aeW h hnd (hfr (p,some [(bB p 0 cells).1]) (Do ..)) (fun x hx=>hfr x (GT _ hx)))|agg l=>(obtain⟨us,rfl,hl⟩:=h.oR;exact(GL hl hnd hfr).weak (fun _ h=>h) (fun i⟨k,_,e⟩=>⟨[k],by simpa using e⟩) (fun _ _ h=>h))|aI l=>(obtain⟨us,rfl,hl⟩:=h.AW;exact(Pn p hl hnd hfr).weak (fun _ h=>h) (fun i⟨q,k,_,e⟩=>⟨q++[k],by simpa using e⟩) (fun _ _ h=> .aI h))|_=>have hf:f=[]:=h.Oc (by simp) (by simp) (by simp) (by simp) (by simp);subst hf;exact .zero h
end
open Go
def va:List Nat->List U->List (Id×Option Rows)|s::l,v::vs=>(imp [s] v).2++va l vs|_,_=>[]
theorem sd(h:Id->Option (Option Rows))(b:List (Id×Option Rows)):∀a,aN h (a++b)=aN (aN h b) a|[]=>rfl|(i,r)::l=>by simp[aN,sd h b l]
theorem CQ(n:Nat):∀(slots:List Nat)(bK:List U),(aA n slots bK).h=aN (fun _=>none) (va slots bK)|[],_=>rfl|_::_,[]=>rfl|s::l,v::vs=>by simp[aA,va,sd,CQ n l vs]
theorem Ag(n:Nat):∀(slots:List Nat)(bK:List U),(aA n slots bK).n=n|[],_=>rfl|_::_,[]=>rfl|s::l,v::vs=>rfl
theorem P3(n:Nat):∀(slots:List Nat)(bK:List U)(t:Nat),t∉slots->(aA n slots bK).t t= .aF|[],_,_,_=>rfl|_::_,[],_,_=>rfl|s::l,v::vs,t,h=>by have h1:t≠s:=fun e=>h (by simp[e]);have h2:t∉l:=fun e=>h (by simp[e]);simp only[aA,aj,h1,if_false];exact P3 n l vs t h2
section
variable{w:World}{I:Nat->Prop}
theorem Po(p:Id){a:U}{f:List Nat}{v:Value}(h:R w I br f v a)(hnd:f.Nodup):∀x∈(imp p a).2,∃q,x.1=q++p:=by obtain⟨_,_,_,_,_,_,_,_,a7⟩:=CC p h hnd (fun _ _=>rfl);exact a7
theorem P1(n:Nat)(g:Nat->Value):∀{slots:List Nat}{bK:List U}{f:List Nat},an w I br f (slots.map g) bK->slots.Nodup->f.Nodup->gz w I br f (fun i=>∃q s,s∈slots∧i=q++[s]) (fun β'=>∀s∈slots,R w I β' [] (g s) ((aA n slots bK).t s)) (va slots bK)|[],_,_,_,_,_=> .zero (fun s hs=>by cases hs)|s::l,bK,f,h,hs,hf=>by cases h with| @cons _ f1 f2 _ _ v vs h1 h2=>have oh:f2.Nodup:=(List.nodup_append.1 hf).2.1;have rB:f1.Nodup:=(List.nodup_append.1 hf).1;have uK:∀b,b∈f1->b∈f2->False:=fun b hb hb'=>(List.nodup_append.1 hf).2.2 b hb b hb' rfl;have jM:s∉l:=(List.nodup_cons.1 hs).1;have ih:=P1 n g h2 (List.nodup_cons.1 hs).2 oh;refine(gz.join (aZ:=fun i=>∃q,i=q++[s]) (G2:=fun β'=>R w I β' [] (g s) (imp [s] v).1) (l1:=(imp [s] v).2) ih (fun eF up hfr=>CC [s] (h1.mono (fun _ h=>h) (fun _ _=>rfl) up) rB hfr) (fun _ _=>rfl) (Po [s] h1 rB) ?_ uK ?_).weak (fun _ h=>h) ?_ ?_;·{rintro i⟨q,rfl⟩⟨q',s',hs',e⟩;have:=(List.append_inj' e rfl).2;simp at this;subst this;exact jM hs'};·{intro eF cj up h s' hs';exact(h s' hs').mono (fun _ h=>h) (fun _ _=>rfl) up};·{rintro i(⟨q,rfl⟩|⟨q,s',hs',rfl⟩);·{exact⟨q,s,Do ..,rfl⟩};·exact⟨q,s',GT _ hs',rfl⟩};·intro β' _⟨r1,r2⟩s' hs';rcases List.mem_cons.1 hs' with rfl|hs';·{simpa[aA,aj]using r1};·have hne:s'≠s:=fun e=>jM (e▸hs');simpa[aA,aj,hne]using r2 s' hs'
theorem ay.enter{C:ax}{E:Env}{a:Act}{n:Nat}{slots:List Nat}{bK:List U}{f:List Nat}(hn:a.tmps.size=n)(hdf:iP w (fun b=>I b∧E.m<=b) E.ds a.defers)(hr:an w I br f (slots.map (a.tmps.getD · undef)) bK)(hs:slots.Nodup)(hf:f.Nodup)
  (hI:∀b,I b->(E.cv b∨E.eA b∨E.w0.heap.size<=b)∧b<w.heap.size∧b∉f)(hlt:∀b∈f,b<w.heap.size∧(E.eA b∨E.w0.heap.size<=b))(hk:Kept E.w0 w E.eA)
  (hg:∀g cs,C.bS g=some cs->R w I br [] (.pointer (some ⟨g,0,none⟩)) (.aP cs))(abi:∀t,t<n->∀q,¬E.K (q++[t]):=by exact fun _ _ _ h=>h.elim)(Jw:∀s∈slots,∀q,¬E.K (q++[s]):=by exact fun _ _ _ h=>h.elim):aL C E (aA n slots bK) a w:=by
 obtain⟨β',G,a1,a2,a3,a4,a5,a6,a7⟩:=P1 n (a.tmps.getD · undef) hr hs hf
 have oc:∀b,I b->av E w G b:=fun b hb=>⟨(hI b hb).1,(hI b hb).2.1,fun id hm=>(hI b hb).2.2 ((a5 id).2 b hm)⟩
 refine⟨β',G,{n:=by rw[Ag];exact hn,df:=hdf.mono (fun b hb=>⟨oc b hb.1,hb.2⟩) (fun _ _=>rfl),slot:= ?_,obj:= ?_,dead:= ?_,nd:=fun id=>(a5 id).1,cR:=a6,dom:= ?_,lt:=fun id b hb=>hlt b ((a5 id).2 b hb),kept:=hk,bS:=fun g cs h=>(hg g cs h).mono oc (fun _ _=>rfl) xy,ns:=fun t ht=>abi t (by rw[Ag]at ht;exact ht),kb:=fun k rows hk hr=> ?_}⟩
 ·intro t
  by_cases ht:t∈slots
  ·exact(a3 t ht).mono oc (fun _ _=>rfl) (fun _ _ h=>h)
  ·rw[P3 n slots bK t ht];exact .aF
 ·intro id rows h
  rw[CQ]at h
  rcases fF (fun _=>none) (va slots bK) id with⟨x,hx,rfl,e⟩|⟨_,e⟩
  ·obtain⟨aT,e',h'⟩:=a4 x hx
   rw[e,e']at h
   simp at h;subst h
   exact h'.mono oc (fun _ _=>rfl) (fun _ _ h=>h)
  ·rw[e]at h;cases h
 ·intro id h
  rw[CQ]at h
  rcases fF (fun _=>none) (va slots bK) id with⟨x,hx,rfl,e⟩|⟨hx,e⟩
  ·obtain⟨aT,e',h'⟩:=a4 x hx
   rw[e,e']at h
   exact absurd rfl (h aT)
  ·exact(a2 id hx).2
 ·intro id h
  rw[CQ]at h
  rcases fF (fun _=>none) (va slots bK) id with⟨x,hx,rfl,e⟩|⟨hx,e⟩
  ·rw[e]at h;cases h
  ·exact(a2 id hx).1
 ·rw[CQ]at hr
  rcases fF (fun _=>none) (va slots bK) k with⟨x,hx,rfl,e⟩|⟨hx,e⟩
  ·obtain⟨q,s,hs',e'⟩:=a7 x hx
   rw[e']at hk
   exact absurd hk (Jw s hs' q)
  ·rw[e]at hr;cases hr
structure fo(l:List Nat):Prop where
 nd:l.Nodup
 no:gO∉l
theorem fo.nil:fo []:=⟨PQ,by simp⟩
theorem JR(q:Id)(s:Nat):iI (q++[s])=(s==gO):=by induction q with|nil=>(rfl)|cons a q ih=>cases q with|nil=>(rfl)|cons b q=>exact ih
theorem fo.CW{E:Env}{l:List Nat}(h:fo l):∀s∈l,∀q,¬E.K (q++[s]):=fun s hs q hk=>by have:=E.u5 _ hk;rw[JR,beq_iff_eq]at this;exact h.no (this▸hs)
end
open Go
def GR(P:Program)(f:FuncId)(args:Array Value)(w:World)(Post:Value->World->Prop):Prop:=(∃fn c,P.funcs[f]? =some fn∧fn.body=some c∧Calls P f args w fun e w'=>∃v,e= .returned v∧Post v w')∨(∃v w',(callFunc f args).run P w= .ok (.value v) w'∧Post v w')
def rI(bX:List Nat)(vs:List Value):List Value:=bX.map fun j=>vs.getD j undef
structure vO(w:World)(fp:List Nat)(cv:Nat->Prop)(ls:List Value)(r:U×List U)(v:Value)(w':World):Prop where kept:Kept w w' (·∈fp)ex:∃(I':Nat->Prop)(fr:List Nat),an w' I' br fr (v::ls) (r.1::r.2)∧fr.Nodup∧(∀b∈fr,b<w'.heap.size∧(b∈fp∨w.heap.size<=b))∧(∀b,I' b->(cv b∨b∈fp∨w.heap.size<=b)∧b<w'.heap.size∧b∉fr)
def pZ(C:ax)(f:FuncId)(args:List U)(r:U×List U):Prop:=∀(w:World)(cv:Nat->Prop)(fp:List Nat)(vs:List Value),an w cv br fp vs args->fp.Nodup->(∀b,cv b->b<w.heap.size∧b∉fp)->(∀b∈fp,b<w.heap.size)->(∀g cs,C.bS g=some cs->R w cv br [] (.pointer (some ⟨g,0,none⟩)) (.aP cs))->GR C.P f ⟨vs⟩ w (vO w fp cv (rI (C.bX f) vs) r)
def LK(P:Program)(f:FuncId)(args:Array Value)(w:World)(Post:Ending->World->Prop):Prop:=(∃fn c,P.funcs[f]? =some fn∧fn.body=some c∧Calls P f args w Post)∨(∃v w',(callFunc f args).run P w= .ok (.value v) w'∧Post (.returned v) w')
structure Eh(C:ax)(w:World)(cv:Nat->Prop)(β:Id->Option Loc)(G:Id->List Nat)(hl:List (Id×Rows))(vs:List Value)(as:List U):Prop where
 args:an w cv β [] vs as
 obj:∀k rows,(k,rows)∈hl->dx w cv β k rows (G k)
 out:∀k,k∉hl.map (·.1)->β k=none∧G k=[]
 nd:∀k,(G k).Nodup
 cR:∀i j b,b∈G i->b∈G j->i=j
 lt:∀k b,b∈G k->b<w.heap.size
 i0:∀b,cv b->b<w.heap.size∧∀k,b∉G k
 bS:∀g cs,C.bS g=some cs->R w cv br [] (.pointer (some ⟨g,0,none⟩)) (.aP cs)
def A4(w':World)(I':Nat->Prop)(β:Id->Option Loc)(fr:List Nat)(e:Ending):U->Prop| .bl u=>e= .panicked [{v:=u,recovered:=false}]∧fr=[]|r=>∃v,e= .returned v∧R w' I' β fr v r
structure Es(w:World)(cv:Nat->Prop)(β:Id->Option Loc)(G:Id->List Nat)(r:U×List U)(e:Ending)(w':World):Prop where
 kept:Kept w w' fun b=>∃k,b∈G k
 ex:∃(I':Nat->Prop)(G':Id->List Nat)(fr:List Nat),A4 w' I' β fr e r.1∧(∀k rows,U.bM k rows∈r.2->dx w' I' β k rows (G' k))∧(∀k,(∀rows,U.bM k rows∉r.2)->G' k=[])∧
  (∀k,(G' k).Nodup)∧(∀i j b,b∈G' i->b∈G' j->i=j)∧fr.Nodup∧(∀k b,b∈G' k->b∉fr)∧
  (∀b,(b∈fr∨∃k,b∈G' k)->b<w'.heap.size∧((∃k,b∈G k)∨w.heap.size<=b))∧
  (∀b,I' b->(cv b∨(∃k,b∈G k)∨w.heap.size<=b)∧b<w'.heap.size∧b∉fr∧∀k,b∉G' k)
def Bg(C:ax)(f:FuncId)(args:List U)(r:U×List U):Prop:=∀obs as hl,args= .aI obs::as->vc obs=some hl->(hl.map (·.1)).Nodup->(∀x∈hl,iI x.1=true)->∀(w:World)(cv:Nat->Prop)(β:Id->Option Loc)(G:Id->List Nat)(vs:List Value),Eh C w cv β G hl vs as->LK C.P f ⟨vs⟩ w (Es w cv β G r)
def Sound(C:ax)(f:FuncId)(args:List U)(r:U×List U):Prop:=(C.gC f=false->pZ C f args r)∧(C.gC f=true->Bg C f args r)
theorem pZ.sound{C:ax}{f:FuncId}{args:List U}{r:U×List U}(h:pZ C f args r)(hg:C.gC f=false):Sound C f args r:=⟨fun _=>h,fun e=>by rw[hg]at e;cases e⟩
theorem Bg.sound{C:ax}{f:FuncId}{args:List U}{r:U×List U}(h:Bg C f args r)(hg:C.gC f=true):Sound C f args r:=⟨(fun e=>by rw[hg]at e;cases e),fun _=>h⟩
def oO(P:Program):Prop:=∀(f:FuncId)(fn:Func),P.funcs[f]? =some fn->(fn.name== "runtime.NumGoroutine")=false
section
variable{C:ax}{E:Env}{w:World}{S:ah}{a:Act}{β:Id->Option Loc}{F:Id->List Nat}
variable{next:Act->World->Prop}{Q:Exit->Act->World->Prop}
theorem tQ{P:Program}(hN:oO P){f:FuncId}{fn:Func}{c:Code}(hf:P.funcs[f]? =some fn)(hb:fn.body=some c)(args:Array Value):(callFunc f args).run P w= .ok (.enter f args) w:=by have:¬fn.name= "runtime.NumGoroutine" :=by{simpa using hN f fn hf};simp[callFunc,hf,hb,this]
theorem ay.imported(h:ay C E w S a β F){o:Oper}{d:Nat}(aU:o.dst=some d){w':World}{fr:List Nat}{v:Value}{r:U}(hk:Kept w w' (fun _=>False))(hr:R w' (fun b=>av E w F b∨(w.heap.size<=b∧b<w'.heap.size∧b∉fr)) br fr v r)(hnd:fr.Nodup)(hfr:∀b∈fr,w.heap.size<=b∧b<w'.heap.size)(hfresh:fresh S.h (imp [d] r).2=true)(rd:List Id)(hd:b9 S (put o (imp [d] r).1 rd (imp [d] r).2)):aL C E (S.app (put o (imp [d] r).1 rd (imp [d] r).2)) (a.put o.dst v) w':=by have mM:=E9 hfresh;obtain⟨β',G,a1,a2,a3,a4,a5,a6,a7⟩:=CC (β:=β) [d] (hr.mono (fun _ h=>h) (fun _ _=>rfl) xy) hnd (fun x hx=>h.dom _ (mM x hx));have rj:∀x∈(imp [d] r).2,F x.1=[]:=fun x hx=>h.dead _ (by rw[mM x hx];simp);have B1:∀i b,b∈G i->w.heap.size<=b∧b<w'.heap.size:=fun i b hb=>hfr b ((a5 i).2 b hb);refine⟨β',fun i=>F i++G i, ?_⟩;have gu:(∀b,av E w F b->av E w' (fun i=>F i++G i) b)->∀b,(av E w F b∨(w.heap.size<=b∧b<w'.heap.size∧b∉fr))->av E w' (fun i=>F i++G i) b:=fun hI b hb=>by{rcases hb with hb|⟨h1,h2,h3⟩;·{exact hI b hb};·refine⟨.inr (.inr (Nat.le_trans h.kept.size h1)),h2,fun id hm=> ?_⟩;rcases List.mem_append.1 hm with hm|hm;·{have:=(h.lt id b hm).1;omega};·exact h3 ((a5 id).2 b hm)};have hh:(S.app (put o (imp [d] r).1 rd (imp [d] r).2)).h=aN S.h (imp [d] r).2:=rfl;refine h.AL (fun id=>∃x∈(imp [d] r).2,x.1=id) (by rw[tG];exact h.n) hk.size hk.os hk.out hk.dY (fun b hb _=>hk.blk b hb id) a1 ?_ ?_ ?_ ?_ ?_ ?_ ?_ ?_ (e8:=hk.mq) (hok:=jG.of rfl fun x hx _=>by obtain⟨q,e⟩:=a7 x hx;rw[e];exact .inl (h.ns d (by simpa[b9,put,aU]using hd) q));·{intro id b hb;rcases List.mem_append.1 hb with hb|hb;·{exact .inl ⟨id,hb⟩};·exact .inr (B1 id b hb)};·{intro id hid;have hno:∀x∈(imp [d] r).2,x.1≠id:=fun x hx e=>hid ⟨x,hx,e⟩;refine⟨by simp[(a2 id hno).2], ?_⟩;rw[hh];rcases fF S.h (imp [d] r).2 id with⟨x,hx,e,_⟩|⟨_,e⟩;·{exact absurd e (hno x hx)};·exact e};·{rintro hI id⟨x,hx,rfl⟩rows hrows;rw[hh]at hrows;rcases fF S.h (imp [d] r).2 x.1 with⟨y,hy,e,e'⟩|⟨hno,_⟩;·{rw[e']at hrows;obtain⟨aT,e2,h2⟩:=a4 y hy;rw[e2]at hrows;simp at hrows;subst hrows;rw[<-e];simp only[rj y hy,Hc];exact h2.mono (gu hI) (fun _ _=>rfl) (fun _ _ h=>h)};·exact absurd rfl (hno x hx)};·{rintro id⟨x,hx,rfl⟩hno;rw[hh]at hno;rcases fF S.h (imp [d] r).2 x.1 with⟨y,hy,e,e'⟩|⟨hn,_⟩;·{obtain⟨aT,e2,h2⟩:=a4 y hy;exact absurd (by rw[e',e2]) (hno aT)};·exact absurd rfl (hn x hx)};·{rintro id⟨x,hx,rfl⟩;simp only[rj x hx,Hc];exact(a5 _).1};·{rintro i j b⟨x,hx,rfl⟩hb hb';simp only[rj x hx,Hc]at hb;rcases List.mem_append.1 hb' with hb'|hb';·{have:=(h.lt j b hb').1;have:=(B1 _ b hb).1;omega};·exact a6 _ _ b hb hb'};·{intro id hid;rw[hh]at hid;rcases fF S.h (imp [d] r).2 id with⟨x,hx,e,e'⟩|⟨hno,e⟩;·{rw[e']at hid;cases hid};·rw[(a2 id hno).1];exact h.dom id (by rw[<-e];exact hid)};·intro hI t;have hd':d<a.tmps.size:=by{rw[h.n];simpa[b9,put,aU]using hd};rw[aU,tF a d t v hd'];by_cases ht:t=d;·{subst ht;rw[if_pos rfl];refine .inr ?_;have:=a3.mono (w':=w') (gu hI) (fun _ _=>rfl) (fun _ _ h=>h);simpa[ah.app,put,aU,cS,aj]using this};·rw[if_neg ht];refine .inl ⟨rfl, ?_⟩;simp[ah.app,put,aU,cS,aj,ht]
def yx(C:ax)(k:FuncId):Prop:=∀(w:World)(cv:Nat->Prop)(vs us:List Value)(i c:Int)(cells:List U)(ks:Rows)(u:Value),(∀u∈us,dN u=true)->an w cv br [] vs [.val (.int .i64 i), .aP [.sl (us.map fun u=>[.val u])], .aP cells]->cells[4]? =some (.sl ks)->ks[i.toNat]? =some [.val (.int .i64 c)]->us[c.toNat]? =some u->0<=i->0<=c->(∀b,cv b->b<w.heap.size)->(∀g cs,C.bS g=some cs->R w cv br [] (.pointer (some ⟨g,0,none⟩)) (.aP cs))->GR C.P k ⟨vs⟩ w fun v w'=>v=u∧Kept w w' (fun _=>False)
theorem QM{I:Nat->Prop}:∀{rows:Rows}{f:List Nat}{vs:List Value},an w I β f vs rows.flatten->rows.all C3=true->vs.length=rows.length∧(∀v∈vs,dN v=true)∧∀(k:Nat)(x:U),rows[k]? =some [x]->∃v,vs[k]? =some v∧R w I β [] v x|[],f,vs,h,_=>by{obtain⟨_,rfl⟩:=h.fc;exact⟨rfl,(fun v hv=>by cases hv),fun k x hx=>by simp at hx⟩}|r::rows,f,vs,h,hr=>by simp only[List.all_cons,Ha]at hr;obtain⟨a,ha,Fj⟩:∃a,r=[a]∧((∃v,a= .val v)∨∃cs,a= .aP cs):=by{obtain⟨h1,_⟩:=hr;unfold C3 at h1;split at h1;·{exact⟨_,rfl, .inl ⟨_,rfl⟩⟩};·{exact⟨_,rfl, .inr ⟨_,rfl⟩⟩};·cases h1};subst ha;simp only[Hb,Kd,Hc]at h;obtain⟨f1,f2,v,vs',e0,rfl,h1,h2⟩:=h.cons_inv;obtain⟨g1,g2,g3⟩:=QM h2 hr.2;have hsc:dN v=true∧R w I β [] v a:=by{rcases Fj with⟨u,rfl⟩|⟨cs,rfl⟩;·{cases h1 with|val hh=>exact⟨hh, .val hh⟩};·cases h1 with|aP p1 p2 p3=>exact⟨rfl, .aP p1 p2 p3⟩};refine⟨by simp[g1],fun u hu=> ?_,fun k x hx=> ?_⟩;·{rcases List.mem_cons.1 hu with rfl|hu;·{exact hsc.1};·exact g2 u hu};·cases k with|zero=>(simp only[List.getElem?_cons_zero,AC,List.cons.injEq,and_true]at hx;subst hx;exact⟨v,rfl,hsc.2⟩)|succ k=>simpa using g3 k x (by simpa using hx)
theorem an.vals{I:Nat->Prop}:∀{us:List Value},(∀u∈us,dN u=true)->an w I β [] us (us.map U.val)|[],_=> .nil|u::us,h=>R.cons (f1:=[]) (f2:=[]) (.val (h u (Do ..))) (an.vals fun v hv=>h v (GT _ hv))
theorem N1:∀us:List Value,(us.map fun u=>[U.val u]).flatten=us.map U.val|[]=>rfl|u::us=>by simp[N1 us]
theorem aeC(hN:oO C.P)(h:ay C E w S a β F){o:Oper}{c:Call}{bV:Operand}(ho:o.op= .call c)(hc:c.callee= .value bV){k:FuncId}(hl:yx C k){first caps:List U}{fV gB:List Value}(iV:a.eval bV= .func (.func k) ⟨fV⟩ ⟨gB⟩)(h1:an w (av E w F) β [] fV first)(h2:an w (av E w F) β [] gB caps){e:aJ}(he:xq S o (first++(c.args.toList.map fun x=>un true (S.get C x))++caps)=some e)(hd:b9 S e)(hn:∀a' w',aL C E (S.app e) a' w'->next a' w'):o.wp C.P a w next Q:=by have hargs:=an.ofMap h c.args.toList;have hall:an w (av E w F) β [] (fV++c.args.toList.map a.eval++gB) (first++(c.args.toList.map fun x=>un true (S.get C x))++caps):=(h1.append hargs).append h2;have o6:(execOp a.eval o).run C.P w=(callFunc k ⟨fV++c.args.toList.map a.eval++gB⟩).run C.P w:=by{have e2:((⟨fV⟩:Array Value)++c.args.map a.eval++⟨gB⟩:Array Value)=⟨fV++c.args.toList.map a.eval++gB⟩:=by{apply Array.ext';simp};have bh:resolve a.eval c o.type=(pure {target:= .fn (.func k) ⟨gB⟩,args:=⟨fV⟩++c.args.map a.eval}:Sem Deferred):=by{simp[resolve,hc,iV,Deferred.ofValue]};have e5:execOp a.eval o=(do let d<-resolve a.eval c o.type;invoke d.target d.args:Sem Next):=by{simp[execOp,ho]};rw[e5,bh,Sem.run_bind,Sem.run_pure,Result.andThen_ok];simp only[invoke,e2]};generalize fV++c.args.toList.map a.eval++gB=vs at hall o6;generalize(first++(c.args.toList.map fun x=>un true (S.get C x))++caps)=as at hall he;unfold xq at he;split at he;·{rename_i i id cells;split at he;·{rename_i ks iX n aau hid;split at he;·{rename_i rows c' Ch hki;split at he;·{rename_i x uT;split at he;·{rename_i gX;simp only[AC]at he;subst he;obtain⟨hi0,hc0,Fw,hrows,I9,aU⟩:=gX;obtain⟨d,aU⟩:=Option.isSome_iff_exists.1 aU;obtain⟨f1,f2,v1,iO,aM,rfl,k1,k2⟩:=hall.cons_inv;obtain⟨f3,f4,v2,SG,ajE,rfl,cC,iY⟩:=k2.cons_inv;obtain⟨f5,f6,v3,anJ,ajF,rfl,lf,xl⟩:=iY.cons_inv;obtain⟨_,rfl⟩:=xl.fc;obtain⟨_,b,o',sz,n1,bg,rfl⟩:=cC.mR;have abj:=h.obj id _ hid;obtain⟨ws,cx,ZU,_,⟨_,_⟩,_,bz,hrl⟩:=abj.at bg;simp only[Hb,Ix,Hm]at hrl;obtain⟨_,_,gS,anK,eb,rfl,IE,mL⟩:=hrl.cons_inv;obtain⟨_,rfl⟩:=mL.fc;have akB:=bz 0 gS rfl;have hpos:0<rows.length:=by{rcases Nat.lt_or_ge c'.toNat rows.length with h'|h';·{omega};·rw[List.getElem?_eq_none h']at uT;cases uT};obtain⟨_,abE⟩:=IE.mZ;rcases abE with⟨_,_,h0,_⟩|⟨b2,o2,GD,n2,cap,FJ,zE,hlc,rfl⟩;·{omega};·obtain⟨us,BQ,zu,_,⟨_,Ju⟩,_,wI,O9⟩:=(h.obj iX rows Ch).at FJ;obtain⟨u1,u2,u3⟩:=QM O9 hrows;obtain⟨u,hu,abC⟩:=u3 _ _ uT;have abD:R w (av E w F) br [] u x:=abC.nF I9;have wV:GD=1:=by{rw[<-Ju _ (List.getElem_mem hpos)];have:=List.all_eq_true.1 hrows _ (List.getElem_mem hpos);unfold C3 at this;split at this;·{rename_i e;rw[e];rfl};·{rename_i e;rw[e];rfl};·cases this};subst wV;have mP:b∈F id:=by{rw[ZU];exact List.mem_cons_self .. };have hm2:b2∈F iX:=by{rw[zu];exact List.mem_cons_self .. };let cv:Nat->Prop:=fun x=>av E w F x∨x=b∨x=b2;have up:∀x,av E w F x->cv x:=fun _ h=> .inl h;have jM:R w cv br [] (.slice (some ⟨b2,o2+0*1,none⟩) n cap) (.sl (us.map fun u=>[.val u])):=by{have e1:n=(us.map fun u=>[U.val u]).length:=by{rw[List.length_map,u1,Fw]};rw[e1]at hlc|-;refine .sl (sz:=1) (vs:=us) (fun r hr=> ?_) (.inr (.inr rfl)) (by simpa using wI) hlc ?_;·{obtain⟨_,_,rfl⟩:=List.mem_map.1 hr;rfl};·rw[N1];exact an.vals u2};have aam:an w cv br [] [v1, .pointer (some ⟨b,o'+0*sz+0,none⟩),v3] [.val (.int .i64 i), .aP [.sl (us.map fun u=>[.val u])], .aP cells]:=by{refine R.cons (f1:=[]) (f2:=[]) ?_ (R.cons (f1:=[]) (f2:=[]) (.aP (.inr (.inl rfl)) (vs:=[.slice (some ⟨b2,o2+0*1,none⟩) n cap]) ?_ (R.cons (f1:=[]) (f2:=[]) jM .nil)) (R.cons (f1:=[]) (f2:=[]) ?_ .nil));·{cases k1 with|val h=>exact .val h};·{rw[Nat.zero_mul,Nat.add_zero,Nat.add_zero];exact bz};·cases lf with|aP p1 p2 p3=>exact .aP (up _ p1) p2 (p3.mono up (fun _ _=>rfl) (fun _ _ h=>h))};have qm:=hl w cv _ us i c' cells ks u u2 aam aau hki hu hi0 hc0 (fun x hx=>by rcases hx with hx|rfl|rfl;·{exact hx.2.1};·{exact(h.lt id _ mP).1};·exact(h.lt iX _ hm2).1) (fun g cs hg=>(h.bS g cs hg).pn rfl fun b hb=> .inl hb);have fB:∀w',Kept w w' (fun _=>False)->next (a.put o.dst u) w':=fun w' hk=>by{have hx0:∃y,imp [d] x=(y,[])∧y=x:=by{have:=List.all_eq_true.1 hrows _ (List.mem_of_getElem? uT);unfold C3 at this;split at this;·{rename_i e;simp only[List.cons.injEq,and_true]at e;subst e;exact⟨_,rfl,rfl⟩};·{rename_i e;simp only[List.cons.injEq,and_true]at e;subst e;exact⟨_,rfl,rfl⟩};·cases this};obtain⟨y,hy,rfl⟩:=hx0;have:=h.imported (fr:=[]) (r:=y) aU hk (v:=u) ((abD.mono (fun _ h=>h) (fun b hb=>hk.blk b (by rcases hb with hb|hb;exact hb.2.1;cases hb) (fun h=>h)) (fun _ _ h=>h)).mono (fun _ h=> .inl h) (fun _ _=>rfl) (fun _ _ h=>h)) List.nodup_nil (fun b hb=>by cases hb) (by rw[hy];rfl) [id,iX] (by rw[hy];exact hd);rw[hy]at this;exact hn _ _ this};unfold Oper.wp;rw[o6];rcases qm with⟨fn,code,q1,cg,dG⟩|⟨v,w',q1,cg,dG⟩;·{rw[tQ hN q1 cg];simp only[Oper.upon];refine dG.mono fun e' w' hh=> ?_;obtain⟨v,rfl,rfl,hk⟩:=hh;exact fB w' hk};·rw[q1,cg];exact fB w' dG};·cases he};·cases he};·cases he};·cases he};·cases he
theorem aek(hN:oO C.P)(aa9:∀k,C.look k=true->yx C k)(h:ay C E w S a β F){o:Oper}{c:Call}{bV:Operand}(ho:o.op= .call c)(hc:c.callee= .value bV){f:FuncId}{call:FuncId->List U->Option (U×List U)}(cB:∀k as r,call k as=some r->Sound C k as r){e:aJ}(di:kG C (un true (S.get C bV))=none)(he:qT C f call S o (un true (S.get C bV)) (c.args.toList.map fun x=>un true (S.get C x))=some e)(hd:b9 S e)(hn:∀a' w',aL C E (S.app e) a' w'->next a' w'):o.wp C.P a w next Q:=by have hfo:=h.dw bV;have hargs:=an.ofMap h c.args.toList;unfold qT at he;split at he;·{rename_i k first caps hfn;rw[hfn]at hfo di;have hg0:C.gC k=false:=by{simp only[kG]at di;split at di;·{cases di};·rename_i h;simpa using h};obtain⟨_,fV,gB,iV,h1,h2⟩:=hfo.mH;by_cases hlk:C.look k=true;·{rw[if_pos hlk]at he;exact aeC hN h ho hc (aa9 k hlk) iV h1 h2 he hd hn};rw[if_neg hlk]at he;split at he;·{rename_i as seen d IN aU;split at he;·{rename_i r bz;have hs:=(cB _ _ _ bz).1 hg0;have hall:an w (av E w F) β [] (fV++c.args.toList.map a.eval++gB) (first++(c.args.toList.map fun x=>un true (S.get C x))++caps):=(h1.append hargs).append h2;have e8:=(Hp (F:=F) (Hw h.obj 9) IN hall).2 (fun b=>av E w F b∨∃id∈seen,b∈F id) (fun b hb=> .inl hb) (fun b hb=>by cases hb) (fun id hid b hb=> .inr ⟨id,hid,hb⟩);have qm:=hs w _ [] _ e8 List.nodup_nil (fun b hb=>⟨hb.elim (fun hb=>hb.2.1) (fun⟨id,_,hb⟩=>(h.lt id b hb).1),by simp⟩) (fun b hb=>by cases hb) (fun g cs hg=>(h.bS g cs hg).pn rfl fun b hb=> .inl hb);have o6:(execOp a.eval o).run C.P w=(callFunc k ⟨fV++c.args.toList.map a.eval++gB⟩).run C.P w:=by{have e1:(#[]++(⟨fV⟩:Array Value)++c.args.map a.eval++⟨gB⟩:Array Value)=⟨fV++c.args.toList.map a.eval++gB⟩:=by{apply Array.ext';simp};have e2:((⟨fV⟩:Array Value)++c.args.map a.eval++⟨gB⟩:Array Value)=⟨fV++c.args.toList.map a.eval++gB⟩:=by{apply Array.ext';simp};have bh:resolve a.eval c o.type=(pure {target:= .fn (.func k) ⟨gB⟩,args:=⟨fV⟩++c.args.map a.eval}:Sem Deferred):=by{simp[resolve,hc,iV,Deferred.ofValue]};have e5:execOp a.eval o=(do let d<-resolve a.eval c o.type;invoke d.target d.args:Sem Next):=by{simp[execOp,ho]};rw[e5,bh,Sem.run_bind,Sem.run_pure,Result.andThen_ok];simp only[invoke,e2]};have fB:∀{ls:List Value}v w',vO w [] (fun b=>av E w F b∨∃id∈seen,b∈F id) ls (r,[]) v w'->next (a.put o.dst v) w':=fun v w' hres=>by{obtain⟨I',fr,g1,g2,g3,g4⟩:=hres.ex;replace g1:R w' I' br fr v r:=by{obtain⟨f1,f2,v1,anI,rfl,e1,k1,k2⟩:=an.cons_inv g1;obtain⟨rfl,rfl⟩:=k2.fc;simp only[List.cons.injEq]at e1;obtain⟨rfl,_⟩:=e1;simpa using k1};have hk:Kept w w' (fun _=>False):=⟨hres.kept.size,fun b hb _=>hres.kept.blk b hb (by simp),hres.kept.os,hres.kept.out,hres.kept.dY,hres.kept.mq⟩;generalize hr':(if eG C f o.dst=true then dy r else r)=r' at he;split at he;·{simp at he};·rename_i hm;split at he;·{rename_i hf;simp only[Option.some.injEq]at he;subst he;have base:R w' (fun b=>av E w F b∨(w.heap.size<=b∧b<w'.heap.size∧b∉fr)) br fr v r:=by{by_cases Cr:seen=[];·{subst Cr;refine g1.mono (fun b hb=> ?_) (fun _ _=>rfl) (fun _ _ h=>h);obtain⟨k1,k2,cC⟩:=g4 b hb;rcases k1 with(k1|⟨_,k1,_⟩)|k1|k1;·{exact .inl k1};·{cases k1};·{cases k1};·exact .inr ⟨k1,k2,cC⟩};·have:mine r=true:=by{cases hmr:mine r;·{exact absurd (by cases seen<;>simp_all) hm};·rfl};exact g1.mine this _};have I4:∀b∈fr,w.heap.size<=b∧b<w'.heap.size:=fun b hb=>by{obtain⟨k1,k2⟩:=g3 b hb;rcases k2 with k2|k2;·{cases k2};·exact⟨k2,k1⟩};refine hn _ _ ?_;by_cases hz:eG C f o.dst=true;·{rw[if_pos hz]at hr';subst hr';refine h.imported aU hk (fr:=[]) ?_ List.nodup_nil (fun b hb=>by cases hb) hf seen hd;exact base.dy (fun b hb=>hb.imp id fun⟨k1,k2,_⟩=>⟨k1,k2,by simp⟩) (fun b hb=> .inr ⟨(I4 b hb).1,(I4 b hb).2,by simp⟩)};·rw[if_neg hz]at hr';subst hr';exact h.imported aU hk base g2 I4 hf seen hd};·simp at he};unfold Oper.wp;rw[o6];rcases qm with⟨fn,code,k1,k2,cC⟩|⟨v,w',k1,k2⟩;·{rw[tQ hN k1 k2];simp only[Oper.upon];refine cC.mono fun e' w' hh=> ?_;obtain⟨v,rfl,hres⟩:=hh;exact fB v w' hres};·rw[k1];exact fB v w' k2};·cases he};·cases he};·cases he
end
end Go.Ab
