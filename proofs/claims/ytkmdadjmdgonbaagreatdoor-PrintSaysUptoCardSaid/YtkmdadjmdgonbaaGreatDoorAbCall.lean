import Derived.Test.YtkmdadjmdgonbaaGreatDoorAbOps7
open Array renaming ext'->If
open Bool renaming and_eq_true->GT,and_assoc->Ix
open List renaming mem_cons_self->A0,mem_cons_of_mem->Do,nil_append->GE,flatten_cons->Ha,length_take->Hb,mem_of_mem_take->Hd,nodup_nil->Hk,append_nil->Hm,take_left->Hn,perm_iff_count->H2,count_append->H3,cons_append->H4,length->H5,flatMap_append->Kd,take_append_drop->Lk,flatMap_cons->Nm,count_cons->PH,flatten_nil->PP,take_zero->PQ,drop_left->Pi,mem_of_getElem?->Ps,append_assoc->QP,length_append->QQ,getElem_mem->QR
open List.cons renaming injEq->H1
open Nat renaming min_eq_left->IH
open Option renaming map_eq_some_iff->A1,bind_eq_some_iff->Hc
open Option.some renaming injEq->AC
set_option linter.all false
namespace Go.Ab
open Go
theorem Zm(a b:List U):dz (a++b)=(dz a&&dz b):=by induction a with|nil=>(simp[dz])|cons c cs ih=>simp[dz,ih,Ix]
theorem FJ:∀rows:Rows,eY rows=true->dz rows.flatten=true|[],_=>by{simp[dz]}|r::rs,h=>by simp only[eY,GT]at h;rw[Ha,Zm,h.1,FJ rs h.2];rfl
section
variable{w:World}{I:Nat->Prop}
theorem R.j5{β:Id->Option Loc}{f:List Nat}{v:Value}{a:U}(h:R w I β f v a):flat a=true->∀cW:Id->Option Loc,R w I cW f v a:=by induction h with|val h=>(intro _ _;exact .val h)|nn=>(intro _ _;exact .nn)|mr _=>(intro hf;simp[flat]at hf)|eN h=>(intro _ _;exact .eN h)|im h1 h2=>(intro _ _;exact .im h1 h2)|gP h1 h2=>(intro _ _;exact .gP h1 h2)|cG=>(intro hf;simp[flat]at hf)|gE=>(intro _ _;exact .gE)|sl h1 h2 h3 h4 h5 _=>(intro _ _;exact .sl h1 h2 h3 h4 h5)|aT h1 h2 h3 _=>(intro _ _;exact .aT h1 h2 h3)|iM _ _=>(intro hf;simp[flat]at hf)|rs _ _ _=>(intro hf;simp[flat]at hf)|mp _=>(intro hf;simp[flat]at hf)|fn _ _ ih1 ih2=>(intro hf _;simp only[flat,GT]at hf;exact .fn (ih1 (by simpa[flat]using hf.1) _) (ih2 (by simpa[flat]using hf.2) _))|nil=>(intro _ _;exact .nil)|cons _ _ ih1 ih2=>(intro hf _;simp only[flat,dz,GT]at hf;exact .cons (ih1 hf.1 _) (ih2 (by simpa[flat]using hf.2) _))|aV _ ih=>(intro hf _;exact .aV (ih (by simpa[flat]using hf) _))|jz=>(intro _ _;exact .jz)|own h0 h1 h2 h3 h4 h5 _ ih=>(intro hf _;simp only[flat]at hf;exact .own h0 h1 h2 h3 h4 h5 (ih (by simpa[flat]using FJ _ hf) _))|kj h0 h1 h2 h3 h5 _ ih=>(intro hf _;simp only[flat]at hf;exact .kj h0 h1 h2 h3 h5 (ih (by simpa[flat]using FJ _ hf) _))|b5 h1 h2 h3 _ ih=>(intro hf _;simp only[flat]at hf;exact .b5 h1 h2 h3 (ih (by simpa[flat]using hf) _))|qt _ _=>(intro hf;simp[flat]at hf)|qs=>(intro hf;simp[flat]at hf)|bD=>intro _ _;exact .bD
def By(w:World)(I:Nat->Prop)(β:Id->Option Loc)(F:Id->List Nat)(p:U->Option (U×List Id)):Prop:=∀a x,p a=some x->∀f v,R w I β f v a->∃fp rest,R w I b8 fp v x.1∧(fp++rest).Perm (f++x.2.flatMap F)
variable{β:Id->Option Loc}{F:Id->List Nat}
theorem rV{k4 r1 jv r2 f1 g1 f2 g2:List Nat}(h1:(k4++r1).Perm (f1++g1))(h2:(jv++r2).Perm (f2++g2)):((k4++jv)++(r1++r2)).Perm ((f1++f2)++(g1++g2)):=by rw[H2]at h1 h2|-;intro a;have:=h1 a;have:=h2 a;simp only[H3]at*;omega
theorem OS{p:U->Option (U×List Id)}(hp:By w I β F p):∀{cs:List U}{x},fj p cs=some x->∀{f vs},ay w I β f vs cs->x.1.length=cs.length∧∃fp rest,ay w I b8 fp vs x.1∧(fp++rest).Perm (f++x.2.flatMap F)|[],x,h,f,vs,hr=>by{simp[fj]at h;subst h;obtain⟨rfl,rfl⟩:=hr.iA;exact⟨rfl,[],[], .nil,by simp⟩}|c::cs,x,h,f,vs,hr=>by simp only[fj,Hc,A1]at h;obtain⟨y,hy,z,hz,rfl⟩:=h;obtain⟨f1,f2,v,vs',rfl,rfl,h1,h2⟩:=hr.cons_inv;obtain⟨k4,r1,g1,g2⟩:=hp _ _ hy _ _ h1;obtain⟨hl,jv,r2,g3,g4⟩:=OS hp hz h2;refine⟨by simp[hl],k4++jv,r1++r2, .cons g1 g3, ?_⟩;simp only[Kd];exact rV g2 g4
theorem GW{p:U->Option (U×List Id)}(hp:By w I β F p){cs:List U}{x}(h:iW p cs=some x){f vs}(hr:ay w I β f vs cs):x.1.length=cs.length∧∃fp rest,ay w I b8 fp vs x.1∧(fp++rest).Perm (f++x.2.flatMap F):=by unfold iW at h;split at h;·{rename_i hf;simp at h;subst h;exact⟨rfl,f,[],R.j5 hr (by simpa[flat]using hf) _,by simp⟩};·exact OS hp h hr
theorem OU{p:U->Option (U×List Id)}(hp:By w I β F p):∀{rs:Rows}{x},fk (iW p) rs=some x->∀{f vs},ay w I β f vs rs.flatten->(x.1.length=rs.length∧∀sz,(∀r∈rs,r.length=sz)->∀r∈x.1,r.length=sz)∧∃fp rest,ay w I b8 fp vs x.1.flatten∧(fp++rest).Perm (f++x.2.flatMap F)|[],x,h,f,vs,hr=>by{simp[fk]at h;subst h;obtain⟨rfl,rfl⟩:=hr.iA;exact⟨⟨rfl,fun _ _ _ h=>by cases h⟩,[],[], .nil,by simp⟩}|c::cs,x,h,f,vs,hr=>by simp only[fk,Hc,A1]at h;obtain⟨y,hy,z,hz,rfl⟩:=h;rw[Ha]at hr;obtain⟨f1,f2,v1,v2,rfl,rfl,h1,h2⟩:=ay.split hr;obtain⟨l1,k4,r1,g1,g2⟩:=GW hp hy h1;obtain⟨⟨l2,l3⟩,jv,r2,g3,g4⟩:=OU hp hz h2;refine⟨⟨by simp[l2],fun sz hs r hr=> ?_⟩,k4++jv,r1++r2,g1.append g3, ?_⟩;·{rcases List.mem_cons.1 hr with rfl|hr;·{rw[l1];exact hs _ (A0 ..)};·exact l3 sz (fun r hr=>hs r (Do _ hr)) r hr};·simp only[Kd];exact rV g2 g4
theorem Rz{p:U->Option (U×List Id)}(hp:By w I β F p){rs:Rows}{x}(h:pO p rs=some x){f vs}(hr:ay w I β f vs rs.flatten):(x.1.length=rs.length∧∀sz,(∀r∈rs,r.length=sz)->∀r∈x.1,r.length=sz)∧∃fp rest,ay w I b8 fp vs x.1.flatten∧(fp++rest).Perm (f++x.2.flatMap F):=by unfold pO at h;split at h;·{rename_i hf;simp at h;subst h;exact⟨⟨rfl,fun _ h=>h⟩,f,[],R.j5 hr (by simpa[flat]using FJ _ hf) _,by simp⟩};·exact OU hp h hr
theorem FK{α:Type}(rs:List (List α))(n:Nat):rs.flatten=(rs.take n).flatten++(rs.drop n).flatten:=by rw[<-List.flatten_append,Lk]
theorem vb{L:Id->Option (Option Rows)}(hL:∀id rows,L id=some (some rows)->dG w I β id rows (F id)):∀n,By w I β F (pk L n)|0=>fun a x h=>by{simp[pk]at h}|n+1=>fun a x h f v hr=>by have ih:=vb hL n;cases a with|rs id off len=>(simp only[pk]at h;split at h;·{rename_i rs hid;split at h;·{rename_i hc;simp only[A1]at h;obtain⟨y,hy,rfl⟩:=h;obtain⟨rfl,hc⟩:=hc;obtain⟨rfl,hv⟩:=hr.pX;rcases hL id rs hid with⟨hb,rfl,hF⟩|⟨bm,hb,_⟩|⟨b,o,sz,n',vs,cK,hb,hF,oa,⟨hne,hsz⟩,hle,bV,hrl⟩;rotate_left;·{rcases hv with⟨a,l,rfl,rfl,hb',hl⟩|⟨b,o,sz,n',cap,hb',_⟩;·{rw[hb]at hb';cases hb';cases hl};·rw[hb]at hb';cases hb'};rotate_left;·{have hy0:y=([],[]):=by{simpa[pO,eY]using hy.symm};subst hy0;simp only[List.length_nil]at hc;rcases hv with⟨a,l,rfl,rfl,_⟩|⟨b,o,sz,n',cap,hb',_⟩;·{exact⟨[],[], .jz,by simp[hF]⟩};·rw[hb]at hb';cases hb'};·obtain⟨⟨l1,l2⟩,fp,rest,g1,g2⟩:=Rz ih hy hrl;have hlen:0<rs.length:=List.length_pos_iff.2 hne;have PW:y.1≠[]:=fun e=>by{rw[e]at l1;simp at l1;omega};have CN:((b::fp)++rest).Perm ([]++(id::y.2).flatMap F):=by{rw[H2]at g2|-;intro x;have:=g2 x;simp only[Nm,GE,hF,H3,PH,H4]at*;omega};rcases hv with⟨a,l,rfl,rfl,_⟩|⟨b',o',sz',K5,cap,hb',hle',hcap,rfl⟩;·{exact⟨b::fp,rest, .kj PW (l2 sz hsz) oa (by rw[l1];exact hle) bV g1,CN⟩};·rw[hb]at hb';simp only[AC,Loc.blk.injEq]at hb';obtain⟨rfl,rfl,rfl,rfl⟩:=hb';refine⟨b::fp,rest, ?_,CN⟩;have:=R.own (w:=w) (I:=I) (β:=b8) (cap:=cap) (o:=o) (rows:=y.1) (len:=len) PW (l2 sz hsz) oa ⟨by simpa using hle',by rw[l1];exact hle⟩ ⟨by omega,by omega⟩ bV g1;simpa using this};·cases h};·cases h)|mp id row off=>(simp only[pk]at h;split at h;·{rename_i cs hid;split at h;·{rename_i hc;obtain⟨rfl,rfl⟩:=hc;simp only[A1]at h;obtain⟨y,hy,rfl⟩:=h;obtain⟨rfl,b',o',sz',n',hb',rfl⟩:=hr.pK;rcases hL id [cs] hid with⟨hb,h0,hF⟩|⟨bm,hb,_⟩|⟨b,o,sz,n',vs,cK,hb,hF,oa,⟨hne,hsz⟩,hle,bV,hrl⟩;·{cases h0};·{rw[hb]at hb';cases hb'};·rw[hb]at hb';simp only[AC,Loc.blk.injEq]at hb';obtain⟨rfl,rfl,rfl,rfl⟩:=hb';simp only[Ha,PP,Hm]at hrl;obtain⟨l1,fp,rest,g1,g2⟩:=GW ih hy hrl;have:=hsz cs (by simp);refine⟨b::fp,rest, ?_, ?_⟩;·{have:=R.b5 (w:=w) (I:=I) (β:=b8) (cells:=y.1) oa (by simp at hle;omega) bV g1;simpa using this};·rw[H2]at g2|-;intro x;have:=g2 x;simp only[Nm,GE,hF,H3,PH,H4]at*;omega};·cases h};·cases h)|cG=>(simp only[pk,AC]at h;subst h;obtain⟨rfl,a,rfl⟩:=hr.yA;exact⟨[],[], .jz,by simp⟩)|agg cs=>(simp only[pk,A1]at h;obtain⟨y,hy,rfl⟩:=h;obtain⟨vs,rfl,hl⟩:=hr.oU;exact(GW ih hy hl).2)|aV cs=>(simp only[pk,A1]at h;obtain⟨y,hy,rfl⟩:=h;obtain⟨vs,rfl,hl⟩:=hr.Bj;obtain⟨_,fp,rest,g1,g2⟩:=GW ih hy hl;exact⟨fp,rest, .aV g1,g2⟩)|fn k a b=>(simp only[pk]at h;split at h;·{rename_i hi;simp only[AC]at h;subst h;simp only[GT]at hi;obtain⟨rfl,vs,cs,rfl,h1,h2⟩:=hr.o7;exact⟨[],[], .fn (h1.qE hi.1) (h2.qE hi.2),by simp⟩};·cases h)|dw g y=>(simp only[pk,AC]at h;subst h;exact⟨[],f, .bD,by simp⟩)|own rs len=>(simp only[pk]at h;split at h;·{rename_i hf;simp only[AC]at h;subst h;exact⟨f,[],hr.j5 (by simpa[flat]using hf) _,by simp⟩};·cases h)|b5 cs=>(simp only[pk]at h;split at h;·{rename_i hf;simp only[AC]at h;subst h;exact⟨f,[],hr.j5 (by simpa[flat]using hf) _,by simp⟩};·cases h)|val u=>(simp only[pk,AC]at h;subst h;exact⟨f,[],hr.j5 rfl _,by simp⟩)|nn=>(simp only[pk,AC]at h;subst h;exact⟨f,[],hr.j5 rfl _,by simp⟩)|mr id=>(simp only[pk]at h;split at h;·{rename_i rs hid;simp only[AC]at h;subst h;obtain⟨rfl,b,hb',rfl⟩:=hr.K4;rcases hL id rs hid with⟨hb,_⟩|⟨b2,hb,hF,hm⟩|⟨b2,o,sz,n',vs,cK,hb,_⟩;·{rw[hb]at hb';cases hb'};·{rw[hb]at hb';cases hb';exact⟨[b],[], .eN hm,by simp[hF]⟩};·rw[hb]at hb';cases hb'};·cases h)|eN rows=>(simp only[pk,AC]at h;subst h;exact⟨f,[],hr.j5 rfl _,by simp⟩)|im rows=>(simp only[pk,AC]at h;subst h;exact⟨f,[],hr.j5 rfl _,by simp⟩)|gP vs=>(simp only[pk,AC]at h;subst h;exact⟨f,[],hr.j5 rfl _,by simp⟩)|sl rows=>(simp only[pk,AC]at h;subst h;exact⟨f,[],hr.j5 rfl _,by simp⟩)|aT cells=>(simp only[pk,AC]at h;subst h;exact⟨f,[],hr.j5 rfl _,by simp⟩)|cC i rs=>(cases hr)|ox u=>(cases hr)|bD=>simp only[pk,AC]at h;subst h;exact⟨f,[],hr.j5 rfl _,by simp⟩
/-! ### Borrowing -/
def Bq(w:World)(I:Nat->Prop)(β:Id->Option Loc)(F:Id->List Nat)(p:U->Option (U×List Id)):Prop:=∀a x,p a=some x->∀f v,R w I β f v a->∀I':Nat->Prop,(∀b,I b->I' b)->(∀b∈f,I' b)->(∀id∈x.2,∀b∈F id,I' b)->R w I' b8 [] v x.1
theorem R.od{f:List Nat}{v:Value}{a:U}(h:R w I β f v a)(hi:fQ a=true){I':Nat->Prop}(hI:∀b,I b->I' b):R w I' b8 [] v a:=by have e:=h.KD hi;subst e;exact(h.qE hi).mono hI (fun _ _=>rfl) (fun _ _ h=>h)
theorem Ir{p:U->Option (U×List Id)}(hp:Bq w I β F p):∀{cs:List U}{x},fj p cs=some x->∀{f vs},ay w I β f vs cs->x.1.length=cs.length∧∀I':Nat->Prop,(∀b,I b->I' b)->(∀b∈f,I' b)->(∀id∈x.2,∀b∈F id,I' b)->ay w I' b8 [] vs x.1|[],x,h,f,vs,hr=>by{simp[fj]at h;subst h;obtain⟨rfl,rfl⟩:=hr.iA;exact⟨rfl,fun _ _ _ _=> .nil⟩}|c::cs,x,h,f,vs,hr=>by simp only[fj,Hc,A1]at h;obtain⟨y,hy,z,hz,rfl⟩:=h;obtain⟨f1,f2,v,vs',rfl,rfl,h1,h2⟩:=hr.cons_inv;obtain⟨hl,g3⟩:=Ir hp hz h2;refine⟨by simp[hl],fun I' i1 i2 i3=> ?_⟩;exact R.cons (f1:=[]) (f2:=[]) (hp _ _ hy _ _ h1 I' i1 (fun b hb=>i2 b (List.mem_append.2 (.inl hb))) fun id hid=>i3 id (List.mem_append.2 (.inl hid))) (g3 I' i1 (fun b hb=>i2 b (List.mem_append.2 (.inr hb))) fun id hid=>i3 id (List.mem_append.2 (.inr hid)))
theorem v8{p:U->Option (U×List Id)}(hp:Bq w I β F p){cs:List U}{x}(h:kA p cs=some x){f vs}(hr:ay w I β f vs cs):x.1.length=cs.length∧∀I':Nat->Prop,(∀b,I b->I' b)->(∀b∈f,I' b)->(∀id∈x.2,∀b∈F id,I' b)->ay w I' b8 [] vs x.1:=by unfold kA at h;split at h;·{rename_i hf;simp at h;subst h;exact⟨rfl,fun I' i1 _ _=>R.od hr (by simpa[fQ]using hf) i1⟩};·exact Ir hp h hr
theorem NC{p:U->Option (U×List Id)}(hp:Bq w I β F p):∀{rs:Rows}{x},fk (kA p) rs=some x->∀{f vs},ay w I β f vs rs.flatten->(x.1.length=rs.length∧∀sz,(∀r∈rs,r.length=sz)->∀r∈x.1,r.length=sz)∧∀I':Nat->Prop,(∀b,I b->I' b)->(∀b∈f,I' b)->(∀id∈x.2,∀b∈F id,I' b)->ay w I' b8 [] vs x.1.flatten|[],x,h,f,vs,hr=>by{simp[fk]at h;subst h;obtain⟨rfl,rfl⟩:=hr.iA;exact⟨⟨rfl,fun _ _ _ h=>by cases h⟩,fun _ _ _ _=> .nil⟩}|c::cs,x,h,f,vs,hr=>by simp only[fk,Hc,A1]at h;obtain⟨y,hy,z,hz,rfl⟩:=h;rw[Ha]at hr;obtain⟨f1,f2,v1,v2,rfl,rfl,h1,h2⟩:=ay.split hr;obtain⟨l1,g1⟩:=v8 hp hy h1;obtain⟨⟨l2,l3⟩,g3⟩:=NC hp hz h2;refine⟨⟨by simp[l2],fun sz hs r hr=> ?_⟩,fun I' i1 i2 i3=> ?_⟩;·{rcases List.mem_cons.1 hr with rfl|hr;·{rw[l1];exact hs _ (A0 ..)};·exact l3 sz (fun r hr=>hs r (Do _ hr)) r hr};·have:=(g1 I' i1 (fun b hb=>i2 b (List.mem_append.2 (.inl hb))) fun id hid=>i3 id (List.mem_append.2 (.inl hid))).append (g3 I' i1 (fun b hb=>i2 b (List.mem_append.2 (.inr hb))) fun id hid=>i3 id (List.mem_append.2 (.inr hid)));simpa using this
theorem NI{p:U->Option (U×List Id)}(hp:Bq w I β F p){rs:Rows}{x}(h:oY p rs=some x){f vs}(hr:ay w I β f vs rs.flatten):(x.1.length=rs.length∧∀sz,(∀r∈rs,r.length=sz)->∀r∈x.1,r.length=sz)∧∀I':Nat->Prop,(∀b,I b->I' b)->(∀b∈f,I' b)->(∀id∈x.2,∀b∈F id,I' b)->ay w I' b8 [] vs x.1.flatten:=by unfold oY at h;split at h;·{rename_i hf;simp at h;subst h;exact⟨⟨rfl,fun _ h=>h⟩,fun I' i1 _ _=>R.od hr (by simpa[fQ]using KC _ hf) i1⟩};·exact NC hp h hr
theorem Iz{L:Id->Option (Option Rows)}(hL:∀id rows,L id=some (some rows)->dG w I β id rows (F id)):∀n,Bq w I β F (cI L n)
 |0=>fun a x h=>by simp[cI]at h
 |n+1=>fun a x h f v hr I' i1 i2 i3=>by
  have ih:=Iz hL n
  cases a with
  |rs id off len=>
   simp only[cI]at h
   split at h
   ·rename_i rs hid
    split at h
    ·rename_i hc
     simp only[A1]at h
     obtain⟨y,hy,rfl⟩:=h
     obtain⟨rfl,hv⟩:=hr.pX
     have Gb:len=0->y.1=[]:=fun h0=>by
      have :=congrArg H5 (show(rs.drop off).take len=[]by rw[h0];rfl)
      rw[h0,PQ]at hy
      simp[oY,lg]at hy
      rw[<-hy]
     rcases hv with⟨a,l,rfl,rfl,_⟩|⟨b',o',sz',K5,cap,hb',hle',hcap,rfl⟩
     ·rw[Gb rfl];exact .gE
     ·rcases Nat.eq_zero_or_pos len with h0|h0
      ·subst h0;rw[Gb rfl];exact .gE
      ·rcases hL id rs hid with⟨hb,rfl,hF⟩|⟨bm,hb,_⟩|⟨b,o,sz,n',vs,cK,hb,hF,oa,⟨hne,hsz⟩,hle,bV,hrl⟩
       ·simp at hc;omega
       ·rw[hb]at hb';cases hb'
       ·rw[hb]at hb'
        simp only[AC,Loc.blk.injEq]at hb'
        obtain⟨rfl,rfl,rfl,rfl⟩:=hb'
        have hsp:rs.flatten=(rs.take off).flatten++(((rs.drop off).take len).flatten++((rs.drop off).drop len).flatten):=by
         rw[<-FK (rs.drop off) len,<-FK rs off]
        rw[hsp]at hrl
        obtain⟨f1,f23,v1,v23,rfl,rfl,h1,h23⟩:=ay.split hrl
        obtain⟨f2,f3,v2,v3,rfl,rfl,h2,h3⟩:=ay.split h23
        have Db:=h1.length
        rw[mb (sz:=sz) (fun r hr=>hsz r (Hd hr)),Hb,IH (by omega)]at Db
        obtain⟨⟨l1,l2⟩,g⟩:=NI ih hy h2
        have rQ:y.1.length=len:=by rw[l1,Hb,List.length_drop];omega
        have hin:∀x∈F id,I' x:=i3 id (A0 ..)
        have g':=g I' i1 (fun x hx=>hin x (by rw[hF];simp[hx])) fun id hid=>i3 id (Do _ hid)
        have CA:fH w b (o+off*sz) v2:=by
         have :=(bV.drop v1.length).take v2.length
         rw[Pi,Hn,Db]at this
         exact this
        have :=R.sl (β:=b8) (cap:=cap) (l2 sz fun r hr=>hsz r (List.mem_of_mem_drop (Hd hr))) (hin b (by rw[hF];simp)) CA (by omega) g'
        rw[rQ]at this
        exact this
    ·cases h
   ·cases h
  |mp id row off=>
   simp only[cI]at h
   split at h
   ·rename_i rs hid
    split at h
    ·rename_i r hrow
     split at h
     ·rename_i hoff
      simp only[A1]at h
      obtain⟨y,hy,rfl⟩:=h
      obtain⟨rfl,b',o',sz',n',hb',rfl⟩:=hr.pK
      rcases hL id rs hid with⟨hb,h0,hF⟩|⟨bm,hb,_⟩|⟨b,o,sz,n',vs,cK,hb,hF,oa,⟨hne,hsz⟩,hle,bV,hrl⟩
      ·subst h0;simp at hrow
      ·rw[hb]at hb';cases hb'
      ·rw[hb]at hb'
       simp only[AC,Loc.blk.injEq]at hb'
       obtain⟨rfl,rfl,rfl,rfl⟩:=hb'
       obtain⟨hsp,hlt⟩:=L4 hrow
       have PM:r.length=sz:=hsz r (Ps hrow)
       have hsp:rs.flatten=((rs.take row).flatten++r.take off)++(r.drop off++(rs.drop (row+1)).flatten):=by
        have e:r.take off++(r.drop off++(rs.drop (row+1)).flatten)=r++(rs.drop (row+1)).flatten:=by rw[<-QP,Lk]
        rw[QP,e]
        conv=>lhs;rw[hsp]
        simp
       rw[hsp]at hrl
       obtain⟨f1,f23,v1,v23,rfl,rfl,h1,h23⟩:=ay.split hrl
       obtain⟨f2,f3,v2,v3,rfl,rfl,h2,h3⟩:=ay.split h23
       have Db:=h1.length
       rw[QQ,mb (sz:=sz) (fun r hr=>hsz r (Hd hr)),Hb,Hb,IH (by omega),IH hoff]at Db
       obtain⟨_,g⟩:=v8 ih hy h2
       have hin:∀x∈F id,I' x:=i3 id (A0 ..)
       have g':=g I' i1 (fun x hx=>hin x (by rw[hF];simp[hx])) fun id hid=>i3 id (Do _ hid)
       have CA:fH w b (o+row*sz+off) v2:=by
        have :=(bV.drop v1.length).take v2.length
        rw[Pi,Hn,Db,<-Nat.add_assoc]at this
        exact this
       exact .aT (hin b (by rw[hF];simp)) CA g'
     ·cases h
    ·cases h
   ·cases h
  |cG=>
   simp only[cI,AC]at h;subst h
   obtain⟨rfl,a,rfl⟩:=hr.yA
   exact .gE
  |agg cs=>
   simp only[cI,A1]at h
   obtain⟨y,hy,rfl⟩:=h
   obtain⟨vs,rfl,hl⟩:=hr.oU
   exact(v8 ih hy hl).2 I' i1 i2 i3
  |aV cs=>
   simp only[cI,A1]at h
   obtain⟨y,hy,rfl⟩:=h
   obtain⟨vs,rfl,hl⟩:=hr.Bj
   exact .aV ((v8 ih hy hl).2 I' i1 i2 i3)
  |fn k a b=>
   simp only[cI,A1,Hc]at h
   obtain⟨y,hy,z,hz,rfl⟩:=h
   obtain⟨rfl,vs,cs,rfl,h1,h2⟩:=hr.o7
   exact .fn ((v8 ih hy h1).2 I' i1 (fun _ h=>by cases h) fun id hid=>i3 id (List.mem_append.2 (.inl hid))) ((v8 ih hz h2).2 I' i1 (fun _ h=>by cases h) fun id hid=>i3 id (List.mem_append.2 (.inr hid)))
  |dw g y=>
   simp only[cI,AC]at h;subst h
   exact .bD
  |own rs len=>
   simp only[cI,A1]at h
   obtain⟨y,hy,rfl⟩:=h
   cases hr with
   |jz=>
    have :y=([],[]):=by simpa[oY,lg]using hy.symm
    subst this;exact .gE
   |kj _ _ _ _ _ _=>
    have :y=([],[]):=by simpa[oY,lg]using hy.symm
    subst this;exact .gE
   | @own _ b o sz cap n len cK jF _ g0 g1 g2 g3 g4 g5 g6=>
    rw[FK rs len]at g6
    obtain⟨f1,f2,v1,v2,rfl,rfl,h1,h2⟩:=ay.split g6
    obtain⟨⟨l1,l2⟩,g⟩:=NI ih hy h1
    have g':=g I' i1 (fun b hb=>i2 b (Do _ (List.mem_append.2 (.inl hb)))) i3
    have JK:fH w b o v1:=by
     have :=g5.take v1.length
     rwa[Hn]at this
    have rQ:y.1.length=len:=by rw[l1,Hb];omega
    have :=R.sl (β:=b8) (cap:=cap) (l2 sz fun r hr=>g1 r (Hd hr)) (i2 b (A0 ..)) JK (by omega) g'
    rw[rQ]at this
    exact this
  |b5 cs=>
   simp only[cI,A1]at h
   obtain⟨y,hy,rfl⟩:=h
   cases hr with
   | @b5 _ b o n cK jF _ g2 g3 g5 g6=>
    obtain⟨_,g⟩:=v8 ih hy g6
    exact .aT (i2 b (A0 ..)) g5 (g I' i1 (fun b hb=>i2 b (Do _ hb)) i3)
  |val u=>
   simp only[cI,AC]at h;subst h
   exact hr.od rfl i1
  |nn=>
   simp only[cI,AC]at h;subst h
   exact hr.od rfl i1
  |mr id=>
   simp only[cI]at h
   split at h
   ·rename_i rs hid
    simp only[AC]at h;subst h
    obtain⟨rfl,b,hb',rfl⟩:=hr.K4
    rcases hL id rs hid with⟨hb,_⟩|⟨b2,hb,hF,hm⟩|⟨b2,o,sz,n',vs,cK,hb,_⟩
    ·rw[hb]at hb';cases hb'
    ·rw[hb]at hb';cases hb'
     exact .im (i3 id (A0 ..) b (by rw[hF];simp)) hm
    ·rw[hb]at hb';cases hb'
   ·cases h
  |eN rows=>
   simp only[cI,AC]at h;subst h
   obtain⟨b,rfl,rfl,hm⟩:=hr.Lz
   exact .im (i2 b (A0 ..)) hm
  |im rows=>
   simp only[cI,AC]at h;subst h
   exact hr.od rfl i1
  |gP vs=>
   simp only[cI,AC]at h;subst h
   exact hr.od rfl i1
  |sl rows=>
   simp only[cI,AC]at h;subst h
   exact hr.od rfl i1
  |aT cells=>
   simp only[cI,AC]at h;subst h
   exact hr.od rfl i1
  |cC i rs=>cases hr
  |ox u=>cases hr
  |bD=>
   simp only[cI,AC]at h;subst h
   exact .bD
/-! ### Nothing but its own -/
theorem KZ:∀rows:Rows,Gw rows=true->mw rows.flatten=true|[],_=>by{simp[mw]}|r::rs,h=>by simp only[Gw,GT]at h;have:∀a b:List U,mw (a++b)=(mw a&&mw b):=fun a b=>by{induction a with|nil=>(simp[mw])|cons c cs ih=>simp[mw,ih,Ix]};rw[Ha,this,h.1,KZ rs h.2];rfl
theorem R.mine{f:List Nat}{v:Value}{a:U}(h:R w I β f v a):mine a=true->∀I':Nat->Prop,R w I' β f v a:=by induction h with|val h=>(intro _ _;exact .val h)|nn=>(intro _ _;exact .nn)|eN h=>(intro _ _;exact .eN h)|cG=>(intro _ _;exact .cG)|nil=>(intro _ _;exact .nil)|cons _ _ ih1 ih2=>(intro hf _;simp only[Ab.mine,mw,GT]at hf;exact .cons (ih1 hf.1 _) (ih2 (by simpa[Ab.mine]using hf.2) _))|aV _ ih=>(intro hf _;exact .aV (ih (by simpa[Ab.mine]using hf) _))|jz=>(intro _ _;exact .jz)|own h0 h1 h2 h3 h4 h5 _ ih=>(intro hf _;simp only[Ab.mine]at hf;exact .own h0 h1 h2 h3 h4 h5 (ih (by simpa[Ab.mine]using KZ _ hf) _))|kj h0 h1 h2 h3 h5 _ ih=>(intro hf _;simp only[Ab.mine]at hf;exact .kj h0 h1 h2 h3 h5 (ih (by simpa[Ab.mine]using KZ _ hf) _))|b5 h1 h2 h3 _ ih=>(intro hf _;simp only[Ab.mine]at hf;exact .b5 h1 h2 h3 (ih (by simpa[Ab.mine]using hf) _))|bD=>(intro _ _;exact .bD)|_=>intro hf;simp[Ab.mine]at hf
/-! ### Freezing -/
theorem ZT(a b:List U):jw (a++b)=jw a++jw b:=by induction a with|nil=>(rfl)|cons c cs ih=>simp[jw,ih]
theorem ZU(a:List U):(jw a).length=a.length:=by induction a with|nil=>(rfl)|cons c cs ih=>simp[jw,ih]
theorem Je:∀rows:Rows,(jO rows).flatten=jw rows.flatten|[]=>rfl|r::rs=>by simp[jO,ZT,Je rs]
theorem Jf:∀rows:Rows,(jO rows).length=rows.length|[]=>rfl|r::rs=>by simp[jO,Jf rs]
theorem Jg:∀{rows:Rows}{r:List U},r∈jO rows->∃r'∈rows,r.length=r'.length|[],r,h=>by{simp[jO]at h}|c::rs,r,h=>by simp only[jO,List.mem_cons]at h;rcases h with rfl|h;·{exact⟨c,A0 ..,ZU c⟩};·obtain⟨r',h1,h2⟩:=Jg h;exact⟨r',Do _ h1,h2⟩
theorem R.ZP{β:Id->Option Loc}{f:List Nat}{v:Value}{a:U}(h:R w I β f v a)(bQ:β=b8){I':Nat->Prop}(i1:∀b,I b->I' b):(∀b∈f,I' b)->R w I' b8 [] v (dN a):=by induction h with|val h=>(intro _;exact .val h)|nn=>(intro _;exact .nn)|mr h=>(subst bQ;cases h)|eN h=>(intro h2;exact .im (h2 _ (A0 ..)) h)|im h1 h2=>(intro _;exact .im (i1 _ h1) h2)|gP h1 h2=>(intro _;exact .gP (i1 _ h1) h2)|cG=>(intro _;exact .cG)|gE=>(intro _;exact .gE)|sl h1 h2 h3 h4 h5 _=>(intro _;exact .sl h1 (i1 _ h2) h3 h4 (h5.mono i1 (fun _ _=>rfl) (fun _ _ h=>h)))|aT h1 h2 h3 _=>(intro _;exact .aT (i1 _ h1) h2 (h3.mono i1 (fun _ _=>rfl) (fun _ _ h=>h)))|iM h _=>(subst bQ;cases h)|rs h _ _=>(subst bQ;cases h)|mp h=>(subst bQ;cases h)|fn h1 h2 _ _=>(intro _;subst bQ;exact .fn (h1.mono i1 (fun _ _=>rfl) (fun _ _ h=>h)) (h2.mono i1 (fun _ _=>rfl) (fun _ _ h=>h)))|nil=>(intro _;exact .nil)|cons _ _ ih1 ih2=>(intro h;exact R.cons (f1:=[]) (f2:=[]) (ih1 bQ fun b hb=>h b (List.mem_append.2 (.inl hb))) (ih2 bQ fun b hb=>h b (List.mem_append.2 (.inr hb))))|aV _ ih=>(intro h;exact .aV (ih bQ h))|jz=>(intro _;exact .gE)|kj _ _ _ _ _ _=>(intro _;simp only[Ab.dN,PQ];exact .gE)| @own _ b o sz cap n len cK jF rows h0 h1 h2 h3 h4 h5 _ ih=>(intro h;have g:=ih bQ fun b hb=>h b (Do _ hb);simp only[Ab.dN]at g|-;rw[<-Je,FK (jO rows) len]at g;obtain⟨f1,f2,v1,v2,e1,e2,g1,g2⟩:=ay.split g;obtain rfl:f1=[]:=(List.append_eq_nil_iff.1 e1.symm).1;have JK:fH w b o v1:=by{rw[e2]at h5;have:=h5.take v1.length;rwa[Hn]at this};have hl:((jO rows).take len).length=len:=by{rw[Hb,Jf];omega};have:=R.sl (w:=w) (β:=b8) (cap:=cap) (o:=o) (rows:=(jO rows).take len) (fun r hr=>by obtain⟨r',m1,m2⟩:=Jg (Hd hr);rw[m2];exact h1 r' m1) (h b (A0 ..)) JK (by omega) g1;rw[hl]at this;exact this)|b5 h1 h2 h3 _ ih=>(intro h;have g:=ih bQ fun b hb=>h b (Do _ hb);exact .aT (h _ (A0 ..)) h3 g)|qt h _=>(intro _;subst bQ;exact .qt (h.mono i1 (fun _ _=>rfl) (fun _ _ h=>h)))|qs=>(intro _;exact .qs)|bD=>intro _;exact .bD
theorem R.dN{f:List Nat}{v:Value}{a:U}(h:R w I b8 f v a){I':Nat->Prop}(i1:∀b,I b->I' b)(hf:∀b∈f,I' b):R w I' b8 [] v (dN a):=R.ZP h rfl i1 hf
end
open Go
def gQ(w:World)(I:Nat->Prop)(β:Id->Option Loc)(f:List Nat)(N:Id->Prop)(Rel:(Id->Option Loc)->Prop)(l:List (Id×Option Rows)):Prop:=∃(β':Id->Option Loc)(G:Id->List Nat),(∀i l',β i=some l'->β' i=some l')∧(∀i,(∀x∈l,x.1≠i)->β' i=β i∧G i=[])∧Rel β'∧(∀x∈l,∃rows,x.2=some rows∧dG w I β' x.1 rows (G x.1))∧(∀i,(G i).Nodup∧∀b∈G i,b∈f)∧(∀i i' b,b∈G i->b∈G i'->i=i')∧(∀x∈l,N x.1)
section
variable{w:World}{I:Nat->Prop}{β:Id->Option Loc}
theorem gQ.zero{f:List Nat}{N:Id->Prop}{Rel:(Id->Option Loc)->Prop}(h:Rel β):gQ w I β f N Rel []:=⟨β,fun _=>[],fun _ _ h=>h,fun _ _=>⟨rfl,rfl⟩,h,(fun x hx=>by cases hx),(fun i=>⟨Hk,(fun b hb=>by cases hb)⟩),(fun i i' b hb=>by cases hb),(fun x hx=>by cases hx)⟩
theorem gQ.weak{f f':List Nat}{N N':Id->Prop}{Rel Rel':(Id->Option Loc)->Prop}{l:List (Id×Option Rows)}(h:gQ w I β f N Rel l)(hf:∀b∈f,b∈f')(hN:∀i,N i->N' i)(hR:∀β',(∀i l',β i=some l'->β' i=some l')->Rel β'->Rel' β'):gQ w I β f' N' Rel' l:=by obtain⟨β',G,h1,h2,h3,h4,h5,h6,h7⟩:=h;exact⟨β',G,h1,h2,hR β' h1 h3,h4,fun i=>⟨(h5 i).1,fun b hb=>hf b ((h5 i).2 b hb)⟩,h6,fun x hx=>hN _ (h7 x hx)⟩
theorem gQ.join{f1 f2:List Nat}{yR EU:Id->Prop}{HW BC:(Id->Option Loc)->Prop}{l1 l2:List (Id×Option Rows)}(h2:gQ w I β f2 EU BC l2)(h1:∀e4,(∀i l',β i=some l'->e4 i=some l')->(∀x∈l1,e4 x.1=none)->gQ w I e4 f1 yR HW l1)(hfr:∀x∈l1,β x.1=none)(aav:∀x∈l1,yR x.1)(hN:∀i,yR i->EU i->False)(hf:∀b,b∈f1->b∈f2->False)(hm:∀e4 cW,(∀i l',e4 i=some l'->cW i=some l')->BC e4->BC cW):gQ w I β (f1++f2) (fun i=>yR i∨EU i) (fun β'=>HW β'∧BC β') (l1++l2):=by obtain⟨e4,sj,a1,a2,a3,a4,a5,a6,a7⟩:=h2;have hnot:∀x∈l1,∀y∈l2,y.1≠x.1:=fun x hx y hy e=>hN x.1 (aav x hx) (e▸a7 y hy);obtain⟨cW,nZ,b1,b2,b3,b4,vX,Ip,Iq⟩:=h1 e4 a1 (fun x hx=>by rw[(a2 x.1 (hnot x hx)).1];exact hfr x hx);have g1:∀y∈l2,nZ y.1=[]:=fun y hy=>(b2 y.1 fun x hx e=>hnot x hx y hy e.symm).2;have g2:∀x∈l1,sj x.1=[]:=fun x hx=>(a2 x.1 (hnot x hx)).2;have either:∀i,nZ i=[]∨sj i=[]:=fun i=>by{by_cases h:∃x∈l1,x.1=i;·{obtain⟨x,hx,rfl⟩:=h;exact .inr (g2 x hx)};·exact .inl (b2 i fun x hx e=>h ⟨x,hx,e⟩).2};refine⟨cW,fun i=>nZ i++sj i,fun i l' h=>b1 i l' (a1 i l' h), ?_,⟨b3,hm _ _ b1 a3⟩, ?_, ?_, ?_, ?_⟩;·{intro i hi;obtain⟨e1,e2⟩:=b2 i fun x hx=>hi x (List.mem_append.2 (.inl hx));obtain⟨bJ,fC⟩:=a2 i fun x hx=>hi x (List.mem_append.2 (.inr hx));exact⟨e1.trans bJ,by simp[e2,fC]⟩};·{intro x hx;rcases List.mem_append.1 hx with hx|hx;·{simp only[g2 x hx,Hm];exact b4 x hx};·obtain⟨rows,e,h⟩:=a4 x hx;simp only[g1 x hx,GE];exact⟨rows,e,h.mono (fun _ h=>h) (fun _ _=>rfl) b1⟩};·{intro i;refine⟨?_,fun b hb=> ?_⟩;·{rcases either i with h|h;·{simp only[h,GE];exact(a5 i).1};·simp only[h,Hm];exact(vX i).1};·rcases List.mem_append.1 hb with hb|hb;·{exact List.mem_append.2 (.inl ((vX i).2 b hb))};·exact List.mem_append.2 (.inr ((a5 i).2 b hb))};·{intro i i' b hb hb';rcases List.mem_append.1 hb with hb|hb<;>rcases List.mem_append.1 hb' with hb'|hb';·{exact Ip i i' b hb hb'};·{exact(hf b ((vX i).2 b hb) ((a5 i').2 b hb')).elim};·{exact(hf b ((vX i').2 b hb') ((a5 i).2 b hb)).elim};·exact a6 i i' b hb hb'};·intro x hx;rcases List.mem_append.1 hx with hx|hx;·{exact .inl (Iq x hx)};·exact .inr (a7 x hx)
theorem Hu{p:Id}{cs:List U}{j:Nat}{f:List Nat}{vs:List Value}(h:ay w I β f vs cs)(hnd:f.Nodup)(hfr:∀x∈(bR p j cs).2,β x.1=none):gQ w I β f (fun i=>∃k,j<=k∧i=k::p) (fun β'=>ay w I β' [] vs (bR p j cs).1) (bR p j cs).2:=S7 p h hnd hfr
theorem GQ{p:Id}{rows:Rows}{a:U}{f:List Nat}{v:Value}(hnd:f.Nodup)(hfr:β p=none)(l:Loc)(hl:∀β':Id->Option Loc,(∀i l',β i=some l'->β' i=some l')->β' p=some l->R w I β' [] v a∧dG w I β' p rows f):gQ w I β f (fun i=>i=p) (fun β'=>R w I β' [] v a) [(p,some rows)]:=by have up:∀i l',β i=some l'->ax β p (some l) i=some l':=fun i l' hl'=>by{by_cases hi:i=p;·{subst hi;rw[hfr]at hl';cases hl'};·simpa[ax,hi]using hl'};obtain⟨r1,r2⟩:=hl _ up (by simp[ax]);refine⟨ax β p (some l),ax (fun _=>[]) p f,up, ?_,r1, ?_, ?_, ?_, ?_⟩;·{intro i hi;have:i≠p:=fun e=>hi _ (A0 ..) e.symm;simp[ax,this]};·{intro x hx;obtain rfl:=List.mem_singleton.1 hx;exact⟨rows,rfl,by simpa[ax]using r2⟩};·{intro i;by_cases hi:i=p;·{subst hi;simp[ax,hnd]};·simp[ax,hi]};·{intro i i' b hb hb';by_cases hi:i=p<;>by_cases hi':i'=p;·{rw[hi,hi']};·{simp[ax,hi']at hb'};·{simp[ax,hi]at hb};·simp[ax,hi]at hb};·intro x hx;obtain rfl:=List.mem_singleton.1 hx;rfl
theorem Rr{p:Id}{rows:Rows}{len:Nat}{f:List Nat}{v:Value}(h:R w I β f v (.own rows len))(hnd:f.Nodup)(hfr:β p=none):gQ w I β f (fun i=>i=p) (fun β'=>R w I β' [] v (.rs p 0 len)) [(p,some rows)]:=by cases h with|jz=>(exact GQ hnd hfr .nil fun β' _ hb=>⟨.iM hb rfl, .inl ⟨hb,rfl,rfl⟩⟩)| @own _ b o sz cap n _ cK jF _ g0 g1 g2 g3 g4 g5 g6=>(refine GQ hnd hfr (.blk b o sz n) fun β' up hb=>⟨?_, .inr (.inr ⟨b,o,sz,n,jF,cK,hb,rfl,g2,⟨g0,g1⟩,g3.2,g5,g6.mono (fun _ h=>h) (fun _ _=>rfl) up⟩)⟩;have:=R.rs (w:=w) (I:=I) (off:=0) (len:=len) (cap:=cap) hb (by simpa using g3.1) g4.1;simpa using this)| @kj _ a b o sz n cK jF _ g0 g1 g2 g3 g5 g6=>exact GQ hnd hfr (.blk b o sz n) fun β' up hb=>⟨.iM hb rfl, .inr (.inr ⟨b,o,sz,n,jF,cK,hb,rfl,g2,⟨g0,g1⟩,g3,g5,g6.mono (fun _ h=>h) (fun _ _=>rfl) up⟩)⟩
theorem Rl{p:Id}{rows:Rows}{f:List Nat}{v:Value}(h:R w I β f v (.eN rows))(hnd:f.Nodup)(hfr:β p=none):gQ w I β f (fun i=>i=p) (fun β'=>R w I β' [] v (.mr p)) [(p,some rows)]:=by obtain⟨b,rfl,rfl,hm⟩:=h.Lz;exact GQ hnd hfr (.map b) fun β' _ hb=>⟨.mr hb, .inr (.inl ⟨b,hb,rfl,hm⟩)⟩
theorem aeG{p:Id}{cells:List U}{f:List Nat}{v:Value}(h:R w I β f v (.b5 cells))(hnd:f.Nodup)(hfr:β p=none):gQ w I β f (fun i=>i=p) (fun β'=>R w I β' [] v (.mp p 0 0)) [(p,some [cells])]:=by cases h with| @b5 _ b o n cK jF _ g2 g3 g5 g6=>have up:∀i l',β i=some l'->ax β p (some (.blk b o cells.length n)) i=some l':=fun i l' hl'=>by{by_cases hi:i=p;·{subst hi;rw[hfr]at hl';cases hl'};·simpa[ax,hi]using hl'};refine⟨ax β p (some (.blk b o cells.length n)),ax (fun _=>[]) p (b::cK),up, ?_, ?_, ?_, ?_, ?_, ?_⟩;·{intro i hi;have:i≠p:=fun e=>hi _ (A0 ..) e.symm;simp[ax,this]};·{have:=R.mp (w:=w) (I:=I) (β:=ax β p (some (.blk b o cells.length n))) (id:=p) (row:=0) (off:=0) (by simp[ax];exact⟨rfl,rfl,rfl,rfl⟩);simpa using this};·{intro x hx;obtain rfl:=List.mem_singleton.1 hx;exact⟨[cells],rfl, .inr (.inr ⟨b,o,cells.length,n,jF,cK,by simp[ax],by simp[ax],g2,⟨by simp,by simp⟩,by simpa using g3,g5,by simpa using g6.mono (fun _ h=>h) (fun _ _=>rfl) up⟩)⟩};·{intro i;by_cases hi:i=p;·{subst hi;simp only[ax,if_true];exact⟨hnd,fun _ h=>h⟩};·simp[ax,hi]};·{intro i i' b hb hb';by_cases hi:i=p<;>by_cases hi':i'=p;·{rw[hi,hi']};·{simp[ax,hi']at hb'};·{simp[ax,hi]at hb};·simp[ax,hi]at hb};·intro x hx;obtain rfl:=List.mem_singleton.1 hx;rfl
theorem aeH{p:Id}{cells:List U}{f:List Nat}{v:Value}(h:R w I β f v (.b5 cells))(hnd:f.Nodup)(hfr:β p=none)(aaU:∀x∈(bR p 0 cells).2,β x.1=none):gQ w I β f (fun i=>∃q,i=q++p) (fun β'=>R w I β' [] v (.mp p 0 0)) ((p,some [(bR p 0 cells).1])::(bR p 0 cells).2):=by cases h with| @b5 _ b o n cK jF _ g2 g3 g5 g6=>have nJ:cK.Nodup:=(List.nodup_cons.1 hnd).2;have hb:b∉cK:=(List.nodup_cons.1 hnd).1;obtain⟨e4,nZ,a1,a2,a3,a4,a5,a6,a7⟩:=Hu (p:=p) (j:=0) g6 nJ aaU;have hnot:∀x∈(bR p 0 cells).2,x.1≠p:=fun x hx e=>by{obtain⟨k,_,e'⟩:=a7 x hx;rw[e]at e';exact absurd (congrArg H5 e') (by simp)};have Ky:e4 p=none:=by{rw[(a2 p hnot).1];exact hfr};have up:∀i l',e4 i=some l'->ax e4 p (some (.blk b o cells.length n)) i=some l':=fun i l' hl'=>by{by_cases hi:i=p;·{subst hi;rw[Ky]at hl';cases hl'};·simpa[ax,hi]using hl'};have hlen:(bR p 0 cells).1.length=cells.length:=by{rw[<-a3.length,ay.length g6]};refine⟨ax e4 p (some (.blk b o cells.length n)),ax nZ p [b],fun i l' h=>up i l' (a1 i l' h), ?_, ?_, ?_, ?_, ?_, ?_⟩;·{intro i hi;have h1:i≠p:=fun e=>hi _ (A0 ..) e.symm;have:=a2 i fun x hx=>hi x (Do _ hx);simpa[ax,h1]using this};·{have:=R.mp (w:=w) (I:=I) (β:=ax e4 p (some (.blk b o cells.length n))) (id:=p) (row:=0) (off:=0) (by simp[ax];exact⟨rfl,rfl,rfl,rfl⟩);simpa using this};·{intro x hx;rcases List.mem_cons.1 hx with rfl|hx;·{exact⟨_,rfl, .inr (.inr ⟨b,o,cells.length,n,jF,[],by simp[ax],by simp[ax],g2,⟨by simp,by simp[hlen]⟩,by simpa using g3,g5,by simpa using a3.mono (fun _ h=>h) (fun _ _=>rfl) up⟩)⟩};·obtain⟨rows,e,h⟩:=a4 x hx;refine⟨rows,e, ?_⟩;have:=h.mono (w':=w) (I':=I) (fun _ h=>h) (fun _ _=>rfl) up;simpa[ax,hnot x hx]using this};·{intro i;by_cases hi:i=p;·{subst hi;simp[ax]};·simp only[ax,hi,if_false];exact⟨(a5 i).1,fun b hb=>Do _ ((a5 i).2 b hb)⟩};·{intro i i' c hc ob;by_cases hi:i=p<;>by_cases hi':i'=p;·{rw[hi,hi']};·{simp[ax,hi,hi']at hc ob;subst hc;exact(hb ((a5 i').2 _ ob)).elim};·{simp[ax,hi,hi']at hc ob;subst ob;exact(hb ((a5 i).2 _ hc)).elim};·simp only[ax,hi,hi',if_false]at hc ob;exact a6 i i' c hc ob};·intro x hx;rcases List.mem_cons.1 hx with rfl|hx;·{exact⟨[],rfl⟩};·obtain⟨k,_,e⟩:=a7 x hx;exact⟨[k],by simpa using e⟩
theorem R.OX{f:List Nat}{v:Value}{a:U}(h:R w I β f v a)(h1:∀l m,a≠ .own l m)(h2:∀l,a≠ .b5 l)(h3:∀l,a≠ .agg l)(h4:∀l,a≠ .aV l)(h5:∀l,a≠ .eN l):f=[]:=by cases h<;>first|rfl|simp_all
theorem P2(p:Id):∀{cs:List U}{j:Nat}{f:List Nat}{vs:List Value},ay w I β f vs cs->f.Nodup->(∀x∈(fL p j cs).2,β x.1=none)->gQ w I β f (fun i=>∃q k,j<=k∧i=q++k::p) (fun β'=>ay w I β' [] vs (fL p j cs).1) (fL p j cs).2|[],j,f,vs,h,_,_=>by{obtain⟨rfl,rfl⟩:=h.iA;exact .zero .nil}|c::cs,j,f,vs,h,hnd,hfr=>by obtain⟨f1,f2,v,vs',rfl,rfl,h1,h2⟩:=ay.cons_inv h;have qB:f2.Nodup:=(List.nodup_append.1 hnd).2.1;have rH:f1.Nodup:=(List.nodup_append.1 hnd).1;have uH:∀b,b∈f1->b∈f2->False:=fun b hb hb'=>(List.nodup_append.1 hnd).2.2 b hb b hb' rfl;have go:∀(x:U)(l:List (Id×Option Rows)),fL p j (c::cs)=(x::(fL p (j+1) cs).1,l++(fL p (j+1) cs).2)->(∀e4:Id->Option Loc,(∀i l',β i=some l'->e4 i=some l')->(∀x∈l,e4 x.1=none)->gQ w I e4 f1 (fun i=>∃q,i=q++j::p) (fun β'=>R w I β' [] v x) l)->(∀y∈l,∃q,y.1=q++j::p)->gQ w I β (f1++f2) (fun i=>∃q k,j<=k∧i=q++k::p) (fun β'=>ay w I β' [] (v::vs') (fL p j (c::cs)).1) (fL p j (c::cs)).2:=fun x l e hh hn=>by{rw[e]at hfr|-;simp only at hfr|-;have ih:=P2 p (j:=j+1) h2 qB (fun y hy=>hfr y (List.mem_append.2 (.inr hy)));refine(gQ.join ih hh (fun y hy=>hfr y (List.mem_append.2 (.inl hy))) hn ?_ uH (fun e4 cW up h=>h.mono (fun _ h=>h) (fun _ _=>rfl) up)).weak (fun _ h=>h) ?_ (fun β' _ h=>R.cons (f1:=[]) (f2:=[]) h.1 h.2);·{rintro i⟨q,rfl⟩⟨q',k,hk,e⟩;have hl:=congrArg H5 e;simp only[QQ,List.length_cons]at hl;have:=(List.append_inj e (by omega)).2;simp at this;omega};·rintro i(⟨q,rfl⟩|⟨q,k,hk,rfl⟩);·{exact⟨q,j,Nat.le_refl _,rfl⟩};·exact⟨q,k,by omega,rfl⟩};cases c with|own rows=>(exact go _ [(j::p,some rows)] rfl (fun e4 up hf=>(Rr (h1.mono (fun _ h=>h) (fun _ _=>rfl) up) rH (hf _ (A0 ..))).weak (N':=fun i=>∃q,i=q++j::p) (fun _ h=>h) (fun i e=>⟨[],e⟩) (fun _ _ h=>h)) (fun y hy=>⟨[],by rw[List.mem_singleton.1 hy];rfl⟩))|eN rows=>(exact go _ [(j::p,some rows)] rfl (fun e4 up hf=>(Rl (h1.mono (fun _ h=>h) (fun _ _=>rfl) up) rH (hf _ (A0 ..))).weak (N':=fun i=>∃q,i=q++j::p) (fun _ h=>h) (fun i e=>⟨[],e⟩) (fun _ _ h=>h)) (fun y hy=>⟨[],by rw[List.mem_singleton.1 hy];rfl⟩))|b5 cells=>(exact go _ [(j::p,some [cells])] rfl (fun e4 up hf=>(aeG (h1.mono (fun _ h=>h) (fun _ _=>rfl) up) rH (hf _ (A0 ..))).weak (N':=fun i=>∃q,i=q++j::p) (fun _ h=>h) (fun i e=>⟨[],e⟩) (fun _ _ h=>h)) (fun y hy=>⟨[],by rw[List.mem_singleton.1 hy];rfl⟩))|agg l=>(obtain⟨us,rfl,hl⟩:=h1.oU;have abe:∀y∈(bR (j::p) 0 l).2,∃q,y.1=q++j::p:=fun y hy=>by{obtain⟨_,_,_,_,_,_,_,_,a7⟩:=Hu (p:=j::p) (j:=0) hl rH (fun x hx=>hfr x (List.mem_append.2 (.inl hx)));obtain⟨k,_,e⟩:=a7 y hy;exact⟨[k],by simpa using e⟩};refine go _ (bR (j::p) 0 l).2 rfl (fun e4 up hf=> ?_) abe;have hl1:ay w I e4 f1 us l:=hl.mono (fun _ h=>h) (fun _ _=>rfl) up;exact(Hu hl1 rH hf).weak (fun _ h=>h) (fun i⟨k,_,e⟩=>⟨[k],by simpa using e⟩) (fun _ _ h=>h))|aV l=>(exact go _ [] rfl (fun e4 _ _=> .zero .bD) (by simp))|_=>have zI:f1=[]:=h1.OX (by simp) (by simp) (by simp) (by simp) (by simp);subst zI;exact go _ [] rfl (fun e4 up _=> .zero (h1.mono (fun _ h=>h) (fun _ _=>rfl) up)) (by simp)
theorem C0(p:Id){a:U}{f:List Nat}{v:Value}(h:R w I β f v a)(hnd:f.Nodup)(hfr:∀x∈(imp p a).2,β x.1=none):gQ w I β f (fun i=>∃q,i=q++p) (fun β'=>R w I β' [] v (imp p a).1) (imp p a).2:=by cases a with|own rows=>(exact(Rr h hnd (hfr (p,some rows) (A0 ..))).weak (N':=fun i=>∃q,i=q++p) (fun _ h=>h) (fun i e=>⟨[],e⟩) (fun _ _ h=>h))|eN rows=>(exact(Rl h hnd (hfr (p,some rows) (A0 ..))).weak (N':=fun i=>∃q,i=q++p) (fun _ h=>h) (fun i e=>⟨[],e⟩) (fun _ _ h=>h))|b5 cells=>(exact aeH h hnd (hfr (p,some [(bR p 0 cells).1]) (A0 ..)) (fun x hx=>hfr x (Do _ hx)))|agg l=>(obtain⟨us,rfl,hl⟩:=h.oU;exact(Hu hl hnd hfr).weak (fun _ h=>h) (fun i⟨k,_,e⟩=>⟨[k],by simpa using e⟩) (fun _ _ h=>h))|aV l=>(obtain⟨us,rfl,hl⟩:=h.Bj;exact(P2 p hl hnd hfr).weak (fun _ h=>h) (fun i⟨q,k,_,e⟩=>⟨q++[k],by simpa using e⟩) (fun _ _ h=> .aV h))|_=>have hf:f=[]:=h.OX (by simp) (by simp) (by simp) (by simp) (by simp);subst hf;exact .zero h
end
open Go
def uX:List Nat->List U->List (Id×Option Rows)|s::l,v::vs=>(imp [s] v).2++uX l vs|_,_=>[]
theorem tX(h:Id->Option (Option Rows))(b:List (Id×Option Rows)):∀a,bu h (a++b)=bu (bu h b) a|[]=>rfl|(i,r)::l=>by simp[bu,tX h b l]
theorem De(n:Nat):∀(slots:List Nat)(cj:List U),(aD n slots cj).h=bu (fun _=>none) (uX slots cj)|[],_=>rfl|_::_,[]=>rfl|s::l,v::vs=>by simp[aD,uX,tX,De n l vs]
theorem z7(n:Nat):∀(slots:List Nat)(cj:List U),(aD n slots cj).n=n|[],_=>rfl|_::_,[]=>rfl|s::l,v::vs=>rfl
theorem QH(n:Nat):∀(slots:List Nat)(cj:List U)(t:Nat),t∉slots->(aD n slots cj).t t= .bD|[],_,_,_=>rfl|_::_,[],_,_=>rfl|s::l,v::vs,t,h=>by have h1:t≠s:=fun e=>h (by simp[e]);have h2:t∉l:=fun e=>h (by simp[e]);simp only[aD,ax,h1,if_false];exact QH n l vs t h2
section
variable{w:World}{I:Nat->Prop}
theorem P3(p:Id){a:U}{f:List Nat}{v:Value}(h:R w I b8 f v a)(hnd:f.Nodup):∀x∈(imp p a).2,∃q,x.1=q++p:=by obtain⟨_,_,_,_,_,_,_,_,a7⟩:=C0 p h hnd (fun _ _=>rfl);exact a7
theorem QG(n:Nat)(g:Nat->Value):∀{slots:List Nat}{cj:List U}{f:List Nat},ay w I b8 f (slots.map g) cj->slots.Nodup->f.Nodup->gQ w I b8 f (fun i=>∃q s,s∈slots∧i=q++[s]) (fun β'=>∀s∈slots,R w I β' [] (g s) ((aD n slots cj).t s)) (uX slots cj)|[],_,_,_,_,_=> .zero (fun s hs=>by cases hs)|s::l,cj,f,h,hs,hf=>by cases h with| @cons _ f1 f2 _ _ v vs h1 h2=>have qB:f2.Nodup:=(List.nodup_append.1 hf).2.1;have rH:f1.Nodup:=(List.nodup_append.1 hf).1;have uH:∀b,b∈f1->b∈f2->False:=fun b hb hb'=>(List.nodup_append.1 hf).2.2 b hb b hb' rfl;have mj:s∉l:=(List.nodup_cons.1 hs).1;have ih:=QG n g h2 (List.nodup_cons.1 hs).2 qB;refine(gQ.join (yR:=fun i=>∃q,i=q++[s]) (HW:=fun β'=>R w I β' [] (g s) (imp [s] v).1) (l1:=(imp [s] v).2) ih (fun e4 up hfr=>C0 [s] (h1.mono (fun _ h=>h) (fun _ _=>rfl) up) rH hfr) (fun _ _=>rfl) (P3 [s] h1 rH) ?_ uH ?_).weak (fun _ h=>h) ?_ ?_;·{rintro i⟨q,rfl⟩⟨q',s',hs',e⟩;have:=(List.append_inj' e rfl).2;simp at this;subst this;exact mj hs'};·{intro e4 cW up h s' hs';exact(h s' hs').mono (fun _ h=>h) (fun _ _=>rfl) up};·{rintro i(⟨q,rfl⟩|⟨q,s',hs',rfl⟩);·{exact⟨q,s,A0 ..,rfl⟩};·exact⟨q,s',Do _ hs',rfl⟩};·intro β' _⟨r1,r2⟩s' hs';rcases List.mem_cons.1 hs' with rfl|hs';·{simpa[aD,ax]using r1};·have hne:s'≠s:=fun e=>mj (e▸hs');simpa[aD,ax,hne]using r2 s' hs'
theorem aK.enter{C:aC}{E:Env}{a:Act}{n:Nat}{slots:List Nat}{cj:List U}{f:List Nat}(hn:a.tmps.size=n)(hdf:nw w (fun b=>I b∧E.m<=b) E.ds a.defers)(hr:ay w I b8 f (slots.map (a.tmps.getD · undef)) cj)(hs:slots.Nodup)(hf:f.Nodup)
  (hI:∀b,I b->(E.c5 b∨E.kX b∨E.w0.heap.size<=b)∧b<w.heap.size∧b∉f)(hlt:∀b∈f,b<w.heap.size∧(E.kX b∨E.w0.heap.size<=b))(hk:Kept E.w0 w E.kX)
  (hg:∀g cs,C.dW g=some cs->R w I b8 [] (.pointer (some ⟨g,0,none⟩)) (mV cs))(abi:∀t,t<n->∀q,¬E.K (q++[t]):=by exact fun _ _ _ h=>h.elim)(Kk:∀s∈slots,∀q,¬E.K (q++[s]):=by exact fun _ _ _ h=>h.elim):aY C E (aD n slots cj) a w:=by
 obtain⟨β',G,a1,a2,a3,a4,a5,a6,a7⟩:=QG n (a.tmps.getD · undef) hr hs hf
 have rB:∀b,I b->aF E w G b:=fun b hb=>⟨(hI b hb).1,(hI b hb).2.1,fun id hm=>(hI b hb).2.2 ((a5 id).2 b hm)⟩
 refine⟨β',G,{n:=by rw[z7];exact hn,df:=hdf.mono (fun b hb=>⟨rB b hb.1,hb.2⟩) (fun _ _=>rfl),slot:= ?_,obj:= ?_,dead:= ?_,nd:=fun id=>(a5 id).1,dM:=a6,dom:= ?_,lt:=fun id b hb=>hlt b ((a5 id).2 b hb),kept:=hk,dW:=fun g cs h=>(hg g cs h).mono rB (fun _ _=>rfl) xV,ns:=fun t ht=>abi t (by rw[z7]at ht;exact ht),kb:=fun k rows hk hr=> ?_}⟩
 ·intro t
  by_cases ht:t∈slots
  ·exact(a3 t ht).mono rB (fun _ _=>rfl) (fun _ _ h=>h)
  ·rw[QH n slots cj t ht];exact .bD
 ·intro id rows h
  rw[De]at h
  rcases gb (fun _=>none) (uX slots cj) id with⟨x,hx,rfl,e⟩|⟨_,e⟩
  ·obtain⟨bB,e',h'⟩:=a4 x hx
   rw[e,e']at h
   simp at h;subst h
   exact h'.mono rB (fun _ _=>rfl) (fun _ _ h=>h)
  ·rw[e]at h;cases h
 ·intro id h
  rw[De]at h
  rcases gb (fun _=>none) (uX slots cj) id with⟨x,hx,rfl,e⟩|⟨hx,e⟩
  ·obtain⟨bB,e',h'⟩:=a4 x hx
   rw[e,e']at h
   exact absurd rfl (h bB)
  ·exact(a2 id hx).2
 ·intro id h
  rw[De]at h
  rcases gb (fun _=>none) (uX slots cj) id with⟨x,hx,rfl,e⟩|⟨hx,e⟩
  ·rw[e]at h;cases h
  ·exact(a2 id hx).1
 ·rw[De]at hr
  rcases gb (fun _=>none) (uX slots cj) k with⟨x,hx,rfl,e⟩|⟨hx,e⟩
  ·obtain⟨q,s,hs',e'⟩:=a7 x hx
   rw[e']at hk
   exact absurd hk (Kk s hs' q)
  ·rw[e]at hr;cases hr
structure hG(l:List Nat):Prop where
 nd:l.Nodup
 no:jU∉l
theorem hG.nil:hG []:=⟨Hk,by simp⟩
theorem KE(q:Id)(s:Nat):jT (q++[s])=(s==jU):=by induction q with|nil=>(rfl)|cons a q ih=>cases q with|nil=>(rfl)|cons b q=>exact ih
theorem hG.Dj{E:Env}{l:List Nat}(h:hG l):∀s∈l,∀q,¬E.K (q++[s]):=fun s hs q hk=>by have:=E.uU _ hk;rw[KE,beq_iff_eq]at this;exact h.no (this▸hs)
end
open Go
def EJ(P:Program)(f:FuncId)(args:Array Value)(w:World)(Post:Value->World->Prop):Prop:=(∃fn c,P.funcs[f]? =some fn∧fn.body=some c∧Calls P f args w fun e w'=>∃v,e= .returned v∧Post v w')∨(∃v w',(callFunc f args).run P w= .ok (.value v) w'∧Post v w')
def tw(cT:List Nat)(vs:List Value):List Value:=cT.map fun j=>vs.getD j undef
structure yU(w:World)(fp:List Nat)(c5:Nat->Prop)(ls:List Value)(r:U×List U)(v:Value)(w':World):Prop where kept:Kept w w' (·∈fp)ex:∃(I':Nat->Prop)(fr:List Nat),ay w' I' b8 fr (v::ls) (r.1::r.2)∧fr.Nodup∧(∀b∈fr,b<w'.heap.size∧(b∈fp∨w.heap.size<=b))∧(∀b,I' b->(c5 b∨b∈fp∨w.heap.size<=b)∧b<w'.heap.size∧b∉fr)
def qb(C:aC)(f:FuncId)(args:List U)(r:U×List U):Prop:=∀(w:World)(c5:Nat->Prop)(fp:List Nat)(vs:List Value),ay w c5 b8 fp vs args->fp.Nodup->(∀b,c5 b->b<w.heap.size∧b∉fp)->(∀b∈fp,b<w.heap.size)->(∀g cs,C.dW g=some cs->R w c5 b8 [] (.pointer (some ⟨g,0,none⟩)) (mV cs))->EJ C.P f ⟨vs⟩ w (yU w fp c5 (tw (C.cT f) vs) r)
def Mw(P:Program)(f:FuncId)(args:Array Value)(w:World)(Post:Ending->World->Prop):Prop:=(∃fn c,P.funcs[f]? =some fn∧fn.body=some c∧Calls P f args w Post)∨(∃v w',(callFunc f args).run P w= .ok (.value v) w'∧Post (.returned v) w')
structure EO(C:aC)(w:World)(c5:Nat->Prop)(β:Id->Option Loc)(G:Id->List Nat)(hl:List (Id×Rows))(vs:List Value)(as:List U):Prop where
 args:ay w c5 β [] vs as
 obj:∀k rows,(k,rows)∈hl->dG w c5 β k rows (G k)
 out:∀k,k∉hl.map (·.1)->β k=none∧G k=[]
 nd:∀k,(G k).Nodup
 dM:∀i j b,b∈G i->b∈G j->i=j
 lt:∀k b,b∈G k->b<w.heap.size
 i0:∀b,c5 b->b<w.heap.size∧∀k,b∉G k
 dW:∀g cs,C.dW g=some cs->R w c5 b8 [] (.pointer (some ⟨g,0,none⟩)) (mV cs)
def Bt(w':World)(I':Nat->Prop)(β:Id->Option Loc)(fr:List Nat)(e:Ending):U->Prop| .ox u=>e= .panicked [{v:=u,recovered:=false}]∧fr=[]|r=>∃v,e= .returned v∧R w' I' β fr v r
structure E2(w:World)(c5:Nat->Prop)(β:Id->Option Loc)(G:Id->List Nat)(r:U×List U)(e:Ending)(w':World):Prop where
 kept:Kept w w' fun b=>∃k,b∈G k
 ex:∃(I':Nat->Prop)(G':Id->List Nat)(fr:List Nat),Bt w' I' β fr e r.1∧(∀k rows,U.cC k rows∈r.2->dG w' I' β k rows (G' k))∧(∀k,(∀rows,U.cC k rows∉r.2)->G' k=[])∧
  (∀k,(G' k).Nodup)∧(∀i j b,b∈G' i->b∈G' j->i=j)∧fr.Nodup∧(∀k b,b∈G' k->b∉fr)∧
  (∀b,(b∈fr∨∃k,b∈G' k)->b<w'.heap.size∧((∃k,b∈G k)∨w.heap.size<=b))∧
  (∀b,I' b->(c5 b∨(∃k,b∈G k)∨w.heap.size<=b)∧b<w'.heap.size∧b∉fr∧∀k,b∉G' k)
def BD(C:aC)(f:FuncId)(args:List U)(r:U×List U):Prop:=∀obs as hl,args= .aV obs::as->xY obs=some hl->(hl.map (·.1)).Nodup->(∀x∈hl,jT x.1=true)->∀(w:World)(c5:Nat->Prop)(β:Id->Option Loc)(G:Id->List Nat)(vs:List Value),EO C w c5 β G hl vs as->Mw C.P f ⟨vs⟩ w (E2 w c5 β G r)
def Sound(C:aC)(f:FuncId)(args:List U)(r:U×List U):Prop:=(C.iT f=false->qb C f args r)∧(C.iT f=true->BD C f args r)
theorem qb.sound{C:aC}{f:FuncId}{args:List U}{r:U×List U}(h:qb C f args r)(hg:C.iT f=false):Sound C f args r:=⟨fun _=>h,fun e=>by rw[hg]at e;cases e⟩
theorem BD.sound{C:aC}{f:FuncId}{args:List U}{r:U×List U}(h:BD C f args r)(hg:C.iT f=true):Sound C f args r:=⟨(fun e=>by rw[hg]at e;cases e),fun _=>h⟩
def so(P:Program):Prop:=∀(f:FuncId)(fn:Func),P.funcs[f]? =some fn->(fn.name== "runtime.NumGoroutine")=false
section
variable{C:aC}{E:Env}{w:World}{S:ah}{a:Act}{β:Id->Option Loc}{F:Id->List Nat}
variable{next:Act->World->Prop}{Q:Exit->Act->World->Prop}
theorem yy{P:Program}(hN:so P){f:FuncId}{fn:Func}{c:Code}(hf:P.funcs[f]? =some fn)(hb:fn.body=some c)(args:Array Value):(callFunc f args).run P w= .ok (.enter f args) w:=by have:¬fn.name= "runtime.NumGoroutine" :=by{simpa using hN f fn hf};simp[callFunc,hf,hb,this]
theorem aK.imported(h:aK C E w S a β F){o:Oper}{d:Nat}(bL:o.dst=some d){w':World}{fr:List Nat}{v:Value}{r:U}(hk:Kept w w' (fun _=>False))(hr:R w' (fun b=>aF E w F b∨(w.heap.size<=b∧b<w'.heap.size∧b∉fr)) b8 fr v r)(hnd:fr.Nodup)(hfr:∀b∈fr,w.heap.size<=b∧b<w'.heap.size)(hfresh:fresh S.h (imp [d] r).2=true)(rd:List Id)(hd:cE S (put o (imp [d] r).1 rd (imp [d] r).2)):aY C E (S.app (put o (imp [d] r).1 rd (imp [d] r).2)) (a.put o.dst v) w':=by have ng:=FO hfresh;obtain⟨β',G,a1,a2,a3,a4,a5,a6,a7⟩:=C0 (β:=β) [d] (hr.mono (fun _ h=>h) (fun _ _=>rfl) xV) hnd (fun x hx=>h.dom _ (ng x hx));have rA:∀x∈(imp [d] r).2,F x.1=[]:=fun x hx=>h.dead _ (by rw[ng x hx];simp);have Cq:∀i b,b∈G i->w.heap.size<=b∧b<w'.heap.size:=fun i b hb=>hfr b ((a5 i).2 b hb);refine⟨β',fun i=>F i++G i, ?_⟩;have gL:(∀b,aF E w F b->aF E w' (fun i=>F i++G i) b)->∀b,(aF E w F b∨(w.heap.size<=b∧b<w'.heap.size∧b∉fr))->aF E w' (fun i=>F i++G i) b:=fun hI b hb=>by{rcases hb with hb|⟨h1,h2,h3⟩;·{exact hI b hb};·refine⟨.inr (.inr (Nat.le_trans h.kept.size h1)),h2,fun id hm=> ?_⟩;rcases List.mem_append.1 hm with hm|hm;·{have:=(h.lt id b hm).1;omega};·exact h3 ((a5 id).2 b hm)};have hh:(S.app (put o (imp [d] r).1 rd (imp [d] r).2)).h=bu S.h (imp [d] r).2:=rfl;refine h.Ee (fun id=>∃x∈(imp [d] r).2,x.1=id) (by rw[vi];exact h.n) hk.size hk.os hk.out hk.gx (fun b hb _=>hk.blk b hb id) a1 ?_ ?_ ?_ ?_ ?_ ?_ ?_ ?_ (fY:=hk.qR) (hok:=jK.of rfl fun x hx _=>by obtain⟨q,e⟩:=a7 x hx;rw[e];exact .inl (h.ns d (by simpa[cE,put,bL]using hd) q));·{intro id b hb;rcases List.mem_append.1 hb with hb|hb;·{exact .inl ⟨id,hb⟩};·exact .inr (Cq id b hb)};·{intro id hid;have hno:∀x∈(imp [d] r).2,x.1≠id:=fun x hx e=>hid ⟨x,hx,e⟩;refine⟨by simp[(a2 id hno).2], ?_⟩;rw[hh];rcases gb S.h (imp [d] r).2 id with⟨x,hx,e,_⟩|⟨_,e⟩;·{exact absurd e (hno x hx)};·exact e};·{rintro hI id⟨x,hx,rfl⟩rows hrows;rw[hh]at hrows;rcases gb S.h (imp [d] r).2 x.1 with⟨y,hy,e,e'⟩|⟨hno,_⟩;·{rw[e']at hrows;obtain⟨bB,e2,h2⟩:=a4 y hy;rw[e2]at hrows;simp at hrows;subst hrows;rw[<-e];simp only[rA y hy,GE];exact h2.mono (gL hI) (fun _ _=>rfl) (fun _ _ h=>h)};·exact absurd rfl (hno x hx)};·{rintro id⟨x,hx,rfl⟩hno;rw[hh]at hno;rcases gb S.h (imp [d] r).2 x.1 with⟨y,hy,e,e'⟩|⟨hn,_⟩;·{obtain⟨bB,e2,h2⟩:=a4 y hy;exact absurd (by rw[e',e2]) (hno bB)};·exact absurd rfl (hn x hx)};·{rintro id⟨x,hx,rfl⟩;simp only[rA x hx,GE];exact(a5 _).1};·{rintro i j b⟨x,hx,rfl⟩hb hb';simp only[rA x hx,GE]at hb;rcases List.mem_append.1 hb' with hb'|hb';·{have:=(h.lt j b hb').1;have:=(Cq _ b hb).1;omega};·exact a6 _ _ b hb hb'};·{intro id hid;rw[hh]at hid;rcases gb S.h (imp [d] r).2 id with⟨x,hx,e,e'⟩|⟨hno,e⟩;·{rw[e']at hid;cases hid};·rw[(a2 id hno).1];exact h.dom id (by rw[<-e];exact hid)};·intro hI t;have hd':d<a.tmps.size:=by{rw[h.n];simpa[cE,put,bL]using hd};rw[bL,vh a d t v hd'];by_cases ht:t=d;·{subst ht;rw[if_pos rfl];refine .inr ?_;have:=a3.mono (w':=w') (gL hI) (fun _ _=>rfl) (fun _ _ h=>h);simpa[ah.app,put,bL,dn,ax]using this};·rw[if_neg ht];refine .inl ⟨rfl, ?_⟩;simp[ah.app,put,bL,dn,ax,ht]
def HK(C:aC)(k:FuncId):Prop:=∀(w:World)(c5:Nat->Prop)(vs us:List Value)(i c:Int)(cells:List U)(ks:Rows)(u:Value),(∀u∈us,fZ u=true)->ay w c5 b8 [] vs [.val (.int .i64 i), .aT [.sl (us.map fun u=>[.val u])], .aT cells]->cells[4]? =some (.sl ks)->ks[i.toNat]? =some [.val (.int .i64 c)]->us[c.toNat]? =some u->0<=i->0<=c->(∀b,c5 b->b<w.heap.size)->(∀g cs,C.dW g=some cs->R w c5 b8 [] (.pointer (some ⟨g,0,none⟩)) (mV cs))->EJ C.P k ⟨vs⟩ w fun v w'=>v=u∧Kept w w' (fun _=>False)
theorem Rm{I:Nat->Prop}:∀{rows:Rows}{f:List Nat}{vs:List Value},ay w I β f vs rows.flatten->rows.all Dt=true->vs.length=rows.length∧(∀v∈vs,fZ v=true)∧∀(k:Nat)(x:U),rows[k]? =some [x]->∃v,vs[k]? =some v∧R w I β [] v x|[],f,vs,h,_=>by{obtain⟨_,rfl⟩:=h.iA;exact⟨rfl,(fun v hv=>by cases hv),fun k x hx=>by simp at hx⟩}|r::rows,f,vs,h,hr=>by simp only[List.all_cons,GT]at hr;obtain⟨a,ha,F0⟩:∃a,r=[a]∧((∃v,a= .val v)∨∃cs,a= .aT cs):=by{obtain⟨h1,_⟩:=hr;unfold Dt at h1;split at h1;·{exact⟨_,rfl, .inl ⟨_,rfl⟩⟩};·{exact⟨_,rfl, .inr ⟨_,rfl⟩⟩};·cases h1};subst ha;simp only[Ha,H4,GE]at h;obtain⟨f1,f2,v,vs',e0,rfl,h1,h2⟩:=h.cons_inv;obtain⟨g1,g2,g3⟩:=Rm h2 hr.2;have hsc:fZ v=true∧R w I β [] v a:=by{rcases F0 with⟨u,rfl⟩|⟨cs,rfl⟩;·{cases h1 with|val hh=>exact⟨hh, .val hh⟩};·cases h1 with|aT p1 p2 p3=>exact⟨rfl, .aT p1 p2 p3⟩};refine⟨by simp[g1],fun u hu=> ?_,fun k x hx=> ?_⟩;·{rcases List.mem_cons.1 hu with rfl|hu;·{exact hsc.1};·exact g2 u hu};·cases k with|zero=>(simp only[List.getElem?_cons_zero,AC,H1,and_true]at hx;subst hx;exact⟨v,rfl,hsc.2⟩)|succ k=>simpa using g3 k x (by simpa using hx)
theorem ay.vals{I:Nat->Prop}:∀{us:List Value},(∀u∈us,fZ u=true)->ay w I β [] us (us.map U.val)|[],_=> .nil|u::us,h=>R.cons (f1:=[]) (f2:=[]) (.val (h u (A0 ..))) (ay.vals fun v hv=>h v (Do _ hv))
theorem OM:∀us:List Value,(us.map fun u=>[U.val u]).flatten=us.map U.val|[]=>rfl|u::us=>by simp[OM us]
theorem aep(hN:so C.P)(h:aK C E w S a β F){o:Oper}{c:Call}{cS:Operand}(ho:o.op= .call c)(hc:c.callee= .value cS){k:FuncId}(hl:HK C k){first caps:List U}{gF hJ:List Value}(oc:a.eval cS= .func (.func k) ⟨gF⟩ ⟨hJ⟩)(h1:ay w (aF E w F) β [] gF first)(h2:ay w (aF E w F) β [] hJ caps){e:aP}(he:xR S o (first++(c.args.toList.map fun x=>un true (S.get C x))++caps)=some e)(hd:cE S e)(hn:∀a' w',aY C E (S.app e) a' w'->next a' w'):o.wp C.P a w next Q:=by have hargs:=ay.ofMap h c.args.toList;have hall:ay w (aF E w F) β [] (gF++c.args.toList.map a.eval++hJ) (first++(c.args.toList.map fun x=>un true (S.get C x))++caps):=(h1.append hargs).append h2;have rG:(execOp a.eval o).run C.P w=(callFunc k ⟨gF++c.args.toList.map a.eval++hJ⟩).run C.P w:=by{have e2:((⟨gF⟩:Array Value)++c.args.map a.eval++⟨hJ⟩:Array Value)=⟨gF++c.args.toList.map a.eval++hJ⟩:=by{apply If;simp};have bJ:resolve a.eval c o.type=(pure {target:= .fn (.func k) ⟨hJ⟩,args:=⟨gF⟩++c.args.map a.eval}:Sem Deferred):=by{simp[resolve,hc,oc,Deferred.ofValue]};have fC:execOp a.eval o=(do let d<-resolve a.eval c o.type;invoke d.target d.args:Sem Next):=by{simp[execOp,ho]};rw[fC,bJ,Sem.run_bind,Sem.run_pure,Result.andThen_ok];simp only[invoke,e2]};generalize gF++c.args.toList.map a.eval++hJ=vs at hall rG;generalize(first++(c.args.toList.map fun x=>un true (S.get C x))++caps)=as at hall he;unfold xR at he;split at he;·{rename_i i id cells;split at he;·{rename_i ks pE n aaI hid;split at he;·{rename_i rows c' aaZ hki;split at he;·{rename_i x uO;split at he;·{rename_i mZ;simp only[AC]at he;subst he;obtain⟨hi0,hc0,Gc,hrows,aa0,bL⟩:=mZ;obtain⟨d,bL⟩:=Option.isSome_iff_exists.1 bL;obtain⟨f1,f2,v1,jF,aW,rfl,k1,k2⟩:=hall.cons_inv;obtain⟨f3,f4,v2,Tc,aje,rfl,dJ,j7⟩:=k2.cons_inv;obtain⟨f5,f6,v3,anr,ajf,rfl,j8,xN⟩:=j7.cons_inv;obtain⟨_,rfl⟩:=xN.iA;obtain⟨_,b,o',sz,n1,bQ,rfl⟩:=dJ.pK;have abj:=h.obj id _ hid;obtain⟨ws,cK,aap,_,⟨_,_⟩,_,bV,hrl⟩:=abj.at bQ;simp only[Ha,PP,Hm]at hrl;obtain⟨_,_,iq,ans,eb,rfl,JC,qy⟩:=hrl.cons_inv;obtain⟨_,rfl⟩:=qy.iA;have ake:=bV 0 iq rfl;have hpos:0<rows.length:=by{rcases Nat.lt_or_ge c'.toNat rows.length with h'|h';·{omega};·rw[List.getElem?_eq_none h']at uO;cases uO};obtain⟨_,abH⟩:=JC.pX;rcases abH with⟨_,_,h0,_⟩|⟨b2,o2,SU,n2,cap,abQ,F8,hlc,rfl⟩;·{omega};·obtain⟨us,FN,zD,_,⟨_,abw⟩,_,CA,PM⟩:=(h.obj pE rows aaZ).at abQ;obtain⟨u1,u2,u3⟩:=Rm PM hrows;obtain⟨u,hu,abE⟩:=u3 _ _ uO;have abF:R w (aF E w F) b8 [] u x:=abE.qE aa0;have abB:SU=1:=by{rw[<-abw _ (QR hpos)];have:=List.all_eq_true.1 hrows _ (QR hpos);unfold Dt at this;split at this;·{rename_i e;rw[e];rfl};·{rename_i e;rw[e];rfl};·cases this};subst abB;have xm:b∈F id:=by{rw[aap];exact A0 .. };have hm2:b2∈F pE:=by{rw[zD];exact A0 .. };let c5:Nat->Prop:=fun x=>aF E w F x∨x=b∨x=b2;have up:∀x,aF E w F x->c5 x:=fun _ h=> .inl h;have mj:R w c5 b8 [] (.slice (some ⟨b2,o2+0*1,none⟩) n cap) (.sl (us.map fun u=>[.val u])):=by{have e1:n=(us.map fun u=>[U.val u]).length:=by{rw[List.length_map,u1,Gc]};rw[e1]at hlc|-;refine .sl (sz:=1) (vs:=us) (fun r hr=> ?_) (.inr (.inr rfl)) (by simpa using CA) hlc ?_;·{obtain⟨_,_,rfl⟩:=List.mem_map.1 hr;rfl};·rw[OM];exact ay.vals u2};have aaA:ay w c5 b8 [] [v1, .pointer (some ⟨b,o'+0*sz+0,none⟩),v3] [.val (.int .i64 i), .aT [.sl (us.map fun u=>[.val u])], .aT cells]:=by{refine R.cons (f1:=[]) (f2:=[]) ?_ (R.cons (f1:=[]) (f2:=[]) (.aT (.inr (.inl rfl)) (vs:=[.slice (some ⟨b2,o2+0*1,none⟩) n cap]) ?_ (R.cons (f1:=[]) (f2:=[]) mj .nil)) (R.cons (f1:=[]) (f2:=[]) ?_ .nil));·{cases k1 with|val h=>exact .val h};·{rw[Nat.zero_mul,Nat.add_zero,Nat.add_zero];exact bV};·cases j8 with|aT p1 p2 p3=>exact .aT (up _ p1) p2 (p3.mono up (fun _ _=>rfl) (fun _ _ h=>h))};have sY:=hl w c5 _ us i c' cells ks u u2 aaA aaI hki hu hi0 hc0 (fun x hx=>by rcases hx with hx|rfl|rfl;·{exact hx.2.1};·{exact(h.lt id _ xm).1};·exact(h.lt pE _ hm2).1) (fun g cs hg=>(h.dW g cs hg).od (Cj cs) fun b hb=> .inl hb);have gy:∀w',Kept w w' (fun _=>False)->next (a.put o.dst u) w':=fun w' hk=>by{have hx0:∃y,imp [d] x=(y,[])∧y=x:=by{have:=List.all_eq_true.1 hrows _ (Ps uO);unfold Dt at this;split at this;·{rename_i e;simp only[H1,and_true]at e;subst e;exact⟨_,rfl,rfl⟩};·{rename_i e;simp only[H1,and_true]at e;subst e;exact⟨_,rfl,rfl⟩};·cases this};obtain⟨y,hy,rfl⟩:=hx0;have:=h.imported (fr:=[]) (r:=y) bL hk (v:=u) ((abF.mono (fun _ h=>h) (fun b hb=>hk.blk b (by rcases hb with hb|hb;exact hb.2.1;cases hb) (fun h=>h)) (fun _ _ h=>h)).mono (fun _ h=> .inl h) (fun _ _=>rfl) (fun _ _ h=>h)) Hk (fun b hb=>by cases hb) (by rw[hy];rfl) [id,pE] (by rw[hy];exact hd);rw[hy]at this;exact hn _ _ this};unfold Oper.wp;rw[rG];rcases sY with⟨fn,code,q1,cD,dF⟩|⟨v,w',q1,cD,dF⟩;·{rw[yy hN q1 cD];simp only[Oper.upon];refine dF.mono fun e' w' hh=> ?_;obtain⟨v,rfl,rfl,hk⟩:=hh;exact gy w' hk};·rw[q1,cD];exact gy w' dF};·cases he};·cases he};·cases he};·cases he};·cases he
theorem ad7(hN:so C.P)(aba:∀k,C.look k=true->HK C k)(h:aK C E w S a β F){o:Oper}{c:Call}{cS:Operand}(ho:o.op= .call c)(hc:c.callee= .value cS){f:FuncId}{call:FuncId->List U->Option (U×List U)}(cZ:∀k as r,call k as=some r->Sound C k as r){e:aP}(ef:me C (un true (S.get C cS))=none)(he:rf C f call S o (un true (S.get C cS)) (c.args.toList.map fun x=>un true (S.get C x))=some e)(hd:cE S e)(hn:∀a' w',aY C E (S.app e) a' w'->next a' w'):o.wp C.P a w next Q:=by have hfo:=h.eL cS;have hargs:=ay.ofMap h c.args.toList;unfold rf at he;split at he;·{rename_i k first caps hfn;rw[hfn]at hfo ef;have hg0:C.iT k=false:=by{simp only[me]at ef;split at ef;·{cases ef};·rename_i h;simpa using h};obtain⟨_,gF,hJ,oc,h1,h2⟩:=hfo.o7;by_cases hlk:C.look k=true;·{rw[if_pos hlk]at he;exact aep hN h ho hc (aba k hlk) oc h1 h2 he hd hn};rw[if_neg hlk]at he;split at he;·{rename_i as seen d JJ bL;split at he;·{rename_i r bV;have hs:=(cZ _ _ _ bV).1 hg0;have hall:ay w (aF E w F) β [] (gF++c.args.toList.map a.eval++hJ) (first++(c.args.toList.map fun x=>un true (S.get C x))++caps):=(h1.append hargs).append h2;have fY:=(Ir (F:=F) (Iz h.obj 9) JJ hall).2 (fun b=>aF E w F b∨∃id∈seen,b∈F id) (fun b hb=> .inl hb) (fun b hb=>by cases hb) (fun id hid b hb=> .inr ⟨id,hid,hb⟩);have sY:=hs w _ [] _ fY Hk (fun b hb=>⟨hb.elim (fun hb=>hb.2.1) (fun⟨id,_,hb⟩=>(h.lt id b hb).1),by simp⟩) (fun b hb=>by cases hb) (fun g cs hg=>(h.dW g cs hg).od (Cj cs) fun b hb=> .inl hb);have rG:(execOp a.eval o).run C.P w=(callFunc k ⟨gF++c.args.toList.map a.eval++hJ⟩).run C.P w:=by{have e1:(#[]++(⟨gF⟩:Array Value)++c.args.map a.eval++⟨hJ⟩:Array Value)=⟨gF++c.args.toList.map a.eval++hJ⟩:=by{apply If;simp};have e2:((⟨gF⟩:Array Value)++c.args.map a.eval++⟨hJ⟩:Array Value)=⟨gF++c.args.toList.map a.eval++hJ⟩:=by{apply If;simp};have bJ:resolve a.eval c o.type=(pure {target:= .fn (.func k) ⟨hJ⟩,args:=⟨gF⟩++c.args.map a.eval}:Sem Deferred):=by{simp[resolve,hc,oc,Deferred.ofValue]};have fC:execOp a.eval o=(do let d<-resolve a.eval c o.type;invoke d.target d.args:Sem Next):=by{simp[execOp,ho]};rw[fC,bJ,Sem.run_bind,Sem.run_pure,Result.andThen_ok];simp only[invoke,e2]};have gy:∀{ls:List Value}v w',yU w [] (fun b=>aF E w F b∨∃id∈seen,b∈F id) ls (r,[]) v w'->next (a.put o.dst v) w':=fun v w' hres=>by{obtain⟨I',fr,g1,g2,g3,g4⟩:=hres.ex;replace g1:R w' I' b8 fr v r:=by{obtain⟨f1,f2,v1,anq,rfl,e1,k1,k2⟩:=ay.cons_inv g1;obtain⟨rfl,rfl⟩:=k2.iA;simp only[H1]at e1;obtain⟨rfl,_⟩:=e1;simpa using k1};have hk:Kept w w' (fun _=>False):=⟨hres.kept.size,fun b hb _=>hres.kept.blk b hb (by simp),hres.kept.os,hres.kept.out,hres.kept.gx,hres.kept.qR⟩;generalize hr':(if fM C f o.dst=true then dN r else r)=r' at he;split at he;·{simp at he};·rename_i hm;split at he;·{rename_i hf;simp only[AC]at he;subst he;have base:R w' (fun b=>aF E w F b∨(w.heap.size<=b∧b<w'.heap.size∧b∉fr)) b8 fr v r:=by{by_cases CQ:seen=[];·{subst CQ;refine g1.mono (fun b hb=> ?_) (fun _ _=>rfl) (fun _ _ h=>h);obtain⟨k1,k2,dJ⟩:=g4 b hb;rcases k1 with(k1|⟨_,k1,_⟩)|k1|k1;·{exact .inl k1};·{cases k1};·{cases k1};·exact .inr ⟨k1,k2,dJ⟩};·have:mine r=true:=by{cases hmr:mine r;·{exact absurd (by cases seen<;>simp_all) hm};·rfl};exact g1.mine this _};have JX:∀b∈fr,w.heap.size<=b∧b<w'.heap.size:=fun b hb=>by{obtain⟨k1,k2⟩:=g3 b hb;rcases k2 with k2|k2;·{cases k2};·exact⟨k2,k1⟩};refine hn _ _ ?_;by_cases hz:fM C f o.dst=true;·{rw[if_pos hz]at hr';subst hr';refine h.imported bL hk (fr:=[]) ?_ Hk (fun b hb=>by cases hb) hf seen hd;exact base.dN (fun b hb=>hb.imp id fun⟨k1,k2,_⟩=>⟨k1,k2,by simp⟩) (fun b hb=> .inr ⟨(JX b hb).1,(JX b hb).2,by simp⟩)};·rw[if_neg hz]at hr';subst hr';exact h.imported bL hk base g2 JX hf seen hd};·simp at he};unfold Oper.wp;rw[rG];rcases sY with⟨fn,code,k1,k2,dJ⟩|⟨v,w',k1,k2⟩;·{rw[yy hN k1 k2];simp only[Oper.upon];refine dJ.mono fun e' w' hh=> ?_;obtain⟨v,rfl,hres⟩:=hh;exact gy v w' hres};·rw[k1];exact gy v w' k2};·cases he};·cases he};·cases he
end
end Go.Ab
