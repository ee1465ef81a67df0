import Derived.Test.YtbbhbdlljfffdaaGreatDoorAbOps7
open Bool renaming and_eq_true→Ha,and_assoc→H0
open List renaming mem_cons_self→GE,mem_cons_of_mem→GT,flatten_cons→Hb,length_take→Hd,mem_of_mem_take→Hk,take_left→Hn,perm_iff_count→H1,count_append→H2,flatMap_append→H3,take_append_drop→H4,take_zero→H5,drop_left→IH,append_assoc→If
open Nat renaming min_eq_left→Hm
open Option renaming map_eq_some_iff→Do,bind_eq_some_iff→Hc
open Option.some renaming injEq→AC
set_option linter.all false
namespace Go.Ab
open Go
theorem ZT(a b:List U):cM (a++b)=(cM a&&cM b):=by induction a with|nil=>(simp[cM])|cons c cs ih=>simp[cM,ih,H0]
theorem Ez:∀rows:Rows,en rows=true→cM rows.flatten=true|[],_=>by{simp[cM]}|r::rs,h=>by simp only[en,Ha]at h;rw[Hb,ZT,h.1,Ez rs h.2];rfl
section
variable{w:World}{I:Nat→Prop}
theorem R.kD{β:Id→Option Loc}{f:List Nat}{v:Value}{a:U}(h:R w I β f v a):flat a=true→∀cK:Id→Option Loc,R w I cK f v a:=by induction h with|val h=>(intro _ _;exact .val h)|nn=>(intro _ _;exact .nn)|mr _=>(intro hf;simp[flat]at hf)|ey h=>(intro _ _;exact .ey h)|im h1 h2=>(intro _ _;exact .im h1 h2)|cw=>(intro hf;simp[flat]at hf)|gl=>(intro _ _;exact .gl)|sl h1 h2 h3 h4 h5 _=>(intro _ _;exact .sl h1 h2 h3 h4 h5)|aD h1 h2 h3 _=>(intro _ _;exact .aD h1 h2 h3)|iu _ _=>(intro hf;simp[flat]at hf)|rs _ _ _=>(intro hf;simp[flat]at hf)|mp _=>(intro hf;simp[flat]at hf)|fn _ _ ih1 ih2=>(intro hf _;simp only[flat,Ha]at hf;exact .fn (ih1 (by simpa[flat]using hf.1) _) (ih2 (by simpa[flat]using hf.2) _))|nil=>(intro _ _;exact .nil)|cons _ _ ih1 ih2=>(intro hf _;simp only[flat,cM,Ha]at hf;exact .cons (ih1 hf.1 _) (ih2 (by simpa[flat]using hf.2) _))|aS _ ih=>(intro hf _;exact .aS (ih (by simpa[flat]using hf) _))|jC=>(intro _ _;exact .jC)|own h0 h1 h2 h3 h4 h5 _ ih=>(intro hf _;simp only[flat]at hf;exact .own h0 h1 h2 h3 h4 h5 (ih (by simpa[flat]using Ez _ hf) _))|kr h0 h1 h2 h3 h5 _ ih=>(intro hf _;simp only[flat]at hf;exact .kr h0 h1 h2 h3 h5 (ih (by simpa[flat]using Ez _ hf) _))|aT h1 h2 h3 _ ih=>(intro hf _;simp only[flat]at hf;exact .aT h1 h2 h3 (ih (by simpa[flat]using hf) _))|pS _ _=>(intro hf;simp[flat]at hf)|pR=>(intro hf;simp[flat]at hf)|br=>intro _ _;exact .br
def Aw(w:World)(I:Nat→Prop)(β:Id→Option Loc)(F:Id→List Nat)(p:U→Option (U×List Id)):Prop:=∀a x,p a=some x→∀f v,R w I β f v a→∃fp rest,R w I bR fp v x.1∧(fp++rest).Perm (f++x.2.flatMap F)
variable{β:Id→Option Loc}{F:Id→List Nat}
theorem ry{k4 r1 jt r2 f1 g1 f2 g2:List Nat}(h1:(k4++r1).Perm (f1++g1))(h2:(jt++r2).Perm (f2++g2)):((k4++jt)++(r1++r2)).Perm ((f1++f2)++(g1++g2)):=by rw[H1]at h1 h2⊢;intro a;have:=h1 a;have:=h2 a;simp only[H2]at*;omega
theorem O6{p:U→Option (U×List Id)}(hp:Aw w I β F p):∀{cs:List U}{x},dM p cs=some x→∀{f vs},av w I β f vs cs→x.1.length=cs.length∧∃fp rest,av w I bR fp vs x.1∧(fp++rest).Perm (f++x.2.flatMap F)|[],x,h,f,vs,hr=>by{simp[dM]at h;subst h;obtain⟨rfl,rfl⟩:=hr.fJ;exact⟨rfl,[],[], .nil,by simp⟩}|c::cs,x,h,f,vs,hr=>by simp only[dM,Hc,Do]at h;obtain⟨y,hy,z,hz,rfl⟩:=h;obtain⟨f1,f2,v,vs',rfl,rfl,h1,h2⟩:=hr.cons_inv;obtain⟨k4,r1,g1,g2⟩:=hp _ _ hy _ _ h1;obtain⟨hl,jt,r2,g3,g4⟩:=O6 hp hz h2;refine⟨by simp[hl],k4++jt,r1++r2, .cons g1 g3, ?_⟩;simp only[H3];exact ry g2 g4
theorem F0{p:U→Option (U×List Id)}(hp:Aw w I β F p){cs:List U}{x}(h:gR p cs=some x){f vs}(hr:av w I β f vs cs):x.1.length=cs.length∧∃fp rest,av w I bR fp vs x.1∧(fp++rest).Perm (f++x.2.flatMap F):=by unfold gR at h;split at h;·{rename_i hf;simp at h;subst h;exact⟨rfl,f,[],R.kD hr (by simpa[flat]using hf) _,by simp⟩};·exact O6 hp h hr
theorem Pa{p:U→Option (U×List Id)}(hp:Aw w I β F p):∀{rs:Rows}{x},dN (gR p) rs=some x→∀{f vs},av w I β f vs rs.flatten→(x.1.length=rs.length∧∀sz,(∀r∈rs,r.length=sz)→∀r∈x.1,r.length=sz)∧∃fp rest,av w I bR fp vs x.1.flatten∧(fp++rest).Perm (f++x.2.flatMap F)|[],x,h,f,vs,hr=>by{simp[dN]at h;subst h;obtain⟨rfl,rfl⟩:=hr.fJ;exact⟨⟨rfl,fun _ _ _ h=>by cases h⟩,[],[], .nil,by simp⟩}|c::cs,x,h,f,vs,hr=>by simp only[dN,Hc,Do]at h;obtain⟨y,hy,z,hz,rfl⟩:=h;rw[Hb]at hr;obtain⟨f1,f2,v1,v2,rfl,rfl,h1,h2⟩:=av.split hr;obtain⟨l1,k4,r1,g1,g2⟩:=F0 hp hy h1;obtain⟨⟨l2,l3⟩,jt,r2,g3,g4⟩:=Pa hp hz h2;refine⟨⟨by simp[l2],fun sz hs r hr=> ?_⟩,k4++jt,r1++r2,g1.append g3, ?_⟩;·{rcases List.mem_cons.1 hr with rfl|hr;·{rw[l1];exact hs _ (GE ..)};·exact l3 sz (fun r hr=>hs r (GT _ hr)) r hr};·simp only[H3];exact ry g2 g4
theorem RY{p:U→Option (U×List Id)}(hp:Aw w I β F p){rs:Rows}{x}(h:lz p rs=some x){f vs}(hr:av w I β f vs rs.flatten):(x.1.length=rs.length∧∀sz,(∀r∈rs,r.length=sz)→∀r∈x.1,r.length=sz)∧∃fp rest,av w I bR fp vs x.1.flatten∧(fp++rest).Perm (f++x.2.flatMap F):=by unfold lz at h;split at h;·{rename_i hf;simp at h;subst h;exact⟨⟨rfl,fun _ h=>h⟩,f,[],R.kD hr (by simpa[flat]using Ez _ hf) _,by simp⟩};·exact Pa hp h hr
theorem EG{α:Type}(rs:List (List α))(n:Nat):rs.flatten=(rs.take n).flatten++(rs.drop n).flatten:=by rw[←List.flatten_append,H4]
theorem uF{L:Id→Option (Option Rows)}(hL:∀id rows,L id=some (some rows)→dJ w I β id rows (F id)):∀n,Aw w I β F (pk L n)|0=>fun a x h=>by{simp[pk]at h}|n+1=>fun a x h f v hr=>by have ih:=uF hL n;cases a with|rs id off len=>(simp only[pk]at h;split at h;·{rename_i rs hid;split at h;·{rename_i hc;simp only[Do]at h;obtain⟨y,hy,rfl⟩:=h;obtain⟨rfl,hc⟩:=hc;obtain⟨rfl,hv⟩:=hr.mA;rcases hL id rs hid with⟨hb,rfl,hF⟩|⟨bm,hb,_⟩|⟨b,o,sz,n',vs,cI,hb,hF,nM,⟨hne,hsz⟩,hle,b8,hrl⟩;rotate_left;·{rcases hv with⟨a,l,rfl,rfl,hb',hl⟩|⟨b,o,sz,n',cap,hb',_⟩;·{rw[hb]at hb';cases hb';cases hl};·rw[hb]at hb';cases hb'};rotate_left;·{have hy0:y=([],[]):=by{simpa[lz,en]using hy.symm};subst hy0;simp only[List.length_nil]at hc;rcases hv with⟨a,l,rfl,rfl,_⟩|⟨b,o,sz,n',cap,hb',_⟩;·{exact⟨[],[], .jC,by simp[hF]⟩};·rw[hb]at hb';cases hb'};·obtain⟨⟨l1,l2⟩,fp,rest,g1,g2⟩:=RY ih hy hrl;have hlen:0<rs.length:=List.length_pos_iff.2 hne;have Qj:y.1≠[]:=fun e=>by{rw[e]at l1;simp at l1;omega};have BR:((b::fp)++rest).Perm ([]++(id::y.2).flatMap F):=by{rw[List.perm_iff_count]at g2⊢;intro x;have:=g2 x;simp only[List.flatMap_cons,List.nil_append,hF,List.count_append,List.count_cons,List.cons_append]at*;omega};rcases hv with⟨a,l,rfl,rfl,_⟩|⟨b',o',sz',Kn,cap,hb',hle',hcap,rfl⟩;·{exact⟨b::fp,rest, .kr Qj (l2 sz hsz) nM (by rw[l1];exact hle) b8 g1,BR⟩};·rw[hb]at hb';simp only[Option.some.injEq,Loc.blk.injEq]at hb';obtain⟨rfl,rfl,rfl,rfl⟩:=hb';refine⟨b::fp,rest, ?_,BR⟩;have:=R.own (w:=w) (I:=I) (β:=bR) (cap:=cap) (o:=o) (rows:=y.1) (len:=len) Qj (l2 sz hsz) nM ⟨by simpa using hle',by rw[l1];exact hle⟩ ⟨by omega,by omega⟩ b8 g1;simpa using this};·cases h};·cases h)|mp id row off=>(simp only[pk]at h;split at h;·{rename_i cs hid;split at h;·{rename_i hc;obtain⟨rfl,rfl⟩:=hc;simp only[Do]at h;obtain⟨y,hy,rfl⟩:=h;obtain⟨rfl,b',o',sz',n',hb',rfl⟩:=hr.nW;rcases hL id [cs] hid with⟨hb,h0,hF⟩|⟨bm,hb,_⟩|⟨b,o,sz,n',vs,cI,hb,hF,nM,⟨hne,hsz⟩,hle,b8,hrl⟩;·{cases h0};·{rw[hb]at hb';cases hb'};·rw[hb]at hb';simp only[AC,Loc.blk.injEq]at hb';obtain⟨rfl,rfl,rfl,rfl⟩:=hb';simp only[Hb,List.flatten_nil,List.append_nil]at hrl;obtain⟨l1,fp,rest,g1,g2⟩:=F0 ih hy hrl;have:=hsz cs (by simp);refine⟨b::fp,rest, ?_, ?_⟩;·{have:=R.aT (w:=w) (I:=I) (β:=bR) (cells:=y.1) nM (by simp at hle;omega) b8 g1;simpa using this};·rw[H1]at g2⊢;intro x;have:=g2 x;simp only[List.flatMap_cons,List.nil_append,hF,H2,List.count_cons,List.cons_append]at*;omega};·cases h};·cases h)|cw=>(simp only[pk,AC]at h;subst h;obtain⟨rfl,a,rfl⟩:=hr.xm;exact⟨[],[], .jC,by simp⟩)|agg cs=>(simp only[pk,Do]at h;obtain⟨y,hy,rfl⟩:=h;obtain⟨vs,rfl,hl⟩:=hr.ov;exact(F0 ih hy hl).2)|aS cs=>(simp only[pk,Do]at h;obtain⟨y,hy,rfl⟩:=h;obtain⟨vs,rfl,hl⟩:=hr.Af;obtain⟨_,fp,rest,g1,g2⟩:=F0 ih hy hl;exact⟨fp,rest, .aS g1,g2⟩)|fn k a b=>(simp only[pk]at h;split at h;·{rename_i hi;simp only[AC]at h;subst h;simp only[Ha]at hi;obtain⟨rfl,vs,cs,rfl,h1,h2⟩:=hr.oG;exact⟨[],[], .fn (h1.mW hi.1) (h2.mW hi.2),by simp⟩};·cases h)|c8 g y=>(simp only[pk,AC]at h;subst h;exact⟨[],f, .br,by simp⟩)|own rs len=>(simp only[pk]at h;split at h;·{rename_i hf;simp only[AC]at h;subst h;exact⟨f,[],hr.kD (by simpa[flat]using hf) _,by simp⟩};·cases h)|aT cs=>(simp only[pk]at h;split at h;·{rename_i hf;simp only[AC]at h;subst h;exact⟨f,[],hr.kD (by simpa[flat]using hf) _,by simp⟩};·cases h)|val u=>(simp only[pk,AC]at h;subst h;exact⟨f,[],hr.kD rfl _,by simp⟩)|nn=>(simp only[pk,AC]at h;subst h;exact⟨f,[],hr.kD rfl _,by simp⟩)|mr id=>(simp only[pk]at h;split at h;·{rename_i rs hid;simp only[AC]at h;subst h;obtain⟨rfl,b,hb',rfl⟩:=hr.Cx;rcases hL id rs hid with⟨hb,_⟩|⟨b2,hb,hF,hm⟩|⟨b2,o,sz,n',vs,cI,hb,_⟩;·{rw[hb]at hb';cases hb'};·{rw[hb]at hb';cases hb';exact⟨[b],[], .ey hm,by simp[hF]⟩};·rw[hb]at hb';cases hb'};·cases h)|ey rows=>(simp only[pk,AC]at h;subst h;exact⟨f,[],hr.kD rfl _,by simp⟩)|im rows=>(simp only[pk,AC]at h;subst h;exact⟨f,[],hr.kD rfl _,by simp⟩)|sl rows=>(simp only[pk,AC]at h;subst h;exact⟨f,[],hr.kD rfl _,by simp⟩)|aD cells=>(simp only[pk,AC]at h;subst h;exact⟨f,[],hr.kD rfl _,by simp⟩)|bl i rs=>(cases hr)|zz u=>(cases hr)|br=>simp only[pk,AC]at h;subst h;exact⟨f,[],hr.kD rfl _,by simp⟩
/-! ### Borrowing -/
def Ap(w:World)(I:Nat→Prop)(β:Id→Option Loc)(F:Id→List Nat)(p:U→Option (U×List Id)):Prop:=∀a x,p a=some x→∀f v,R w I β f v a→∀I':Nat→Prop,(∀b,I b→I' b)→(∀b∈f,I' b)→(∀id∈x.2,∀b∈F id,I' b)→R w I' bR [] v x.1
theorem R.oP{f:List Nat}{v:Value}{a:U}(h:R w I β f v a)(hi:fo a=true){I':Nat→Prop}(hI:∀b,I b→I' b):R w I' bR [] v a:=by have e:=h.JR hi;subst e;exact(h.mW hi).mono hI (fun _ _=>rfl) (fun _ _ h=>h)
theorem Ht{p:U→Option (U×List Id)}(hp:Ap w I β F p):∀{cs:List U}{x},dM p cs=some x→∀{f vs},av w I β f vs cs→x.1.length=cs.length∧∀I':Nat→Prop,(∀b,I b→I' b)→(∀b∈f,I' b)→(∀id∈x.2,∀b∈F id,I' b)→av w I' bR [] vs x.1|[],x,h,f,vs,hr=>by{simp[dM]at h;subst h;obtain⟨rfl,rfl⟩:=hr.fJ;exact⟨rfl,fun _ _ _ _=> .nil⟩}|c::cs,x,h,f,vs,hr=>by simp only[dM,Hc,Do]at h;obtain⟨y,hy,z,hz,rfl⟩:=h;obtain⟨f1,f2,v,vs',rfl,rfl,h1,h2⟩:=hr.cons_inv;obtain⟨hl,g3⟩:=Ht hp hz h2;refine⟨by simp[hl],fun I' i1 i2 i3=> ?_⟩;exact R.cons (f1:=[]) (f2:=[]) (hp _ _ hy _ _ h1 I' i1 (fun b hb=>i2 b (List.mem_append.2 (.inl hb))) fun id hid=>i3 id (List.mem_append.2 (.inl hid))) (g3 I' i1 (fun b hb=>i2 b (List.mem_append.2 (.inr hb))) fun id hid=>i3 id (List.mem_append.2 (.inr hid)))
theorem vw{p:U→Option (U×List Id)}(hp:Ap w I β F p){cs:List U}{x}(h:ia p cs=some x){f vs}(hr:av w I β f vs cs):x.1.length=cs.length∧∀I':Nat→Prop,(∀b,I b→I' b)→(∀b∈f,I' b)→(∀id∈x.2,∀b∈F id,I' b)→av w I' bR [] vs x.1:=by unfold ia at h;split at h;·{rename_i hf;simp at h;subst h;exact⟨rfl,fun I' i1 _ _=>R.oP hr (by simpa[fo]using hf) i1⟩};·exact Ht hp h hr
theorem Ny{p:U→Option (U×List Id)}(hp:Ap w I β F p):∀{rs:Rows}{x},dN (ia p) rs=some x→∀{f vs},av w I β f vs rs.flatten→(x.1.length=rs.length∧∀sz,(∀r∈rs,r.length=sz)→∀r∈x.1,r.length=sz)∧∀I':Nat→Prop,(∀b,I b→I' b)→(∀b∈f,I' b)→(∀id∈x.2,∀b∈F id,I' b)→av w I' bR [] vs x.1.flatten|[],x,h,f,vs,hr=>by{simp[dN]at h;subst h;obtain⟨rfl,rfl⟩:=hr.fJ;exact⟨⟨rfl,fun _ _ _ h=>by cases h⟩,fun _ _ _ _=> .nil⟩}|c::cs,x,h,f,vs,hr=>by simp only[dN,Hc,Do]at h;obtain⟨y,hy,z,hz,rfl⟩:=h;rw[Hb]at hr;obtain⟨f1,f2,v1,v2,rfl,rfl,h1,h2⟩:=av.split hr;obtain⟨l1,g1⟩:=vw hp hy h1;obtain⟨⟨l2,l3⟩,g3⟩:=Ny hp hz h2;refine⟨⟨by simp[l2],fun sz hs r hr=> ?_⟩,fun I' i1 i2 i3=> ?_⟩;·{rcases List.mem_cons.1 hr with rfl|hr;·{rw[l1];exact hs _ (GE ..)};·exact l3 sz (fun r hr=>hs r (GT _ hr)) r hr};·have:=(g1 I' i1 (fun b hb=>i2 b (List.mem_append.2 (.inl hb))) fun id hid=>i3 id (List.mem_append.2 (.inl hid))).append (g3 I' i1 (fun b hb=>i2 b (List.mem_append.2 (.inr hb))) fun id hid=>i3 id (List.mem_append.2 (.inr hid)));simpa using this
theorem NI{p:U→Option (U×List Id)}(hp:Ap w I β F p){rs:Rows}{x}(h:kT p rs=some x){f vs}(hr:av w I β f vs rs.flatten):(x.1.length=rs.length∧∀sz,(∀r∈rs,r.length=sz)→∀r∈x.1,r.length=sz)∧∀I':Nat→Prop,(∀b,I b→I' b)→(∀b∈f,I' b)→(∀id∈x.2,∀b∈F id,I' b)→av w I' bR [] vs x.1.flatten:=by unfold kT at h;split at h;·{rename_i hf;simp at h;subst h;exact⟨⟨rfl,fun _ h=>h⟩,fun I' i1 _ _=>R.oP hr (by simpa[fo]using JQ _ hf) i1⟩};·exact Ny hp h hr
theorem Hz{L:Id→Option (Option Rows)}(hL:∀id rows,L id=some (some rows)→dJ w I β id rows (F id)):∀n,Ap w I β F (ck L n)
 |0=>fun a x h=>by simp[ck]at h
 |n+1=>fun a x h f v hr I' i1 i2 i3=>by
  have ih:=Hz hL n
  cases a with
  |rs id off len=>
   simp only[ck]at h
   split at h
   ·rename_i rs hid
    split at h
    ·rename_i hc
     simp only[Do]at h
     obtain⟨y,hy,rfl⟩:=h
     obtain⟨rfl,hv⟩:=hr.mA
     have BN:len=0→y.1=[]:=fun h0=>by
      have :=congrArg List.length (show(rs.drop off).take len=[]by rw[h0];rfl)
      rw[h0,H5]at hy
      simp[kT,iJ]at hy
      rw[←hy]
     rcases hv with⟨a,l,rfl,rfl,_⟩|⟨b',o',sz',Kn,cap,hb',hle',hcap,rfl⟩
     ·rw[BN rfl];exact .gl
     ·rcases Nat.eq_zero_or_pos len with h0|h0
      ·subst h0;rw[BN rfl];exact .gl
      ·rcases hL id rs hid with⟨hb,rfl,hF⟩|⟨bm,hb,_⟩|⟨b,o,sz,n',vs,cI,hb,hF,nM,⟨hne,hsz⟩,hle,b8,hrl⟩
       ·simp at hc;omega
       ·rw[hb]at hb';cases hb'
       ·rw[hb]at hb'
        simp only[AC,Loc.blk.injEq]at hb'
        obtain⟨rfl,rfl,rfl,rfl⟩:=hb'
        have hsp:rs.flatten=(rs.take off).flatten++(((rs.drop off).take len).flatten++((rs.drop off).drop len).flatten):=by
         rw[←EG (rs.drop off) len,←EG rs off]
        rw[hsp]at hrl
        obtain⟨f1,f23,v1,v23,rfl,rfl,h1,h23⟩:=av.split hrl
        obtain⟨f2,f3,v2,v3,rfl,rfl,h2,h3⟩:=av.split h23
        have Ct:=h1.length
        rw[kZ (sz:=sz) (fun r hr=>hsz r (Hk hr)),Hd,Hm (by omega)]at Ct
        obtain⟨⟨l1,l2⟩,g⟩:=NI ih hy h2
        have q6:y.1.length=len:=by rw[l1,Hd,List.length_drop];omega
        have hin:∀x∈F id,I' x:=i3 id (GE ..)
        have g':=g I' i1 (fun x hx=>hin x (by rw[hF];simp[hx])) fun id hid=>i3 id (GT _ hid)
        have vY:fe w b (o+off*sz) v2:=by
         have :=(b8.drop v1.length).take v2.length
         rw[IH,Hn,Ct]at this
         exact this
        have :=R.sl (β:=bR) (cap:=cap) (l2 sz fun r hr=>hsz r (List.mem_of_mem_drop (Hk hr))) (hin b (by rw[hF];simp)) vY (by omega) g'
        rw[q6]at this
        exact this
    ·cases h
   ·cases h
  |mp id row off=>
   simp only[ck]at h
   split at h
   ·rename_i rs hid
    split at h
    ·rename_i r hrow
     split at h
     ·rename_i hoff
      simp only[Do]at h
      obtain⟨y,hy,rfl⟩:=h
      obtain⟨rfl,b',o',sz',n',hb',rfl⟩:=hr.nW
      rcases hL id rs hid with⟨hb,h0,hF⟩|⟨bm,hb,_⟩|⟨b,o,sz,n',vs,cI,hb,hF,nM,⟨hne,hsz⟩,hle,b8,hrl⟩
      ·subst h0;simp at hrow
      ·rw[hb]at hb';cases hb'
      ·rw[hb]at hb'
       simp only[AC,Loc.blk.injEq]at hb'
       obtain⟨rfl,rfl,rfl,rfl⟩:=hb'
       obtain⟨hsp,hlt⟩:=Ly hrow
       have P8:r.length=sz:=hsz r (List.mem_of_getElem? hrow)
       have hsp:rs.flatten=((rs.take row).flatten++r.take off)++(r.drop off++(rs.drop (row+1)).flatten):=by
        have e:r.take off++(r.drop off++(rs.drop (row+1)).flatten)=r++(rs.drop (row+1)).flatten:=by rw[←If,H4]
        rw[If,e]
        conv=>lhs;rw[hsp]
        simp
       rw[hsp]at hrl
       obtain⟨f1,f23,v1,v23,rfl,rfl,h1,h23⟩:=av.split hrl
       obtain⟨f2,f3,v2,v3,rfl,rfl,h2,h3⟩:=av.split h23
       have Ct:=h1.length
       rw[List.length_append,kZ (sz:=sz) (fun r hr=>hsz r (Hk hr)),Hd,Hd,Hm (by omega),Hm hoff]at Ct
       obtain⟨_,g⟩:=vw ih hy h2
       have hin:∀x∈F id,I' x:=i3 id (GE ..)
       have g':=g I' i1 (fun x hx=>hin x (by rw[hF];simp[hx])) fun id hid=>i3 id (GT _ hid)
       have vY:fe w b (o+row*sz+off) v2:=by
        have :=(b8.drop v1.length).take v2.length
        rw[IH,Hn,Ct,←Nat.add_assoc]at this
        exact this
       exact .aD (hin b (by rw[hF];simp)) vY g'
     ·cases h
    ·cases h
   ·cases h
  |cw=>
   simp only[ck,AC]at h;subst h
   obtain⟨rfl,a,rfl⟩:=hr.xm
   exact .gl
  |agg cs=>
   simp only[ck,Do]at h
   obtain⟨y,hy,rfl⟩:=h
   obtain⟨vs,rfl,hl⟩:=hr.ov
   exact(vw ih hy hl).2 I' i1 i2 i3
  |aS cs=>
   simp only[ck,Do]at h
   obtain⟨y,hy,rfl⟩:=h
   obtain⟨vs,rfl,hl⟩:=hr.Af
   exact .aS ((vw ih hy hl).2 I' i1 i2 i3)
  |fn k a b=>
   simp only[ck,Do,Hc]at h
   obtain⟨y,hy,z,hz,rfl⟩:=h
   obtain⟨rfl,vs,cs,rfl,h1,h2⟩:=hr.oG
   exact .fn ((vw ih hy h1).2 I' i1 (fun _ h=>by cases h) fun id hid=>i3 id (List.mem_append.2 (.inl hid))) ((vw ih hz h2).2 I' i1 (fun _ h=>by cases h) fun id hid=>i3 id (List.mem_append.2 (.inr hid)))
  |c8 g y=>
   simp only[ck,AC]at h;subst h
   exact .br
  |own rs len=>
   simp only[ck,Do]at h
   obtain⟨y,hy,rfl⟩:=h
   cases hr with
   |jC=>
    have :y=([],[]):=by simpa[kT,iJ]using hy.symm
    subst this;exact .gl
   |kr _ _ _ _ _ _=>
    have :y=([],[]):=by simpa[kT,iJ]using hy.symm
    subst this;exact .gl
   | @own _ b o sz cap n len cI iU _ g0 g1 g2 g3 g4 g5 g6=>
    rw[EG rs len]at g6
    obtain⟨f1,f2,v1,v2,rfl,rfl,h1,h2⟩:=av.split g6
    obtain⟨⟨l1,l2⟩,g⟩:=NI ih hy h1
    have g':=g I' i1 (fun b hb=>i2 b (GT _ (List.mem_append.2 (.inl hb)))) i3
    have I0:fe w b o v1:=by
     have :=g5.take v1.length
     rwa[Hn]at this
    have q6:y.1.length=len:=by rw[l1,Hd];omega
    have :=R.sl (β:=bR) (cap:=cap) (l2 sz fun r hr=>g1 r (Hk hr)) (i2 b (GE ..)) I0 (by omega) g'
    rw[q6]at this
    exact this
  |aT cs=>
   simp only[ck,Do]at h
   obtain⟨y,hy,rfl⟩:=h
   cases hr with
   | @aT _ b o n cI iU _ g2 g3 g5 g6=>
    obtain⟨_,g⟩:=vw ih hy g6
    exact .aD (i2 b (GE ..)) g5 (g I' i1 (fun b hb=>i2 b (GT _ hb)) i3)
  |val u=>
   simp only[ck,AC]at h;subst h
   exact hr.oP rfl i1
  |nn=>
   simp only[ck,AC]at h;subst h
   exact hr.oP rfl i1
  |mr id=>
   simp only[ck]at h
   split at h
   ·rename_i rs hid
    simp only[AC]at h;subst h
    obtain⟨rfl,b,hb',rfl⟩:=hr.Cx
    rcases hL id rs hid with⟨hb,_⟩|⟨b2,hb,hF,hm⟩|⟨b2,o,sz,n',vs,cI,hb,_⟩
    ·rw[hb]at hb';cases hb'
    ·rw[hb]at hb';cases hb'
     exact .im (i3 id (GE ..) b (by rw[hF];simp)) hm
    ·rw[hb]at hb';cases hb'
   ·cases h
  |ey rows=>
   simp only[ck,AC]at h;subst h
   obtain⟨b,rfl,rfl,hm⟩:=hr.KE
   exact .im (i2 b (GE ..)) hm
  |im rows=>
   simp only[ck,AC]at h;subst h
   exact hr.oP rfl i1
  |sl rows=>
   simp only[ck,AC]at h;subst h
   exact hr.oP rfl i1
  |aD cells=>
   simp only[ck,AC]at h;subst h
   exact hr.oP rfl i1
  |bl i rs=>cases hr
  |zz u=>cases hr
  |br=>
   simp only[ck,AC]at h;subst h
   exact .br
/-! ### Nothing but its own -/
theorem Kl:∀rows:Rows,zm rows=true→jA rows.flatten=true|[],_=>by{simp[jA]}|r::rs,h=>by simp only[zm,Ha]at h;have:∀a b:List U,jA (a++b)=(jA a&&jA b):=fun a b=>by{induction a with|nil=>(simp[jA])|cons c cs ih=>simp[jA,ih,H0]};rw[Hb,this,h.1,Kl rs h.2];rfl
theorem R.mine{f:List Nat}{v:Value}{a:U}(h:R w I β f v a):mine a=true→∀I':Nat→Prop,R w I' β f v a:=by induction h with|val h=>(intro _ _;exact .val h)|nn=>(intro _ _;exact .nn)|ey h=>(intro _ _;exact .ey h)|cw=>(intro _ _;exact .cw)|nil=>(intro _ _;exact .nil)|cons _ _ ih1 ih2=>(intro hf _;simp only[Ab.mine,jA,Ha]at hf;exact .cons (ih1 hf.1 _) (ih2 (by simpa[Ab.mine]using hf.2) _))|aS _ ih=>(intro hf _;exact .aS (ih (by simpa[Ab.mine]using hf) _))|jC=>(intro _ _;exact .jC)|own h0 h1 h2 h3 h4 h5 _ ih=>(intro hf _;simp only[Ab.mine]at hf;exact .own h0 h1 h2 h3 h4 h5 (ih (by simpa[Ab.mine]using Kl _ hf) _))|kr h0 h1 h2 h3 h5 _ ih=>(intro hf _;simp only[Ab.mine]at hf;exact .kr h0 h1 h2 h3 h5 (ih (by simpa[Ab.mine]using Kl _ hf) _))|aT h1 h2 h3 _ ih=>(intro hf _;simp only[Ab.mine]at hf;exact .aT h1 h2 h3 (ih (by simpa[Ab.mine]using hf) _))|br=>(intro _ _;exact .br)|_=>intro hf;simp[Ab.mine]at hf
/-! ### Freezing -/
theorem aax(a b:List U):ju (a++b)=ju a++ju b:=by induction a with|nil=>(rfl)|cons c cs ih=>simp[ju,ih]
theorem aay(a:List U):(ju a).length=a.length:=by induction a with|nil=>(rfl)|cons c cs ih=>simp[ju,ih]
theorem Ip:∀rows:Rows,(jT rows).flatten=ju rows.flatten|[]=>rfl|r::rs=>by simp[jT,aax,Ip rs]
theorem Iq:∀rows:Rows,(jT rows).length=rows.length|[]=>rfl|r::rs=>by simp[jT,Iq rs]
theorem Ir:∀{rows:Rows}{r:List U},r∈jT rows→∃r'∈rows,r.length=r'.length|[],r,h=>by{simp[jT]at h}|c::rs,r,h=>by simp only[jT,List.mem_cons]at h;rcases h with rfl|h;·{exact⟨c,GE ..,aay c⟩};·obtain⟨r',h1,h2⟩:=Ir h;exact⟨r',GT _ h1,h2⟩
theorem R.aas{β:Id→Option Loc}{f:List Nat}{v:Value}{a:U}(h:R w I β f v a)(bH:β=bR){I':Nat→Prop}(i1:∀b,I b→I' b):(∀b∈f,I' b)→R w I' bR [] v (dG a):=by induction h with|val h=>(intro _;exact .val h)|nn=>(intro _;exact .nn)|mr h=>(subst bH;cases h)|ey h=>(intro h2;exact .im (h2 _ (GE ..)) h)|im h1 h2=>(intro _;exact .im (i1 _ h1) h2)|cw=>(intro _;exact .cw)|gl=>(intro _;exact .gl)|sl h1 h2 h3 h4 h5 _=>(intro _;exact .sl h1 (i1 _ h2) h3 h4 (h5.mono i1 (fun _ _=>rfl) (fun _ _ h=>h)))|aD h1 h2 h3 _=>(intro _;exact .aD (i1 _ h1) h2 (h3.mono i1 (fun _ _=>rfl) (fun _ _ h=>h)))|iu h _=>(subst bH;cases h)|rs h _ _=>(subst bH;cases h)|mp h=>(subst bH;cases h)|fn h1 h2 _ _=>(intro _;subst bH;exact .fn (h1.mono i1 (fun _ _=>rfl) (fun _ _ h=>h)) (h2.mono i1 (fun _ _=>rfl) (fun _ _ h=>h)))|nil=>(intro _;exact .nil)|cons _ _ ih1 ih2=>(intro h;exact R.cons (f1:=[]) (f2:=[]) (ih1 bH fun b hb=>h b (List.mem_append.2 (.inl hb))) (ih2 bH fun b hb=>h b (List.mem_append.2 (.inr hb))))|aS _ ih=>(intro h;exact .aS (ih bH h))|jC=>(intro _;exact .gl)|kr _ _ _ _ _ _=>(intro _;simp only[Ab.dG,H5];exact .gl)| @own _ b o sz cap n len cI iU rows h0 h1 h2 h3 h4 h5 _ ih=>(intro h;have g:=ih bH fun b hb=>h b (GT _ hb);simp only[Ab.dG]at g⊢;rw[←Ip,EG (jT rows) len]at g;obtain⟨f1,f2,v1,v2,e1,e2,g1,g2⟩:=av.split g;obtain rfl:f1=[]:=(List.append_eq_nil_iff.1 e1.symm).1;have I0:fe w b o v1:=by{rw[e2]at h5;have:=h5.take v1.length;rwa[List.take_left]at this};have hl:((jT rows).take len).length=len:=by{rw[List.length_take,Iq];omega};have:=R.sl (w:=w) (β:=bR) (cap:=cap) (o:=o) (rows:=(jT rows).take len) (fun r hr=>by obtain⟨r',m1,m2⟩:=Ir (List.mem_of_mem_take hr);rw[m2];exact h1 r' m1) (h b (List.mem_cons_self ..)) I0 (by omega) g1;rw[hl]at this;exact this)|aT h1 h2 h3 _ ih=>(intro h;have g:=ih bH fun b hb=>h b (GT _ hb);exact .aD (h _ (GE ..)) h3 g)|pS h _=>(intro _;subst bH;exact .pS (h.mono i1 (fun _ _=>rfl) (fun _ _ h=>h)))|pR=>(intro _;exact .pR)|br=>intro _;exact .br
theorem R.dG{f:List Nat}{v:Value}{a:U}(h:R w I bR f v a){I':Nat→Prop}(i1:∀b,I b→I' b)(hf:∀b∈f,I' b):R w I' bR [] v (dG a):=R.aas h rfl i1 hf
end
end Go.Ab
