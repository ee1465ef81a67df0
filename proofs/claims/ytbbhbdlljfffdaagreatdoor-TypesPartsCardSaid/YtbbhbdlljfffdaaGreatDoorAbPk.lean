import Derived.Test.YtbbhbdlljfffdaaGreatDoorAbOps7
open Bool renaming and_eq_true→Ha,and_assoc→H0
open List renaming mem_cons_self→GE,mem_cons_of_mem→GT,flatten_cons→Hb,length_take→Hd,mem_of_mem_take→Hk,take_left→Hn,perm_iff_count→H1,count_append→H2,flatMap_append→H3,take_append_drop→H4,take_zero→H5,drop_left→IH,append_assoc→If
open Nat renaming min_eq_left→Hm
open Option renaming map_eq_some_iff→Do,bind_eq_some_iff→Hc
open Option.some renaming injEq→AC
set_option linter.all false
namespace Go.Ab
open Go
theorem ZY(a b:List U):cK (a++b)=(cK a&&cK b):=by induction a with|nil=>(simp[cK])|cons c cs ih=>simp[cK,ih,H0]
theorem EF:∀rows:Rows,ef rows=true→cK rows.flatten=true|[],_=>by{simp[cK]}|r::rs,h=>by simp only[ef,Ha]at h;rw[Hb,ZY,h.1,EF rs h.2];rfl
section
variable{w:World}{I:Nat→Prop}
theorem R.kN{β:Id→Option Loc}{f:List Nat}{v:Value}{a:U}(h:R w I β f v a):flat a=true→∀cF:Id→Option Loc,R w I cF f v a:=by induction h with|val h=>(intro _ _;exact .val h)|nn=>(intro _ _;exact .nn)|mr _=>(intro hf;simp[flat]at hf)|ep h=>(intro _ _;exact .ep h)|im h1 h2=>(intro _ _;exact .im h1 h2)|cu=>(intro hf;simp[flat]at hf)|gy=>(intro _ _;exact .gy)|sl h1 h2 h3 h4 h5 _=>(intro _ _;exact .sl h1 h2 h3 h4 h5)|aI h1 h2 h3 _=>(intro _ _;exact .aI h1 h2 h3)|iG _ _=>(intro hf;simp[flat]at hf)|rs _ _ _=>(intro hf;simp[flat]at hf)|mp _=>(intro hf;simp[flat]at hf)|fn _ _ ih1 ih2=>(intro hf _;simp only[flat,Ha]at hf;exact .fn (ih1 (by simpa[flat]using hf.1) _) (ih2 (by simpa[flat]using hf.2) _))|nil=>(intro _ _;exact .nil)|cons _ _ ih1 ih2=>(intro hf _;simp only[flat,cK,Ha]at hf;exact .cons (ih1 hf.1 _) (ih2 (by simpa[flat]using hf.2) _))|aT _ ih=>(intro hf _;exact .aT (ih (by simpa[flat]using hf) _))|jM=>(intro _ _;exact .jM)|own h0 h1 h2 h3 h4 h5 _ ih=>(intro hf _;simp only[flat]at hf;exact .own h0 h1 h2 h3 h4 h5 (ih (by simpa[flat]using EF _ hf) _))|kG h0 h1 h2 h3 h5 _ ih=>(intro hf _;simp only[flat]at hf;exact .kG h0 h1 h2 h3 h5 (ih (by simpa[flat]using EF _ hf) _))|aU h1 h2 h3 _ ih=>(intro hf _;simp only[flat]at hf;exact .aU h1 h2 h3 (ih (by simpa[flat]using hf) _))|qe _ _=>(intro hf;simp[flat]at hf)|qd=>(intro hf;simp[flat]at hf)|bp=>intro _ _;exact .bp
def AM(w:World)(I:Nat→Prop)(β:Id→Option Loc)(F:Id→List Nat)(p:U→Option (U×List Id)):Prop:=∀a x,p a=some x→∀f v,R w I β f v a→∃fp rest,R w I bS fp v x.1∧(fp++rest).Perm (f++x.2.flatMap F)
variable{β:Id→Option Loc}{F:Id→List Nat}
theorem rN{lD r1 jD r2 f1 g1 f2 g2:List Nat}(h1:(lD++r1).Perm (f1++g1))(h2:(jD++r2).Perm (f2++g2)):((lD++jD)++(r1++r2)).Perm ((f1++f2)++(g1++g2)):=by rw[H1]at h1 h2⊢;intro a;have:=h1 a;have:=h2 a;simp only[H2]at*;omega
theorem O8{p:U→Option (U×List Id)}(hp:AM w I β F p):∀{cs:List U}{x},dN p cs=some x→∀{f vs},av w I β f vs cs→x.1.length=cs.length∧∃fp rest,av w I bS fp vs x.1∧(fp++rest).Perm (f++x.2.flatMap F)|[],x,h,f,vs,hr=>by{simp[dN]at h;subst h;obtain⟨rfl,rfl⟩:=hr.fR;exact⟨rfl,[],[], .nil,by simp⟩}|c::cs,x,h,f,vs,hr=>by simp only[dN,Hc,Do]at h;obtain⟨y,hy,z,hz,rfl⟩:=h;obtain⟨f1,f2,v,vs',rfl,rfl,h1,h2⟩:=hr.cons_inv;obtain⟨lD,r1,g1,g2⟩:=hp _ _ hy _ _ h1;obtain⟨hl,jD,r2,g3,g4⟩:=O8 hp hz h2;refine⟨by simp[hl],lD++jD,r1++r2, .cons g1 g3, ?_⟩;simp only[H3];exact rN g2 g4
theorem F8{p:U→Option (U×List Id)}(hp:AM w I β F p){cs:List U}{x}(h:gY p cs=some x){f vs}(hr:av w I β f vs cs):x.1.length=cs.length∧∃fp rest,av w I bS fp vs x.1∧(fp++rest).Perm (f++x.2.flatMap F):=by unfold gY at h;split at h;·{rename_i hf;simp at h;subst h;exact⟨rfl,f,[],R.kN hr (by simpa[flat]using hf) _,by simp⟩};·exact O8 hp h hr
theorem Pc{p:U→Option (U×List Id)}(hp:AM w I β F p):∀{rs:Rows}{x},dO (gY p) rs=some x→∀{f vs},av w I β f vs rs.flatten→(x.1.length=rs.length∧∀sz,(∀r∈rs,r.length=sz)→∀r∈x.1,r.length=sz)∧∃fp rest,av w I bS fp vs x.1.flatten∧(fp++rest).Perm (f++x.2.flatMap F)|[],x,h,f,vs,hr=>by{simp[dO]at h;subst h;obtain⟨rfl,rfl⟩:=hr.fR;exact⟨⟨rfl,fun _ _ _ h=>by cases h⟩,[],[], .nil,by simp⟩}|c::cs,x,h,f,vs,hr=>by simp only[dO,Hc,Do]at h;obtain⟨y,hy,z,hz,rfl⟩:=h;rw[Hb]at hr;obtain⟨f1,f2,v1,v2,rfl,rfl,h1,h2⟩:=av.split hr;obtain⟨l1,lD,r1,g1,g2⟩:=F8 hp hy h1;obtain⟨⟨l2,l3⟩,jD,r2,g3,g4⟩:=Pc hp hz h2;refine⟨⟨by simp[l2],fun sz hs r hr=> ?_⟩,lD++jD,r1++r2,g1.append g3, ?_⟩;·{rcases List.mem_cons.1 hr with rfl|hr;·{rw[l1];exact hs _ (GE ..)};·exact l3 sz (fun r hr=>hs r (GT _ hr)) r hr};·simp only[H3];exact rN g2 g4
theorem R7{p:U→Option (U×List Id)}(hp:AM w I β F p){rs:Rows}{x}(h:lO p rs=some x){f vs}(hr:av w I β f vs rs.flatten):(x.1.length=rs.length∧∀sz,(∀r∈rs,r.length=sz)→∀r∈x.1,r.length=sz)∧∃fp rest,av w I bS fp vs x.1.flatten∧(fp++rest).Perm (f++x.2.flatMap F):=by unfold lO at h;split at h;·{rename_i hf;simp at h;subst h;exact⟨⟨rfl,fun _ h=>h⟩,f,[],R.kN hr (by simpa[flat]using EF _ hf) _,by simp⟩};·exact Pc hp h hr
theorem EM{α:Type}(rs:List (List α))(n:Nat):rs.flatten=(rs.take n).flatten++(rs.drop n).flatten:=by rw[←List.flatten_append,H4]
theorem uX{L:Id→Option (Option Rows)}(hL:∀id rows,L id=some (some rows)→dK w I β id rows (F id)):∀n,AM w I β F (pk L n)|0=>fun a x h=>by{simp[pk]at h}|n+1=>fun a x h f v hr=>by have ih:=uX hL n;cases a with|rs id off len=>(simp only[pk]at h;split at h;·{rename_i rs hid;split at h;·{rename_i hc;simp only[Do]at h;obtain⟨y,hy,rfl⟩:=h;obtain⟨rfl,hc⟩:=hc;obtain⟨rfl,hv⟩:=hr.mQ;rcases hL id rs hid with⟨hb,rfl,hF⟩|⟨bm,hb,_⟩|⟨b,o,sz,n',vs,cD,hb,hF,nY,⟨hne,hsz⟩,hle,bZ,hrl⟩;rotate_left;·{rcases hv with⟨a,l,rfl,rfl,hb',hl⟩|⟨b,o,sz,n',cap,hb',_⟩;·{rw[hb]at hb';cases hb';cases hl};·rw[hb]at hb';cases hb'};rotate_left;·{have hy0:y=([],[]):=by{simpa[lO,ef]using hy.symm};subst hy0;simp only[List.length_nil]at hc;rcases hv with⟨a,l,rfl,rfl,_⟩|⟨b,o,sz,n',cap,hb',_⟩;·{exact⟨[],[], .jM,by simp[hF]⟩};·rw[hb]at hb';cases hb'};·obtain⟨⟨l1,l2⟩,fp,rest,g1,g2⟩:=R7 ih hy hrl;have hlen:0<rs.length:=List.length_pos_iff.2 hne;have Qq:y.1≠[]:=fun e=>by{rw[e]at l1;simp at l1;omega};have B1:((b::fp)++rest).Perm ([]++(id::y.2).flatMap F):=by{rw[List.perm_iff_count]at g2⊢;intro x;have:=g2 x;simp only[List.flatMap_cons,List.nil_append,hF,List.count_append,List.count_cons,List.cons_append]at*;omega};rcases hv with⟨a,l,rfl,rfl,_⟩|⟨b',o',sz',Ks,cap,hb',hle',hcap,rfl⟩;·{exact⟨b::fp,rest, .kG Qq (l2 sz hsz) nY (by rw[l1];exact hle) bZ g1,B1⟩};·rw[hb]at hb';simp only[Option.some.injEq,Loc.blk.injEq]at hb';obtain⟨rfl,rfl,rfl,rfl⟩:=hb';refine⟨b::fp,rest, ?_,B1⟩;have:=R.own (w:=w) (I:=I) (β:=bS) (cap:=cap) (o:=o) (rows:=y.1) (len:=len) Qq (l2 sz hsz) nY ⟨by simpa using hle',by rw[l1];exact hle⟩ ⟨by omega,by omega⟩ bZ g1;simpa using this};·cases h};·cases h)|mp id row off=>(simp only[pk]at h;split at h;·{rename_i cs hid;split at h;·{rename_i hc;obtain⟨rfl,rfl⟩:=hc;simp only[Do]at h;obtain⟨y,hy,rfl⟩:=h;obtain⟨rfl,b',o',sz',n',hb',rfl⟩:=hr.ob;rcases hL id [cs] hid with⟨hb,h0,hF⟩|⟨bm,hb,_⟩|⟨b,o,sz,n',vs,cD,hb,hF,nY,⟨hne,hsz⟩,hle,bZ,hrl⟩;·{cases h0};·{rw[hb]at hb';cases hb'};·rw[hb]at hb';simp only[AC,Loc.blk.injEq]at hb';obtain⟨rfl,rfl,rfl,rfl⟩:=hb';simp only[Hb,List.flatten_nil,List.append_nil]at hrl;obtain⟨l1,fp,rest,g1,g2⟩:=F8 ih hy hrl;have:=hsz cs (by simp);refine⟨b::fp,rest, ?_, ?_⟩;·{have:=R.aU (w:=w) (I:=I) (β:=bS) (cells:=y.1) nY (by simp at hle;omega) bZ g1;simpa using this};·rw[H1]at g2⊢;intro x;have:=g2 x;simp only[List.flatMap_cons,List.nil_append,hF,H2,List.count_cons,List.cons_append]at*;omega};·cases h};·cases h)|cu=>(simp only[pk,AC]at h;subst h;obtain⟨rfl,a,rfl⟩:=hr.xI;exact⟨[],[], .jM,by simp⟩)|agg cs=>(simp only[pk,Do]at h;obtain⟨y,hy,rfl⟩:=h;obtain⟨vs,rfl,hl⟩:=hr.oK;exact(F8 ih hy hl).2)|aT cs=>(simp only[pk,Do]at h;obtain⟨y,hy,rfl⟩:=h;obtain⟨vs,rfl,hl⟩:=hr.Ax;obtain⟨_,fp,rest,g1,g2⟩:=F8 ih hy hl;exact⟨fp,rest, .aT g1,g2⟩)|fn k a b=>(simp only[pk]at h;split at h;·{rename_i hi;simp only[AC]at h;subst h;simp only[Ha]at hi;obtain⟨rfl,vs,cs,rfl,h1,h2⟩:=hr.oW;exact⟨[],[], .fn (h1.nv hi.1) (h2.nv hi.2),by simp⟩};·cases h)|c8 g y=>(simp only[pk,AC]at h;subst h;exact⟨[],f, .bp,by simp⟩)|own rs len=>(simp only[pk]at h;split at h;·{rename_i hf;simp only[AC]at h;subst h;exact⟨f,[],hr.kN (by simpa[flat]using hf) _,by simp⟩};·cases h)|aU cs=>(simp only[pk]at h;split at h;·{rename_i hf;simp only[AC]at h;subst h;exact⟨f,[],hr.kN (by simpa[flat]using hf) _,by simp⟩};·cases h)|val u=>(simp only[pk,AC]at h;subst h;exact⟨f,[],hr.kN rfl _,by simp⟩)|nn=>(simp only[pk,AC]at h;subst h;exact⟨f,[],hr.kN rfl _,by simp⟩)|mr id=>(simp only[pk]at h;split at h;·{rename_i rs hid;simp only[AC]at h;subst h;obtain⟨rfl,b,hb',rfl⟩:=hr.CH;rcases hL id rs hid with⟨hb,_⟩|⟨b2,hb,hF,hm⟩|⟨b2,o,sz,n',vs,cD,hb,_⟩;·{rw[hb]at hb';cases hb'};·{rw[hb]at hb';cases hb';exact⟨[b],[], .ep hm,by simp[hF]⟩};·rw[hb]at hb';cases hb'};·cases h)|ep rows=>(simp only[pk,AC]at h;subst h;exact⟨f,[],hr.kN rfl _,by simp⟩)|im rows=>(simp only[pk,AC]at h;subst h;exact⟨f,[],hr.kN rfl _,by simp⟩)|sl rows=>(simp only[pk,AC]at h;subst h;exact⟨f,[],hr.kN rfl _,by simp⟩)|aI cells=>(simp only[pk,AC]at h;subst h;exact⟨f,[],hr.kN rfl _,by simp⟩)|bf i rs=>(cases hr)|zR u=>(cases hr)|bp=>simp only[pk,AC]at h;subst h;exact⟨f,[],hr.kN rfl _,by simp⟩
/-! ### Borrowing -/
def AF(w:World)(I:Nat→Prop)(β:Id→Option Loc)(F:Id→List Nat)(p:U→Option (U×List Id)):Prop:=∀a x,p a=some x→∀f v,R w I β f v a→∀I':Nat→Prop,(∀b,I b→I' b)→(∀b∈f,I' b)→(∀id∈x.2,∀b∈F id,I' b)→R w I' bS [] v x.1
theorem R.o8{f:List Nat}{v:Value}{a:U}(h:R w I β f v a)(hi:ff a=true){I':Nat→Prop}(hI:∀b,I b→I' b):R w I' bS [] v a:=by have e:=h.JY hi;subst e;exact(h.nv hi).mono hI (fun _ _=>rfl) (fun _ _ h=>h)
theorem Hs{p:U→Option (U×List Id)}(hp:AF w I β F p):∀{cs:List U}{x},dN p cs=some x→∀{f vs},av w I β f vs cs→x.1.length=cs.length∧∀I':Nat→Prop,(∀b,I b→I' b)→(∀b∈f,I' b)→(∀id∈x.2,∀b∈F id,I' b)→av w I' bS [] vs x.1|[],x,h,f,vs,hr=>by{simp[dN]at h;subst h;obtain⟨rfl,rfl⟩:=hr.fR;exact⟨rfl,fun _ _ _ _=> .nil⟩}|c::cs,x,h,f,vs,hr=>by simp only[dN,Hc,Do]at h;obtain⟨y,hy,z,hz,rfl⟩:=h;obtain⟨f1,f2,v,vs',rfl,rfl,h1,h2⟩:=hr.cons_inv;obtain⟨hl,g3⟩:=Hs hp hz h2;refine⟨by simp[hl],fun I' i1 i2 i3=> ?_⟩;exact R.cons (f1:=[]) (f2:=[]) (hp _ _ hy _ _ h1 I' i1 (fun b hb=>i2 b (List.mem_append.2 (.inl hb))) fun id hid=>i3 id (List.mem_append.2 (.inl hid))) (g3 I' i1 (fun b hb=>i2 b (List.mem_append.2 (.inr hb))) fun id hid=>i3 id (List.mem_append.2 (.inr hid)))
theorem vU{p:U→Option (U×List Id)}(hp:AF w I β F p){cs:List U}{x}(h:iy p cs=some x){f vs}(hr:av w I β f vs cs):x.1.length=cs.length∧∀I':Nat→Prop,(∀b,I b→I' b)→(∀b∈f,I' b)→(∀id∈x.2,∀b∈F id,I' b)→av w I' bS [] vs x.1:=by unfold iy at h;split at h;·{rename_i hf;simp at h;subst h;exact⟨rfl,fun I' i1 _ _=>R.o8 hr (by simpa[ff]using hf) i1⟩};·exact Hs hp h hr
theorem Ny{p:U→Option (U×List Id)}(hp:AF w I β F p):∀{rs:Rows}{x},dO (iy p) rs=some x→∀{f vs},av w I β f vs rs.flatten→(x.1.length=rs.length∧∀sz,(∀r∈rs,r.length=sz)→∀r∈x.1,r.length=sz)∧∀I':Nat→Prop,(∀b,I b→I' b)→(∀b∈f,I' b)→(∀id∈x.2,∀b∈F id,I' b)→av w I' bS [] vs x.1.flatten|[],x,h,f,vs,hr=>by{simp[dO]at h;subst h;obtain⟨rfl,rfl⟩:=hr.fR;exact⟨⟨rfl,fun _ _ _ h=>by cases h⟩,fun _ _ _ _=> .nil⟩}|c::cs,x,h,f,vs,hr=>by simp only[dO,Hc,Do]at h;obtain⟨y,hy,z,hz,rfl⟩:=h;rw[Hb]at hr;obtain⟨f1,f2,v1,v2,rfl,rfl,h1,h2⟩:=av.split hr;obtain⟨l1,g1⟩:=vU hp hy h1;obtain⟨⟨l2,l3⟩,g3⟩:=Ny hp hz h2;refine⟨⟨by simp[l2],fun sz hs r hr=> ?_⟩,fun I' i1 i2 i3=> ?_⟩;·{rcases List.mem_cons.1 hr with rfl|hr;·{rw[l1];exact hs _ (GE ..)};·exact l3 sz (fun r hr=>hs r (GT _ hr)) r hr};·have:=(g1 I' i1 (fun b hb=>i2 b (List.mem_append.2 (.inl hb))) fun id hid=>i3 id (List.mem_append.2 (.inl hid))).append (g3 I' i1 (fun b hb=>i2 b (List.mem_append.2 (.inr hb))) fun id hid=>i3 id (List.mem_append.2 (.inr hid)));simpa using this
theorem NI{p:U→Option (U×List Id)}(hp:AF w I β F p){rs:Rows}{x}(h:lp p rs=some x){f vs}(hr:av w I β f vs rs.flatten):(x.1.length=rs.length∧∀sz,(∀r∈rs,r.length=sz)→∀r∈x.1,r.length=sz)∧∀I':Nat→Prop,(∀b,I b→I' b)→(∀b∈f,I' b)→(∀id∈x.2,∀b∈F id,I' b)→av w I' bS [] vs x.1.flatten:=by unfold lp at h;split at h;·{rename_i hf;simp at h;subst h;exact⟨⟨rfl,fun _ h=>h⟩,fun I' i1 _ _=>R.o8 hr (by simpa[ff]using JX _ hf) i1⟩};·exact Ny hp h hr
theorem Hx{L:Id→Option (Option Rows)}(hL:∀id rows,L id=some (some rows)→dK w I β id rows (F id)):∀n,AF w I β F (b9 L n)
 |0=>fun a x h=>by simp[b9]at h
 |n+1=>fun a x h f v hr I' i1 i2 i3=>by
  have ih:=Hx hL n
  cases a with
  |rs id off len=>
   simp only[b9]at h
   split at h
   ·rename_i rs hid
    split at h
    ·rename_i hc
     simp only[Do]at h
     obtain⟨y,hy,rfl⟩:=h
     obtain⟨rfl,hv⟩:=hr.mQ
     have BX:len=0→y.1=[]:=fun h0=>by
      have :=congrArg List.length (show(rs.drop off).take len=[]by rw[h0];rfl)
      rw[h0,H5]at hy
      simp[lp,iQ]at hy
      rw[←hy]
     rcases hv with⟨a,l,rfl,rfl,_⟩|⟨b',o',sz',Ks,cap,hb',hle',hcap,rfl⟩
     ·rw[BX rfl];exact .gy
     ·rcases Nat.eq_zero_or_pos len with h0|h0
      ·subst h0;rw[BX rfl];exact .gy
      ·rcases hL id rs hid with⟨hb,rfl,hF⟩|⟨bm,hb,_⟩|⟨b,o,sz,n',vs,cD,hb,hF,nY,⟨hne,hsz⟩,hle,bZ,hrl⟩
       ·simp at hc;omega
       ·rw[hb]at hb';cases hb'
       ·rw[hb]at hb'
        simp only[AC,Loc.blk.injEq]at hb'
        obtain⟨rfl,rfl,rfl,rfl⟩:=hb'
        have hsp:rs.flatten=(rs.take off).flatten++(((rs.drop off).take len).flatten++((rs.drop off).drop len).flatten):=by
         rw[←EM (rs.drop off) len,←EM rs off]
        rw[hsp]at hrl
        obtain⟨f1,f23,v1,v23,rfl,rfl,h1,h23⟩:=av.split hrl
        obtain⟨f2,f3,v2,v3,rfl,rfl,h2,h3⟩:=av.split h23
        have CC:=h1.length
        rw[lC (sz:=sz) (fun r hr=>hsz r (Hk hr)),Hd,Hm (by omega)]at CC
        obtain⟨⟨l1,l2⟩,g⟩:=NI ih hy h2
        have rG:y.1.length=len:=by rw[l1,Hd,List.length_drop];omega
        have hin:∀x∈F id,I' x:=i3 id (GE ..)
        have g':=g I' i1 (fun x hx=>hin x (by rw[hF];simp[hx])) fun id hid=>i3 id (GT _ hid)
        have wF:e6 w b (o+off*sz) v2:=by
         have :=(bZ.drop v1.length).take v2.length
         rw[IH,Hn,CC]at this
         exact this
        have :=R.sl (β:=bS) (cap:=cap) (l2 sz fun r hr=>hsz r (List.mem_of_mem_drop (Hk hr))) (hin b (by rw[hF];simp)) wF (by omega) g'
        rw[rG]at this
        exact this
    ·cases h
   ·cases h
  |mp id row off=>
   simp only[b9]at h
   split at h
   ·rename_i rs hid
    split at h
    ·rename_i r hrow
     split at h
     ·rename_i hoff
      simp only[Do]at h
      obtain⟨y,hy,rfl⟩:=h
      obtain⟨rfl,b',o',sz',n',hb',rfl⟩:=hr.ob
      rcases hL id rs hid with⟨hb,h0,hF⟩|⟨bm,hb,_⟩|⟨b,o,sz,n',vs,cD,hb,hF,nY,⟨hne,hsz⟩,hle,bZ,hrl⟩
      ·subst h0;simp at hrow
      ·rw[hb]at hb';cases hb'
      ·rw[hb]at hb'
       simp only[AC,Loc.blk.injEq]at hb'
       obtain⟨rfl,rfl,rfl,rfl⟩:=hb'
       obtain⟨hsp,hlt⟩:=LC hrow
       have Qc:r.length=sz:=hsz r (List.mem_of_getElem? hrow)
       have hsp:rs.flatten=((rs.take row).flatten++r.take off)++(r.drop off++(rs.drop (row+1)).flatten):=by
        have e:r.take off++(r.drop off++(rs.drop (row+1)).flatten)=r++(rs.drop (row+1)).flatten:=by rw[←If,H4]
        rw[If,e]
        conv=>lhs;rw[hsp]
        simp
       rw[hsp]at hrl
       obtain⟨f1,f23,v1,v23,rfl,rfl,h1,h23⟩:=av.split hrl
       obtain⟨f2,f3,v2,v3,rfl,rfl,h2,h3⟩:=av.split h23
       have CC:=h1.length
       rw[List.length_append,lC (sz:=sz) (fun r hr=>hsz r (Hk hr)),Hd,Hd,Hm (by omega),Hm hoff]at CC
       obtain⟨_,g⟩:=vU ih hy h2
       have hin:∀x∈F id,I' x:=i3 id (GE ..)
       have g':=g I' i1 (fun x hx=>hin x (by rw[hF];simp[hx])) fun id hid=>i3 id (GT _ hid)
       have wF:e6 w b (o+row*sz+off) v2:=by
        have :=(bZ.drop v1.length).take v2.length
        rw[IH,Hn,CC,←Nat.add_assoc]at this
        exact this
       exact .aI (hin b (by rw[hF];simp)) wF g'
     ·cases h
    ·cases h
   ·cases h
  |cu=>
   simp only[b9,AC]at h;subst h
   obtain⟨rfl,a,rfl⟩:=hr.xI
   exact .gy
  |agg cs=>
   simp only[b9,Do]at h
   obtain⟨y,hy,rfl⟩:=h
   obtain⟨vs,rfl,hl⟩:=hr.oK
   exact(vU ih hy hl).2 I' i1 i2 i3
  |aT cs=>
   simp only[b9,Do]at h
   obtain⟨y,hy,rfl⟩:=h
   obtain⟨vs,rfl,hl⟩:=hr.Ax
   exact .aT ((vU ih hy hl).2 I' i1 i2 i3)
  |fn k a b=>
   simp only[b9,Do,Hc]at h
   obtain⟨y,hy,z,hz,rfl⟩:=h
   obtain⟨rfl,vs,cs,rfl,h1,h2⟩:=hr.oW
   exact .fn ((vU ih hy h1).2 I' i1 (fun _ h=>by cases h) fun id hid=>i3 id (List.mem_append.2 (.inl hid))) ((vU ih hz h2).2 I' i1 (fun _ h=>by cases h) fun id hid=>i3 id (List.mem_append.2 (.inr hid)))
  |c8 g y=>
   simp only[b9,AC]at h;subst h
   exact .bp
  |own rs len=>
   simp only[b9,Do]at h
   obtain⟨y,hy,rfl⟩:=h
   cases hr with
   |jM=>
    have :y=([],[]):=by simpa[lp,iQ]using hy.symm
    subst this;exact .gy
   |kG _ _ _ _ _ _=>
    have :y=([],[]):=by simpa[lp,iQ]using hy.symm
    subst this;exact .gy
   | @own _ b o sz cap n len cD iX _ g0 g1 g2 g3 g4 g5 g6=>
    rw[EM rs len]at g6
    obtain⟨f1,f2,v1,v2,rfl,rfl,h1,h2⟩:=av.split g6
    obtain⟨⟨l1,l2⟩,g⟩:=NI ih hy h1
    have g':=g I' i1 (fun b hb=>i2 b (GT _ (List.mem_append.2 (.inl hb)))) i3
    have I0:e6 w b o v1:=by
     have :=g5.take v1.length
     rwa[Hn]at this
    have rG:y.1.length=len:=by rw[l1,Hd];omega
    have :=R.sl (β:=bS) (cap:=cap) (l2 sz fun r hr=>g1 r (Hk hr)) (i2 b (GE ..)) I0 (by omega) g'
    rw[rG]at this
    exact this
  |aU cs=>
   simp only[b9,Do]at h
   obtain⟨y,hy,rfl⟩:=h
   cases hr with
   | @aU _ b o n cD iX _ g2 g3 g5 g6=>
    obtain⟨_,g⟩:=vU ih hy g6
    exact .aI (i2 b (GE ..)) g5 (g I' i1 (fun b hb=>i2 b (GT _ hb)) i3)
  |val u=>
   simp only[b9,AC]at h;subst h
   exact hr.o8 rfl i1
  |nn=>
   simp only[b9,AC]at h;subst h
   exact hr.o8 rfl i1
  |mr id=>
   simp only[b9]at h
   split at h
   ·rename_i rs hid
    simp only[AC]at h;subst h
    obtain⟨rfl,b,hb',rfl⟩:=hr.CH
    rcases hL id rs hid with⟨hb,_⟩|⟨b2,hb,hF,hm⟩|⟨b2,o,sz,n',vs,cD,hb,_⟩
    ·rw[hb]at hb';cases hb'
    ·rw[hb]at hb';cases hb'
     exact .im (i3 id (GE ..) b (by rw[hF];simp)) hm
    ·rw[hb]at hb';cases hb'
   ·cases h
  |ep rows=>
   simp only[b9,AC]at h;subst h
   obtain⟨b,rfl,rfl,hm⟩:=hr.KK
   exact .im (i2 b (GE ..)) hm
  |im rows=>
   simp only[b9,AC]at h;subst h
   exact hr.o8 rfl i1
  |sl rows=>
   simp only[b9,AC]at h;subst h
   exact hr.o8 rfl i1
  |aI cells=>
   simp only[b9,AC]at h;subst h
   exact hr.o8 rfl i1
  |bf i rs=>cases hr
  |zR u=>cases hr
  |bp=>
   simp only[b9,AC]at h;subst h
   exact .bp
/-! ### Nothing but its own -/
theorem Kp:∀rows:Rows,zI rows=true→jK rows.flatten=true|[],_=>by{simp[jK]}|r::rs,h=>by simp only[zI,Ha]at h;have:∀a b:List U,jK (a++b)=(jK a&&jK b):=fun a b=>by{induction a with|nil=>(simp[jK])|cons c cs ih=>simp[jK,ih,H0]};rw[Hb,this,h.1,Kp rs h.2];rfl
theorem R.mine{f:List Nat}{v:Value}{a:U}(h:R w I β f v a):mine a=true→∀I':Nat→Prop,R w I' β f v a:=by induction h with|val h=>(intro _ _;exact .val h)|nn=>(intro _ _;exact .nn)|ep h=>(intro _ _;exact .ep h)|cu=>(intro _ _;exact .cu)|nil=>(intro _ _;exact .nil)|cons _ _ ih1 ih2=>(intro hf _;simp only[Ab.mine,jK,Ha]at hf;exact .cons (ih1 hf.1 _) (ih2 (by simpa[Ab.mine]using hf.2) _))|aT _ ih=>(intro hf _;exact .aT (ih (by simpa[Ab.mine]using hf) _))|jM=>(intro _ _;exact .jM)|own h0 h1 h2 h3 h4 h5 _ ih=>(intro hf _;simp only[Ab.mine]at hf;exact .own h0 h1 h2 h3 h4 h5 (ih (by simpa[Ab.mine]using Kp _ hf) _))|kG h0 h1 h2 h3 h5 _ ih=>(intro hf _;simp only[Ab.mine]at hf;exact .kG h0 h1 h2 h3 h5 (ih (by simpa[Ab.mine]using Kp _ hf) _))|aU h1 h2 h3 _ ih=>(intro hf _;simp only[Ab.mine]at hf;exact .aU h1 h2 h3 (ih (by simpa[Ab.mine]using hf) _))|bp=>(intro _ _;exact .bp)|_=>intro hf;simp[Ab.mine]at hf
/-! ### Freezing -/
theorem aaD(a b:List U):jE (a++b)=jE a++jE b:=by induction a with|nil=>(rfl)|cons c cs ih=>simp[jE,ih]
theorem aaE(a:List U):(jE a).length=a.length:=by induction a with|nil=>(rfl)|cons c cs ih=>simp[jE,ih]
theorem Ij:∀rows:Rows,(j5 rows).flatten=jE rows.flatten|[]=>rfl|r::rs=>by simp[j5,aaD,Ij rs]
theorem Ik:∀rows:Rows,(j5 rows).length=rows.length|[]=>rfl|r::rs=>by simp[j5,Ik rs]
theorem Il:∀{rows:Rows}{r:List U},r∈j5 rows→∃r'∈rows,r.length=r'.length|[],r,h=>by{simp[j5]at h}|c::rs,r,h=>by simp only[j5,List.mem_cons]at h;rcases h with rfl|h;·{exact⟨c,GE ..,aaE c⟩};·obtain⟨r',h1,h2⟩:=Il h;exact⟨r',GT _ h1,h2⟩
theorem R.aay{β:Id→Option Loc}{f:List Nat}{v:Value}{a:U}(h:R w I β f v a)(bG:β=bS){I':Nat→Prop}(i1:∀b,I b→I' b):(∀b∈f,I' b)→R w I' bS [] v (dJ a):=by induction h with|val h=>(intro _;exact .val h)|nn=>(intro _;exact .nn)|mr h=>(subst bG;cases h)|ep h=>(intro h2;exact .im (h2 _ (GE ..)) h)|im h1 h2=>(intro _;exact .im (i1 _ h1) h2)|cu=>(intro _;exact .cu)|gy=>(intro _;exact .gy)|sl h1 h2 h3 h4 h5 _=>(intro _;exact .sl h1 (i1 _ h2) h3 h4 (h5.mono i1 (fun _ _=>rfl) (fun _ _ h=>h)))|aI h1 h2 h3 _=>(intro _;exact .aI (i1 _ h1) h2 (h3.mono i1 (fun _ _=>rfl) (fun _ _ h=>h)))|iG h _=>(subst bG;cases h)|rs h _ _=>(subst bG;cases h)|mp h=>(subst bG;cases h)|fn h1 h2 _ _=>(intro _;subst bG;exact .fn (h1.mono i1 (fun _ _=>rfl) (fun _ _ h=>h)) (h2.mono i1 (fun _ _=>rfl) (fun _ _ h=>h)))|nil=>(intro _;exact .nil)|cons _ _ ih1 ih2=>(intro h;exact R.cons (f1:=[]) (f2:=[]) (ih1 bG fun b hb=>h b (List.mem_append.2 (.inl hb))) (ih2 bG fun b hb=>h b (List.mem_append.2 (.inr hb))))|aT _ ih=>(intro h;exact .aT (ih bG h))|jM=>(intro _;exact .gy)|kG _ _ _ _ _ _=>(intro _;simp only[Ab.dJ,H5];exact .gy)| @own _ b o sz cap n len cD iX rows h0 h1 h2 h3 h4 h5 _ ih=>(intro h;have g:=ih bG fun b hb=>h b (GT _ hb);simp only[Ab.dJ]at g⊢;rw[←Ij,EM (j5 rows) len]at g;obtain⟨f1,f2,v1,v2,e1,e2,g1,g2⟩:=av.split g;obtain rfl:f1=[]:=(List.append_eq_nil_iff.1 e1.symm).1;have I0:e6 w b o v1:=by{rw[e2]at h5;have:=h5.take v1.length;rwa[List.take_left]at this};have hl:((j5 rows).take len).length=len:=by{rw[List.length_take,Ik];omega};have:=R.sl (w:=w) (β:=bS) (cap:=cap) (o:=o) (rows:=(j5 rows).take len) (fun r hr=>by obtain⟨r',m1,m2⟩:=Il (List.mem_of_mem_take hr);rw[m2];exact h1 r' m1) (h b (List.mem_cons_self ..)) I0 (by omega) g1;rw[hl]at this;exact this)|aU h1 h2 h3 _ ih=>(intro h;have g:=ih bG fun b hb=>h b (GT _ hb);exact .aI (h _ (GE ..)) h3 g)|qe h _=>(intro _;subst bG;exact .qe (h.mono i1 (fun _ _=>rfl) (fun _ _ h=>h)))|qd=>(intro _;exact .qd)|bp=>intro _;exact .bp
theorem R.dJ{f:List Nat}{v:Value}{a:U}(h:R w I bS f v a){I':Nat→Prop}(i1:∀b,I b→I' b)(hf:∀b∈f,I' b):R w I' bS [] v (dJ a):=R.aay h rfl i1 hf
end
end Go.Ab
