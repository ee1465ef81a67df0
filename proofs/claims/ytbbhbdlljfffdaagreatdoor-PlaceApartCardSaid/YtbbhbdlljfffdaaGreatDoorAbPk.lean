import Derived.Test.YtbbhbdlljfffdaaGreatDoorAbOps7
open Bool renaming and_eq_true→Hc,and_assoc→H2
open List renaming mem_cons_self→Ha,mem_cons_of_mem→Hb,flatten_cons→Hd,length_take→Hm,mem_of_mem_take→Hn,take_left→H1,perm_iff_count→H3,count_append→H4,flatMap_append→H5,take_append_drop→IH,take_zero→If,drop_left→Ix,append_assoc→Kd
open Nat renaming min_eq_left→H0
open Option renaming map_eq_some_iff→GT,bind_eq_some_iff→Hk
open Option.some renaming injEq→GE
set_option linter.all false
namespace Go.Ab
open Go
theorem abG(a b:List U):cY (a++b)=(cY a&&cY b):=by induction a with|nil=>(simp[cY])|cons c cs ih=>simp[cY,ih,H2]
theorem FL:∀rows:Rows,ei rows=true→cY rows.flatten=true|[],_=>by{simp[cY]}|r::rs,h=>by simp only[ei,Hc]at h;rw[Hd,abG,h.1,FL rs h.2];rfl
section
variable{w:World}{I:Nat→Prop}
theorem R.kU{β:Id→Option Loc}{f:List Nat}{v:Value}{a:U}(h:R w I β f v a):flat a=true→∀cU:Id→Option Loc,R w I cU f v a:=by induction h with|val h=>(intro _ _;exact .val h)|nn=>(intro _ _;exact .nn)|mr _=>(intro hf;simp[flat]at hf)|ey h=>(intro _ _;exact .ey h)|im h1 h2=>(intro _ _;exact .im h1 h2)|cz=>(intro hf;simp[flat]at hf)|gK=>(intro _ _;exact .gK)|sl h1 h2 h3 h4 h5 _=>(intro _ _;exact .sl h1 h2 h3 h4 h5)|aA h1 h2 h3 _=>(intro _ _;exact .aA h1 h2 h3)|iR _ _=>(intro hf;simp[flat]at hf)|rs _ _ _=>(intro hf;simp[flat]at hf)|mp _=>(intro hf;simp[flat]at hf)|fn _ _ ih1 ih2=>(intro hf _;simp only[flat,Hc]at hf;exact .fn (ih1 (by simpa[flat]using hf.1) _) (ih2 (by simpa[flat]using hf.2) _))|nil=>(intro _ _;exact .nil)|cons _ _ ih1 ih2=>(intro hf _;simp only[flat,cY,Hc]at hf;exact .cons (ih1 hf.1 _) (ih2 (by simpa[flat]using hf.2) _))|aY _ ih=>(intro hf _;exact .aY (ih (by simpa[flat]using hf) _))|jY=>(intro _ _;exact .jY)|own h0 h1 h2 h3 h4 h5 _ ih=>(intro hf _;simp only[flat]at hf;exact .own h0 h1 h2 h3 h4 h5 (ih (by simpa[flat]using FL _ hf) _))|kI h0 h1 h2 h3 h5 _ ih=>(intro hf _;simp only[flat]at hf;exact .kI h0 h1 h2 h3 h5 (ih (by simpa[flat]using FL _ hf) _))|aS h1 h2 h3 _ ih=>(intro hf _;simp only[flat]at hf;exact .aS h1 h2 h3 (ih (by simpa[flat]using hf) _))|qv _ _=>(intro hf;simp[flat]at hf)|qu=>(intro hf;simp[flat]at hf)|bB=>intro _ _;exact .bB
def BD(w:World)(I:Nat→Prop)(β:Id→Option Loc)(F:Id→List Nat)(p:U→Option (U×List Id)):Prop:=∀a x,p a=some x→∀f v,R w I β f v a→∃fp rest,R w I b8 fp v x.1∧(fp++rest).Perm (f++x.2.flatMap F)
variable{β:Id→Option Loc}{F:Id→List Nat}
theorem r8{lH r1 jQ r2 f1 g1 f2 g2:List Nat}(h1:(lH++r1).Perm (f1++g1))(h2:(jQ++r2).Perm (f2++g2)):((lH++jQ)++(r1++r2)).Perm ((f1++f2)++(g1++g2)):=by rw[H3]at h1 h2⊢;intro a;have:=h1 a;have:=h2 a;simp only[H4]at*;omega
theorem P8{p:U→Option (U×List Id)}(hp:BD w I β F p):∀{cs:List U}{x},dQ p cs=some x→∀{f vs},av w I β f vs cs→x.1.length=cs.length∧∃fp rest,av w I b8 fp vs x.1∧(fp++rest).Perm (f++x.2.flatMap F)|[],x,h,f,vs,hr=>by{simp[dQ]at h;subst h;obtain⟨rfl,rfl⟩:=hr.gj;exact⟨rfl,[],[], .nil,by simp⟩}|c::cs,x,h,f,vs,hr=>by simp only[dQ,Hk,GT]at h;obtain⟨y,hy,z,hz,rfl⟩:=h;obtain⟨f1,f2,v,vs',rfl,rfl,h1,h2⟩:=hr.cons_inv;obtain⟨lH,r1,g1,g2⟩:=hp _ _ hy _ _ h1;obtain⟨hl,jQ,r2,g3,g4⟩:=P8 hp hz h2;refine⟨by simp[hl],lH++jQ,r1++r2, .cons g1 g3, ?_⟩;simp only[H5];exact r8 g2 g4
theorem Hg{p:U→Option (U×List Id)}(hp:BD w I β F p){cs:List U}{x}(h:fI p cs=some x){f vs}(hr:av w I β f vs cs):x.1.length=cs.length∧∃fp rest,av w I b8 fp vs x.1∧(fp++rest).Perm (f++x.2.flatMap F):=by unfold fI at h;split at h;·{rename_i hf;simp at h;subst h;exact⟨rfl,f,[],R.kU hr (by simpa[flat]using hf) _,by simp⟩};·exact P8 hp h hr
theorem Qd{p:U→Option (U×List Id)}(hp:BD w I β F p):∀{rs:Rows}{x},dr (fI p) rs=some x→∀{f vs},av w I β f vs rs.flatten→(x.1.length=rs.length∧∀sz,(∀r∈rs,r.length=sz)→∀r∈x.1,r.length=sz)∧∃fp rest,av w I b8 fp vs x.1.flatten∧(fp++rest).Perm (f++x.2.flatMap F)|[],x,h,f,vs,hr=>by{simp[dr]at h;subst h;obtain⟨rfl,rfl⟩:=hr.gj;exact⟨⟨rfl,fun _ _ _ h=>by cases h⟩,[],[], .nil,by simp⟩}|c::cs,x,h,f,vs,hr=>by simp only[dr,Hk,GT]at h;obtain⟨y,hy,z,hz,rfl⟩:=h;rw[Hd]at hr;obtain⟨f1,f2,v1,v2,rfl,rfl,h1,h2⟩:=av.split hr;obtain⟨l1,lH,r1,g1,g2⟩:=Hg hp hy h1;obtain⟨⟨l2,l3⟩,jQ,r2,g3,g4⟩:=Qd hp hz h2;refine⟨⟨by simp[l2],fun sz hs r hr=> ?_⟩,lH++jQ,r1++r2,g1.append g3, ?_⟩;·{rcases List.mem_cons.1 hr with rfl|hr;·{rw[l1];exact hs _ (Ha ..)};·exact l3 sz (fun r hr=>hs r (Hb _ hr)) r hr};·simp only[H5];exact r8 g2 g4
theorem To{p:U→Option (U×List Id)}(hp:BD w I β F p){rs:Rows}{x}(h:jj p rs=some x){f vs}(hr:av w I β f vs rs.flatten):(x.1.length=rs.length∧∀sz,(∀r∈rs,r.length=sz)→∀r∈x.1,r.length=sz)∧∃fp rest,av w I b8 fp vs x.1.flatten∧(fp++rest).Perm (f++x.2.flatMap F):=by unfold jj at h;split at h;·{rename_i hf;simp at h;subst h;exact⟨⟨rfl,fun _ h=>h⟩,f,[],R.kU hr (by simpa[flat]using FL _ hf) _,by simp⟩};·exact Qd hp h hr
theorem FT{α:Type}(rs:List (List α))(n:Nat):rs.flatten=(rs.take n).flatten++(rs.drop n).flatten:=by rw[←List.flatten_append,IH]
theorem vk{L:Id→Option (Option Rows)}(hL:∀id rows,L id=some (some rows)→dU w I β id rows (F id)):∀n,BD w I β F (pk L n)|0=>fun a x h=>by{simp[pk]at h}|n+1=>fun a x h f v hr=>by have ih:=vk hL n;cases a with|rs id off len=>(simp only[pk]at h;split at h;·{rename_i rs hid;split at h;·{rename_i hc;simp only[GT]at h;obtain⟨y,hy,rfl⟩:=h;obtain⟨rfl,hc⟩:=hc;obtain⟨rfl,hv⟩:=hr.nj;rcases hL id rs hid with⟨hb,rfl,hF⟩|⟨bm,hb,_⟩|⟨b,o,sz,n',vs,cO,hb,hF,oC,⟨hne,hsz⟩,hle,ck,hrl⟩;rotate_left;·{rcases hv with⟨a,l,rfl,rfl,hb',hl⟩|⟨b,o,sz,n',cap,hb',_⟩;·{rw[hb]at hb';cases hb';cases hl};·rw[hb]at hb';cases hb'};rotate_left;·{have hy0:y=([],[]):=by{simpa[jj,ei]using hy.symm};subst hy0;simp only[List.length_nil]at hc;rcases hv with⟨a,l,rfl,rfl,_⟩|⟨b,o,sz,n',cap,hb',_⟩;·{exact⟨[],[], .jY,by simp[hF]⟩};·rw[hb]at hb';cases hb'};·obtain⟨⟨l1,l2⟩,fp,rest,g1,g2⟩:=To ih hy hrl;have hlen:0<rs.length:=List.length_pos_iff.2 hne;have Ru:y.1≠[]:=fun e=>by{rw[e]at l1;simp at l1;omega};have CP:((b::fp)++rest).Perm ([]++(id::y.2).flatMap F):=by{rw[List.perm_iff_count]at g2⊢;intro x;have:=g2 x;simp only[List.flatMap_cons,List.nil_append,hF,List.count_append,List.count_cons,List.cons_append]at*;omega};rcases hv with⟨a,l,rfl,rfl,_⟩|⟨b',o',sz',Lc,cap,hb',hle',hcap,rfl⟩;·{exact⟨b::fp,rest, .kI Ru (l2 sz hsz) oC (by rw[l1];exact hle) ck g1,CP⟩};·rw[hb]at hb';simp only[Option.some.injEq,Loc.blk.injEq]at hb';obtain⟨rfl,rfl,rfl,rfl⟩:=hb';refine⟨b::fp,rest, ?_,CP⟩;have:=R.own (w:=w) (I:=I) (β:=b8) (cap:=cap) (o:=o) (rows:=y.1) (len:=len) Ru (l2 sz hsz) oC ⟨by simpa using hle',by rw[l1];exact hle⟩ ⟨by omega,by omega⟩ ck g1;simpa using this};·cases h};·cases h)|mp id row off=>(simp only[pk]at h;split at h;·{rename_i cs hid;split at h;·{rename_i hc;obtain⟨rfl,rfl⟩:=hc;simp only[GT]at h;obtain⟨y,hy,rfl⟩:=h;obtain⟨rfl,b',o',sz',n',hb',rfl⟩:=hr.oK;rcases hL id [cs] hid with⟨hb,h0,hF⟩|⟨bm,hb,_⟩|⟨b,o,sz,n',vs,cO,hb,hF,oC,⟨hne,hsz⟩,hle,ck,hrl⟩;·{cases h0};·{rw[hb]at hb';cases hb'};·rw[hb]at hb';simp only[GE,Loc.blk.injEq]at hb';obtain⟨rfl,rfl,rfl,rfl⟩:=hb';simp only[Hd,List.flatten_nil,List.append_nil]at hrl;obtain⟨l1,fp,rest,g1,g2⟩:=Hg ih hy hrl;have:=hsz cs (by simp);refine⟨b::fp,rest, ?_, ?_⟩;·{have:=R.aS (w:=w) (I:=I) (β:=b8) (cells:=y.1) oC (by simp at hle;omega) ck g1;simpa using this};·rw[H3]at g2⊢;intro x;have:=g2 x;simp only[List.flatMap_cons,List.nil_append,hF,H4,List.count_cons,List.cons_append]at*;omega};·cases h};·cases h)|cz=>(simp only[pk,GE]at h;subst h;obtain⟨rfl,a,rfl⟩:=hr.yu;exact⟨[],[], .jY,by simp⟩)|agg cs=>(simp only[pk,GT]at h;obtain⟨y,hy,rfl⟩:=h;obtain⟨vs,rfl,hl⟩:=hr.o8;exact(Hg ih hy hl).2)|aY cs=>(simp only[pk,GT]at h;obtain⟨y,hy,rfl⟩:=h;obtain⟨vs,rfl,hl⟩:=hr.Bh;obtain⟨_,fp,rest,g1,g2⟩:=Hg ih hy hl;exact⟨fp,rest, .aY g1,g2⟩)|fn k a b=>(simp only[pk]at h;split at h;·{rename_i hi;simp only[GE]at h;subst h;simp only[Hc]at hi;obtain⟨rfl,vs,cs,rfl,h1,h2⟩:=hr.pI;exact⟨[],[], .fn (h1.nR hi.1) (h2.nR hi.2),by simp⟩};·cases h)|dw g y=>(simp only[pk,GE]at h;subst h;exact⟨[],f, .bB,by simp⟩)|own rs len=>(simp only[pk]at h;split at h;·{rename_i hf;simp only[GE]at h;subst h;exact⟨f,[],hr.kU (by simpa[flat]using hf) _,by simp⟩};·cases h)|aS cs=>(simp only[pk]at h;split at h;·{rename_i hf;simp only[GE]at h;subst h;exact⟨f,[],hr.kU (by simpa[flat]using hf) _,by simp⟩};·cases h)|val u=>(simp only[pk,GE]at h;subst h;exact⟨f,[],hr.kU rfl _,by simp⟩)|nn=>(simp only[pk,GE]at h;subst h;exact⟨f,[],hr.kU rfl _,by simp⟩)|mr id=>(simp only[pk]at h;split at h;·{rename_i rs hid;simp only[GE]at h;subst h;obtain⟨rfl,b,hb',rfl⟩:=hr.Dw;rcases hL id rs hid with⟨hb,_⟩|⟨b2,hb,hF,hm⟩|⟨b2,o,sz,n',vs,cO,hb,_⟩;·{rw[hb]at hb';cases hb'};·{rw[hb]at hb';cases hb';exact⟨[b],[], .ey hm,by simp[hF]⟩};·rw[hb]at hb';cases hb'};·cases h)|ey rows=>(simp only[pk,GE]at h;subst h;exact⟨f,[],hr.kU rfl _,by simp⟩)|im rows=>(simp only[pk,GE]at h;subst h;exact⟨f,[],hr.kU rfl _,by simp⟩)|sl rows=>(simp only[pk,GE]at h;subst h;exact⟨f,[],hr.kU rfl _,by simp⟩)|aA cells=>(simp only[pk,GE]at h;subst h;exact⟨f,[],hr.kU rfl _,by simp⟩)|bt i rs=>(cases hr)|AE u=>(cases hr)|bB=>simp only[pk,GE]at h;subst h;exact⟨f,[],hr.kU rfl _,by simp⟩
/-! ### Borrowing -/
def Bt(w:World)(I:Nat→Prop)(β:Id→Option Loc)(F:Id→List Nat)(p:U→Option (U×List Id)):Prop:=∀a x,p a=some x→∀f v,R w I β f v a→∀I':Nat→Prop,(∀b,I b→I' b)→(∀b∈f,I' b)→(∀id∈x.2,∀b∈F id,I' b)→R w I' b8 [] v x.1
theorem R.pS{f:List Nat}{v:Value}{a:U}(h:R w I β f v a)(hi:fA a=true){I':Nat→Prop}(hI:∀b,I b→I' b):R w I' b8 [] v a:=by have e:=h.KN hi;subst e;exact(h.nR hi).mono hI (fun _ _=>rfl) (fun _ _ h=>h)
theorem IB{p:U→Option (U×List Id)}(hp:Bt w I β F p):∀{cs:List U}{x},dQ p cs=some x→∀{f vs},av w I β f vs cs→x.1.length=cs.length∧∀I':Nat→Prop,(∀b,I b→I' b)→(∀b∈f,I' b)→(∀id∈x.2,∀b∈F id,I' b)→av w I' b8 [] vs x.1|[],x,h,f,vs,hr=>by{simp[dQ]at h;subst h;obtain⟨rfl,rfl⟩:=hr.gj;exact⟨rfl,fun _ _ _ _=> .nil⟩}|c::cs,x,h,f,vs,hr=>by simp only[dQ,Hk,GT]at h;obtain⟨y,hy,z,hz,rfl⟩:=h;obtain⟨f1,f2,v,vs',rfl,rfl,h1,h2⟩:=hr.cons_inv;obtain⟨hl,g3⟩:=IB hp hz h2;refine⟨by simp[hl],fun I' i1 i2 i3=> ?_⟩;exact R.cons (f1:=[]) (f2:=[]) (hp _ _ hy _ _ h1 I' i1 (fun b hb=>i2 b (List.mem_append.2 (.inl hb))) fun id hid=>i3 id (List.mem_append.2 (.inl hid))) (g3 I' i1 (fun b hb=>i2 b (List.mem_append.2 (.inr hb))) fun id hid=>i3 id (List.mem_append.2 (.inr hid)))
theorem wz{p:U→Option (U×List Id)}(hp:Bt w I β F p){cs:List U}{x}(h:gx p cs=some x){f vs}(hr:av w I β f vs cs):x.1.length=cs.length∧∀I':Nat→Prop,(∀b,I b→I' b)→(∀b∈f,I' b)→(∀id∈x.2,∀b∈F id,I' b)→av w I' b8 [] vs x.1:=by unfold gx at h;split at h;·{rename_i hf;simp at h;subst h;exact⟨rfl,fun I' i1 _ _=>R.pS hr (by simpa[fA]using hf) i1⟩};·exact IB hp h hr
theorem Oo{p:U→Option (U×List Id)}(hp:Bt w I β F p):∀{rs:Rows}{x},dr (gx p) rs=some x→∀{f vs},av w I β f vs rs.flatten→(x.1.length=rs.length∧∀sz,(∀r∈rs,r.length=sz)→∀r∈x.1,r.length=sz)∧∀I':Nat→Prop,(∀b,I b→I' b)→(∀b∈f,I' b)→(∀id∈x.2,∀b∈F id,I' b)→av w I' b8 [] vs x.1.flatten|[],x,h,f,vs,hr=>by{simp[dr]at h;subst h;obtain⟨rfl,rfl⟩:=hr.gj;exact⟨⟨rfl,fun _ _ _ h=>by cases h⟩,fun _ _ _ _=> .nil⟩}|c::cs,x,h,f,vs,hr=>by simp only[dr,Hk,GT]at h;obtain⟨y,hy,z,hz,rfl⟩:=h;rw[Hd]at hr;obtain⟨f1,f2,v1,v2,rfl,rfl,h1,h2⟩:=av.split hr;obtain⟨l1,g1⟩:=wz hp hy h1;obtain⟨⟨l2,l3⟩,g3⟩:=Oo hp hz h2;refine⟨⟨by simp[l2],fun sz hs r hr=> ?_⟩,fun I' i1 i2 i3=> ?_⟩;·{rcases List.mem_cons.1 hr with rfl|hr;·{rw[l1];exact hs _ (Ha ..)};·exact l3 sz (fun r hr=>hs r (Hb _ hr)) r hr};·have:=(g1 I' i1 (fun b hb=>i2 b (List.mem_append.2 (.inl hb))) fun id hid=>i3 id (List.mem_append.2 (.inl hid))).append (g3 I' i1 (fun b hb=>i2 b (List.mem_append.2 (.inr hb))) fun id hid=>i3 id (List.mem_append.2 (.inr hid)));simpa using this
theorem OB{p:U→Option (U×List Id)}(hp:Bt w I β F p){rs:Rows}{x}(h:lu p rs=some x){f vs}(hr:av w I β f vs rs.flatten):(x.1.length=rs.length∧∀sz,(∀r∈rs,r.length=sz)→∀r∈x.1,r.length=sz)∧∀I':Nat→Prop,(∀b,I b→I' b)→(∀b∈f,I' b)→(∀id∈x.2,∀b∈F id,I' b)→av w I' b8 [] vs x.1.flatten:=by unfold lu at h;split at h;·{rename_i hf;simp at h;subst h;exact⟨⟨rfl,fun _ h=>h⟩,fun I' i1 _ _=>R.pS hr (by simpa[fA]using KM _ hf) i1⟩};·exact Oo hp h hr
theorem IG{L:Id→Option (Option Rows)}(hL:∀id rows,L id=some (some rows)→dU w I β id rows (F id)):∀n,Bt w I β F (cj L n)
 |0=>fun a x h=>by simp[cj]at h
 |n+1=>fun a x h f v hr I' i1 i2 i3=>by
  have ih:=IG hL n
  cases a with
  |rs id off len=>
   simp only[cj]at h
   split at h
   ·rename_i rs hid
    split at h
    ·rename_i hc
     simp only[GT]at h
     obtain⟨y,hy,rfl⟩:=h
     obtain⟨rfl,hv⟩:=hr.nj
     have CL:len=0→y.1=[]:=fun h0=>by
      have :=congrArg List.length (show(rs.drop off).take len=[]by rw[h0];rfl)
      rw[h0,If]at hy
      simp[lu,iJ]at hy
      rw[←hy]
     rcases hv with⟨a,l,rfl,rfl,_⟩|⟨b',o',sz',Lc,cap,hb',hle',hcap,rfl⟩
     ·rw[CL rfl];exact .gK
     ·rcases Nat.eq_zero_or_pos len with h0|h0
      ·subst h0;rw[CL rfl];exact .gK
      ·rcases hL id rs hid with⟨hb,rfl,hF⟩|⟨bm,hb,_⟩|⟨b,o,sz,n',vs,cO,hb,hF,oC,⟨hne,hsz⟩,hle,ck,hrl⟩
       ·simp at hc;omega
       ·rw[hb]at hb';cases hb'
       ·rw[hb]at hb'
        simp only[GE,Loc.blk.injEq]at hb'
        obtain⟨rfl,rfl,rfl,rfl⟩:=hb'
        have hsp:rs.flatten=(rs.take off).flatten++(((rs.drop off).take len).flatten++((rs.drop off).drop len).flatten):=by
         rw[←FT (rs.drop off) len,←FT rs off]
        rw[hsp]at hrl
        obtain⟨f1,f23,v1,v23,rfl,rfl,h1,h23⟩:=av.split hrl
        obtain⟨f2,f3,v2,v3,rfl,rfl,h2,h3⟩:=av.split h23
        have Dr:=h1.length
        rw[lF (sz:=sz) (fun r hr=>hsz r (Hn hr)),Hm,H0 (by omega)]at Dr
        obtain⟨⟨l1,l2⟩,g⟩:=OB ih hy h2
        have mq:y.1.length=len:=by rw[l1,Hm,List.length_drop];omega
        have hin:∀x∈F id,I' x:=i3 id (Ha ..)
        have g':=g I' i1 (fun x hx=>hin x (by rw[hF];simp[hx])) fun id hid=>i3 id (Hb _ hid)
        have w9:fC w b (o+off*sz) v2:=by
         have :=(ck.drop v1.length).take v2.length
         rw[Ix,H1,Dr]at this
         exact this
        have :=R.sl (β:=b8) (cap:=cap) (l2 sz fun r hr=>hsz r (List.mem_of_mem_drop (Hn hr))) (hin b (by rw[hF];simp)) w9 (by omega) g'
        rw[mq]at this
        exact this
    ·cases h
   ·cases h
  |mp id row off=>
   simp only[cj]at h
   split at h
   ·rename_i rs hid
    split at h
    ·rename_i r hrow
     split at h
     ·rename_i hoff
      simp only[GT]at h
      obtain⟨y,hy,rfl⟩:=h
      obtain⟨rfl,b',o',sz',n',hb',rfl⟩:=hr.oK
      rcases hL id rs hid with⟨hb,h0,hF⟩|⟨bm,hb,_⟩|⟨b,o,sz,n',vs,cO,hb,hF,oC,⟨hne,hsz⟩,hle,ck,hrl⟩
      ·subst h0;simp at hrow
      ·rw[hb]at hb';cases hb'
      ·rw[hb]at hb'
       simp only[GE,Loc.blk.injEq]at hb'
       obtain⟨rfl,rfl,rfl,rfl⟩:=hb'
       obtain⟨hsp,hlt⟩:=Mn hrow
       have Rh:r.length=sz:=hsz r (List.mem_of_getElem? hrow)
       have hsp:rs.flatten=((rs.take row).flatten++r.take off)++(r.drop off++(rs.drop (row+1)).flatten):=by
        have e:r.take off++(r.drop off++(rs.drop (row+1)).flatten)=r++(rs.drop (row+1)).flatten:=by rw[←Kd,IH]
        rw[Kd,e]
        conv=>lhs;rw[hsp]
        simp
       rw[hsp]at hrl
       obtain⟨f1,f23,v1,v23,rfl,rfl,h1,h23⟩:=av.split hrl
       obtain⟨f2,f3,v2,v3,rfl,rfl,h2,h3⟩:=av.split h23
       have Dr:=h1.length
       rw[List.length_append,lF (sz:=sz) (fun r hr=>hsz r (Hn hr)),Hm,Hm,H0 (by omega),H0 hoff]at Dr
       obtain⟨_,g⟩:=wz ih hy h2
       have hin:∀x∈F id,I' x:=i3 id (Ha ..)
       have g':=g I' i1 (fun x hx=>hin x (by rw[hF];simp[hx])) fun id hid=>i3 id (Hb _ hid)
       have w9:fC w b (o+row*sz+off) v2:=by
        have :=(ck.drop v1.length).take v2.length
        rw[Ix,H1,Dr,←Nat.add_assoc]at this
        exact this
       exact .aA (hin b (by rw[hF];simp)) w9 g'
     ·cases h
    ·cases h
   ·cases h
  |cz=>
   simp only[cj,GE]at h;subst h
   obtain⟨rfl,a,rfl⟩:=hr.yu
   exact .gK
  |agg cs=>
   simp only[cj,GT]at h
   obtain⟨y,hy,rfl⟩:=h
   obtain⟨vs,rfl,hl⟩:=hr.o8
   exact(wz ih hy hl).2 I' i1 i2 i3
  |aY cs=>
   simp only[cj,GT]at h
   obtain⟨y,hy,rfl⟩:=h
   obtain⟨vs,rfl,hl⟩:=hr.Bh
   exact .aY ((wz ih hy hl).2 I' i1 i2 i3)
  |fn k a b=>
   simp only[cj,GT,Hk]at h
   obtain⟨y,hy,z,hz,rfl⟩:=h
   obtain⟨rfl,vs,cs,rfl,h1,h2⟩:=hr.pI
   exact .fn ((wz ih hy h1).2 I' i1 (fun _ h=>by cases h) fun id hid=>i3 id (List.mem_append.2 (.inl hid))) ((wz ih hz h2).2 I' i1 (fun _ h=>by cases h) fun id hid=>i3 id (List.mem_append.2 (.inr hid)))
  |dw g y=>
   simp only[cj,GE]at h;subst h
   exact .bB
  |own rs len=>
   simp only[cj,GT]at h
   obtain⟨y,hy,rfl⟩:=h
   cases hr with
   |jY=>
    have :y=([],[]):=by simpa[lu,iJ]using hy.symm
    subst this;exact .gK
   |kI _ _ _ _ _ _=>
    have :y=([],[]):=by simpa[lu,iJ]using hy.symm
    subst this;exact .gK
   | @own _ b o sz cap n len cO jm _ g0 g1 g2 g3 g4 g5 g6=>
    rw[FT rs len]at g6
    obtain⟨f1,f2,v1,v2,rfl,rfl,h1,h2⟩:=av.split g6
    obtain⟨⟨l1,l2⟩,g⟩:=OB ih hy h1
    have g':=g I' i1 (fun b hb=>i2 b (Hb _ (List.mem_append.2 (.inl hb)))) i3
    have JT:fC w b o v1:=by
     have :=g5.take v1.length
     rwa[H1]at this
    have mq:y.1.length=len:=by rw[l1,Hm];omega
    have :=R.sl (β:=b8) (cap:=cap) (l2 sz fun r hr=>g1 r (Hn hr)) (i2 b (Ha ..)) JT (by omega) g'
    rw[mq]at this
    exact this
  |aS cs=>
   simp only[cj,GT]at h
   obtain⟨y,hy,rfl⟩:=h
   cases hr with
   | @aS _ b o n cO jm _ g2 g3 g5 g6=>
    obtain⟨_,g⟩:=wz ih hy g6
    exact .aA (i2 b (Ha ..)) g5 (g I' i1 (fun b hb=>i2 b (Hb _ hb)) i3)
  |val u=>
   simp only[cj,GE]at h;subst h
   exact hr.pS rfl i1
  |nn=>
   simp only[cj,GE]at h;subst h
   exact hr.pS rfl i1
  |mr id=>
   simp only[cj]at h
   split at h
   ·rename_i rs hid
    simp only[GE]at h;subst h
    obtain⟨rfl,b,hb',rfl⟩:=hr.Dw
    rcases hL id rs hid with⟨hb,_⟩|⟨b2,hb,hF,hm⟩|⟨b2,o,sz,n',vs,cO,hb,_⟩
    ·rw[hb]at hb';cases hb'
    ·rw[hb]at hb';cases hb'
     exact .im (i3 id (Ha ..) b (by rw[hF];simp)) hm
    ·rw[hb]at hb';cases hb'
   ·cases h
  |ey rows=>
   simp only[cj,GE]at h;subst h
   obtain⟨b,rfl,rfl,hm⟩:=hr.Lw
   exact .im (i2 b (Ha ..)) hm
  |im rows=>
   simp only[cj,GE]at h;subst h
   exact hr.pS rfl i1
  |sl rows=>
   simp only[cj,GE]at h;subst h
   exact hr.pS rfl i1
  |aA cells=>
   simp only[cj,GE]at h;subst h
   exact hr.pS rfl i1
  |bt i rs=>cases hr
  |AE u=>cases hr
  |bB=>
   simp only[cj,GE]at h;subst h
   exact .bB
/-! ### Nothing but its own -/
theorem La:∀rows:Rows,GG rows=true→mz rows.flatten=true|[],_=>by{simp[mz]}|r::rs,h=>by simp only[GG,Hc]at h;have:∀a b:List U,mz (a++b)=(mz a&&mz b):=fun a b=>by{induction a with|nil=>(simp[mz])|cons c cs ih=>simp[mz,ih,H2]};rw[Hd,this,h.1,La rs h.2];rfl
theorem R.mine{f:List Nat}{v:Value}{a:U}(h:R w I β f v a):mine a=true→∀I':Nat→Prop,R w I' β f v a:=by induction h with|val h=>(intro _ _;exact .val h)|nn=>(intro _ _;exact .nn)|ey h=>(intro _ _;exact .ey h)|cz=>(intro _ _;exact .cz)|nil=>(intro _ _;exact .nil)|cons _ _ ih1 ih2=>(intro hf _;simp only[Ab.mine,mz,Hc]at hf;exact .cons (ih1 hf.1 _) (ih2 (by simpa[Ab.mine]using hf.2) _))|aY _ ih=>(intro hf _;exact .aY (ih (by simpa[Ab.mine]using hf) _))|jY=>(intro _ _;exact .jY)|own h0 h1 h2 h3 h4 h5 _ ih=>(intro hf _;simp only[Ab.mine]at hf;exact .own h0 h1 h2 h3 h4 h5 (ih (by simpa[Ab.mine]using La _ hf) _))|kI h0 h1 h2 h3 h5 _ ih=>(intro hf _;simp only[Ab.mine]at hf;exact .kI h0 h1 h2 h3 h5 (ih (by simpa[Ab.mine]using La _ hf) _))|aS h1 h2 h3 _ ih=>(intro hf _;simp only[Ab.mine]at hf;exact .aS h1 h2 h3 (ih (by simpa[Ab.mine]using hf) _))|bB=>(intro _ _;exact .bB)|_=>intro hf;simp[Ab.mine]at hf
/-! ### Freezing -/
theorem acn(a b:List U):iZ (a++b)=iZ a++iZ b:=by induction a with|nil=>(rfl)|cons c cs ih=>simp[iZ,ih]
theorem aco(a:List U):(iZ a).length=a.length:=by induction a with|nil=>(rfl)|cons c cs ih=>simp[iZ,ih]
theorem Jk:∀rows:Rows,(gV rows).flatten=iZ rows.flatten|[]=>rfl|r::rs=>by simp[gV,acn,Jk rs]
theorem Jl:∀rows:Rows,(gV rows).length=rows.length|[]=>rfl|r::rs=>by simp[gV,Jl rs]
theorem Jm:∀{rows:Rows}{r:List U},r∈gV rows→∃r'∈rows,r.length=r'.length|[],r,h=>by{simp[gV]at h}|c::rs,r,h=>by simp only[gV,List.mem_cons]at h;rcases h with rfl|h;·{exact⟨c,Ha ..,aco c⟩};·obtain⟨r',h1,h2⟩:=Jm h;exact⟨r',Hb _ h1,h2⟩
theorem R.ack{β:Id→Option Loc}{f:List Nat}{v:Value}{a:U}(h:R w I β f v a)(bN:β=b8){I':Nat→Prop}(i1:∀b,I b→I' b):(∀b∈f,I' b)→R w I' b8 [] v (dF a):=by induction h with|val h=>(intro _;exact .val h)|nn=>(intro _;exact .nn)|mr h=>(subst bN;cases h)|ey h=>(intro h2;exact .im (h2 _ (Ha ..)) h)|im h1 h2=>(intro _;exact .im (i1 _ h1) h2)|cz=>(intro _;exact .cz)|gK=>(intro _;exact .gK)|sl h1 h2 h3 h4 h5 _=>(intro _;exact .sl h1 (i1 _ h2) h3 h4 (h5.mono i1 (fun _ _=>rfl) (fun _ _ h=>h)))|aA h1 h2 h3 _=>(intro _;exact .aA (i1 _ h1) h2 (h3.mono i1 (fun _ _=>rfl) (fun _ _ h=>h)))|iR h _=>(subst bN;cases h)|rs h _ _=>(subst bN;cases h)|mp h=>(subst bN;cases h)|fn h1 h2 _ _=>(intro _;subst bN;exact .fn (h1.mono i1 (fun _ _=>rfl) (fun _ _ h=>h)) (h2.mono i1 (fun _ _=>rfl) (fun _ _ h=>h)))|nil=>(intro _;exact .nil)|cons _ _ ih1 ih2=>(intro h;exact R.cons (f1:=[]) (f2:=[]) (ih1 bN fun b hb=>h b (List.mem_append.2 (.inl hb))) (ih2 bN fun b hb=>h b (List.mem_append.2 (.inr hb))))|aY _ ih=>(intro h;exact .aY (ih bN h))|jY=>(intro _;exact .gK)|kI _ _ _ _ _ _=>(intro _;simp only[Ab.dF,If];exact .gK)| @own _ b o sz cap n len cO jm rows h0 h1 h2 h3 h4 h5 _ ih=>(intro h;have g:=ih bN fun b hb=>h b (Hb _ hb);simp only[Ab.dF]at g⊢;rw[←Jk,FT (gV rows) len]at g;obtain⟨f1,f2,v1,v2,e1,e2,g1,g2⟩:=av.split g;obtain rfl:f1=[]:=(List.append_eq_nil_iff.1 e1.symm).1;have JT:fC w b o v1:=by{rw[e2]at h5;have:=h5.take v1.length;rwa[List.take_left]at this};have hl:((gV rows).take len).length=len:=by{rw[List.length_take,Jl];omega};have:=R.sl (w:=w) (β:=b8) (cap:=cap) (o:=o) (rows:=(gV rows).take len) (fun r hr=>by obtain⟨r',m1,m2⟩:=Jm (List.mem_of_mem_take hr);rw[m2];exact h1 r' m1) (h b (List.mem_cons_self ..)) JT (by omega) g1;rw[hl]at this;exact this)|aS h1 h2 h3 _ ih=>(intro h;have g:=ih bN fun b hb=>h b (Hb _ hb);exact .aA (h _ (Ha ..)) h3 g)|qv h _=>(intro _;subst bN;exact .qv (h.mono i1 (fun _ _=>rfl) (fun _ _ h=>h)))|qu=>(intro _;exact .qu)|bB=>intro _;exact .bB
theorem R.dF{f:List Nat}{v:Value}{a:U}(h:R w I b8 f v a){I':Nat→Prop}(i1:∀b,I b→I' b)(hf:∀b∈f,I' b):R w I' b8 [] v (dF a):=R.ack h rfl i1 hf
end
end Go.Ab
