import Derived.Test.YtbbhbdlljfffdaaGreatDoorAbOps7
open Bool renaming and_eq_true→Hc,and_assoc→H2
open List renaming mem_cons_self→Ha,mem_cons_of_mem→Hb,flatten_cons→Hd,length_take→Hm,mem_of_mem_take→Hn,take_left→H1,perm_iff_count→H3,count_append→H4,flatMap_append→H5,take_append_drop→IH,take_zero→If,drop_left→Ix,append_assoc→Kd
open Nat renaming min_eq_left→H0
open Option renaming map_eq_some_iff→GT,bind_eq_some_iff→Hk
open Option.some renaming injEq→GE
set_option linter.all false
namespace Go.Ab
open Go
theorem QV(a b:List U):cp (a++b)=(cp a&&cp b):=by induction a with|nil=>(simp[cp])|cons c cs ih=>simp[cp,ih,H2]
theorem y6:∀rows:Rows,dz rows=true→cp rows.flatten=true|[],_=>by{simp[cp]}|r::rs,h=>by simp only[dz,Hc]at h;rw[Hd,QV,h.1,y6 rs h.2];rfl
section
variable{w:World}{I:Nat→Prop}
theorem R.iI{β:Id→Option Loc}{f:List Nat}{v:Value}{a:U}(h:R w I β f v a):flat a=true→∀b7:Id→Option Loc,R w I b7 f v a:=by induction h with|val h=>(intro _ _;exact .val h)|nn=>(intro _ _;exact .nn)|mr _=>(intro hf;simp[flat]at hf)|dJ h=>(intro _ _;exact .dJ h)|im h1 h2=>(intro _ _;exact .im h1 h2)|bQ=>(intro hf;simp[flat]at hf)|fc=>(intro _ _;exact .fc)|sl h1 h2 h3 h4 h5 _=>(intro _ _;exact .sl h1 h2 h3 h4 h5)|aL h1 h2 h3 _=>(intro _ _;exact .aL h1 h2 h3)|ga _ _=>(intro hf;simp[flat]at hf)|rs _ _ _=>(intro hf;simp[flat]at hf)|mp _=>(intro hf;simp[flat]at hf)|fn _ _ ih1 ih2=>(intro hf _;simp only[flat,Hc]at hf;exact .fn (ih1 (by simpa[flat]using hf.1) _) (ih2 (by simpa[flat]using hf.2) _))|nil=>(intro _ _;exact .nil)|cons _ _ ih1 ih2=>(intro hf _;simp only[flat,cp,Hc]at hf;exact .cons (ih1 hf.1 _) (ih2 (by simpa[flat]using hf.2) _))|aE _ ih=>(intro hf _;exact .aE (ih (by simpa[flat]using hf) _))|gP=>(intro _ _;exact .gP)|own h0 h1 h2 h3 h4 h5 _ ih=>(intro hf _;simp only[flat]at hf;exact .own h0 h1 h2 h3 h4 h5 (ih (by simpa[flat]using y6 _ hf) _))|iB h0 h1 h2 h3 h5 _ ih=>(intro hf _;simp only[flat]at hf;exact .iB h0 h1 h2 h3 h5 (ih (by simpa[flat]using y6 _ hf) _))|ck h1 h2 h3 _ ih=>(intro hf _;simp only[flat]at hf;exact .ck h1 h2 h3 (ih (by simpa[flat]using hf) _))|mP _ _=>(intro hf;simp[flat]at hf)|mO=>(intro hf;simp[flat]at hf)|aU=>intro _ _;exact .aU
def uV(w:World)(I:Nat→Prop)(β:Id→Option Loc)(F:Id→List Nat)(p:U→Option (U×List Id)):Prop:=∀a x,p a=some x→∀f v,R w I β f v a→∃fp rest,R w I br fp v x.1∧(fp++rest).Perm (f++x.2.flatMap F)
variable{β:Id→Option Loc}{F:Id→List Nat}
theorem nY{ja r1 gH r2 f1 g1 f2 g2:List Nat}(h1:(ja++r1).Perm (f1++g1))(h2:(gH++r2).Perm (f2++g2)):((ja++gH)++(r1++r2)).Perm ((f1++f2)++(g1++g2)):=by rw[H3]at h1 h2⊢;intro a;have:=h1 a;have:=h2 a;simp only[H4]at*;omega
theorem HF{p:U→Option (U×List Id)}(hp:uV w I β F p):∀{cs:List U}{x},dF p cs=some x→∀{f vs},aj w I β f vs cs→x.1.length=cs.length∧∃fp rest,aj w I br fp vs x.1∧(fp++rest).Perm (f++x.2.flatMap F)|[],x,h,f,vs,hr=>by{simp[dF]at h;subst h;obtain⟨rfl,rfl⟩:=hr.eJ;exact⟨rfl,[],[], .nil,by simp⟩}|c::cs,x,h,f,vs,hr=>by simp only[dF,Hk,GT]at h;obtain⟨y,hy,z,hz,rfl⟩:=h;obtain⟨f1,f2,v,vs',rfl,rfl,h1,h2⟩:=hr.cons_inv;obtain⟨ja,r1,g1,g2⟩:=hp _ _ hy _ _ h1;obtain⟨hl,gH,r2,g3,g4⟩:=HF hp hz h2;refine⟨by simp[hl],ja++gH,r1++r2, .cons g1 g3, ?_⟩;simp only[H5];exact nY g2 g4
theorem Af{p:U→Option (U×List Id)}(hp:uV w I β F p){cs:List U}{x}(h:gj p cs=some x){f vs}(hr:aj w I β f vs cs):x.1.length=cs.length∧∃fp rest,aj w I br fp vs x.1∧(fp++rest).Perm (f++x.2.flatMap F):=by unfold gj at h;split at h;·{rename_i hf;simp at h;subst h;exact⟨rfl,f,[],R.iI hr (by simpa[flat]using hf) _,by simp⟩};·exact HF hp h hr
theorem HH{p:U→Option (U×List Id)}(hp:uV w I β F p):∀{rs:Rows}{x},ef (gj p) rs=some x→∀{f vs},aj w I β f vs rs.flatten→(x.1.length=rs.length∧∀sz,(∀r∈rs,r.length=sz)→∀r∈x.1,r.length=sz)∧∃fp rest,aj w I br fp vs x.1.flatten∧(fp++rest).Perm (f++x.2.flatMap F)|[],x,h,f,vs,hr=>by{simp[ef]at h;subst h;obtain⟨rfl,rfl⟩:=hr.eJ;exact⟨⟨rfl,fun _ _ _ h=>by cases h⟩,[],[], .nil,by simp⟩}|c::cs,x,h,f,vs,hr=>by simp only[ef,Hk,GT]at h;obtain⟨y,hy,z,hz,rfl⟩:=h;rw[Hd]at hr;obtain⟨f1,f2,v1,v2,rfl,rfl,h1,h2⟩:=aj.split hr;obtain⟨l1,ja,r1,g1,g2⟩:=Af hp hy h1;obtain⟨⟨l2,l3⟩,gH,r2,g3,g4⟩:=HH hp hz h2;refine⟨⟨by simp[l2],fun sz hs r hr=> ?_⟩,ja++gH,r1++r2,g1.append g3, ?_⟩;·{rcases List.mem_cons.1 hr with rfl|hr;·{rw[l1];exact hs _ (Ha ..)};·exact l3 sz (fun r hr=>hs r (Hb _ hr)) r hr};·simp only[H5];exact nY g2 g4
theorem J5{p:U→Option (U×List Id)}(hp:uV w I β F p){rs:Rows}{x}(h:mo p rs=some x){f vs}(hr:aj w I β f vs rs.flatten):(x.1.length=rs.length∧∀sz,(∀r∈rs,r.length=sz)→∀r∈x.1,r.length=sz)∧∃fp rest,aj w I br fp vs x.1.flatten∧(fp++rest).Perm (f++x.2.flatMap F):=by unfold mo at h;split at h;·{rename_i hf;simp at h;subst h;exact⟨⟨rfl,fun _ h=>h⟩,f,[],R.iI hr (by simpa[flat]using y6 _ hf) _,by simp⟩};·exact HH hp h hr
theorem y8{α:Type}(rs:List (List α))(n:Nat):rs.flatten=(rs.take n).flatten++(rs.drop n).flatten:=by rw[←List.flatten_append,IH]
theorem qy{L:Id→Option (Option Rows)}(hL:∀id rows,L id=some (some rows)→cW w I β id rows (F id)):∀n,uV w I β F (pk L n)|0=>fun a x h=>by{simp[pk]at h}|n+1=>fun a x h f v hr=>by have ih:=qy hL n;cases a with|rs id off len=>(simp only[pk]at h;split at h;·{rename_i rs hid;split at h;·{rename_i hc;simp only[GT]at h;obtain⟨y,hy,rfl⟩:=h;obtain⟨rfl,hc⟩:=hc;obtain⟨rfl,hv⟩:=hr.j9;rcases hL id rs hid with⟨hb,rfl,hF⟩|⟨bm,hb,_⟩|⟨b,o,sz,n',vs,bW,hb,hF,k9,⟨hne,hsz⟩,hle,bx,hrl⟩;rotate_left;·{rcases hv with⟨a,l,rfl,rfl,hb',hl⟩|⟨b,o,sz,n',cap,hb',_⟩;·{rw[hb]at hb';cases hb';cases hl};·rw[hb]at hb';cases hb'};rotate_left;·{have hy0:y=([],[]):=by{simpa[mo,dz]using hy.symm};subst hy0;simp only[List.length_nil]at hc;rcases hv with⟨a,l,rfl,rfl,_⟩|⟨b,o,sz,n',cap,hb',_⟩;·{exact⟨[],[], .gP,by simp[hF]⟩};·rw[hb]at hb';cases hb'};·obtain⟨⟨l1,l2⟩,fp,rest,g1,g2⟩:=J5 ih hy hrl;have hlen:0<rs.length:=List.length_pos_iff.2 hne;have IM:y.1≠[]:=fun e=>by{rw[e]at l1;simp at l1;omega};have wq:((b::fp)++rest).Perm ([]++(id::y.2).flatMap F):=by{rw[List.perm_iff_count]at g2⊢;intro x;have:=g2 x;simp only[List.flatMap_cons,List.nil_append,hF,List.count_append,List.count_cons,List.cons_append]at*;omega};rcases hv with⟨a,l,rfl,rfl,_⟩|⟨b',o',sz',Dk,cap,hb',hle',hcap,rfl⟩;·{exact⟨b::fp,rest, .iB IM (l2 sz hsz) k9 (by rw[l1];exact hle) bx g1,wq⟩};·rw[hb]at hb';simp only[Option.some.injEq,Loc.blk.injEq]at hb';obtain⟨rfl,rfl,rfl,rfl⟩:=hb';refine⟨b::fp,rest, ?_,wq⟩;have:=R.own (w:=w) (I:=I) (β:=br) (cap:=cap) (o:=o) (rows:=y.1) (len:=len) IM (l2 sz hsz) k9 ⟨by simpa using hle',by rw[l1];exact hle⟩ ⟨by omega,by omega⟩ bx g1;simpa using this};·cases h};·cases h)|mp id row off=>(simp only[pk]at h;split at h;·{rename_i cs hid;split at h;·{rename_i hc;obtain⟨rfl,rfl⟩:=hc;simp only[GT]at h;obtain⟨y,hy,rfl⟩:=h;obtain⟨rfl,b',o',sz',n',hb',rfl⟩:=hr.lp;rcases hL id [cs] hid with⟨hb,h0,hF⟩|⟨bm,hb,_⟩|⟨b,o,sz,n',vs,bW,hb,hF,k9,⟨hne,hsz⟩,hle,bx,hrl⟩;·{cases h0};·{rw[hb]at hb';cases hb'};·rw[hb]at hb';simp only[GE,Loc.blk.injEq]at hb';obtain⟨rfl,rfl,rfl,rfl⟩:=hb';simp only[Hd,List.flatten_nil,List.append_nil]at hrl;obtain⟨l1,fp,rest,g1,g2⟩:=Af ih hy hrl;have:=hsz cs (by simp);refine⟨b::fp,rest, ?_, ?_⟩;·{have:=R.ck (w:=w) (I:=I) (β:=br) (cells:=y.1) k9 (by simp at hle;omega) bx g1;simpa using this};·rw[H3]at g2⊢;intro x;have:=g2 x;simp only[List.flatMap_cons,List.nil_append,hF,H4,List.count_cons,List.cons_append]at*;omega};·cases h};·cases h)|bQ=>(simp only[pk,GE]at h;subst h;obtain⟨rfl,a,rfl⟩:=hr.sA;exact⟨[],[], .gP,by simp⟩)|agg cs=>(simp only[pk,GT]at h;obtain⟨y,hy,rfl⟩:=h;obtain⟨vs,rfl,hl⟩:=hr.lP;exact(Af ih hy hl).2)|aE cs=>(simp only[pk,GT]at h;obtain⟨y,hy,rfl⟩:=h;obtain⟨vs,rfl,hl⟩:=hr.uO;obtain⟨_,fp,rest,g1,g2⟩:=Af ih hy hl;exact⟨fp,rest, .aE g1,g2⟩)|fn k a b=>(simp only[pk]at h;split at h;·{rename_i hi;simp only[GE]at h;subst h;simp only[Hc]at hi;obtain⟨rfl,vs,cs,rfl,h1,h2⟩:=hr.lY;exact⟨[],[], .fn (h1.kG hi.1) (h2.kG hi.2),by simp⟩};·cases h)|cF g y=>(simp only[pk,GE]at h;subst h;exact⟨[],f, .aU,by simp⟩)|own rs len=>(simp only[pk]at h;split at h;·{rename_i hf;simp only[GE]at h;subst h;exact⟨f,[],hr.iI (by simpa[flat]using hf) _,by simp⟩};·cases h)|ck cs=>(simp only[pk]at h;split at h;·{rename_i hf;simp only[GE]at h;subst h;exact⟨f,[],hr.iI (by simpa[flat]using hf) _,by simp⟩};·cases h)|val u=>(simp only[pk,GE]at h;subst h;exact⟨f,[],hr.iI rfl _,by simp⟩)|nn=>(simp only[pk,GE]at h;subst h;exact⟨f,[],hr.iI rfl _,by simp⟩)|mr id=>(simp only[pk]at h;split at h;·{rename_i rs hid;simp only[GE]at h;subst h;obtain⟨rfl,b,hb',rfl⟩:=hr.xd;rcases hL id rs hid with⟨hb,_⟩|⟨b2,hb,hF,hm⟩|⟨b2,o,sz,n',vs,bW,hb,_⟩;·{rw[hb]at hb';cases hb'};·{rw[hb]at hb';cases hb';exact⟨[b],[], .dJ hm,by simp[hF]⟩};·rw[hb]at hb';cases hb'};·cases h)|dJ rows=>(simp only[pk,GE]at h;subst h;exact⟨f,[],hr.iI rfl _,by simp⟩)|im rows=>(simp only[pk,GE]at h;subst h;exact⟨f,[],hr.iI rfl _,by simp⟩)|sl rows=>(simp only[pk,GE]at h;subst h;exact⟨f,[],hr.iI rfl _,by simp⟩)|aL cells=>(simp only[pk,GE]at h;subst h;exact⟨f,[],hr.iI rfl _,by simp⟩)|aP i rs=>(cases hr)|uo u=>(cases hr)|aU=>simp only[pk,GE]at h;subst h;exact⟨f,[],hr.iI rfl _,by simp⟩
/-! ### Borrowing -/
def uQ(w:World)(I:Nat→Prop)(β:Id→Option Loc)(F:Id→List Nat)(p:U→Option (U×List Id)):Prop:=∀a x,p a=some x→∀f v,R w I β f v a→∀I':Nat→Prop,(∀b,I b→I' b)→(∀b∈f,I' b)→(∀id∈x.2,∀b∈F id,I' b)→R w I' br [] v x.1
theorem R.mc{f:List Nat}{v:Value}{a:U}(h:R w I β f v a)(hi:eC a=true){I':Nat→Prop}(hI:∀b,I b→I' b):R w I' br [] v a:=by have e:=h.CZ hi;subst e;exact(h.kG hi).mono hI (fun _ _=>rfl) (fun _ _ h=>h)
theorem Ba{p:U→Option (U×List Id)}(hp:uQ w I β F p):∀{cs:List U}{x},dF p cs=some x→∀{f vs},aj w I β f vs cs→x.1.length=cs.length∧∀I':Nat→Prop,(∀b,I b→I' b)→(∀b∈f,I' b)→(∀id∈x.2,∀b∈F id,I' b)→aj w I' br [] vs x.1|[],x,h,f,vs,hr=>by{simp[dF]at h;subst h;obtain⟨rfl,rfl⟩:=hr.eJ;exact⟨rfl,fun _ _ _ _=> .nil⟩}|c::cs,x,h,f,vs,hr=>by simp only[dF,Hk,GT]at h;obtain⟨y,hy,z,hz,rfl⟩:=h;obtain⟨f1,f2,v,vs',rfl,rfl,h1,h2⟩:=hr.cons_inv;obtain⟨hl,g3⟩:=Ba hp hz h2;refine⟨by simp[hl],fun I' i1 i2 i3=> ?_⟩;exact R.cons (f1:=[]) (f2:=[]) (hp _ _ hy _ _ h1 I' i1 (fun b hb=>i2 b (List.mem_append.2 (.inl hb))) fun id hid=>i3 id (List.mem_append.2 (.inl hid))) (g3 I' i1 (fun b hb=>i2 b (List.mem_append.2 (.inr hb))) fun id hid=>i3 id (List.mem_append.2 (.inr hid)))
theorem qZ{p:U→Option (U×List Id)}(hp:uQ w I β F p){cs:List U}{x}(h:ig p cs=some x){f vs}(hr:aj w I β f vs cs):x.1.length=cs.length∧∀I':Nat→Prop,(∀b,I b→I' b)→(∀b∈f,I' b)→(∀id∈x.2,∀b∈F id,I' b)→aj w I' br [] vs x.1:=by unfold ig at h;split at h;·{rename_i hf;simp at h;subst h;exact⟨rfl,fun I' i1 _ _=>R.mc hr (by simpa[eC]using hf) i1⟩};·exact Ba hp h hr
theorem Gr{p:U→Option (U×List Id)}(hp:uQ w I β F p):∀{rs:Rows}{x},ef (ig p) rs=some x→∀{f vs},aj w I β f vs rs.flatten→(x.1.length=rs.length∧∀sz,(∀r∈rs,r.length=sz)→∀r∈x.1,r.length=sz)∧∀I':Nat→Prop,(∀b,I b→I' b)→(∀b∈f,I' b)→(∀id∈x.2,∀b∈F id,I' b)→aj w I' br [] vs x.1.flatten|[],x,h,f,vs,hr=>by{simp[ef]at h;subst h;obtain⟨rfl,rfl⟩:=hr.eJ;exact⟨⟨rfl,fun _ _ _ h=>by cases h⟩,fun _ _ _ _=> .nil⟩}|c::cs,x,h,f,vs,hr=>by simp only[ef,Hk,GT]at h;obtain⟨y,hy,z,hz,rfl⟩:=h;rw[Hd]at hr;obtain⟨f1,f2,v1,v2,rfl,rfl,h1,h2⟩:=aj.split hr;obtain⟨l1,g1⟩:=qZ hp hy h1;obtain⟨⟨l2,l3⟩,g3⟩:=Gr hp hz h2;refine⟨⟨by simp[l2],fun sz hs r hr=> ?_⟩,fun I' i1 i2 i3=> ?_⟩;·{rcases List.mem_cons.1 hr with rfl|hr;·{rw[l1];exact hs _ (Ha ..)};·exact l3 sz (fun r hr=>hs r (Hb _ hr)) r hr};·have:=(g1 I' i1 (fun b hb=>i2 b (List.mem_append.2 (.inl hb))) fun id hid=>i3 id (List.mem_append.2 (.inl hid))).append (g3 I' i1 (fun b hb=>i2 b (List.mem_append.2 (.inr hb))) fun id hid=>i3 id (List.mem_append.2 (.inr hid)));simpa using this
theorem Gw{p:U→Option (U×List Id)}(hp:uQ w I β F p){rs:Rows}{x}(h:lQ p rs=some x){f vs}(hr:aj w I β f vs rs.flatten):(x.1.length=rs.length∧∀sz,(∀r∈rs,r.length=sz)→∀r∈x.1,r.length=sz)∧∀I':Nat→Prop,(∀b,I b→I' b)→(∀b∈f,I' b)→(∀id∈x.2,∀b∈F id,I' b)→aj w I' br [] vs x.1.flatten:=by unfold lQ at h;split at h;·{rename_i hf;simp at h;subst h;exact⟨⟨rfl,fun _ h=>h⟩,fun I' i1 _ _=>R.mc hr (by simpa[eC]using CY _ hf) i1⟩};·exact Gr hp h hr
theorem Bf{L:Id→Option (Option Rows)}(hL:∀id rows,L id=some (some rows)→cW w I β id rows (F id)):∀n,uQ w I β F (bV L n)
 |0=>fun a x h=>by simp[bV]at h
 |n+1=>fun a x h f v hr I' i1 i2 i3=>by
  have ih:=Bf hL n
  cases a with
  |rs id off len=>
   simp only[bV]at h
   split at h
   ·rename_i rs hid
    split at h
    ·rename_i hc
     simp only[GT]at h
     obtain⟨y,hy,rfl⟩:=h
     obtain⟨rfl,hv⟩:=hr.j9
     have wk:len=0→y.1=[]:=fun h0=>by
      have :=congrArg List.length (show(rs.drop off).take len=[]by rw[h0];rfl)
      rw[h0,If]at hy
      simp[lQ,iw]at hy
      rw[←hy]
     rcases hv with⟨a,l,rfl,rfl,_⟩|⟨b',o',sz',Dk,cap,hb',hle',hcap,rfl⟩
     ·rw[wk rfl];exact .fc
     ·rcases Nat.eq_zero_or_pos len with h0|h0
      ·subst h0;rw[wk rfl];exact .fc
      ·rcases hL id rs hid with⟨hb,rfl,hF⟩|⟨bm,hb,_⟩|⟨b,o,sz,n',vs,bW,hb,hF,k9,⟨hne,hsz⟩,hle,bx,hrl⟩
       ·simp at hc;omega
       ·rw[hb]at hb';cases hb'
       ·rw[hb]at hb'
        simp only[GE,Loc.blk.injEq]at hb'
        obtain⟨rfl,rfl,rfl,rfl⟩:=hb'
        have hsp:rs.flatten=(rs.take off).flatten++(((rs.drop off).take len).flatten++((rs.drop off).drop len).flatten):=by
         rw[←y8 (rs.drop off) len,←y8 rs off]
        rw[hsp]at hrl
        obtain⟨f1,f23,v1,v23,rfl,rfl,h1,h23⟩:=aj.split hrl
        obtain⟨f2,f3,v2,v3,rfl,rfl,h2,h3⟩:=aj.split h23
        have w6:=h1.length
        rw[iZ (sz:=sz) (fun r hr=>hsz r (Hn hr)),Hm,H0 (by omega)]at w6
        obtain⟨⟨l1,l2⟩,g⟩:=Gw ih hy h2
        have nT:y.1.length=len:=by rw[l1,Hm,List.length_drop];omega
        have hin:∀x∈F id,I' x:=i3 id (Ha ..)
        have g':=g I' i1 (fun x hx=>hin x (by rw[hF];simp[hx])) fun id hid=>i3 id (Hb _ hid)
        have rI:eu w b (o+off*sz) v2:=by
         have :=(bx.drop v1.length).take v2.length
         rw[Ix,H1,w6]at this
         exact this
        have :=R.sl (β:=br) (cap:=cap) (l2 sz fun r hr=>hsz r (List.mem_of_mem_drop (Hn hr))) (hin b (by rw[hF];simp)) rI (by omega) g'
        rw[nT]at this
        exact this
    ·cases h
   ·cases h
  |mp id row off=>
   simp only[bV]at h
   split at h
   ·rename_i rs hid
    split at h
    ·rename_i r hrow
     split at h
     ·rename_i hoff
      simp only[GT]at h
      obtain⟨y,hy,rfl⟩:=h
      obtain⟨rfl,b',o',sz',n',hb',rfl⟩:=hr.lp
      rcases hL id rs hid with⟨hb,h0,hF⟩|⟨bm,hb,_⟩|⟨b,o,sz,n',vs,bW,hb,hF,k9,⟨hne,hsz⟩,hle,bx,hrl⟩
      ·subst h0;simp at hrow
      ·rw[hb]at hb';cases hb'
      ·rw[hb]at hb'
       simp only[GE,Loc.blk.injEq]at hb'
       obtain⟨rfl,rfl,rfl,rfl⟩:=hb'
       obtain⟨hsp,hlt⟩:=Ev hrow
       have IA:r.length=sz:=hsz r (List.mem_of_getElem? hrow)
       have hsp:rs.flatten=((rs.take row).flatten++r.take off)++(r.drop off++(rs.drop (row+1)).flatten):=by
        have e:r.take off++(r.drop off++(rs.drop (row+1)).flatten)=r++(rs.drop (row+1)).flatten:=by rw[←Kd,IH]
        rw[Kd,e]
        conv=>lhs;rw[hsp]
        simp
       rw[hsp]at hrl
       obtain⟨f1,f23,v1,v23,rfl,rfl,h1,h23⟩:=aj.split hrl
       obtain⟨f2,f3,v2,v3,rfl,rfl,h2,h3⟩:=aj.split h23
       have w6:=h1.length
       rw[List.length_append,iZ (sz:=sz) (fun r hr=>hsz r (Hn hr)),Hm,Hm,H0 (by omega),H0 hoff]at w6
       obtain⟨_,g⟩:=qZ ih hy h2
       have hin:∀x∈F id,I' x:=i3 id (Ha ..)
       have g':=g I' i1 (fun x hx=>hin x (by rw[hF];simp[hx])) fun id hid=>i3 id (Hb _ hid)
       have rI:eu w b (o+row*sz+off) v2:=by
        have :=(bx.drop v1.length).take v2.length
        rw[Ix,H1,w6,←Nat.add_assoc]at this
        exact this
       exact .aL (hin b (by rw[hF];simp)) rI g'
     ·cases h
    ·cases h
   ·cases h
  |bQ=>
   simp only[bV,GE]at h;subst h
   obtain⟨rfl,a,rfl⟩:=hr.sA
   exact .fc
  |agg cs=>
   simp only[bV,GT]at h
   obtain⟨y,hy,rfl⟩:=h
   obtain⟨vs,rfl,hl⟩:=hr.lP
   exact(qZ ih hy hl).2 I' i1 i2 i3
  |aE cs=>
   simp only[bV,GT]at h
   obtain⟨y,hy,rfl⟩:=h
   obtain⟨vs,rfl,hl⟩:=hr.uO
   exact .aE ((qZ ih hy hl).2 I' i1 i2 i3)
  |fn k a b=>
   simp only[bV,GT,Hk]at h
   obtain⟨y,hy,z,hz,rfl⟩:=h
   obtain⟨rfl,vs,cs,rfl,h1,h2⟩:=hr.lY
   exact .fn ((qZ ih hy h1).2 I' i1 (fun _ h=>by cases h) fun id hid=>i3 id (List.mem_append.2 (.inl hid))) ((qZ ih hz h2).2 I' i1 (fun _ h=>by cases h) fun id hid=>i3 id (List.mem_append.2 (.inr hid)))
  |cF g y=>
   simp only[bV,GE]at h;subst h
   exact .aU
  |own rs len=>
   simp only[bV,GT]at h
   obtain⟨y,hy,rfl⟩:=h
   cases hr with
   |gP=>
    have :y=([],[]):=by simpa[lQ,iw]using hy.symm
    subst this;exact .fc
   |iB _ _ _ _ _ _=>
    have :y=([],[]):=by simpa[lQ,iw]using hy.symm
    subst this;exact .fc
   | @own _ b o sz cap n len bW gl _ g0 g1 g2 g3 g4 g5 g6=>
    rw[y8 rs len]at g6
    obtain⟨f1,f2,v1,v2,rfl,rfl,h1,h2⟩:=aj.split g6
    obtain⟨⟨l1,l2⟩,g⟩:=Gw ih hy h1
    have g':=g I' i1 (fun b hb=>i2 b (Hb _ (List.mem_append.2 (.inl hb)))) i3
    have Ca:eu w b o v1:=by
     have :=g5.take v1.length
     rwa[H1]at this
    have nT:y.1.length=len:=by rw[l1,Hm];omega
    have :=R.sl (β:=br) (cap:=cap) (l2 sz fun r hr=>g1 r (Hn hr)) (i2 b (Ha ..)) Ca (by omega) g'
    rw[nT]at this
    exact this
  |ck cs=>
   simp only[bV,GT]at h
   obtain⟨y,hy,rfl⟩:=h
   cases hr with
   | @ck _ b o n bW gl _ g2 g3 g5 g6=>
    obtain⟨_,g⟩:=qZ ih hy g6
    exact .aL (i2 b (Ha ..)) g5 (g I' i1 (fun b hb=>i2 b (Hb _ hb)) i3)
  |val u=>
   simp only[bV,GE]at h;subst h
   exact hr.mc rfl i1
  |nn=>
   simp only[bV,GE]at h;subst h
   exact hr.mc rfl i1
  |mr id=>
   simp only[bV]at h
   split at h
   ·rename_i rs hid
    simp only[GE]at h;subst h
    obtain⟨rfl,b,hb',rfl⟩:=hr.xd
    rcases hL id rs hid with⟨hb,_⟩|⟨b2,hb,hF,hm⟩|⟨b2,o,sz,n',vs,bW,hb,_⟩
    ·rw[hb]at hb';cases hb'
    ·rw[hb]at hb';cases hb'
     exact .im (i3 id (Ha ..) b (by rw[hF];simp)) hm
    ·rw[hb]at hb';cases hb'
   ·cases h
  |dJ rows=>
   simp only[bV,GE]at h;subst h
   obtain⟨b,rfl,rfl,hm⟩:=hr.DA
   exact .im (i2 b (Ha ..)) hm
  |im rows=>
   simp only[bV,GE]at h;subst h
   exact hr.mc rfl i1
  |sl rows=>
   simp only[bV,GE]at h;subst h
   exact hr.mc rfl i1
  |aL cells=>
   simp only[bV,GE]at h;subst h
   exact hr.mc rfl i1
  |aP i rs=>cases hr
  |uo u=>cases hr
  |aU=>
   simp only[bV,GE]at h;subst h
   exact .aU
/-! ### Nothing but its own -/
theorem Dg:∀rows:Rows,zK rows=true→jI rows.flatten=true|[],_=>by{simp[jI]}|r::rs,h=>by simp only[zK,Hc]at h;have:∀a b:List U,jI (a++b)=(jI a&&jI b):=fun a b=>by{induction a with|nil=>(simp[jI])|cons c cs ih=>simp[jI,ih,H2]};rw[Hd,this,h.1,Dg rs h.2];rfl
theorem R.mine{f:List Nat}{v:Value}{a:U}(h:R w I β f v a):mine a=true→∀I':Nat→Prop,R w I' β f v a:=by induction h with|val h=>(intro _ _;exact .val h)|nn=>(intro _ _;exact .nn)|dJ h=>(intro _ _;exact .dJ h)|bQ=>(intro _ _;exact .bQ)|nil=>(intro _ _;exact .nil)|cons _ _ ih1 ih2=>(intro hf _;simp only[Ab.mine,jI,Hc]at hf;exact .cons (ih1 hf.1 _) (ih2 (by simpa[Ab.mine]using hf.2) _))|aE _ ih=>(intro hf _;exact .aE (ih (by simpa[Ab.mine]using hf) _))|gP=>(intro _ _;exact .gP)|own h0 h1 h2 h3 h4 h5 _ ih=>(intro hf _;simp only[Ab.mine]at hf;exact .own h0 h1 h2 h3 h4 h5 (ih (by simpa[Ab.mine]using Dg _ hf) _))|iB h0 h1 h2 h3 h5 _ ih=>(intro hf _;simp only[Ab.mine]at hf;exact .iB h0 h1 h2 h3 h5 (ih (by simpa[Ab.mine]using Dg _ hf) _))|ck h1 h2 h3 _ ih=>(intro hf _;simp only[Ab.mine]at hf;exact .ck h1 h2 h3 (ih (by simpa[Ab.mine]using hf) _))|aU=>(intro _ _;exact .aU)|_=>intro hf;simp[Ab.mine]at hf
/-! ### Freezing -/
theorem Rz(a b:List U):gI (a++b)=gI a++gI b:=by induction a with|nil=>(rfl)|cons c cs ih=>simp[gI,ih]
theorem RA(a:List U):(gI a).length=a.length:=by induction a with|nil=>(rfl)|cons c cs ih=>simp[gI,ih]
theorem BK:∀rows:Rows,(gZ rows).flatten=gI rows.flatten|[]=>rfl|r::rs=>by simp[gZ,Rz,BK rs]
theorem BL:∀rows:Rows,(gZ rows).length=rows.length|[]=>rfl|r::rs=>by simp[gZ,BL rs]
theorem BM:∀{rows:Rows}{r:List U},r∈gZ rows→∃r'∈rows,r.length=r'.length|[],r,h=>by{simp[gZ]at h}|c::rs,r,h=>by simp only[gZ,List.mem_cons]at h;rcases h with rfl|h;·{exact⟨c,Ha ..,RA c⟩};·obtain⟨r',h1,h2⟩:=BM h;exact⟨r',Hb _ h1,h2⟩
theorem R.Ru{β:Id→Option Loc}{f:List Nat}{v:Value}{a:U}(h:R w I β f v a)(bf:β=br){I':Nat→Prop}(i1:∀b,I b→I' b):(∀b∈f,I' b)→R w I' br [] v (cS a):=by induction h with|val h=>(intro _;exact .val h)|nn=>(intro _;exact .nn)|mr h=>(subst bf;cases h)|dJ h=>(intro h2;exact .im (h2 _ (Ha ..)) h)|im h1 h2=>(intro _;exact .im (i1 _ h1) h2)|bQ=>(intro _;exact .bQ)|fc=>(intro _;exact .fc)|sl h1 h2 h3 h4 h5 _=>(intro _;exact .sl h1 (i1 _ h2) h3 h4 (h5.mono i1 (fun _ _=>rfl) (fun _ _ h=>h)))|aL h1 h2 h3 _=>(intro _;exact .aL (i1 _ h1) h2 (h3.mono i1 (fun _ _=>rfl) (fun _ _ h=>h)))|ga h _=>(subst bf;cases h)|rs h _ _=>(subst bf;cases h)|mp h=>(subst bf;cases h)|fn h1 h2 _ _=>(intro _;subst bf;exact .fn (h1.mono i1 (fun _ _=>rfl) (fun _ _ h=>h)) (h2.mono i1 (fun _ _=>rfl) (fun _ _ h=>h)))|nil=>(intro _;exact .nil)|cons _ _ ih1 ih2=>(intro h;exact R.cons (f1:=[]) (f2:=[]) (ih1 bf fun b hb=>h b (List.mem_append.2 (.inl hb))) (ih2 bf fun b hb=>h b (List.mem_append.2 (.inr hb))))|aE _ ih=>(intro h;exact .aE (ih bf h))|gP=>(intro _;exact .fc)|iB _ _ _ _ _ _=>(intro _;simp only[Ab.cS,If];exact .fc)| @own _ b o sz cap n len bW gl rows h0 h1 h2 h3 h4 h5 _ ih=>(intro h;have g:=ih bf fun b hb=>h b (Hb _ hb);simp only[Ab.cS]at g⊢;rw[←BK,y8 (gZ rows) len]at g;obtain⟨f1,f2,v1,v2,e1,e2,g1,g2⟩:=aj.split g;obtain rfl:f1=[]:=(List.append_eq_nil_iff.1 e1.symm).1;have Ca:eu w b o v1:=by{rw[e2]at h5;have:=h5.take v1.length;rwa[List.take_left]at this};have hl:((gZ rows).take len).length=len:=by{rw[List.length_take,BL];omega};have:=R.sl (w:=w) (β:=br) (cap:=cap) (o:=o) (rows:=(gZ rows).take len) (fun r hr=>by obtain⟨r',m1,m2⟩:=BM (List.mem_of_mem_take hr);rw[m2];exact h1 r' m1) (h b (List.mem_cons_self ..)) Ca (by omega) g1;rw[hl]at this;exact this)|ck h1 h2 h3 _ ih=>(intro h;have g:=ih bf fun b hb=>h b (Hb _ hb);exact .aL (h _ (Ha ..)) h3 g)|mP h _=>(intro _;subst bf;exact .mP (h.mono i1 (fun _ _=>rfl) (fun _ _ h=>h)))|mO=>(intro _;exact .mO)|aU=>intro _;exact .aU
theorem R.cS{f:List Nat}{v:Value}{a:U}(h:R w I br f v a){I':Nat→Prop}(i1:∀b,I b→I' b)(hf:∀b∈f,I' b):R w I' br [] v (cS a):=R.Ru h rfl i1 hf
end
end Go.Ab
