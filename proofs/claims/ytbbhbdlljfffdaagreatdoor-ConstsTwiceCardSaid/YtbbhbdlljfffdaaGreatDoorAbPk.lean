import Derived.Test.YtbbhbdlljfffdaaGreatDoorAbOps7
open Bool renaming and_eq_true→Hc,and_assoc→H2
open List renaming mem_cons_self→Ha,mem_cons_of_mem→Hb,flatten_cons→Hd,length_take→Hm,mem_of_mem_take→Hn,take_left→H1,perm_iff_count→H3,count_append→H4,flatMap_append→H5,take_append_drop→IH,take_zero→If,drop_left→Ix,append_assoc→Kd
open Nat renaming min_eq_left→H0
open Option renaming map_eq_some_iff→GT,bind_eq_some_iff→Hk
open Option.some renaming injEq→GE
set_option linter.all false
namespace Go.Ab
open Go
theorem Ue(a b:List U):cg (a++b)=(cg a&&cg b):=by induction a with|nil=>(simp[cg])|cons c cs ih=>simp[cg,ih,H2]
theorem A5:∀rows:Rows,dA rows=true→cg rows.flatten=true|[],_=>by{simp[cg]}|r::rs,h=>by simp only[dA,Hc]at h;rw[Hd,Ue,h.1,A5 rs h.2];rfl
section
variable{w:World}{I:Nat→Prop}
theorem R.iO{β:Id→Option Loc}{f:List Nat}{v:Value}{a:U}(h:R w I β f v a):flat a=true→∀b6:Id→Option Loc,R w I b6 f v a:=by induction h with|val h=>(intro _ _;exact .val h)|nn=>(intro _ _;exact .nn)|mr _=>(intro hf;simp[flat]at hf)|dy h=>(intro _ _;exact .dy h)|im h1 h2=>(intro _ _;exact .im h1 h2)|bU=>(intro hf;simp[flat]at hf)|e9=>(intro _ _;exact .e9)|sl h1 h2 h3 h4 h5 _=>(intro _ _;exact .sl h1 h2 h3 h4 h5)|ay h1 h2 h3 _=>(intro _ _;exact .ay h1 h2 h3)|gb _ _=>(intro hf;simp[flat]at hf)|rs _ _ _=>(intro hf;simp[flat]at hf)|mp _=>(intro hf;simp[flat]at hf)|fn _ _ ih1 ih2=>(intro hf _;simp only[flat,Hc]at hf;exact .fn (ih1 (by simpa[flat]using hf.1) _) (ih2 (by simpa[flat]using hf.2) _))|nil=>(intro _ _;exact .nil)|cons _ _ ih1 ih2=>(intro hf _;simp only[flat,cg,Hc]at hf;exact .cons (ih1 hf.1 _) (ih2 (by simpa[flat]using hf.2) _))|aG _ ih=>(intro hf _;exact .aG (ih (by simpa[flat]using hf) _))|gQ=>(intro _ _;exact .gQ)|own h0 h1 h2 h3 h4 h5 _ ih=>(intro hf _;simp only[flat]at hf;exact .own h0 h1 h2 h3 h4 h5 (ih (by simpa[flat]using A5 _ hf) _))|iF h0 h1 h2 h3 h5 _ ih=>(intro hf _;simp only[flat]at hf;exact .iF h0 h1 h2 h3 h5 (ih (by simpa[flat]using A5 _ hf) _))|b7 h1 h2 h3 _ ih=>(intro hf _;simp only[flat]at hf;exact .b7 h1 h2 h3 (ih (by simpa[flat]using hf) _))|nc _ _=>(intro hf;simp[flat]at hf)|mZ=>(intro hf;simp[flat]at hf)|aK=>intro _ _;exact .aK
def wW(w:World)(I:Nat→Prop)(β:Id→Option Loc)(F:Id→List Nat)(p:U→Option (U×List Id)):Prop:=∀a x,p a=some x→∀f v,R w I β f v a→∃fp rest,R w I aX fp v x.1∧(fp++rest).Perm (f++x.2.flatMap F)
variable{β:Id→Option Loc}{F:Id→List Nat}
theorem ot{jf r1 gH r2 f1 g1 f2 g2:List Nat}(h1:(jf++r1).Perm (f1++g1))(h2:(gH++r2).Perm (f2++g2)):((jf++gH)++(r1++r2)).Perm ((f1++f2)++(g1++g2)):=by rw[H3]at h1 h2⊢;intro a;have:=h1 a;have:=h2 a;simp only[H4]at*;omega
theorem JU{p:U→Option (U×List Id)}(hp:wW w I β F p):∀{cs:List U}{x},dm p cs=some x→∀{f vs},ak w I β f vs cs→x.1.length=cs.length∧∃fp rest,ak w I aX fp vs x.1∧(fp++rest).Perm (f++x.2.flatMap F)|[],x,h,f,vs,hr=>by{simp[dm]at h;subst h;obtain⟨rfl,rfl⟩:=hr.eK;exact⟨rfl,[],[], .nil,by simp⟩}|c::cs,x,h,f,vs,hr=>by simp only[dm,Hk,GT]at h;obtain⟨y,hy,z,hz,rfl⟩:=h;obtain⟨f1,f2,v,vs',rfl,rfl,h1,h2⟩:=hr.cons_inv;obtain⟨jf,r1,g1,g2⟩:=hp _ _ hy _ _ h1;obtain⟨hl,gH,r2,g3,g4⟩:=JU hp hz h2;refine⟨by simp[hl],jf++gH,r1++r2, .cons g1 g3, ?_⟩;simp only[H5];exact ot g2 g4
theorem B8{p:U→Option (U×List Id)}(hp:wW w I β F p){cs:List U}{x}(h:gm p cs=some x){f vs}(hr:ak w I β f vs cs):x.1.length=cs.length∧∃fp rest,ak w I aX fp vs x.1∧(fp++rest).Perm (f++x.2.flatMap F):=by unfold gm at h;split at h;·{rename_i hf;simp at h;subst h;exact⟨rfl,f,[],R.iO hr (by simpa[flat]using hf) _,by simp⟩};·exact JU hp h hr
theorem JW{p:U→Option (U×List Id)}(hp:wW w I β F p):∀{rs:Rows}{x},dU (gm p) rs=some x→∀{f vs},ak w I β f vs rs.flatten→(x.1.length=rs.length∧∀sz,(∀r∈rs,r.length=sz)→∀r∈x.1,r.length=sz)∧∃fp rest,ak w I aX fp vs x.1.flatten∧(fp++rest).Perm (f++x.2.flatMap F)|[],x,h,f,vs,hr=>by{simp[dU]at h;subst h;obtain⟨rfl,rfl⟩:=hr.eK;exact⟨⟨rfl,fun _ _ _ h=>by cases h⟩,[],[], .nil,by simp⟩}|c::cs,x,h,f,vs,hr=>by simp only[dU,Hk,GT]at h;obtain⟨y,hy,z,hz,rfl⟩:=h;rw[Hd]at hr;obtain⟨f1,f2,v1,v2,rfl,rfl,h1,h2⟩:=ak.split hr;obtain⟨l1,jf,r1,g1,g2⟩:=B8 hp hy h1;obtain⟨⟨l2,l3⟩,gH,r2,g3,g4⟩:=JW hp hz h2;refine⟨⟨by simp[l2],fun sz hs r hr=> ?_⟩,jf++gH,r1++r2,g1.append g3, ?_⟩;·{rcases List.mem_cons.1 hr with rfl|hr;·{rw[l1];exact hs _ (Ha ..)};·exact l3 sz (fun r hr=>hs r (Hb _ hr)) r hr};·simp only[H5];exact ot g2 g4
theorem Mv{p:U→Option (U×List Id)}(hp:wW w I β F p){rs:Rows}{x}(h:mA p rs=some x){f vs}(hr:ak w I β f vs rs.flatten):(x.1.length=rs.length∧∀sz,(∀r∈rs,r.length=sz)→∀r∈x.1,r.length=sz)∧∃fp rest,ak w I aX fp vs x.1.flatten∧(fp++rest).Perm (f++x.2.flatMap F):=by unfold mA at h;split at h;·{rename_i hf;simp at h;subst h;exact⟨⟨rfl,fun _ h=>h⟩,f,[],R.iO hr (by simpa[flat]using A5 _ hf) _,by simp⟩};·exact JW hp h hr
theorem A7{α:Type}(rs:List (List α))(n:Nat):rs.flatten=(rs.take n).flatten++(rs.drop n).flatten:=by rw[←List.flatten_append,IH]
theorem rf{L:Id→Option (Option Rows)}(hL:∀id rows,L id=some (some rows)→cL w I β id rows (F id)):∀n,wW w I β F (pk L n)|0=>fun a x h=>by{simp[pk]at h}|n+1=>fun a x h f v hr=>by have ih:=rf hL n;cases a with|rs id off len=>(simp only[pk]at h;split at h;·{rename_i rs hid;split at h;·{rename_i hc;simp only[GT]at h;obtain⟨y,hy,rfl⟩:=h;obtain⟨rfl,hc⟩:=hc;obtain⟨rfl,hv⟩:=hr.ke;rcases hL id rs hid with⟨hb,rfl,hF⟩|⟨bm,hb,_⟩|⟨b,o,sz,n',vs,bX,hb,hF,lf,⟨hne,hsz⟩,hle,bh,hrl⟩;rotate_left;·{rcases hv with⟨a,l,rfl,rfl,hb',hl⟩|⟨b,o,sz,n',cap,hb',_⟩;·{rw[hb]at hb';cases hb';cases hl};·rw[hb]at hb';cases hb'};rotate_left;·{have hy0:y=([],[]):=by{simpa[mA,dA]using hy.symm};subst hy0;simp only[List.length_nil]at hc;rcases hv with⟨a,l,rfl,rfl,_⟩|⟨b,o,sz,n',cap,hb',_⟩;·{exact⟨[],[], .gQ,by simp[hF]⟩};·rw[hb]at hb';cases hb'};·obtain⟨⟨l1,l2⟩,fp,rest,g1,g2⟩:=Mv ih hy hrl;have hlen:0<rs.length:=List.length_pos_iff.2 hne;have K0:y.1≠[]:=fun e=>by{rw[e]at l1;simp at l1;omega};have yj:((b::fp)++rest).Perm ([]++(id::y.2).flatMap F):=by{rw[List.perm_iff_count]at g2⊢;intro x;have:=g2 x;simp only[List.flatMap_cons,List.nil_append,hF,List.count_append,List.count_cons,List.cons_append]at*;omega};rcases hv with⟨a,l,rfl,rfl,_⟩|⟨b',o',sz',FK,cap,hb',hle',hcap,rfl⟩;·{exact⟨b::fp,rest, .iF K0 (l2 sz hsz) lf (by rw[l1];exact hle) bh g1,yj⟩};·rw[hb]at hb';simp only[Option.some.injEq,Loc.blk.injEq]at hb';obtain⟨rfl,rfl,rfl,rfl⟩:=hb';refine⟨b::fp,rest, ?_,yj⟩;have:=R.own (w:=w) (I:=I) (β:=aX) (cap:=cap) (o:=o) (rows:=y.1) (len:=len) K0 (l2 sz hsz) lf ⟨by simpa using hle',by rw[l1];exact hle⟩ ⟨by omega,by omega⟩ bh g1;simpa using this};·cases h};·cases h)|mp id row off=>(simp only[pk]at h;split at h;·{rename_i cs hid;split at h;·{rename_i hc;obtain⟨rfl,rfl⟩:=hc;simp only[GT]at h;obtain⟨y,hy,rfl⟩:=h;obtain⟨rfl,b',o',sz',n',hb',rfl⟩:=hr.lz;rcases hL id [cs] hid with⟨hb,h0,hF⟩|⟨bm,hb,_⟩|⟨b,o,sz,n',vs,bX,hb,hF,lf,⟨hne,hsz⟩,hle,bh,hrl⟩;·{cases h0};·{rw[hb]at hb';cases hb'};·rw[hb]at hb';simp only[GE,Loc.blk.injEq]at hb';obtain⟨rfl,rfl,rfl,rfl⟩:=hb';simp only[Hd,List.flatten_nil,List.append_nil]at hrl;obtain⟨l1,fp,rest,g1,g2⟩:=B8 ih hy hrl;have:=hsz cs (by simp);refine⟨b::fp,rest, ?_, ?_⟩;·{have:=R.b7 (w:=w) (I:=I) (β:=aX) (cells:=y.1) lf (by simp at hle;omega) bh g1;simpa using this};·rw[H3]at g2⊢;intro x;have:=g2 x;simp only[List.flatMap_cons,List.nil_append,hF,H4,List.count_cons,List.cons_append]at*;omega};·cases h};·cases h)|bU=>(simp only[pk,GE]at h;subst h;obtain⟨rfl,a,rfl⟩:=hr.tK;exact⟨[],[], .gQ,by simp⟩)|agg cs=>(simp only[pk,GT]at h;obtain⟨y,hy,rfl⟩:=h;obtain⟨vs,rfl,hl⟩:=hr.lP;exact(B8 ih hy hl).2)|aG cs=>(simp only[pk,GT]at h;obtain⟨y,hy,rfl⟩:=h;obtain⟨vs,rfl,hl⟩:=hr.wH;obtain⟨_,fp,rest,g1,g2⟩:=B8 ih hy hl;exact⟨fp,rest, .aG g1,g2⟩)|fn k a b=>(simp only[pk]at h;split at h;·{rename_i hi;simp only[GE]at h;subst h;simp only[Hc]at hi;obtain⟨rfl,vs,cs,rfl,h1,h2⟩:=hr.lZ;exact⟨[],[], .fn (h1.kK hi.1) (h2.kK hi.2),by simp⟩};·cases h)|cv g y=>(simp only[pk,GE]at h;subst h;exact⟨[],f, .aK,by simp⟩)|own rs len=>(simp only[pk]at h;split at h;·{rename_i hf;simp only[GE]at h;subst h;exact⟨f,[],hr.iO (by simpa[flat]using hf) _,by simp⟩};·cases h)|b7 cs=>(simp only[pk]at h;split at h;·{rename_i hf;simp only[GE]at h;subst h;exact⟨f,[],hr.iO (by simpa[flat]using hf) _,by simp⟩};·cases h)|val u=>(simp only[pk,GE]at h;subst h;exact⟨f,[],hr.iO rfl _,by simp⟩)|nn=>(simp only[pk,GE]at h;subst h;exact⟨f,[],hr.iO rfl _,by simp⟩)|mr id=>(simp only[pk]at h;split at h;·{rename_i rs hid;simp only[GE]at h;subst h;obtain⟨rfl,b,hb',rfl⟩:=hr.y5;rcases hL id rs hid with⟨hb,_⟩|⟨b2,hb,hF,hm⟩|⟨b2,o,sz,n',vs,bX,hb,_⟩;·{rw[hb]at hb';cases hb'};·{rw[hb]at hb';cases hb';exact⟨[b],[], .dy hm,by simp[hF]⟩};·rw[hb]at hb';cases hb'};·cases h)|dy rows=>(simp only[pk,GE]at h;subst h;exact⟨f,[],hr.iO rfl _,by simp⟩)|im rows=>(simp only[pk,GE]at h;subst h;exact⟨f,[],hr.iO rfl _,by simp⟩)|sl rows=>(simp only[pk,GE]at h;subst h;exact⟨f,[],hr.iO rfl _,by simp⟩)|ay cells=>(simp only[pk,GE]at h;subst h;exact⟨f,[],hr.iO rfl _,by simp⟩)|bf i rs=>(cases hr)|vM u=>(cases hr)|aK=>simp only[pk,GE]at h;subst h;exact⟨f,[],hr.iO rfl _,by simp⟩
/-! ### Borrowing -/
def wN(w:World)(I:Nat→Prop)(β:Id→Option Loc)(F:Id→List Nat)(p:U→Option (U×List Id)):Prop:=∀a x,p a=some x→∀f v,R w I β f v a→∀I':Nat→Prop,(∀b,I b→I' b)→(∀b∈f,I' b)→(∀id∈x.2,∀b∈F id,I' b)→R w I' aX [] v x.1
theorem R.mm{f:List Nat}{v:Value}{a:U}(h:R w I β f v a)(hi:en a=true){I':Nat→Prop}(hI:∀b,I b→I' b):R w I' aX [] v a:=by have e:=h.Fl hi;subst e;exact(h.kK hi).mono hI (fun _ _=>rfl) (fun _ _ h=>h)
theorem Dh{p:U→Option (U×List Id)}(hp:wN w I β F p):∀{cs:List U}{x},dm p cs=some x→∀{f vs},ak w I β f vs cs→x.1.length=cs.length∧∀I':Nat→Prop,(∀b,I b→I' b)→(∀b∈f,I' b)→(∀id∈x.2,∀b∈F id,I' b)→ak w I' aX [] vs x.1|[],x,h,f,vs,hr=>by{simp[dm]at h;subst h;obtain⟨rfl,rfl⟩:=hr.eK;exact⟨rfl,fun _ _ _ _=> .nil⟩}|c::cs,x,h,f,vs,hr=>by simp only[dm,Hk,GT]at h;obtain⟨y,hy,z,hz,rfl⟩:=h;obtain⟨f1,f2,v,vs',rfl,rfl,h1,h2⟩:=hr.cons_inv;obtain⟨hl,g3⟩:=Dh hp hz h2;refine⟨by simp[hl],fun I' i1 i2 i3=> ?_⟩;exact R.cons (f1:=[]) (f2:=[]) (hp _ _ hy _ _ h1 I' i1 (fun b hb=>i2 b (List.mem_append.2 (.inl hb))) fun id hid=>i3 id (List.mem_append.2 (.inl hid))) (g3 I' i1 (fun b hb=>i2 b (List.mem_append.2 (.inr hb))) fun id hid=>i3 id (List.mem_append.2 (.inr hid)))
theorem r3{p:U→Option (U×List Id)}(hp:wN w I β F p){cs:List U}{x}(h:fq p cs=some x){f vs}(hr:ak w I β f vs cs):x.1.length=cs.length∧∀I':Nat→Prop,(∀b,I b→I' b)→(∀b∈f,I' b)→(∀id∈x.2,∀b∈F id,I' b)→ak w I' aX [] vs x.1:=by unfold fq at h;split at h;·{rename_i hf;simp at h;subst h;exact⟨rfl,fun I' i1 _ _=>R.mm hr (by simpa[en]using hf) i1⟩};·exact Dh hp h hr
theorem Iw{p:U→Option (U×List Id)}(hp:wN w I β F p):∀{rs:Rows}{x},dU (fq p) rs=some x→∀{f vs},ak w I β f vs rs.flatten→(x.1.length=rs.length∧∀sz,(∀r∈rs,r.length=sz)→∀r∈x.1,r.length=sz)∧∀I':Nat→Prop,(∀b,I b→I' b)→(∀b∈f,I' b)→(∀id∈x.2,∀b∈F id,I' b)→ak w I' aX [] vs x.1.flatten|[],x,h,f,vs,hr=>by{simp[dU]at h;subst h;obtain⟨rfl,rfl⟩:=hr.eK;exact⟨⟨rfl,fun _ _ _ h=>by cases h⟩,fun _ _ _ _=> .nil⟩}|c::cs,x,h,f,vs,hr=>by simp only[dU,Hk,GT]at h;obtain⟨y,hy,z,hz,rfl⟩:=h;rw[Hd]at hr;obtain⟨f1,f2,v1,v2,rfl,rfl,h1,h2⟩:=ak.split hr;obtain⟨l1,g1⟩:=r3 hp hy h1;obtain⟨⟨l2,l3⟩,g3⟩:=Iw hp hz h2;refine⟨⟨by simp[l2],fun sz hs r hr=> ?_⟩,fun I' i1 i2 i3=> ?_⟩;·{rcases List.mem_cons.1 hr with rfl|hr;·{rw[l1];exact hs _ (Ha ..)};·exact l3 sz (fun r hr=>hs r (Hb _ hr)) r hr};·have:=(g1 I' i1 (fun b hb=>i2 b (List.mem_append.2 (.inl hb))) fun id hid=>i3 id (List.mem_append.2 (.inl hid))).append (g3 I' i1 (fun b hb=>i2 b (List.mem_append.2 (.inr hb))) fun id hid=>i3 id (List.mem_append.2 (.inr hid)));simpa using this
theorem IC{p:U→Option (U×List Id)}(hp:wN w I β F p){rs:Rows}{x}(h:lR p rs=some x){f vs}(hr:ak w I β f vs rs.flatten):(x.1.length=rs.length∧∀sz,(∀r∈rs,r.length=sz)→∀r∈x.1,r.length=sz)∧∀I':Nat→Prop,(∀b,I b→I' b)→(∀b∈f,I' b)→(∀id∈x.2,∀b∈F id,I' b)→ak w I' aX [] vs x.1.flatten:=by unfold lR at h;split at h;·{rename_i hf;simp at h;subst h;exact⟨⟨rfl,fun _ h=>h⟩,fun I' i1 _ _=>R.mm hr (by simpa[en]using Fk _ hf) i1⟩};·exact Iw hp h hr
theorem Dm{L:Id→Option (Option Rows)}(hL:∀id rows,L id=some (some rows)→cL w I β id rows (F id)):∀n,wN w I β F (bK L n)
 |0=>fun a x h=>by simp[bK]at h
 |n+1=>fun a x h f v hr I' i1 i2 i3=>by
  have ih:=Dm hL n
  cases a with
  |rs id off len=>
   simp only[bK]at h
   split at h
   ·rename_i rs hid
    split at h
    ·rename_i hc
     simp only[GT]at h
     obtain⟨y,hy,rfl⟩:=h
     obtain⟨rfl,hv⟩:=hr.ke
     have ye:len=0→y.1=[]:=fun h0=>by
      have :=congrArg List.length (show(rs.drop off).take len=[]by rw[h0];rfl)
      rw[h0,If]at hy
      simp[lR,jk]at hy
      rw[←hy]
     rcases hv with⟨a,l,rfl,rfl,_⟩|⟨b',o',sz',FK,cap,hb',hle',hcap,rfl⟩
     ·rw[ye rfl];exact .e9
     ·rcases Nat.eq_zero_or_pos len with h0|h0
      ·subst h0;rw[ye rfl];exact .e9
      ·rcases hL id rs hid with⟨hb,rfl,hF⟩|⟨bm,hb,_⟩|⟨b,o,sz,n',vs,bX,hb,hF,lf,⟨hne,hsz⟩,hle,bh,hrl⟩
       ·simp at hc;omega
       ·rw[hb]at hb';cases hb'
       ·rw[hb]at hb'
        simp only[GE,Loc.blk.injEq]at hb'
        obtain⟨rfl,rfl,rfl,rfl⟩:=hb'
        have hsp:rs.flatten=(rs.take off).flatten++(((rs.drop off).take len).flatten++((rs.drop off).drop len).flatten):=by
         rw[←A7 (rs.drop off) len,←A7 rs off]
        rw[hsp]at hrl
        obtain⟨f1,f23,v1,v23,rfl,rfl,h1,h23⟩:=ak.split hrl
        obtain⟨f2,f3,v2,v3,rfl,rfl,h2,h3⟩:=ak.split h23
        have yY:=h1.length
        rw[je (sz:=sz) (fun r hr=>hsz r (Hn hr)),Hm,H0 (by omega)]at yY
        obtain⟨⟨l1,l2⟩,g⟩:=IC ih hy h2
        have jE:y.1.length=len:=by rw[l1,Hm,List.length_drop];omega
        have hin:∀x∈F id,I' x:=i3 id (Ha ..)
        have g':=g I' i1 (fun x hx=>hin x (by rw[hF];simp[hx])) fun id hid=>i3 id (Hb _ hid)
        have sJ:ei w b (o+off*sz) v2:=by
         have :=(bh.drop v1.length).take v2.length
         rw[Ix,H1,yY]at this
         exact this
        have :=R.sl (β:=aX) (cap:=cap) (l2 sz fun r hr=>hsz r (List.mem_of_mem_drop (Hn hr))) (hin b (by rw[hF];simp)) sJ (by omega) g'
        rw[jE]at this
        exact this
    ·cases h
   ·cases h
  |mp id row off=>
   simp only[bK]at h
   split at h
   ·rename_i rs hid
    split at h
    ·rename_i r hrow
     split at h
     ·rename_i hoff
      simp only[GT]at h
      obtain⟨y,hy,rfl⟩:=h
      obtain⟨rfl,b',o',sz',n',hb',rfl⟩:=hr.lz
      rcases hL id rs hid with⟨hb,h0,hF⟩|⟨bm,hb,_⟩|⟨b,o,sz,n',vs,bX,hb,hF,lf,⟨hne,hsz⟩,hle,bh,hrl⟩
      ·subst h0;simp at hrow
      ·rw[hb]at hb';cases hb'
      ·rw[hb]at hb'
       simp only[GE,Loc.blk.injEq]at hb'
       obtain⟨rfl,rfl,rfl,rfl⟩:=hb'
       obtain⟨hsp,hlt⟩:=GI hrow
       have KN:r.length=sz:=hsz r (List.mem_of_getElem? hrow)
       have hsp:rs.flatten=((rs.take row).flatten++r.take off)++(r.drop off++(rs.drop (row+1)).flatten):=by
        have e:r.take off++(r.drop off++(rs.drop (row+1)).flatten)=r++(rs.drop (row+1)).flatten:=by rw[←Kd,IH]
        rw[Kd,e]
        conv=>lhs;rw[hsp]
        simp
       rw[hsp]at hrl
       obtain⟨f1,f23,v1,v23,rfl,rfl,h1,h23⟩:=ak.split hrl
       obtain⟨f2,f3,v2,v3,rfl,rfl,h2,h3⟩:=ak.split h23
       have yY:=h1.length
       rw[List.length_append,je (sz:=sz) (fun r hr=>hsz r (Hn hr)),Hm,Hm,H0 (by omega),H0 hoff]at yY
       obtain⟨_,g⟩:=r3 ih hy h2
       have hin:∀x∈F id,I' x:=i3 id (Ha ..)
       have g':=g I' i1 (fun x hx=>hin x (by rw[hF];simp[hx])) fun id hid=>i3 id (Hb _ hid)
       have sJ:ei w b (o+row*sz+off) v2:=by
        have :=(bh.drop v1.length).take v2.length
        rw[Ix,H1,yY,←Nat.add_assoc]at this
        exact this
       exact .ay (hin b (by rw[hF];simp)) sJ g'
     ·cases h
    ·cases h
   ·cases h
  |bU=>
   simp only[bK,GE]at h;subst h
   obtain⟨rfl,a,rfl⟩:=hr.tK
   exact .e9
  |agg cs=>
   simp only[bK,GT]at h
   obtain⟨y,hy,rfl⟩:=h
   obtain⟨vs,rfl,hl⟩:=hr.lP
   exact(r3 ih hy hl).2 I' i1 i2 i3
  |aG cs=>
   simp only[bK,GT]at h
   obtain⟨y,hy,rfl⟩:=h
   obtain⟨vs,rfl,hl⟩:=hr.wH
   exact .aG ((r3 ih hy hl).2 I' i1 i2 i3)
  |fn k a b=>
   simp only[bK,GT,Hk]at h
   obtain⟨y,hy,z,hz,rfl⟩:=h
   obtain⟨rfl,vs,cs,rfl,h1,h2⟩:=hr.lZ
   exact .fn ((r3 ih hy h1).2 I' i1 (fun _ h=>by cases h) fun id hid=>i3 id (List.mem_append.2 (.inl hid))) ((r3 ih hz h2).2 I' i1 (fun _ h=>by cases h) fun id hid=>i3 id (List.mem_append.2 (.inr hid)))
  |cv g y=>
   simp only[bK,GE]at h;subst h
   exact .aK
  |own rs len=>
   simp only[bK,GT]at h
   obtain⟨y,hy,rfl⟩:=h
   cases hr with
   |gQ=>
    have :y=([],[]):=by simpa[lR,jk]using hy.symm
    subst this;exact .e9
   |iF _ _ _ _ _ _=>
    have :y=([],[]):=by simpa[lR,jk]using hy.symm
    subst this;exact .e9
   | @own _ b o sz cap n len bX gq _ g0 g1 g2 g3 g4 g5 g6=>
    rw[A7 rs len]at g6
    obtain⟨f1,f2,v1,v2,rfl,rfl,h1,h2⟩:=ak.split g6
    obtain⟨⟨l1,l2⟩,g⟩:=IC ih hy h1
    have g':=g I' i1 (fun b hb=>i2 b (Hb _ (List.mem_append.2 (.inl hb)))) i3
    have Ev:ei w b o v1:=by
     have :=g5.take v1.length
     rwa[H1]at this
    have jE:y.1.length=len:=by rw[l1,Hm];omega
    have :=R.sl (β:=aX) (cap:=cap) (l2 sz fun r hr=>g1 r (Hn hr)) (i2 b (Ha ..)) Ev (by omega) g'
    rw[jE]at this
    exact this
  |b7 cs=>
   simp only[bK,GT]at h
   obtain⟨y,hy,rfl⟩:=h
   cases hr with
   | @b7 _ b o n bX gq _ g2 g3 g5 g6=>
    obtain⟨_,g⟩:=r3 ih hy g6
    exact .ay (i2 b (Ha ..)) g5 (g I' i1 (fun b hb=>i2 b (Hb _ hb)) i3)
  |val u=>
   simp only[bK,GE]at h;subst h
   exact hr.mm rfl i1
  |nn=>
   simp only[bK,GE]at h;subst h
   exact hr.mm rfl i1
  |mr id=>
   simp only[bK]at h
   split at h
   ·rename_i rs hid
    simp only[GE]at h;subst h
    obtain⟨rfl,b,hb',rfl⟩:=hr.y5
    rcases hL id rs hid with⟨hb,_⟩|⟨b2,hb,hF,hm⟩|⟨b2,o,sz,n',vs,bX,hb,_⟩
    ·rw[hb]at hb';cases hb'
    ·rw[hb]at hb';cases hb'
     exact .im (i3 id (Ha ..) b (by rw[hF];simp)) hm
    ·rw[hb]at hb';cases hb'
   ·cases h
  |dy rows=>
   simp only[bK,GE]at h;subst h
   obtain⟨b,rfl,rfl,hm⟩:=hr.F4
   exact .im (i2 b (Ha ..)) hm
  |im rows=>
   simp only[bK,GE]at h;subst h
   exact hr.mm rfl i1
  |sl rows=>
   simp only[bK,GE]at h;subst h
   exact hr.mm rfl i1
  |ay cells=>
   simp only[bK,GE]at h;subst h
   exact hr.mm rfl i1
  |bf i rs=>cases hr
  |vM u=>cases hr
  |aK=>
   simp only[bK,GE]at h;subst h
   exact .aK
/-! ### Nothing but its own -/
theorem FG:∀rows:Rows,BJ rows=true→jF rows.flatten=true|[],_=>by{simp[jF]}|r::rs,h=>by simp only[BJ,Hc]at h;have:∀a b:List U,jF (a++b)=(jF a&&jF b):=fun a b=>by{induction a with|nil=>(simp[jF])|cons c cs ih=>simp[jF,ih,H2]};rw[Hd,this,h.1,FG rs h.2];rfl
theorem R.mine{f:List Nat}{v:Value}{a:U}(h:R w I β f v a):mine a=true→∀I':Nat→Prop,R w I' β f v a:=by induction h with|val h=>(intro _ _;exact .val h)|nn=>(intro _ _;exact .nn)|dy h=>(intro _ _;exact .dy h)|bU=>(intro _ _;exact .bU)|nil=>(intro _ _;exact .nil)|cons _ _ ih1 ih2=>(intro hf _;simp only[Ab.mine,jF,Hc]at hf;exact .cons (ih1 hf.1 _) (ih2 (by simpa[Ab.mine]using hf.2) _))|aG _ ih=>(intro hf _;exact .aG (ih (by simpa[Ab.mine]using hf) _))|gQ=>(intro _ _;exact .gQ)|own h0 h1 h2 h3 h4 h5 _ ih=>(intro hf _;simp only[Ab.mine]at hf;exact .own h0 h1 h2 h3 h4 h5 (ih (by simpa[Ab.mine]using FG _ hf) _))|iF h0 h1 h2 h3 h5 _ ih=>(intro hf _;simp only[Ab.mine]at hf;exact .iF h0 h1 h2 h3 h5 (ih (by simpa[Ab.mine]using FG _ hf) _))|b7 h1 h2 h3 _ ih=>(intro hf _;simp only[Ab.mine]at hf;exact .b7 h1 h2 h3 (ih (by simpa[Ab.mine]using hf) _))|aK=>(intro _ _;exact .aK)|_=>intro hf;simp[Ab.mine]at hf
/-! ### Freezing -/
theorem UW(a b:List U):gI (a++b)=gI a++gI b:=by induction a with|nil=>(rfl)|cons c cs ih=>simp[gI,ih]
theorem UX(a:List U):(gI a).length=a.length:=by induction a with|nil=>(rfl)|cons c cs ih=>simp[gI,ih]
theorem DY:∀rows:Rows,(hJ rows).flatten=gI rows.flatten|[]=>rfl|r::rs=>by simp[hJ,UW,DY rs]
theorem DZ:∀rows:Rows,(hJ rows).length=rows.length|[]=>rfl|r::rs=>by simp[hJ,DZ rs]
theorem D0:∀{rows:Rows}{r:List U},r∈hJ rows→∃r'∈rows,r.length=r'.length|[],r,h=>by{simp[hJ]at h}|c::rs,r,h=>by simp only[hJ,List.mem_cons]at h;rcases h with rfl|h;·{exact⟨c,Ha ..,UX c⟩};·obtain⟨r',h1,h2⟩:=D0 h;exact⟨r',Hb _ h1,h2⟩
theorem R.UR{β:Id→Option Loc}{f:List Nat}{v:Value}{a:U}(h:R w I β f v a)(aV:β=aX){I':Nat→Prop}(i1:∀b,I b→I' b):(∀b∈f,I' b)→R w I' aX [] v (cI a):=by induction h with|val h=>(intro _;exact .val h)|nn=>(intro _;exact .nn)|mr h=>(subst aV;cases h)|dy h=>(intro h2;exact .im (h2 _ (Ha ..)) h)|im h1 h2=>(intro _;exact .im (i1 _ h1) h2)|bU=>(intro _;exact .bU)|e9=>(intro _;exact .e9)|sl h1 h2 h3 h4 h5 _=>(intro _;exact .sl h1 (i1 _ h2) h3 h4 (h5.mono i1 (fun _ _=>rfl) (fun _ _ h=>h)))|ay h1 h2 h3 _=>(intro _;exact .ay (i1 _ h1) h2 (h3.mono i1 (fun _ _=>rfl) (fun _ _ h=>h)))|gb h _=>(subst aV;cases h)|rs h _ _=>(subst aV;cases h)|mp h=>(subst aV;cases h)|fn h1 h2 _ _=>(intro _;subst aV;exact .fn (h1.mono i1 (fun _ _=>rfl) (fun _ _ h=>h)) (h2.mono i1 (fun _ _=>rfl) (fun _ _ h=>h)))|nil=>(intro _;exact .nil)|cons _ _ ih1 ih2=>(intro h;exact R.cons (f1:=[]) (f2:=[]) (ih1 aV fun b hb=>h b (List.mem_append.2 (.inl hb))) (ih2 aV fun b hb=>h b (List.mem_append.2 (.inr hb))))|aG _ ih=>(intro h;exact .aG (ih aV h))|gQ=>(intro _;exact .e9)|iF _ _ _ _ _ _=>(intro _;simp only[Ab.cI,If];exact .e9)| @own _ b o sz cap n len bX gq rows h0 h1 h2 h3 h4 h5 _ ih=>(intro h;have g:=ih aV fun b hb=>h b (Hb _ hb);simp only[Ab.cI]at g⊢;rw[←DY,A7 (hJ rows) len]at g;obtain⟨f1,f2,v1,v2,e1,e2,g1,g2⟩:=ak.split g;obtain rfl:f1=[]:=(List.append_eq_nil_iff.1 e1.symm).1;have Ev:ei w b o v1:=by{rw[e2]at h5;have:=h5.take v1.length;rwa[List.take_left]at this};have hl:((hJ rows).take len).length=len:=by{rw[List.length_take,DZ];omega};have:=R.sl (w:=w) (β:=aX) (cap:=cap) (o:=o) (rows:=(hJ rows).take len) (fun r hr=>by obtain⟨r',m1,m2⟩:=D0 (List.mem_of_mem_take hr);rw[m2];exact h1 r' m1) (h b (List.mem_cons_self ..)) Ev (by omega) g1;rw[hl]at this;exact this)|b7 h1 h2 h3 _ ih=>(intro h;have g:=ih aV fun b hb=>h b (Hb _ hb);exact .ay (h _ (Ha ..)) h3 g)|nc h _=>(intro _;subst aV;exact .nc (h.mono i1 (fun _ _=>rfl) (fun _ _ h=>h)))|mZ=>(intro _;exact .mZ)|aK=>intro _;exact .aK
theorem R.cI{f:List Nat}{v:Value}{a:U}(h:R w I aX f v a){I':Nat→Prop}(i1:∀b,I b→I' b)(hf:∀b∈f,I' b):R w I' aX [] v (cI a):=R.UR h rfl i1 hf
end
end Go.Ab
