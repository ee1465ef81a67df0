import Derived.Test.YtmboghefgckkpaaGreatAbOps7
namespace Go.Ab
open Go
theorem aev(a b:List aa):de (a++b)=(de a&&de b):=by induction a with|nil=>(simp[de])|cons c cs ih=>simp[de,ih,Bool.and_assoc]
theorem Jp:∀rows:Rows,eX rows=true→de rows.flatten=true|[],_=>by{simp[de]}|r::rs,h=>by simp only[eX,Bool.and_eq_true]at h;rw[List.flatten_cons,aev,h.1,Jp rs h.2];rfl
section
variable{w:World}{I:Nat→Prop}
theorem R.lN{β:Id→Option Loc}{f:List Nat}{v:Value}{a:aa}(h:R w I β f v a):flat a=true→∀c7:Id→Option Loc,R w I c7 f v a:=by induction h with|val h=>(intro _ _;exact .val h)|nn=>(intro _ _;exact .nn)|mr _=>(intro hf;simp[flat]at hf)|eO h=>(intro _ _;exact .eO h)|im h1 h2=>(intro _ _;exact .im h1 h2)|cE=>(intro hf;simp[flat]at hf)|gW=>(intro _ _;exact .gW)|sl h1 h2 h3 h4 h5 _=>(intro _ _;exact .sl h1 h2 h3 h4 h5)|ax h1 h2 h3 _=>(intro _ _;exact .ax h1 h2 h3)|jh _ _=>(intro hf;simp[flat]at hf)|rs _ _ _=>(intro hf;simp[flat]at hf)|mp _=>(intro hf;simp[flat]at hf)|fn _ _ ih1 ih2=>(intro hf _;simp only[flat,Bool.and_eq_true]at hf;exact .fn (ih1 (by simpa[flat]using hf.1) _) (ih2 (by simpa[flat]using hf.2) _))|nil=>(intro _ _;exact .nil)|cons _ _ ih1 ih2=>(intro hf _;simp only[flat,de,Bool.and_eq_true]at hf;exact .cons (ih1 hf.1 _) (ih2 (by simpa[flat]using hf.2) _))|bG _ ih=>(intro hf _;exact .bG (ih (by simpa[flat]using hf) _))|kq=>(intro _ _;exact .kq)|own h0 h1 h2 h3 h4 h5 _ ih=>(intro hf _;simp only[flat]at hf;exact .own h0 h1 h2 h3 h4 h5 (ih (by simpa[flat]using Jp _ hf) _))|lD h0 h1 h2 h3 h5 _ ih=>(intro hf _;simp only[flat]at hf;exact .lD h0 h1 h2 h3 h5 (ih (by simpa[flat]using Jp _ hf) _))|aL h1 h2 h3 _ ih=>(intro hf _;simp only[flat]at hf;exact .aL h1 h2 h3 (ih (by simpa[flat]using hf) _))|su _ _=>(intro hf;simp[flat]at hf)|sr=>(intro hf;simp[flat]at hf)|bH=>intro _ _;exact .bH
def En(w:World)(I:Nat→Prop)(β:Id→Option Loc)(F:Id→List Nat)(p:aa→Option (aa×List Id)):Prop:=∀a x,p a=some x→∀f v,R w I β f v a→∃fp rest,R w I cv fp v x.1∧(fp++rest).Perm (f++x.2.flatMap F)
variable{β:Id→Option Loc}{F:Id→List Nat}
theorem ur{mq r1 j6 r2 f1 g1 f2 g2:List Nat}(h1:(mq++r1).Perm (f1++g1))(h2:(j6++r2).Perm (f2++g2)):((mq++j6)++(r1++r2)).Perm ((f1++f2)++(g1++g2)):=by rw[List.perm_iff_count]at h1 h2⊢;intro a;have:=h1 a;have:=h2 a;simp only[List.count_append]at*;omega
theorem SQ{p:aa→Option (aa×List Id)}(hp:En w I β F p):∀{cs:List aa}{x},ew p cs=some x→∀{f vs},aH w I β f vs cs→x.1.length=cs.length∧∃fp rest,aH w I cv fp vs x.1∧(fp++rest).Perm (f++x.2.flatMap F)|[],x,h,f,vs,hr=>by{simp[ew]at h;subst h;obtain⟨rfl,rfl⟩:=hr.gv;exact⟨rfl,[],[], .nil,by simp⟩}|c::cs,x,h,f,vs,hr=>by simp only[ew,Option.bind_eq_some_iff,Option.map_eq_some_iff]at h;obtain⟨y,hy,z,hz,rfl⟩:=h;obtain⟨f1,f2,v,vs',rfl,rfl,h1,h2⟩:=hr.cons_inv;obtain⟨mq,r1,g1,g2⟩:=hp _ _ hy _ _ h1;obtain⟨hl,j6,r2,g3,g4⟩:=SQ hp hz h2;refine⟨by simp[hl],mq++j6,r1++r2, .cons g1 g3, ?_⟩;simp only[List.flatMap_append];exact ur g2 g4
theorem KE{p:aa→Option (aa×List Id)}(hp:En w I β F p){cs:List aa}{x}(h:iF p cs=some x){f vs}(hr:aH w I β f vs cs):x.1.length=cs.length∧∃fp rest,aH w I cv fp vs x.1∧(fp++rest).Perm (f++x.2.flatMap F):=by unfold iF at h;split at h;·{rename_i hf;simp at h;subst h;exact⟨rfl,f,[],R.lN hr (by simpa[flat]using hf) _,by simp⟩};·exact SQ hp h hr
theorem SV{p:aa→Option (aa×List Id)}(hp:En w I β F p):∀{rs:Rows}{x},eB (iF p) rs=some x→∀{f vs},aH w I β f vs rs.flatten→(x.1.length=rs.length∧∀sz,(∀r∈rs,r.length=sz)→∀r∈x.1,r.length=sz)∧∃fp rest,aH w I cv fp vs x.1.flatten∧(fp++rest).Perm (f++x.2.flatMap F)|[],x,h,f,vs,hr=>by{simp[eB]at h;subst h;obtain⟨rfl,rfl⟩:=hr.gv;exact⟨⟨rfl,fun _ _ _ h=>by cases h⟩,[],[], .nil,by simp⟩}|c::cs,x,h,f,vs,hr=>by simp only[eB,Option.bind_eq_some_iff,Option.map_eq_some_iff]at h;obtain⟨y,hy,z,hz,rfl⟩:=h;rw[List.flatten_cons]at hr;obtain⟨f1,f2,v1,v2,rfl,rfl,h1,h2⟩:=aH.split hr;obtain⟨l1,mq,r1,g1,g2⟩:=KE hp hy h1;obtain⟨⟨l2,l3⟩,j6,r2,g3,g4⟩:=SV hp hz h2;refine⟨⟨by simp[l2],fun sz hs r hr=> ?_⟩,mq++j6,r1++r2,g1.append g3, ?_⟩;·{rcases List.mem_cons.1 hr with rfl|hr;·{rw[l1];exact hs _ (List.mem_cons_self ..)};·exact l3 sz (fun r hr=>hs r (List.mem_cons_of_mem _ hr)) r hr};·simp only[List.flatMap_append];exact ur g2 g4
theorem VQ{p:aa→Option (aa×List Id)}(hp:En w I β F p){rs:Rows}{x}(h:mP p rs=some x){f vs}(hr:aH w I β f vs rs.flatten):(x.1.length=rs.length∧∀sz,(∀r∈rs,r.length=sz)→∀r∈x.1,r.length=sz)∧∃fp rest,aH w I cv fp vs x.1.flatten∧(fp++rest).Perm (f++x.2.flatMap F):=by unfold mP at h;split at h;·{rename_i hf;simp at h;subst h;exact⟨⟨rfl,fun _ h=>h⟩,f,[],R.lN hr (by simpa[flat]using Jp _ hf) _,by simp⟩};·exact SV hp h hr
theorem Jw{α:Type}(rs:List (List α))(n:Nat):rs.flatten=(rs.take n).flatten++(rs.drop n).flatten:=by rw[←List.flatten_append,List.take_append_drop]
theorem xJ{L:Id→Option (Option Rows)}(hL:∀id rows,L id=some (some rows)→eu w I β id rows (F id)):∀n,En w I β F (pk L n)|0=>fun a x h=>by{simp[pk]at h}|n+1=>fun a x h f v hr=>by have ih:=xJ hL n;cases a with|rs id off len=>(simp only[pk]at h;split at h;·{rename_i rs hid;split at h;·{rename_i hc;simp only[Option.map_eq_some_iff]at h;obtain⟨y,hy,rfl⟩:=h;obtain⟨rfl,hc⟩:=hc;obtain⟨rfl,hv⟩:=hr.od;rcases hL id rs hid with⟨hb,rfl,hF⟩|⟨bm,hb,_⟩|⟨b,o,sz,n',vs,cT,hb,hF,p9,⟨hne,hsz⟩,hle,cc,hrl⟩;rotate_left;·{rcases hv with⟨a,l,rfl,rfl,hb',hl⟩|⟨b,o,sz,n',cap,hb',_⟩;·{rw[hb]at hb';cases hb';cases hl};·rw[hb]at hb';cases hb'};rotate_left;·{have hy0:y=([],[]):=by{simpa[mP,eX]using hy.symm};subst hy0;simp only[List.length_nil]at hc;rcases hv with⟨a,l,rfl,rfl,_⟩|⟨b,o,sz,n',cap,hb',_⟩;·{exact⟨[],[], .kq,by simp[hF]⟩};·rw[hb]at hb';cases hb'};·obtain⟨⟨l1,l2⟩,fp,rest,g1,g2⟩:=VQ ih hy hrl;have hlen:0<rs.length:=List.length_pos_iff.2 hne;have T8:y.1≠[]:=fun e=>by{rw[e]at l1;simp at l1;omega};have FX:((b::fp)++rest).Perm ([]++(id::y.2).flatMap F):=by{rw[List.perm_iff_count]at g2⊢;intro x;have:=g2 x;simp only[List.flatMap_cons,List.nil_append,hF,List.count_append,List.count_cons,List.cons_append]at*;omega};rcases hv with⟨a,l,rfl,rfl,_⟩|⟨b',o',sz',On,cap,hb',hle',hcap,rfl⟩;·{exact⟨b::fp,rest, .lD T8 (l2 sz hsz) p9 (by rw[l1];exact hle) cc g1,FX⟩};·rw[hb]at hb';simp only[Option.some.injEq,Loc.dh.injEq]at hb';obtain⟨rfl,rfl,rfl,rfl⟩:=hb';refine⟨b::fp,rest, ?_,FX⟩;have:=R.own (w:=w) (I:=I) (β:=cv) (cap:=cap) (o:=o) (rows:=y.1) (len:=len) T8 (l2 sz hsz) p9 ⟨by simpa using hle',by rw[l1];exact hle⟩ ⟨by omega,by omega⟩ cc g1;simpa using this};·cases h};·cases h)|mp id row off=>(simp only[pk]at h;split at h;·{rename_i cs hid;split at h;·{rename_i hc;obtain⟨rfl,rfl⟩:=hc;simp only[Option.map_eq_some_iff]at h;obtain⟨y,hy,rfl⟩:=h;obtain⟨rfl,b',o',sz',n',hb',rfl⟩:=hr.qh;rcases hL id [cs] hid with⟨hb,h0,hF⟩|⟨bm,hb,_⟩|⟨b,o,sz,n',vs,cT,hb,hF,p9,⟨hne,hsz⟩,hle,cc,hrl⟩;·{cases h0};·{rw[hb]at hb';cases hb'};·rw[hb]at hb';simp only[Option.some.injEq,Loc.dh.injEq]at hb';obtain⟨rfl,rfl,rfl,rfl⟩:=hb';simp only[List.flatten_cons,List.flatten_nil,List.append_nil]at hrl;obtain⟨l1,fp,rest,g1,g2⟩:=KE ih hy hrl;have:=hsz cs (by simp);refine⟨b::fp,rest, ?_, ?_⟩;·{have:=R.aL (w:=w) (I:=I) (β:=cv) (cells:=y.1) p9 (by simp at hle;omega) cc g1;simpa using this};·rw[List.perm_iff_count]at g2⊢;intro x;have:=g2 x;simp only[List.flatMap_cons,List.nil_append,hF,List.count_append,List.count_cons,List.cons_append]at*;omega};·cases h};·cases h)|cE=>(simp only[pk,Option.some.injEq]at h;subst h;obtain⟨rfl,a,rfl⟩:=hr.AA;exact⟨[],[], .kq,by simp⟩)|agg cs=>(simp only[pk,Option.map_eq_some_iff]at h;obtain⟨y,hy,rfl⟩:=h;obtain⟨vs,rfl,hl⟩:=hr.qL;exact(KE ih hy hl).2)|bG cs=>(simp only[pk,Option.map_eq_some_iff]at h;obtain⟨y,hy,rfl⟩:=h;obtain⟨vs,rfl,hl⟩:=hr.DZ;obtain⟨_,fp,rest,g1,g2⟩:=KE ih hy hl;exact⟨fp,rest, .bG g1,g2⟩)|fn k a b=>(simp only[pk]at h;split at h;·{rename_i hi;simp only[Option.some.injEq]at h;subst h;simp only[Bool.and_eq_true]at hi;obtain⟨rfl,vs,cs,rfl,h1,h2⟩:=hr.so;exact⟨[],[], .fn (h1.oT hi.1) (h2.oT hi.2),by simp⟩};·cases h)|dM g y=>(simp only[pk,Option.some.injEq]at h;subst h;exact⟨[],f, .bH,by simp⟩)|own rs len=>(simp only[pk]at h;split at h;·{rename_i hf;simp only[Option.some.injEq]at h;subst h;exact⟨f,[],hr.lN (by simpa[flat]using hf) _,by simp⟩};·cases h)|aL cs=>(simp only[pk]at h;split at h;·{rename_i hf;simp only[Option.some.injEq]at h;subst h;exact⟨f,[],hr.lN (by simpa[flat]using hf) _,by simp⟩};·cases h)|val u=>(simp only[pk,Option.some.injEq]at h;subst h;exact⟨f,[],hr.lN rfl _,by simp⟩)|nn=>(simp only[pk,Option.some.injEq]at h;subst h;exact⟨f,[],hr.lN rfl _,by simp⟩)|mr id=>(simp only[pk]at h;split at h;·{rename_i rs hid;simp only[Option.some.injEq]at h;subst h;obtain⟨rfl,b,hb',rfl⟩:=hr.GD;rcases hL id rs hid with⟨hb,_⟩|⟨b2,hb,hF,hm⟩|⟨b2,o,sz,n',vs,cT,hb,_⟩;·{rw[hb]at hb';cases hb'};·{rw[hb]at hb';cases hb';exact⟨[b],[], .eO hm,by simp[hF]⟩};·rw[hb]at hb';cases hb'};·cases h)|eO rows=>(simp only[pk,Option.some.injEq]at h;subst h;exact⟨f,[],hr.lN rfl _,by simp⟩)|im rows=>(simp only[pk,Option.some.injEq]at h;subst h;exact⟨f,[],hr.lN rfl _,by simp⟩)|sl rows=>(simp only[pk,Option.some.injEq]at h;subst h;exact⟨f,[],hr.lN rfl _,by simp⟩)|ax cells=>(simp only[pk,Option.some.injEq]at h;subst h;exact⟨f,[],hr.lN rfl _,by simp⟩)|cz i rs=>(cases hr)|Cz u=>(cases hr)|bH=>simp only[pk,Option.some.injEq]at h;subst h;exact⟨f,[],hr.lN rfl _,by simp⟩
/-! ### Borrowing -/
def Ef(w:World)(I:Nat→Prop)(β:Id→Option Loc)(F:Id→List Nat)(p:aa→Option (aa×List Id)):Prop:=∀a x,p a=some x→∀f v,R w I β f v a→∀I':Nat→Prop,(∀b,I b→I' b)→(∀b∈f,I' b)→(∀id∈x.2,∀b∈F id,I' b)→R w I' cv [] v x.1
theorem R.ri{f:List Nat}{v:Value}{a:aa}(h:R w I β f v a)(hi:fU a=true){I':Nat→Prop}(hI:∀b,I b→I' b):R w I' cv [] v a:=by have e:=h.NX hi;subst e;exact(h.oT hi).mono hI (fun _ _=>rfl) (fun _ _ h=>h)
theorem LL{p:aa→Option (aa×List Id)}(hp:Ef w I β F p):∀{cs:List aa}{x},ew p cs=some x→∀{f vs},aH w I β f vs cs→x.1.length=cs.length∧∀I':Nat→Prop,(∀b,I b→I' b)→(∀b∈f,I' b)→(∀id∈x.2,∀b∈F id,I' b)→aH w I' cv [] vs x.1|[],x,h,f,vs,hr=>by{simp[ew]at h;subst h;obtain⟨rfl,rfl⟩:=hr.gv;exact⟨rfl,fun _ _ _ _=> .nil⟩}|c::cs,x,h,f,vs,hr=>by simp only[ew,Option.bind_eq_some_iff,Option.map_eq_some_iff]at h;obtain⟨y,hy,z,hz,rfl⟩:=h;obtain⟨f1,f2,v,vs',rfl,rfl,h1,h2⟩:=hr.cons_inv;obtain⟨hl,g3⟩:=LL hp hz h2;refine⟨by simp[hl],fun I' i1 i2 i3=> ?_⟩;exact R.cons (f1:=[]) (f2:=[]) (hp _ _ hy _ _ h1 I' i1 (fun b hb=>i2 b (List.mem_append.2 (.inl hb))) fun id hid=>i3 id (List.mem_append.2 (.inl hid))) (g3 I' i1 (fun b hb=>i2 b (List.mem_append.2 (.inr hb))) fun id hid=>i3 id (List.mem_append.2 (.inr hid)))
theorem yF{p:aa→Option (aa×List Id)}(hp:Ef w I β F p){cs:List aa}{x}(h:gk p cs=some x){f vs}(hr:aH w I β f vs cs):x.1.length=cs.length∧∀I':Nat→Prop,(∀b,I b→I' b)→(∀b∈f,I' b)→(∀id∈x.2,∀b∈F id,I' b)→aH w I' cv [] vs x.1:=by unfold gk at h;split at h;·{rename_i hf;simp at h;subst h;exact⟨rfl,fun I' i1 _ _=>R.ri hr (by simpa[fU]using hf) i1⟩};·exact LL hp h hr
theorem Rd{p:aa→Option (aa×List Id)}(hp:Ef w I β F p):∀{rs:Rows}{x},eB (gk p) rs=some x→∀{f vs},aH w I β f vs rs.flatten→(x.1.length=rs.length∧∀sz,(∀r∈rs,r.length=sz)→∀r∈x.1,r.length=sz)∧∀I':Nat→Prop,(∀b,I b→I' b)→(∀b∈f,I' b)→(∀id∈x.2,∀b∈F id,I' b)→aH w I' cv [] vs x.1.flatten|[],x,h,f,vs,hr=>by{simp[eB]at h;subst h;obtain⟨rfl,rfl⟩:=hr.gv;exact⟨⟨rfl,fun _ _ _ h=>by cases h⟩,fun _ _ _ _=> .nil⟩}|c::cs,x,h,f,vs,hr=>by simp only[eB,Option.bind_eq_some_iff,Option.map_eq_some_iff]at h;obtain⟨y,hy,z,hz,rfl⟩:=h;rw[List.flatten_cons]at hr;obtain⟨f1,f2,v1,v2,rfl,rfl,h1,h2⟩:=aH.split hr;obtain⟨l1,g1⟩:=yF hp hy h1;obtain⟨⟨l2,l3⟩,g3⟩:=Rd hp hz h2;refine⟨⟨by simp[l2],fun sz hs r hr=> ?_⟩,fun I' i1 i2 i3=> ?_⟩;·{rcases List.mem_cons.1 hr with rfl|hr;·{rw[l1];exact hs _ (List.mem_cons_self ..)};·exact l3 sz (fun r hr=>hs r (List.mem_cons_of_mem _ hr)) r hr};·have:=(g1 I' i1 (fun b hb=>i2 b (List.mem_append.2 (.inl hb))) fun id hid=>i3 id (List.mem_append.2 (.inl hid))).append (g3 I' i1 (fun b hb=>i2 b (List.mem_append.2 (.inr hb))) fun id hid=>i3 id (List.mem_append.2 (.inr hid)));simpa using this
theorem Rn{p:aa→Option (aa×List Id)}(hp:Ef w I β F p){rs:Rows}{x}(h:mc p rs=some x){f vs}(hr:aH w I β f vs rs.flatten):(x.1.length=rs.length∧∀sz,(∀r∈rs,r.length=sz)→∀r∈x.1,r.length=sz)∧∀I':Nat→Prop,(∀b,I b→I' b)→(∀b∈f,I' b)→(∀id∈x.2,∀b∈F id,I' b)→aH w I' cv [] vs x.1.flatten:=by unfold mc at h;split at h;·{rename_i hf;simp at h;subst h;exact⟨⟨rfl,fun _ h=>h⟩,fun I' i1 _ _=>R.ri hr (by simpa[fU]using NW _ hf) i1⟩};·exact Rd hp h hr
theorem LR{L:Id→Option (Option Rows)}(hL:∀id rows,L id=some (some rows)→eu w I β id rows (F id)):∀n,Ef w I β F (b8 L n)
 |0=>fun a x h=>by simp[b8]at h
 |n+1=>fun a x h f v hr I' i1 i2 i3=>by
  have ih:=LR hL n
  cases a with
  |rs id off len=>
   simp only[b8]at h
   split at h
   ·rename_i rs hid
    split at h
    ·rename_i hc
     simp only[Option.map_eq_some_iff]at h
     obtain⟨y,hy,rfl⟩:=h
     obtain⟨rfl,hv⟩:=hr.od
     have FU:len=0→y.1=[]:=fun h0=>by
      have :=congrArg List.length (show(rs.drop off).take len=[]by rw[h0];rfl)
      rw[h0,List.take_zero]at hy
      simp[mc,jy]at hy
      rw[←hy]
     rcases hv with⟨a,l,rfl,rfl,_⟩|⟨b',o',sz',On,cap,hb',hle',hcap,rfl⟩
     ·rw[FU rfl];exact .gW
     ·rcases Nat.eq_zero_or_pos len with h0|h0
      ·subst h0;rw[FU rfl];exact .gW
      ·rcases hL id rs hid with⟨hb,rfl,hF⟩|⟨bm,hb,_⟩|⟨b,o,sz,n',vs,cT,hb,hF,p9,⟨hne,hsz⟩,hle,cc,hrl⟩
       ·simp at hc;omega
       ·rw[hb]at hb';cases hb'
       ·rw[hb]at hb'
        simp only[Option.some.injEq,Loc.dh.injEq]at hb'
        obtain⟨rfl,rfl,rfl,rfl⟩:=hb'
        have hsp:rs.flatten=(rs.take off).flatten++(((rs.drop off).take len).flatten++((rs.drop off).drop len).flatten):=by
         rw[←Jw (rs.drop off) len,←Jw rs off]
        rw[hsp]at hrl
        obtain⟨f1,f23,v1,Xm,rfl,rfl,h1,h23⟩:=aH.split hrl
        obtain⟨f2,f3,v2,v3,rfl,rfl,h2,h3⟩:=aH.split h23
        have Gy:=h1.length
        rw[mo (sz:=sz) (fun r hr=>hsz r (List.mem_of_mem_take hr)),List.length_take,Nat.min_eq_left (by omega)]at Gy
        obtain⟨⟨l1,l2⟩,g⟩:=Rn ih hy h2
        have nv:y.1.length=len:=by rw[l1,List.length_take,List.length_drop];omega
        have hin:∀x∈F id,I' x:=i3 id (List.mem_cons_self ..)
        have g':=g I' i1 (fun x hx=>hin x (by rw[hF];simp[hx])) fun id hid=>i3 id (List.mem_cons_of_mem _ hid)
        have y9:fQ w b (o+off*sz) v2:=by
         have :=(cc.drop v1.length).take v2.length
         rw[List.drop_left,List.take_left,Gy]at this
         exact this
        have :=R.sl (β:=cv) (cap:=cap) (l2 sz fun r hr=>hsz r (List.mem_of_mem_drop (List.mem_of_mem_take hr))) (hin b (by rw[hF];simp)) y9 (by omega) g'
        rw[nv]at this
        exact this
    ·cases h
   ·cases h
  |mp id row off=>
   simp only[b8]at h
   split at h
   ·rename_i rs hid
    split at h
    ·rename_i r hrow
     split at h
     ·rename_i hoff
      simp only[Option.map_eq_some_iff]at h
      obtain⟨y,hy,rfl⟩:=h
      obtain⟨rfl,b',o',sz',n',hb',rfl⟩:=hr.qh
      rcases hL id rs hid with⟨hb,h0,hF⟩|⟨bm,hb,_⟩|⟨b,o,sz,n',vs,cT,hb,hF,p9,⟨hne,hsz⟩,hle,cc,hrl⟩
      ·subst h0;simp at hrow
      ·rw[hb]at hb';cases hb'
      ·rw[hb]at hb'
       simp only[Option.some.injEq,Loc.dh.injEq]at hb'
       obtain⟨rfl,rfl,rfl,rfl⟩:=hb'
       obtain⟨hsp,hlt⟩:=O6 hrow
       have TU:r.length=sz:=hsz r (List.mem_of_getElem? hrow)
       have hsp:rs.flatten=((rs.take row).flatten++r.take off)++(r.drop off++(rs.drop (row+1)).flatten):=by
        have e:r.take off++(r.drop off++(rs.drop (row+1)).flatten)=r++(rs.drop (row+1)).flatten:=by rw[←List.append_assoc,List.take_append_drop]
        rw[List.append_assoc,e]
        conv=>lhs;rw[hsp]
        simp
       rw[hsp]at hrl
       obtain⟨f1,f23,v1,Xm,rfl,rfl,h1,h23⟩:=aH.split hrl
       obtain⟨f2,f3,v2,v3,rfl,rfl,h2,h3⟩:=aH.split h23
       have Gy:=h1.length
       rw[List.length_append,mo (sz:=sz) (fun r hr=>hsz r (List.mem_of_mem_take hr)),List.length_take,List.length_take,Nat.min_eq_left (by omega),Nat.min_eq_left hoff]at Gy
       obtain⟨_,g⟩:=yF ih hy h2
       have hin:∀x∈F id,I' x:=i3 id (List.mem_cons_self ..)
       have g':=g I' i1 (fun x hx=>hin x (by rw[hF];simp[hx])) fun id hid=>i3 id (List.mem_cons_of_mem _ hid)
       have y9:fQ w b (o+row*sz+off) v2:=by
        have :=(cc.drop v1.length).take v2.length
        rw[List.drop_left,List.take_left,Gy,←Nat.add_assoc]at this
        exact this
       exact .ax (hin b (by rw[hF];simp)) y9 g'
     ·cases h
    ·cases h
   ·cases h
  |cE=>
   simp only[b8,Option.some.injEq]at h;subst h
   obtain⟨rfl,a,rfl⟩:=hr.AA
   exact .gW
  |agg cs=>
   simp only[b8,Option.map_eq_some_iff]at h
   obtain⟨y,hy,rfl⟩:=h
   obtain⟨vs,rfl,hl⟩:=hr.qL
   exact(yF ih hy hl).2 I' i1 i2 i3
  |bG cs=>
   simp only[b8,Option.map_eq_some_iff]at h
   obtain⟨y,hy,rfl⟩:=h
   obtain⟨vs,rfl,hl⟩:=hr.DZ
   exact .bG ((yF ih hy hl).2 I' i1 i2 i3)
  |fn k a b=>
   simp only[b8,Option.map_eq_some_iff,Option.bind_eq_some_iff]at h
   obtain⟨y,hy,z,hz,rfl⟩:=h
   obtain⟨rfl,vs,cs,rfl,h1,h2⟩:=hr.so
   exact .fn ((yF ih hy h1).2 I' i1 (fun _ h=>by cases h) fun id hid=>i3 id (List.mem_append.2 (.inl hid))) ((yF ih hz h2).2 I' i1 (fun _ h=>by cases h) fun id hid=>i3 id (List.mem_append.2 (.inr hid)))
  |dM g y=>
   simp only[b8,Option.some.injEq]at h;subst h
   exact .bH
  |own rs len=>
   simp only[b8,Option.map_eq_some_iff]at h
   obtain⟨y,hy,rfl⟩:=h
   cases hr with
   |kq=>
    have :y=([],[]):=by simpa[mc,jy]using hy.symm
    subst this;exact .gW
   |lD _ _ _ _ _ _=>
    have :y=([],[]):=by simpa[mc,jy]using hy.symm
    subst this;exact .gW
   | @own _ b o sz cap n len cT jD _ g0 g1 g2 g3 g4 fV gQ=>
    rw[Jw rs len]at gQ
    obtain⟨f1,f2,v1,v2,rfl,rfl,h1,h2⟩:=aH.split gQ
    obtain⟨⟨l1,l2⟩,g⟩:=Rn ih hy h1
    have g':=g I' i1 (fun b hb=>i2 b (List.mem_cons_of_mem _ (List.mem_append.2 (.inl hb)))) i3
    have MT:fQ w b o v1:=by
     have :=fV.take v1.length
     rwa[List.take_left]at this
    have nv:y.1.length=len:=by rw[l1,List.length_take];omega
    have :=R.sl (β:=cv) (cap:=cap) (l2 sz fun r hr=>g1 r (List.mem_of_mem_take hr)) (i2 b (List.mem_cons_self ..)) MT (by omega) g'
    rw[nv]at this
    exact this
  |aL cs=>
   simp only[b8,Option.map_eq_some_iff]at h
   obtain⟨y,hy,rfl⟩:=h
   cases hr with
   | @aL _ b o n cT jD _ g2 g3 fV gQ=>
    obtain⟨_,g⟩:=yF ih hy gQ
    exact .ax (i2 b (List.mem_cons_self ..)) fV (g I' i1 (fun b hb=>i2 b (List.mem_cons_of_mem _ hb)) i3)
  |val u=>
   simp only[b8,Option.some.injEq]at h;subst h
   exact hr.ri rfl i1
  |nn=>
   simp only[b8,Option.some.injEq]at h;subst h
   exact hr.ri rfl i1
  |mr id=>
   simp only[b8]at h
   split at h
   ·rename_i rs hid
    simp only[Option.some.injEq]at h;subst h
    obtain⟨rfl,b,hb',rfl⟩:=hr.GD
    rcases hL id rs hid with⟨hb,_⟩|⟨b2,hb,hF,hm⟩|⟨b2,o,sz,n',vs,cT,hb,_⟩
    ·rw[hb]at hb';cases hb'
    ·rw[hb]at hb';cases hb'
     exact .im (i3 id (List.mem_cons_self ..) b (by rw[hF];simp)) hm
    ·rw[hb]at hb';cases hb'
   ·cases h
  |eO rows=>
   simp only[b8,Option.some.injEq]at h;subst h
   obtain⟨b,rfl,rfl,hm⟩:=hr.OH
   exact .im (i2 b (List.mem_cons_self ..)) hm
  |im rows=>
   simp only[b8,Option.some.injEq]at h;subst h
   exact hr.ri rfl i1
  |sl rows=>
   simp only[b8,Option.some.injEq]at h;subst h
   exact hr.ri rfl i1
  |ax cells=>
   simp only[b8,Option.some.injEq]at h;subst h
   exact hr.ri rfl i1
  |cz i rs=>cases hr
  |Cz u=>cases hr
  |bH=>
   simp only[b8,Option.some.injEq]at h;subst h
   exact .bH
/-! ### Nothing but its own -/
theorem Ol:∀rows:Rows,Kj rows=true→nx rows.flatten=true|[],_=>by{simp[nx]}|r::rs,h=>by simp only[Kj,Bool.and_eq_true]at h;have:∀a b:List aa,nx (a++b)=(nx a&&nx b):=fun a b=>by{induction a with|nil=>(simp[nx])|cons c cs ih=>simp[nx,ih,Bool.and_assoc]};rw[List.flatten_cons,this,h.1,Ol rs h.2];rfl
theorem R.mine{f:List Nat}{v:Value}{a:aa}(h:R w I β f v a):mine a=true→∀I':Nat→Prop,R w I' β f v a:=by induction h with|val h=>(intro _ _;exact .val h)|nn=>(intro _ _;exact .nn)|eO h=>(intro _ _;exact .eO h)|cE=>(intro _ _;exact .cE)|nil=>(intro _ _;exact .nil)|cons _ _ ih1 ih2=>(intro hf _;simp only[Ab.mine,nx,Bool.and_eq_true]at hf;exact .cons (ih1 hf.1 _) (ih2 (by simpa[Ab.mine]using hf.2) _))|bG _ ih=>(intro hf _;exact .bG (ih (by simpa[Ab.mine]using hf) _))|kq=>(intro _ _;exact .kq)|own h0 h1 h2 h3 h4 h5 _ ih=>(intro hf _;simp only[Ab.mine]at hf;exact .own h0 h1 h2 h3 h4 h5 (ih (by simpa[Ab.mine]using Ol _ hf) _))|lD h0 h1 h2 h3 h5 _ ih=>(intro hf _;simp only[Ab.mine]at hf;exact .lD h0 h1 h2 h3 h5 (ih (by simpa[Ab.mine]using Ol _ hf) _))|aL h1 h2 h3 _ ih=>(intro hf _;simp only[Ab.mine]at hf;exact .aL h1 h2 h3 (ih (by simpa[Ab.mine]using hf) _))|bH=>(intro _ _;exact .bH)|_=>intro hf;simp[Ab.mine]at hf
/-! ### Freezing -/
theorem ae4(a b:List aa):kN (a++b)=kN a++kN b:=by induction a with|nil=>(rfl)|cons c cs ih=>simp[kN,ih]
theorem ae5(a:List aa):(kN a).length=a.length:=by induction a with|nil=>(rfl)|cons c cs ih=>simp[kN,ih]
theorem Ms:∀rows:Rows,(kO rows).flatten=kN rows.flatten|[]=>rfl|r::rs=>by simp[kO,ae4,Ms rs]
theorem Mt:∀rows:Rows,(kO rows).length=rows.length|[]=>rfl|r::rs=>by simp[kO,Mt rs]
theorem Mu:∀{rows:Rows}{r:List aa},r∈kO rows→∃r'∈rows,r.length=r'.length|[],r,h=>by{simp[kO]at h}|c::rs,r,h=>by simp only[kO,List.mem_cons]at h;rcases h with rfl|h;·{exact⟨c,List.mem_cons_self ..,ae5 c⟩};·obtain⟨r',h1,h2⟩:=Mu h;exact⟨r',List.mem_cons_of_mem _ h1,h2⟩
theorem R.ae1{β:Id→Option Loc}{f:List Nat}{v:Value}{a:aa}(h:R w I β f v a)(bS:β=cv){I':Nat→Prop}(i1:∀b,I b→I' b):(∀b∈f,I' b)→R w I' cv [] v (eC a):=by induction h with|val h=>(intro _;exact .val h)|nn=>(intro _;exact .nn)|mr h=>(subst bS;cases h)|eO h=>(intro h2;exact .im (h2 _ (List.mem_cons_self ..)) h)|im h1 h2=>(intro _;exact .im (i1 _ h1) h2)|cE=>(intro _;exact .cE)|gW=>(intro _;exact .gW)|sl h1 h2 h3 h4 h5 _=>(intro _;exact .sl h1 (i1 _ h2) h3 h4 (h5.mono i1 (fun _ _=>rfl) (fun _ _ h=>h)))|ax h1 h2 h3 _=>(intro _;exact .ax (i1 _ h1) h2 (h3.mono i1 (fun _ _=>rfl) (fun _ _ h=>h)))|jh h _=>(subst bS;cases h)|rs h _ _=>(subst bS;cases h)|mp h=>(subst bS;cases h)|fn h1 h2 _ _=>(intro _;subst bS;exact .fn (h1.mono i1 (fun _ _=>rfl) (fun _ _ h=>h)) (h2.mono i1 (fun _ _=>rfl) (fun _ _ h=>h)))|nil=>(intro _;exact .nil)|cons _ _ ih1 ih2=>(intro h;exact R.cons (f1:=[]) (f2:=[]) (ih1 bS fun b hb=>h b (List.mem_append.2 (.inl hb))) (ih2 bS fun b hb=>h b (List.mem_append.2 (.inr hb))))|bG _ ih=>(intro h;exact .bG (ih bS h))|kq=>(intro _;exact .gW)|lD _ _ _ _ _ _=>(intro _;simp only[Ab.eC,List.take_zero];exact .gW)| @own _ b o sz cap n len cT jD rows h0 h1 h2 h3 h4 h5 _ ih=>(intro h;have g:=ih bS fun b hb=>h b (List.mem_cons_of_mem _ hb);simp only[Ab.eC]at g⊢;rw[←Ms,Jw (kO rows) len]at g;obtain⟨f1,f2,v1,v2,e1,e2,g1,g2⟩:=aH.split g;obtain rfl:f1=[]:=(List.append_eq_nil_iff.1 e1.symm).1;have MT:fQ w b o v1:=by{rw[e2]at h5;have:=h5.take v1.length;rwa[List.take_left]at this};have hl:((kO rows).take len).length=len:=by{rw[List.length_take,Mt];omega};have:=R.sl (w:=w) (β:=cv) (cap:=cap) (o:=o) (rows:=(kO rows).take len) (fun r hr=>by obtain⟨r',m1,m2⟩:=Mu (List.mem_of_mem_take hr);rw[m2];exact h1 r' m1) (h b (List.mem_cons_self ..)) MT (by omega) g1;rw[hl]at this;exact this)|aL h1 h2 h3 _ ih=>(intro h;have g:=ih bS fun b hb=>h b (List.mem_cons_of_mem _ hb);exact .ax (h _ (List.mem_cons_self ..)) h3 g)|su h _=>(intro _;subst bS;exact .su (h.mono i1 (fun _ _=>rfl) (fun _ _ h=>h)))|sr=>(intro _;exact .sr)|bH=>intro _;exact .bH
theorem R.eC{f:List Nat}{v:Value}{a:aa}(h:R w I cv f v a){I':Nat→Prop}(i1:∀b,I b→I' b)(hf:∀b∈f,I' b):R w I' cv [] v (eC a):=R.ae1 h rfl i1 hf
end
end Go.Ab
