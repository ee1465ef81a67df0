import Derived.Test.YtbhpblokoecoaaaAbOps7
namespace Go.Ab
open Go
theorem XN(a b:List aa):ey (a++b)=(ey a&&ey b):=by induction a with|nil=>(simp[ey])|cons c cs ih=>simp[ey,ih,Bool.and_assoc]
theorem Fp:∀rows:Rows,eN rows=true→ey rows.flatten=true|[],_=>by{simp[ey]}|r::rs,h=>by simp only[eN,Bool.and_eq_true]at h;rw[List.flatten_cons,XN,h.1,Fp rs h.2];rfl
section
variable{w:World}{I:Nat→Prop}
theorem R.nK{β:Id→Option Loc}{f:List Nat}{v:Value}{a:aa}(h:R w I β f v a):flat a=true→∀gA:Id→Option Loc,R w I gA f v a:=by induction h with|val h=>(intro _ _;exact .val h)|nn=>(intro _ _;exact .nn)|mr _=>(intro hf;simp[flat]at hf)|dW h=>(intro _ _;exact .dW h)|im h1 h2=>(intro _ _;exact .im h1 h2)|cN=>(intro hf;simp[flat]at hf)|gk=>(intro _ _;exact .gk)|sl h1 h2 h3 h4 h5 _=>(intro _ _;exact .sl h1 h2 h3 h4 h5)|au h1 h2 h3 _=>(intro _ _;exact .au h1 h2 h3)|jx _ _=>(intro hf;simp[flat]at hf)|rs _ _ _=>(intro hf;simp[flat]at hf)|mp _=>(intro hf;simp[flat]at hf)|fn _ _ ih1 ih2=>(intro hf _;simp only[flat,Bool.and_eq_true]at hf;exact .fn (ih1 (by simpa[flat]using hf.1) _) (ih2 (by simpa[flat]using hf.2) _))|nil=>(intro _ _;exact .nil)|cons _ _ ih1 ih2=>(intro hf _;simp only[flat,ey,Bool.and_eq_true]at hf;exact .cons (ih1 hf.1 _) (ih2 (by simpa[flat]using hf.2) _))|b9 _ ih=>(intro hf _;exact .b9 (ih (by simpa[flat]using hf) _))|iV=>(intro _ _;exact .iV)|own h0 h1 h2 h3 h4 h5 _ ih=>(intro hf _;simp only[flat]at hf;exact .own h0 h1 h2 h3 h4 h5 (ih (by simpa[flat]using Fp _ hf) _))|jL h0 h1 h2 h3 h5 _ ih=>(intro hf _;simp only[flat]at hf;exact .jL h0 h1 h2 h3 h5 (ih (by simpa[flat]using Fp _ hf) _))|aH h1 h2 h3 _ ih=>(intro hf _;simp only[flat]at hf;exact .aH h1 h2 h3 (ih (by simpa[flat]using hf) _))|pW _ _=>(intro hf;simp[flat]at hf)|pV=>(intro hf;simp[flat]at hf)|bX=>intro _ _;exact .bX
def By(w:World)(I:Nat→Prop)(β:Id→Option Loc)(F:Id→List Nat)(p:aa→Option (aa×List Id)):Prop:=∀a x,p a=some x→∀f v,R w I β f v a→∃fp rest,R w I cl fp v x.1∧(fp++rest).Perm (f++x.2.flatMap F)
variable{β:Id→Option Loc}{F:Id→List Nat}
theorem uW{kk r1 jV r2 f1 g1 f2 g2:List Nat}(h1:(kk++r1).Perm (f1++g1))(h2:(jV++r2).Perm (f2++g2)):((kk++jV)++(r1++r2)).Perm ((f1++f2)++(g1++g2)):=by rw[List.perm_iff_count]at h1 h2⊢;intro a;have:=h1 a;have:=h2 a;simp only[List.count_append]at*;omega
theorem NG{p:aa→Option (aa×List Id)}(hp:By w I β F p):∀{cs:List aa}{x},eD p cs=some x→∀{f vs},aJ w I β f vs cs→x.1.length=cs.length∧∃fp rest,aJ w I cl fp vs x.1∧(fp++rest).Perm (f++x.2.flatMap F)|[],x,h,f,vs,hr=>by{simp[eD]at h;subst h;obtain⟨rfl,rfl⟩:=hr.gi;exact⟨rfl,[],[], .nil,by simp⟩}|c::cs,x,h,f,vs,hr=>by simp only[eD,Option.bind_eq_some_iff,Option.map_eq_some_iff]at h;obtain⟨y,hy,z,hz,rfl⟩:=h;obtain⟨f1,f2,v,vs',rfl,rfl,h1,h2⟩:=hr.cons_inv;obtain⟨kk,r1,g1,g2⟩:=hp _ _ hy _ _ h1;obtain⟨hl,jV,r2,g3,g4⟩:=NG hp hz h2;refine⟨by simp[hl],kk++jV,r1++r2, .cons g1 g3, ?_⟩;simp only[List.flatMap_append];exact uW g2 g4
theorem GD{p:aa→Option (aa×List Id)}(hp:By w I β F p){cs:List aa}{x}(h:fA p cs=some x){f vs}(hr:aJ w I β f vs cs):x.1.length=cs.length∧∃fp rest,aJ w I cl fp vs x.1∧(fp++rest).Perm (f++x.2.flatMap F):=by unfold fA at h;split at h;·{rename_i hf;simp at h;subst h;exact⟨rfl,f,[],R.nK hr (by simpa[flat]using hf) _,by simp⟩};·exact NG hp h hr
theorem NL{p:aa→Option (aa×List Id)}(hp:By w I β F p):∀{rs:Rows}{x},ek (fA p) rs=some x→∀{f vs},aJ w I β f vs rs.flatten→(x.1.length=rs.length∧∀sz,(∀r∈rs,r.length=sz)→∀r∈x.1,r.length=sz)∧∃fp rest,aJ w I cl fp vs x.1.flatten∧(fp++rest).Perm (f++x.2.flatMap F)|[],x,h,f,vs,hr=>by{simp[ek]at h;subst h;obtain⟨rfl,rfl⟩:=hr.gi;exact⟨⟨rfl,fun _ _ _ h=>by cases h⟩,[],[], .nil,by simp⟩}|c::cs,x,h,f,vs,hr=>by simp only[ek,Option.bind_eq_some_iff,Option.map_eq_some_iff]at h;obtain⟨y,hy,z,hz,rfl⟩:=h;rw[List.flatten_cons]at hr;obtain⟨f1,f2,v1,v2,rfl,rfl,h1,h2⟩:=aJ.split hr;obtain⟨l1,kk,r1,g1,g2⟩:=GD hp hy h1;obtain⟨⟨l2,l3⟩,jV,r2,g3,g4⟩:=NL hp hz h2;refine⟨⟨by simp[l2],fun sz hs r hr=> ?_⟩,kk++jV,r1++r2,g1.append g3, ?_⟩;·{rcases List.mem_cons.1 hr with rfl|hr;·{rw[l1];exact hs _ (List.mem_cons_self ..)};·exact l3 sz (fun r hr=>hs r (List.mem_cons_of_mem _ hr)) r hr};·simp only[List.flatMap_append];exact uW g2 g4
theorem QV{p:aa→Option (aa×List Id)}(hp:By w I β F p){rs:Rows}{x}(h:iW p rs=some x){f vs}(hr:aJ w I β f vs rs.flatten):(x.1.length=rs.length∧∀sz,(∀r∈rs,r.length=sz)→∀r∈x.1,r.length=sz)∧∃fp rest,aJ w I cl fp vs x.1.flatten∧(fp++rest).Perm (f++x.2.flatMap F):=by unfold iW at h;split at h;·{rename_i hf;simp at h;subst h;exact⟨⟨rfl,fun _ h=>h⟩,f,[],R.nK hr (by simpa[flat]using Fp _ hf) _,by simp⟩};·exact NL hp h hr
theorem Fs{α:Type}(rs:List (List α))(n:Nat):rs.flatten=(rs.take n).flatten++(rs.drop n).flatten:=by rw[←List.flatten_append,List.take_append_drop]
theorem sZ{L:Id→Option (Option Rows)}(hL:∀id rows,L id=some (some rows)→fy w I β id rows (F id)):∀n,By w I β F (pk L n)|0=>fun a x h=>by{simp[pk]at h}|n+1=>fun a x h f v hr=>by have ih:=sZ hL n;cases a with|rs id off len=>(simp only[pk]at h;split at h;·{rename_i rs hid;split at h;·{rename_i hc;simp only[Option.map_eq_some_iff]at h;obtain⟨y,hy,rfl⟩:=h;obtain⟨rfl,hc⟩:=hc;obtain⟨rfl,hv⟩:=hr.mh;rcases hL id rs hid with⟨hb,rfl,hF⟩|⟨bm,hb,_⟩|⟨b,o,sz,n',vs,cH,hb,hF,sB,⟨hne,hsz⟩,hle,b8,hrl⟩;rotate_left;·{rcases hv with⟨a,l,rfl,rfl,hb',hl⟩|⟨b,o,sz,n',cap,hb',_⟩;·{rw[hb]at hb';cases hb';cases hl};·rw[hb]at hb';cases hb'};rotate_left;·{have hy0:y=([],[]):=by{simpa[iW,eN]using hy.symm};subst hy0;simp only[List.length_nil]at hc;rcases hv with⟨a,l,rfl,rfl,_⟩|⟨b,o,sz,n',cap,hb',_⟩;·{exact⟨[],[], .iV,by simp[hF]⟩};·rw[hb]at hb';cases hb'};·obtain⟨⟨l1,l2⟩,fp,rest,g1,g2⟩:=QV ih hy hrl;have hlen:0<rs.length:=List.length_pos_iff.2 hne;have O9:y.1≠[]:=fun e=>by{rw[e]at l1;simp at l1;omega};have CM:((b::fp)++rest).Perm ([]++(id::y.2).flatMap F):=by{rw[List.perm_iff_count]at g2⊢;intro x;have:=g2 x;simp only[List.flatMap_cons,List.nil_append,hF,List.count_append,List.count_cons,List.cons_append]at*;omega};rcases hv with⟨a,l,rfl,rfl,_⟩|⟨b',o',sz',Kp,cap,hb',hle',hcap,rfl⟩;·{exact⟨b::fp,rest, .jL O9 (l2 sz hsz) sB (by rw[l1];exact hle) b8 g1,CM⟩};·rw[hb]at hb';simp only[Option.some.injEq,Loc.cT.injEq]at hb';obtain⟨rfl,rfl,rfl,rfl⟩:=hb';refine⟨b::fp,rest, ?_,CM⟩;have:=R.own (w:=w) (I:=I) (β:=cl) (cap:=cap) (o:=o) (rows:=y.1) (len:=len) O9 (l2 sz hsz) sB ⟨by simpa using hle',by rw[l1];exact hle⟩ ⟨by omega,by omega⟩ b8 g1;simpa using this};·cases h};·cases h)|mp id row off=>(simp only[pk]at h;split at h;·{rename_i cs hid;split at h;·{rename_i hc;obtain⟨rfl,rfl⟩:=hc;simp only[Option.map_eq_some_iff]at h;obtain⟨y,hy,rfl⟩:=h;obtain⟨rfl,b',o',sz',n',hb',rfl⟩:=hr.oS;rcases hL id [cs] hid with⟨hb,h0,hF⟩|⟨bm,hb,_⟩|⟨b,o,sz,n',vs,cH,hb,hF,sB,⟨hne,hsz⟩,hle,b8,hrl⟩;·{cases h0};·{rw[hb]at hb';cases hb'};·rw[hb]at hb';simp only[Option.some.injEq,Loc.cT.injEq]at hb';obtain⟨rfl,rfl,rfl,rfl⟩:=hb';simp only[List.flatten_cons,List.flatten_nil,List.append_nil]at hrl;obtain⟨l1,fp,rest,g1,g2⟩:=GD ih hy hrl;have:=hsz cs (by simp);refine⟨b::fp,rest, ?_, ?_⟩;·{have:=R.aH (w:=w) (I:=I) (β:=cl) (cells:=y.1) sB (by simp at hle;omega) b8 g1;simpa using this};·rw[List.perm_iff_count]at g2⊢;intro x;have:=g2 x;simp only[List.flatMap_cons,List.nil_append,hF,List.count_append,List.count_cons,List.cons_append]at*;omega};·cases h};·cases h)|cN=>(simp only[pk,Option.some.injEq]at h;subst h;obtain⟨rfl,a,rfl⟩:=hr.xZ;exact⟨[],[], .iV,by simp⟩)|agg cs=>(simp only[pk,Option.map_eq_some_iff]at h;obtain⟨y,hy,rfl⟩:=h;obtain⟨vs,rfl,hl⟩:=hr.qG;exact(GD ih hy hl).2)|b9 cs=>(simp only[pk,Option.map_eq_some_iff]at h;obtain⟨y,hy,rfl⟩:=h;obtain⟨vs,rfl,hl⟩:=hr.Es;obtain⟨_,fp,rest,g1,g2⟩:=GD ih hy hl;exact⟨fp,rest, .b9 g1,g2⟩)|fn k a b=>(simp only[pk]at h;split at h;·{rename_i hi;simp only[Option.some.injEq]at h;subst h;simp only[Bool.and_eq_true]at hi;obtain⟨rfl,vs,cs,rfl,h1,h2⟩:=hr.vZ;exact⟨[],[], .fn (h1.mP hi.1) (h2.mP hi.2),by simp⟩};·cases h)|dj g y=>(simp only[pk,Option.some.injEq]at h;subst h;exact⟨[],f, .bX,by simp⟩)|own rs len=>(simp only[pk]at h;split at h;·{rename_i hf;simp only[Option.some.injEq]at h;subst h;exact⟨f,[],hr.nK (by simpa[flat]using hf) _,by simp⟩};·cases h)|aH cs=>(simp only[pk]at h;split at h;·{rename_i hf;simp only[Option.some.injEq]at h;subst h;exact⟨f,[],hr.nK (by simpa[flat]using hf) _,by simp⟩};·cases h)|val u=>(simp only[pk,Option.some.injEq]at h;subst h;exact⟨f,[],hr.nK rfl _,by simp⟩)|nn=>(simp only[pk,Option.some.injEq]at h;subst h;exact⟨f,[],hr.nK rfl _,by simp⟩)|mr id=>(simp only[pk]at h;split at h;·{rename_i rs hid;simp only[Option.some.injEq]at h;subst h;obtain⟨rfl,b,hb',rfl⟩:=hr.Dm;rcases hL id rs hid with⟨hb,_⟩|⟨b2,hb,hF,hm⟩|⟨b2,o,sz,n',vs,cH,hb,_⟩;·{rw[hb]at hb';cases hb'};·{rw[hb]at hb';cases hb';exact⟨[b],[], .dW hm,by simp[hF]⟩};·rw[hb]at hb';cases hb'};·cases h)|dW rows=>(simp only[pk,Option.some.injEq]at h;subst h;exact⟨f,[],hr.nK rfl _,by simp⟩)|im rows=>(simp only[pk,Option.some.injEq]at h;subst h;exact⟨f,[],hr.nK rfl _,by simp⟩)|sl rows=>(simp only[pk,Option.some.injEq]at h;subst h;exact⟨f,[],hr.nK rfl _,by simp⟩)|au cells=>(simp only[pk,Option.some.injEq]at h;subst h;exact⟨f,[],hr.nK rfl _,by simp⟩)|bX=>simp only[pk,Option.some.injEq]at h;subst h;exact⟨f,[],hr.nK rfl _,by simp⟩
/-! ### Borrowing -/
def Br(w:World)(I:Nat→Prop)(β:Id→Option Loc)(F:Id→List Nat)(p:aa→Option (aa×List Id)):Prop:=∀a x,p a=some x→∀f v,R w I β f v a→∀I':Nat→Prop,(∀b,I b→I' b)→(∀b∈f,I' b)→(∀id∈x.2,∀b∈F id,I' b)→R w I' cl [] v x.1
theorem R.qa{f:List Nat}{v:Value}{a:aa}(h:R w I β f v a)(hi:e5 a=true){I':Nat→Prop}(hI:∀b,I b→I' b):R w I' cl [] v a:=by have e:=h.J1 hi;subst e;exact(h.mP hi).mono hI (fun _ _=>rfl) (fun _ _ h=>h)
theorem HO{p:aa→Option (aa×List Id)}(hp:Br w I β F p):∀{cs:List aa}{x},eD p cs=some x→∀{f vs},aJ w I β f vs cs→x.1.length=cs.length∧∀I':Nat→Prop,(∀b,I b→I' b)→(∀b∈f,I' b)→(∀id∈x.2,∀b∈F id,I' b)→aJ w I' cl [] vs x.1|[],x,h,f,vs,hr=>by{simp[eD]at h;subst h;obtain⟨rfl,rfl⟩:=hr.gi;exact⟨rfl,fun _ _ _ _=> .nil⟩}|c::cs,x,h,f,vs,hr=>by simp only[eD,Option.bind_eq_some_iff,Option.map_eq_some_iff]at h;obtain⟨y,hy,z,hz,rfl⟩:=h;obtain⟨f1,f2,v,vs',rfl,rfl,h1,h2⟩:=hr.cons_inv;obtain⟨hl,g3⟩:=HO hp hz h2;refine⟨by simp[hl],fun I' i1 i2 i3=> ?_⟩;exact R.cons (f1:=[]) (f2:=[]) (hp _ _ hy _ _ h1 I' i1 (fun b hb=>i2 b (List.mem_append.2 (.inl hb))) fun id hid=>i3 id (List.mem_append.2 (.inl hid))) (g3 I' i1 (fun b hb=>i2 b (List.mem_append.2 (.inr hb))) fun id hid=>i3 id (List.mem_append.2 (.inr hid)))
theorem vM{p:aa→Option (aa×List Id)}(hp:Br w I β F p){cs:List aa}{x}(h:fz p cs=some x){f vs}(hr:aJ w I β f vs cs):x.1.length=cs.length∧∀I':Nat→Prop,(∀b,I b→I' b)→(∀b∈f,I' b)→(∀id∈x.2,∀b∈F id,I' b)→aJ w I' cl [] vs x.1:=by unfold fz at h;split at h;·{rename_i hf;simp at h;subst h;exact⟨rfl,fun I' i1 _ _=>R.qa hr (by simpa[e5]using hf) i1⟩};·exact HO hp h hr
theorem Ms{p:aa→Option (aa×List Id)}(hp:Br w I β F p):∀{rs:Rows}{x},ek (fz p) rs=some x→∀{f vs},aJ w I β f vs rs.flatten→(x.1.length=rs.length∧∀sz,(∀r∈rs,r.length=sz)→∀r∈x.1,r.length=sz)∧∀I':Nat→Prop,(∀b,I b→I' b)→(∀b∈f,I' b)→(∀id∈x.2,∀b∈F id,I' b)→aJ w I' cl [] vs x.1.flatten|[],x,h,f,vs,hr=>by{simp[ek]at h;subst h;obtain⟨rfl,rfl⟩:=hr.gi;exact⟨⟨rfl,fun _ _ _ h=>by cases h⟩,fun _ _ _ _=> .nil⟩}|c::cs,x,h,f,vs,hr=>by simp only[ek,Option.bind_eq_some_iff,Option.map_eq_some_iff]at h;obtain⟨y,hy,z,hz,rfl⟩:=h;rw[List.flatten_cons]at hr;obtain⟨f1,f2,v1,v2,rfl,rfl,h1,h2⟩:=aJ.split hr;obtain⟨l1,g1⟩:=vM hp hy h1;obtain⟨⟨l2,l3⟩,g3⟩:=Ms hp hz h2;refine⟨⟨by simp[l2],fun sz hs r hr=> ?_⟩,fun I' i1 i2 i3=> ?_⟩;·{rcases List.mem_cons.1 hr with rfl|hr;·{rw[l1];exact hs _ (List.mem_cons_self ..)};·exact l3 sz (fun r hr=>hs r (List.mem_cons_of_mem _ hr)) r hr};·have:=(g1 I' i1 (fun b hb=>i2 b (List.mem_append.2 (.inl hb))) fun id hid=>i3 id (List.mem_append.2 (.inl hid))).append (g3 I' i1 (fun b hb=>i2 b (List.mem_append.2 (.inr hb))) fun id hid=>i3 id (List.mem_append.2 (.inr hid)));simpa using this
theorem MC{p:aa→Option (aa×List Id)}(hp:Br w I β F p){rs:Rows}{x}(h:kf p rs=some x){f vs}(hr:aJ w I β f vs rs.flatten):(x.1.length=rs.length∧∀sz,(∀r∈rs,r.length=sz)→∀r∈x.1,r.length=sz)∧∀I':Nat→Prop,(∀b,I b→I' b)→(∀b∈f,I' b)→(∀id∈x.2,∀b∈F id,I' b)→aJ w I' cl [] vs x.1.flatten:=by unfold kf at h;split at h;·{rename_i hf;simp at h;subst h;exact⟨⟨rfl,fun _ h=>h⟩,fun I' i1 _ _=>R.qa hr (by simpa[e5]using J0 _ hf) i1⟩};·exact Ms hp h hr
theorem HT {L : Id → Option (Option Rows)} (hL : ∀ id rows, L id = some (some rows) → fy w I β id rows (F id)) : ∀ n, Br w I β F (bQ L n)
  | 0 => fun a x h => by simp [bQ] at h
  | n + 1 => fun a x h f v hr I' i1 i2 i3 => by
    have ih := HT hL n
    cases a with
    | rs id off len =>
      simp only [bQ] at h
      split at h
      · rename_i rs hid
        split at h
        · rename_i hc
          simp only [Option.map_eq_some_iff] at h
          obtain ⟨y, hy, rfl⟩ := h
          obtain ⟨rfl, hv⟩ := hr.mh
          have FR : len = 0 → y.1 = [] := fun h0 => by
            have := congrArg List.length (show (rs.drop off).take len = [] by rw [h0]; rfl)
            rw [h0, List.take_zero] at hy
            simp [kf, g5] at hy
            rw [← hy]
          rcases hv with ⟨a, l, rfl, rfl, _⟩ | ⟨b', o', sz', Kp, cap, hb', hle', hcap, rfl⟩
          · rw [FR rfl]; exact .gk
          · rcases Nat.eq_zero_or_pos len with h0 | h0
            · subst h0; rw [FR rfl]; exact .gk
            · rcases hL id rs hid with ⟨hb, rfl, hF⟩ | ⟨bm, hb, _⟩ | ⟨b, o, sz, n', vs, cH, hb, hF, sB, ⟨hne, hsz⟩, hle, b8, hrl⟩
              · simp at hc; omega
              · rw [hb] at hb'; cases hb'
              · rw [hb] at hb'
                simp only [Option.some.injEq, Loc.cT.injEq] at hb'
                obtain ⟨rfl, rfl, rfl, rfl⟩ := hb'
                have hsp : rs.flatten = (rs.take off).flatten ++ (((rs.drop off).take len).flatten ++ ((rs.drop off).drop len).flatten) := by
                  rw [← Fs (rs.drop off) len, ← Fs rs off]
                rw [hsp] at hrl
                obtain ⟨f1, f23, v1, Sj, rfl, rfl, h1, h23⟩ := aJ.split hrl
                obtain ⟨f2, f3, v2, v3, rfl, rfl, h2, h3⟩ := aJ.split h23
                have Dh := h1.length
                rw [kj (sz := sz) (fun r hr => hsz r (List.mem_of_mem_take hr)), List.length_take, Nat.min_eq_left (by omega)] at Dh
                obtain ⟨⟨l1, l2⟩, g⟩ := MC ih hy h2
                have lf : y.1.length = len := by rw [l1, List.length_take, List.length_drop]; omega
                have hin : ∀ x ∈ F id, I' x := i3 id (List.mem_cons_self ..)
                have g' := g I' i1 (fun x hx => hin x (by rw [hF]; simp [hx])) fun id hid => i3 id (List.mem_cons_of_mem _ hid)
                have wB : e4 w b (o + off * sz) v2 := by
                  have := (b8.drop v1.length).take v2.length
                  rw [List.drop_left, List.take_left, Dh] at this
                  exact this
                have := R.sl (β := cl) (cap := cap) (l2 sz fun r hr => hsz r (List.mem_of_mem_drop (List.mem_of_mem_take hr))) (hin b (by rw [hF]; simp)) wB (by omega) g'
                rw [lf] at this
                exact this
        · cases h
      · cases h
    | mp id row off =>
      simp only [bQ] at h
      split at h
      · rename_i rs hid
        split at h
        · rename_i r hrow
          split at h
          · rename_i hoff
            simp only [Option.map_eq_some_iff] at h
            obtain ⟨y, hy, rfl⟩ := h
            obtain ⟨rfl, b', o', sz', n', hb', rfl⟩ := hr.oS
            rcases hL id rs hid with ⟨hb, h0, hF⟩ | ⟨bm, hb, _⟩ | ⟨b, o, sz, n', vs, cH, hb, hF, sB, ⟨hne, hsz⟩, hle, b8, hrl⟩
            · subst h0; simp at hrow
            · rw [hb] at hb'; cases hb'
            · rw [hb] at hb'
              simp only [Option.some.injEq, Loc.cT.injEq] at hb'
              obtain ⟨rfl, rfl, rfl, rfl⟩ := hb'
              obtain ⟨hsp, hlt⟩ := KS hrow
              have OV : r.length = sz := hsz r (List.mem_of_getElem? hrow)
              have hsp : rs.flatten = ((rs.take row).flatten ++ r.take off) ++ (r.drop off ++ (rs.drop (row + 1)).flatten) := by
                have e : r.take off ++ (r.drop off ++ (rs.drop (row + 1)).flatten) = r ++ (rs.drop (row + 1)).flatten := by rw [← List.append_assoc, List.take_append_drop]
                rw [List.append_assoc, e]
                conv => lhs; rw [hsp]
                simp
              rw [hsp] at hrl
              obtain ⟨f1, f23, v1, Sj, rfl, rfl, h1, h23⟩ := aJ.split hrl
              obtain ⟨f2, f3, v2, v3, rfl, rfl, h2, h3⟩ := aJ.split h23
              have Dh := h1.length
              rw [List.length_append, kj (sz := sz) (fun r hr => hsz r (List.mem_of_mem_take hr)), List.length_take, List.length_take, Nat.min_eq_left (by omega), Nat.min_eq_left hoff] at Dh
              obtain ⟨_, g⟩ := vM ih hy h2
              have hin : ∀ x ∈ F id, I' x := i3 id (List.mem_cons_self ..)
              have g' := g I' i1 (fun x hx => hin x (by rw [hF]; simp [hx])) fun id hid => i3 id (List.mem_cons_of_mem _ hid)
              have wB : e4 w b (o + row * sz + off) v2 := by
                have := (b8.drop v1.length).take v2.length
                rw [List.drop_left, List.take_left, Dh, ← Nat.add_assoc] at this
                exact this
              exact .au (hin b (by rw [hF]; simp)) wB g'
          · cases h
        · cases h
      · cases h
    | cN =>
      simp only [bQ, Option.some.injEq] at h; subst h
      obtain ⟨rfl, a, rfl⟩ := hr.xZ
      exact .gk
    | agg cs =>
      simp only [bQ, Option.map_eq_some_iff] at h
      obtain ⟨y, hy, rfl⟩ := h
      obtain ⟨vs, rfl, hl⟩ := hr.qG
      exact (vM ih hy hl).2 I' i1 i2 i3
    | b9 cs =>
      simp only [bQ, Option.map_eq_some_iff] at h
      obtain ⟨y, hy, rfl⟩ := h
      obtain ⟨vs, rfl, hl⟩ := hr.Es
      exact .b9 ((vM ih hy hl).2 I' i1 i2 i3)
    | fn k a b =>
      simp only [bQ, Option.map_eq_some_iff, Option.bind_eq_some_iff] at h
      obtain ⟨y, hy, z, hz, rfl⟩ := h
      obtain ⟨rfl, vs, cs, rfl, h1, h2⟩ := hr.vZ
      exact .fn ((vM ih hy h1).2 I' i1 (fun _ h => by cases h) fun id hid => i3 id (List.mem_append.2 (.inl hid))) ((vM ih hz h2).2 I' i1 (fun _ h => by cases h) fun id hid => i3 id (List.mem_append.2 (.inr hid)))
    | dj g y =>
      simp only [bQ, Option.some.injEq] at h; subst h
      exact .bX
    | own rs len =>
      simp only [bQ, Option.map_eq_some_iff] at h
      obtain ⟨y, hy, rfl⟩ := h
      cases hr with
      | iV =>
        have : y = ([], []) := by simpa [kf, g5] using hy.symm
        subst this; exact .gk
      | jL _ _ _ _ _ _ =>
        have : y = ([], []) := by simpa [kf, g5] using hy.symm
        subst this; exact .gk
      | @own _ b o sz cap n len cH ia _ g0 g1 g2 g3 g4 fV gM =>
        rw [Fs rs len] at gM
        obtain ⟨f1, f2, v1, v2, rfl, rfl, h1, h2⟩ := aJ.split gM
        obtain ⟨⟨l1, l2⟩, g⟩ := MC ih hy h1
        have g' := g I' i1 (fun b hb => i2 b (List.mem_cons_of_mem _ (List.mem_append.2 (.inl hb)))) i3
        have I2 : e4 w b o v1 := by
          have := fV.take v1.length
          rwa [List.take_left] at this
        have lf : y.1.length = len := by rw [l1, List.length_take]; omega
        have := R.sl (β := cl) (cap := cap) (l2 sz fun r hr => g1 r (List.mem_of_mem_take hr)) (i2 b (List.mem_cons_self ..)) I2 (by omega) g'
        rw [lf] at this
        exact this
    | aH cs =>
      simp only [bQ, Option.map_eq_some_iff] at h
      obtain ⟨y, hy, rfl⟩ := h
      cases hr with
      | @aH _ b o n cH ia _ g2 g3 fV gM =>
        obtain ⟨_, g⟩ := vM ih hy gM
        exact .au (i2 b (List.mem_cons_self ..)) fV (g I' i1 (fun b hb => i2 b (List.mem_cons_of_mem _ hb)) i3)
    | val u =>
      simp only [bQ, Option.some.injEq] at h; subst h
      exact hr.qa rfl i1
    | nn =>
      simp only [bQ, Option.some.injEq] at h; subst h
      exact hr.qa rfl i1
    | mr id =>
      simp only [bQ] at h
      split at h
      · rename_i rs hid
        simp only [Option.some.injEq] at h; subst h
        obtain ⟨rfl, b, hb', rfl⟩ := hr.Dm
        rcases hL id rs hid with ⟨hb, _⟩ | ⟨b2, hb, hF, hm⟩ | ⟨b2, o, sz, n', vs, cH, hb, _⟩
        · rw [hb] at hb'; cases hb'
        · rw [hb] at hb'; cases hb'
          exact .im (i3 id (List.mem_cons_self ..) b (by rw [hF]; simp)) hm
        · rw [hb] at hb'; cases hb'
      · cases h
    | dW rows =>
      simp only [bQ, Option.some.injEq] at h; subst h
      obtain ⟨b, rfl, rfl, hm⟩ := hr.KF
      exact .im (i2 b (List.mem_cons_self ..)) hm
    | im rows =>
      simp only [bQ, Option.some.injEq] at h; subst h
      exact hr.qa rfl i1
    | sl rows =>
      simp only [bQ, Option.some.injEq] at h; subst h
      exact hr.qa rfl i1
    | au cells =>
      simp only [bQ, Option.some.injEq] at h; subst h
      exact hr.qa rfl i1
    | bX =>
      simp only [bQ, Option.some.injEq] at h; subst h
      exact .bX
/-! ### Nothing but its own -/
theorem Ko:∀rows:Rows,Gf rows=true→lq rows.flatten=true|[],_=>by{simp[lq]}|r::rs,h=>by simp only[Gf,Bool.and_eq_true]at h;have:∀a b:List aa,lq (a++b)=(lq a&&lq b):=fun a b=>by{induction a with|nil=>(simp[lq])|cons c cs ih=>simp[lq,ih,Bool.and_assoc]};rw[List.flatten_cons,this,h.1,Ko rs h.2];rfl
theorem R.mine{f:List Nat}{v:Value}{a:aa}(h:R w I β f v a):mine a=true→∀I':Nat→Prop,R w I' β f v a:=by induction h with|val h=>(intro _ _;exact .val h)|nn=>(intro _ _;exact .nn)|dW h=>(intro _ _;exact .dW h)|cN=>(intro _ _;exact .cN)|nil=>(intro _ _;exact .nil)|cons _ _ ih1 ih2=>(intro hf _;simp only[Ab.mine,lq,Bool.and_eq_true]at hf;exact .cons (ih1 hf.1 _) (ih2 (by simpa[Ab.mine]using hf.2) _))|b9 _ ih=>(intro hf _;exact .b9 (ih (by simpa[Ab.mine]using hf) _))|iV=>(intro _ _;exact .iV)|own h0 h1 h2 h3 h4 h5 _ ih=>(intro hf _;simp only[Ab.mine]at hf;exact .own h0 h1 h2 h3 h4 h5 (ih (by simpa[Ab.mine]using Ko _ hf) _))|jL h0 h1 h2 h3 h5 _ ih=>(intro hf _;simp only[Ab.mine]at hf;exact .jL h0 h1 h2 h3 h5 (ih (by simpa[Ab.mine]using Ko _ hf) _))|aH h1 h2 h3 _ ih=>(intro hf _;simp only[Ab.mine]at hf;exact .aH h1 h2 h3 (ih (by simpa[Ab.mine]using hf) _))|bX=>(intro _ _;exact .bX)|_=>intro hf;simp[Ab.mine]at hf
/-! ### Freezing -/
theorem Yn(a b:List aa):iw (a++b)=iw a++iw b:=by induction a with|nil=>(rfl)|cons c cs ih=>simp[iw,ih]
theorem Yo(a:List aa):(iw a).length=a.length:=by induction a with|nil=>(rfl)|cons c cs ih=>simp[iw,ih]
theorem IA:∀rows:Rows,(gr rows).flatten=iw rows.flatten|[]=>rfl|r::rs=>by simp[gr,Yn,IA rs]
theorem IB:∀rows:Rows,(gr rows).length=rows.length|[]=>rfl|r::rs=>by simp[gr,IB rs]
theorem IC:∀{rows:Rows}{r:List aa},r∈gr rows→∃r'∈rows,r.length=r'.length|[],r,h=>by{simp[gr]at h}|c::rs,r,h=>by simp only[gr,List.mem_cons]at h;rcases h with rfl|h;·{exact⟨c,List.mem_cons_self ..,Yo c⟩};·obtain⟨r',h1,h2⟩:=IC h;exact⟨r',List.mem_cons_of_mem _ h1,h2⟩
theorem R.Yl{β:Id→Option Loc}{f:List Nat}{v:Value}{a:aa}(h:R w I β f v a)(bF:β=cl){I':Nat→Prop}(i1:∀b,I b→I' b):(∀b∈f,I' b)→R w I' cl [] v (eE a):=by induction h with|val h=>(intro _;exact .val h)|nn=>(intro _;exact .nn)|mr h=>(subst bF;cases h)|dW h=>(intro h2;exact .im (h2 _ (List.mem_cons_self ..)) h)|im h1 h2=>(intro _;exact .im (i1 _ h1) h2)|cN=>(intro _;exact .cN)|gk=>(intro _;exact .gk)|sl h1 h2 h3 h4 h5 _=>(intro _;exact .sl h1 (i1 _ h2) h3 h4 (h5.mono i1 (fun _ _=>rfl) (fun _ _ h=>h)))|au h1 h2 h3 _=>(intro _;exact .au (i1 _ h1) h2 (h3.mono i1 (fun _ _=>rfl) (fun _ _ h=>h)))|jx h _=>(subst bF;cases h)|rs h _ _=>(subst bF;cases h)|mp h=>(subst bF;cases h)|fn h1 h2 _ _=>(intro _;subst bF;exact .fn (h1.mono i1 (fun _ _=>rfl) (fun _ _ h=>h)) (h2.mono i1 (fun _ _=>rfl) (fun _ _ h=>h)))|nil=>(intro _;exact .nil)|cons _ _ ih1 ih2=>(intro h;exact R.cons (f1:=[]) (f2:=[]) (ih1 bF fun b hb=>h b (List.mem_append.2 (.inl hb))) (ih2 bF fun b hb=>h b (List.mem_append.2 (.inr hb))))|b9 _ ih=>(intro h;exact .b9 (ih bF h))|iV=>(intro _;exact .gk)|jL _ _ _ _ _ _=>(intro _;simp only[Ab.eE,List.take_zero];exact .gk)| @own _ b o sz cap n len cH ia rows h0 h1 h2 h3 h4 h5 _ ih=>(intro h;have g:=ih bF fun b hb=>h b (List.mem_cons_of_mem _ hb);simp only[Ab.eE]at g⊢;rw[←IA,Fs (gr rows) len]at g;obtain⟨f1,f2,v1,v2,e1,e2,g1,g2⟩:=aJ.split g;obtain rfl:f1=[]:=(List.append_eq_nil_iff.1 e1.symm).1;have I2:e4 w b o v1:=by{rw[e2]at h5;have:=h5.take v1.length;rwa[List.take_left]at this};have hl:((gr rows).take len).length=len:=by{rw[List.length_take,IB];omega};have:=R.sl (w:=w) (β:=cl) (cap:=cap) (o:=o) (rows:=(gr rows).take len) (fun r hr=>by obtain⟨r',m1,m2⟩:=IC (List.mem_of_mem_take hr);rw[m2];exact h1 r' m1) (h b (List.mem_cons_self ..)) I2 (by omega) g1;rw[hl]at this;exact this)|aH h1 h2 h3 _ ih=>(intro h;have g:=ih bF fun b hb=>h b (List.mem_cons_of_mem _ hb);exact .au (h _ (List.mem_cons_self ..)) h3 g)|pW h _=>(intro _;subst bF;exact .pW (h.mono i1 (fun _ _=>rfl) (fun _ _ h=>h)))|pV=>(intro _;exact .pV)|bX=>intro _;exact .bX
theorem R.eE{f:List Nat}{v:Value}{a:aa}(h:R w I cl f v a){I':Nat→Prop}(i1:∀b,I b→I' b)(hf:∀b∈f,I' b):R w I' cl [] v (eE a):=R.Yl h rfl i1 hf
end
end Go.Ab
