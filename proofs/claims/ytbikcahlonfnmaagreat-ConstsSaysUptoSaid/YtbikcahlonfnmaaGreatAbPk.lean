import Derived.Test.YtbikcahlonfnmaaGreatAbOps7
namespace Go.Ab
open Go
theorem ack(a b:List aa):cT (a++b)=(cT a&&cT b):=by induction a with|nil=>(simp[cT])|cons c cs ih=>simp[cT,ih,Bool.and_assoc]
theorem H7:∀rows:Rows,eH rows=true→cT rows.flatten=true|[],_=>by{simp[cT]}|r::rs,h=>by simp only[eH,Bool.and_eq_true]at h;rw[List.flatten_cons,ack,h.1,H7 rs h.2];rfl
section
variable{w:World}{I:Nat→Prop}
theorem R.kG{β:Id→Option Loc}{f:List Nat}{v:Value}{a:aa}(h:R w I β f v a):flat a=true→∀cQ:Id→Option Loc,R w I cQ f v a:=by induction h with|val h=>(intro _ _;exact .val h)|nn=>(intro _ _;exact .nn)|mr _=>(intro hf;simp[flat]at hf)|ez h=>(intro _ _;exact .ez h)|im h1 h2=>(intro _ _;exact .im h1 h2)|cu=>(intro hf;simp[flat]at hf)|gj=>(intro _ _;exact .gj)|sl h1 h2 h3 h4 h5 _=>(intro _ _;exact .sl h1 h2 h3 h4 h5)|aq h1 h2 h3 _=>(intro _ _;exact .aq h1 h2 h3)|ig _ _=>(intro hf;simp[flat]at hf)|rs _ _ _=>(intro hf;simp[flat]at hf)|mp _=>(intro hf;simp[flat]at hf)|fn _ _ ih1 ih2=>(intro hf _;simp only[flat,Bool.and_eq_true]at hf;exact .fn (ih1 (by simpa[flat]using hf.1) _) (ih2 (by simpa[flat]using hf.2) _))|nil=>(intro _ _;exact .nil)|cons _ _ ih1 ih2=>(intro hf _;simp only[flat,cT,Bool.and_eq_true]at hf;exact .cons (ih1 hf.1 _) (ih2 (by simpa[flat]using hf.2) _))|bL _ ih=>(intro hf _;exact .bL (ih (by simpa[flat]using hf) _))|jr=>(intro _ _;exact .jr)|own h0 h1 h2 h3 h4 h5 _ ih=>(intro hf _;simp only[flat]at hf;exact .own h0 h1 h2 h3 h4 h5 (ih (by simpa[flat]using H7 _ hf) _))|kn h0 h1 h2 h3 h5 _ ih=>(intro hf _;simp only[flat]at hf;exact .kn h0 h1 h2 h3 h5 (ih (by simpa[flat]using H7 _ hf) _))|aL h1 h2 h3 _ ih=>(intro hf _;simp only[flat]at hf;exact .aL h1 h2 h3 (ih (by simpa[flat]using hf) _))|q2 _ _=>(intro hf;simp[flat]at hf)|qZ=>(intro hf;simp[flat]at hf)|bz=>intro _ _;exact .bz
def Dl(w:World)(I:Nat→Prop)(β:Id→Option Loc)(F:Id→List Nat)(p:aa→Option (aa×List Id)):Prop:=∀a x,p a=some x→∀f v,R w I β f v a→∃fp rest,R w I cc fp v x.1∧(fp++rest).Perm (f++x.2.flatMap F)
variable{β:Id→Option Loc}{F:Id→List Nat}
theorem sK{k9 r1 jf r2 f1 g1 f2 g2:List Nat}(h1:(k9++r1).Perm (f1++g1))(h2:(jf++r2).Perm (f2++g2)):((k9++jf)++(r1++r2)).Perm ((f1++f2)++(g1++g2)):=by rw[List.perm_iff_count]at h1 h2⊢;intro a;have:=h1 a;have:=h2 a;simp only[List.count_append]at*;omega
theorem Rm{p:aa→Option (aa×List Id)}(hp:Dl w I β F p):∀{cs:List aa}{x},dV p cs=some x→∀{f vs},aG w I β f vs cs→x.1.length=cs.length∧∃fp rest,aG w I cc fp vs x.1∧(fp++rest).Perm (f++x.2.flatMap F)|[],x,h,f,vs,hr=>by{simp[dV]at h;subst h;obtain⟨rfl,rfl⟩:=hr.fO;exact⟨rfl,[],[], .nil,by simp⟩}|c::cs,x,h,f,vs,hr=>by simp only[dV,Option.bind_eq_some_iff,Option.map_eq_some_iff]at h;obtain⟨y,hy,z,hz,rfl⟩:=h;obtain⟨f1,f2,v,vs',rfl,rfl,h1,h2⟩:=hr.cons_inv;obtain⟨k9,r1,g1,g2⟩:=hp _ _ hy _ _ h1;obtain⟨hl,jf,r2,g3,g4⟩:=Rm hp hz h2;refine⟨by simp[hl],k9++jf,r1++r2, .cons g1 g3, ?_⟩;simp only[List.flatMap_append];exact sK g2 g4
theorem Ju{p:aa→Option (aa×List Id)}(hp:Dl w I β F p){cs:List aa}{x}(h:gT p cs=some x){f vs}(hr:aG w I β f vs cs):x.1.length=cs.length∧∃fp rest,aG w I cc fp vs x.1∧(fp++rest).Perm (f++x.2.flatMap F):=by unfold gT at h;split at h;·{rename_i hf;simp at h;subst h;exact⟨rfl,f,[],R.kG hr (by simpa[flat]using hf) _,by simp⟩};·exact Rm hp h hr
theorem Rq{p:aa→Option (aa×List Id)}(hp:Dl w I β F p):∀{rs:Rows}{x},ec (gT p) rs=some x→∀{f vs},aG w I β f vs rs.flatten→(x.1.length=rs.length∧∀sz,(∀r∈rs,r.length=sz)→∀r∈x.1,r.length=sz)∧∃fp rest,aG w I cc fp vs x.1.flatten∧(fp++rest).Perm (f++x.2.flatMap F)|[],x,h,f,vs,hr=>by{simp[ec]at h;subst h;obtain⟨rfl,rfl⟩:=hr.fO;exact⟨⟨rfl,fun _ _ _ h=>by cases h⟩,[],[], .nil,by simp⟩}|c::cs,x,h,f,vs,hr=>by simp only[ec,Option.bind_eq_some_iff,Option.map_eq_some_iff]at h;obtain⟨y,hy,z,hz,rfl⟩:=h;rw[List.flatten_cons]at hr;obtain⟨f1,f2,v1,v2,rfl,rfl,h1,h2⟩:=aG.split hr;obtain⟨l1,k9,r1,g1,g2⟩:=Ju hp hy h1;obtain⟨⟨l2,l3⟩,jf,r2,g3,g4⟩:=Rq hp hz h2;refine⟨⟨by simp[l2],fun sz hs r hr=> ?_⟩,k9++jf,r1++r2,g1.append g3, ?_⟩;·{rcases List.mem_cons.1 hr with rfl|hr;·{rw[l1];exact hs _ (List.mem_cons_self ..)};·exact l3 sz (fun r hr=>hs r (List.mem_cons_of_mem _ hr)) r hr};·simp only[List.flatMap_append];exact sK g2 g4
theorem Uo{p:aa→Option (aa×List Id)}(hp:Dl w I β F p){rs:Rows}{x}(h:lH p rs=some x){f vs}(hr:aG w I β f vs rs.flatten):(x.1.length=rs.length∧∀sz,(∀r∈rs,r.length=sz)→∀r∈x.1,r.length=sz)∧∃fp rest,aG w I cc fp vs x.1.flatten∧(fp++rest).Perm (f++x.2.flatMap F):=by unfold lH at h;split at h;·{rename_i hf;simp at h;subst h;exact⟨⟨rfl,fun _ h=>h⟩,f,[],R.kG hr (by simpa[flat]using H7 _ hf) _,by simp⟩};·exact Rq hp h hr
theorem Ig{α:Type}(rs:List (List α))(n:Nat):rs.flatten=(rs.take n).flatten++(rs.drop n).flatten:=by rw[←List.flatten_append,List.take_append_drop]
theorem v7{L:Id→Option (Option Rows)}(hL:∀id rows,L id=some (some rows)→dU w I β id rows (F id)):∀n,Dl w I β F (pk L n)|0=>fun a x h=>by{simp[pk]at h}|n+1=>fun a x h f v hr=>by have ih:=v7 hL n;cases a with|rs id off len=>(simp only[pk]at h;split at h;·{rename_i rs hid;split at h;·{rename_i hc;simp only[Option.map_eq_some_iff]at h;obtain⟨y,hy,rfl⟩:=h;obtain⟨rfl,hc⟩:=hc;obtain⟨rfl,hv⟩:=hr.nc;rcases hL id rs hid with⟨hb,rfl,hF⟩|⟨bm,hb,_⟩|⟨b,o,sz,n',vs,cG,hb,hF,oJ,⟨hne,hsz⟩,hle,bW,hrl⟩;rotate_left;·{rcases hv with⟨a,l,rfl,rfl,hb',hl⟩|⟨b,o,sz,n',cap,hb',_⟩;·{rw[hb]at hb';cases hb';cases hl};·rw[hb]at hb';cases hb'};rotate_left;·{have hy0:y=([],[]):=by{simpa[lH,eH]using hy.symm};subst hy0;simp only[List.length_nil]at hc;rcases hv with⟨a,l,rfl,rfl,_⟩|⟨b,o,sz,n',cap,hb',_⟩;·{exact⟨[],[], .jr,by simp[hF]⟩};·rw[hb]at hb';cases hb'};·obtain⟨⟨l1,l2⟩,fp,rest,g1,g2⟩:=Uo ih hy hrl;have hlen:0<rs.length:=List.length_pos_iff.2 hne;have SJ:y.1≠[]:=fun e=>by{rw[e]at l1;simp at l1;omega};have EU:((b::fp)++rest).Perm ([]++(id::y.2).flatMap F):=by{rw[List.perm_iff_count]at g2⊢;intro x;have:=g2 x;simp only[List.flatMap_cons,List.nil_append,hF,List.count_append,List.count_cons,List.cons_append]at*;omega};rcases hv with⟨a,l,rfl,rfl,_⟩|⟨b',o',sz',No,cap,hb',hle',hcap,rfl⟩;·{exact⟨b::fp,rest, .kn SJ (l2 sz hsz) oJ (by rw[l1];exact hle) bW g1,EU⟩};·rw[hb]at hb';simp only[Option.some.injEq,Loc.cX.injEq]at hb';obtain⟨rfl,rfl,rfl,rfl⟩:=hb';refine⟨b::fp,rest, ?_,EU⟩;have:=R.own (w:=w) (I:=I) (β:=cc) (cap:=cap) (o:=o) (rows:=y.1) (len:=len) SJ (l2 sz hsz) oJ ⟨by simpa using hle',by rw[l1];exact hle⟩ ⟨by omega,by omega⟩ bW g1;simpa using this};·cases h};·cases h)|mp id row off=>(simp only[pk]at h;split at h;·{rename_i cs hid;split at h;·{rename_i hc;obtain⟨rfl,rfl⟩:=hc;simp only[Option.map_eq_some_iff]at h;obtain⟨y,hy,rfl⟩:=h;obtain⟨rfl,b',o',sz',n',hb',rfl⟩:=hr.oS;rcases hL id [cs] hid with⟨hb,h0,hF⟩|⟨bm,hb,_⟩|⟨b,o,sz,n',vs,cG,hb,hF,oJ,⟨hne,hsz⟩,hle,bW,hrl⟩;·{cases h0};·{rw[hb]at hb';cases hb'};·rw[hb]at hb';simp only[Option.some.injEq,Loc.cX.injEq]at hb';obtain⟨rfl,rfl,rfl,rfl⟩:=hb';simp only[List.flatten_cons,List.flatten_nil,List.append_nil]at hrl;obtain⟨l1,fp,rest,g1,g2⟩:=Ju ih hy hrl;have:=hsz cs (by simp);refine⟨b::fp,rest, ?_, ?_⟩;·{have:=R.aL (w:=w) (I:=I) (β:=cc) (cells:=y.1) oJ (by simp at hle;omega) bW g1;simpa using this};·rw[List.perm_iff_count]at g2⊢;intro x;have:=g2 x;simp only[List.flatMap_cons,List.nil_append,hF,List.count_append,List.count_cons,List.cons_append]at*;omega};·cases h};·cases h)|cu=>(simp only[pk,Option.some.injEq]at h;subst h;obtain⟨rfl,a,rfl⟩:=hr.zS;exact⟨[],[], .jr,by simp⟩)|agg cs=>(simp only[pk,Option.map_eq_some_iff]at h;obtain⟨y,hy,rfl⟩:=h;obtain⟨vs,rfl,hl⟩:=hr.pG;exact(Ju ih hy hl).2)|bL cs=>(simp only[pk,Option.map_eq_some_iff]at h;obtain⟨y,hy,rfl⟩:=h;obtain⟨vs,rfl,hl⟩:=hr.C1;obtain⟨_,fp,rest,g1,g2⟩:=Ju ih hy hl;exact⟨fp,rest, .bL g1,g2⟩)|fn k a b=>(simp only[pk]at h;split at h;·{rename_i hi;simp only[Option.some.injEq]at h;subst h;simp only[Bool.and_eq_true]at hi;obtain⟨rfl,vs,cs,rfl,h1,h2⟩:=hr.qX;exact⟨[],[], .fn (h1.nL hi.1) (h2.nL hi.2),by simp⟩};·cases h)|dz g y=>(simp only[pk,Option.some.injEq]at h;subst h;exact⟨[],f, .bz,by simp⟩)|own rs len=>(simp only[pk]at h;split at h;·{rename_i hf;simp only[Option.some.injEq]at h;subst h;exact⟨f,[],hr.kG (by simpa[flat]using hf) _,by simp⟩};·cases h)|aL cs=>(simp only[pk]at h;split at h;·{rename_i hf;simp only[Option.some.injEq]at h;subst h;exact⟨f,[],hr.kG (by simpa[flat]using hf) _,by simp⟩};·cases h)|val u=>(simp only[pk,Option.some.injEq]at h;subst h;exact⟨f,[],hr.kG rfl _,by simp⟩)|nn=>(simp only[pk,Option.some.injEq]at h;subst h;exact⟨f,[],hr.kG rfl _,by simp⟩)|mr id=>(simp only[pk]at h;split at h;·{rename_i rs hid;simp only[Option.some.injEq]at h;subst h;obtain⟨rfl,b,hb',rfl⟩:=hr.FB;rcases hL id rs hid with⟨hb,_⟩|⟨b2,hb,hF,hm⟩|⟨b2,o,sz,n',vs,cG,hb,_⟩;·{rw[hb]at hb';cases hb'};·{rw[hb]at hb';cases hb';exact⟨[b],[], .ez hm,by simp[hF]⟩};·rw[hb]at hb';cases hb'};·cases h)|ez rows=>(simp only[pk,Option.some.injEq]at h;subst h;exact⟨f,[],hr.kG rfl _,by simp⟩)|im rows=>(simp only[pk,Option.some.injEq]at h;subst h;exact⟨f,[],hr.kG rfl _,by simp⟩)|sl rows=>(simp only[pk,Option.some.injEq]at h;subst h;exact⟨f,[],hr.kG rfl _,by simp⟩)|aq cells=>(simp only[pk,Option.some.injEq]at h;subst h;exact⟨f,[],hr.kG rfl _,by simp⟩)|dL i rs=>(cases hr)|BZ u=>(cases hr)|bz=>simp only[pk,Option.some.injEq]at h;subst h;exact⟨f,[],hr.kG rfl _,by simp⟩
/-! ### Borrowing -/
def De(w:World)(I:Nat→Prop)(β:Id→Option Loc)(F:Id→List Nat)(p:aa→Option (aa×List Id)):Prop:=∀a x,p a=some x→∀f v,R w I β f v a→∀I':Nat→Prop,(∀b,I b→I' b)→(∀b∈f,I' b)→(∀id∈x.2,∀b∈F id,I' b)→R w I' cc [] v x.1
theorem R.p7{f:List Nat}{v:Value}{a:aa}(h:R w I β f v a)(hi:fu a=true){I':Nat→Prop}(hI:∀b,I b→I' b):R w I' cc [] v a:=by have e:=h.MV hi;subst e;exact(h.nL hi).mono hI (fun _ _=>rfl) (fun _ _ h=>h)
theorem KC{p:aa→Option (aa×List Id)}(hp:De w I β F p):∀{cs:List aa}{x},dV p cs=some x→∀{f vs},aG w I β f vs cs→x.1.length=cs.length∧∀I':Nat→Prop,(∀b,I b→I' b)→(∀b∈f,I' b)→(∀id∈x.2,∀b∈F id,I' b)→aG w I' cc [] vs x.1|[],x,h,f,vs,hr=>by{simp[dV]at h;subst h;obtain⟨rfl,rfl⟩:=hr.fO;exact⟨rfl,fun _ _ _ _=> .nil⟩}|c::cs,x,h,f,vs,hr=>by simp only[dV,Option.bind_eq_some_iff,Option.map_eq_some_iff]at h;obtain⟨y,hy,z,hz,rfl⟩:=h;obtain⟨f1,f2,v,vs',rfl,rfl,h1,h2⟩:=hr.cons_inv;obtain⟨hl,g3⟩:=KC hp hz h2;refine⟨by simp[hl],fun I' i1 i2 i3=> ?_⟩;exact R.cons (f1:=[]) (f2:=[]) (hp _ _ hy _ _ h1 I' i1 (fun b hb=>i2 b (List.mem_append.2 (.inl hb))) fun id hid=>i3 id (List.mem_append.2 (.inl hid))) (g3 I' i1 (fun b hb=>i2 b (List.mem_append.2 (.inr hb))) fun id hid=>i3 id (List.mem_append.2 (.inr hid)))
theorem xI{p:aa→Option (aa×List Id)}(hp:De w I β F p){cs:List aa}{x}(h:fM p cs=some x){f vs}(hr:aG w I β f vs cs):x.1.length=cs.length∧∀I':Nat→Prop,(∀b,I b→I' b)→(∀b∈f,I' b)→(∀id∈x.2,∀b∈F id,I' b)→aG w I' cc [] vs x.1:=by unfold fM at h;split at h;·{rename_i hf;simp at h;subst h;exact⟨rfl,fun I' i1 _ _=>R.p7 hr (by simpa[fu]using hf) i1⟩};·exact KC hp h hr
theorem PK{p:aa→Option (aa×List Id)}(hp:De w I β F p):∀{rs:Rows}{x},ec (fM p) rs=some x→∀{f vs},aG w I β f vs rs.flatten→(x.1.length=rs.length∧∀sz,(∀r∈rs,r.length=sz)→∀r∈x.1,r.length=sz)∧∀I':Nat→Prop,(∀b,I b→I' b)→(∀b∈f,I' b)→(∀id∈x.2,∀b∈F id,I' b)→aG w I' cc [] vs x.1.flatten|[],x,h,f,vs,hr=>by{simp[ec]at h;subst h;obtain⟨rfl,rfl⟩:=hr.fO;exact⟨⟨rfl,fun _ _ _ h=>by cases h⟩,fun _ _ _ _=> .nil⟩}|c::cs,x,h,f,vs,hr=>by simp only[ec,Option.bind_eq_some_iff,Option.map_eq_some_iff]at h;obtain⟨y,hy,z,hz,rfl⟩:=h;rw[List.flatten_cons]at hr;obtain⟨f1,f2,v1,v2,rfl,rfl,h1,h2⟩:=aG.split hr;obtain⟨l1,g1⟩:=xI hp hy h1;obtain⟨⟨l2,l3⟩,g3⟩:=PK hp hz h2;refine⟨⟨by simp[l2],fun sz hs r hr=> ?_⟩,fun I' i1 i2 i3=> ?_⟩;·{rcases List.mem_cons.1 hr with rfl|hr;·{rw[l1];exact hs _ (List.mem_cons_self ..)};·exact l3 sz (fun r hr=>hs r (List.mem_cons_of_mem _ hr)) r hr};·have:=(g1 I' i1 (fun b hb=>i2 b (List.mem_append.2 (.inl hb))) fun id hid=>i3 id (List.mem_append.2 (.inl hid))).append (g3 I' i1 (fun b hb=>i2 b (List.mem_append.2 (.inr hb))) fun id hid=>i3 id (List.mem_append.2 (.inr hid)));simpa using this
theorem PW{p:aa→Option (aa×List Id)}(hp:De w I β F p){rs:Rows}{x}(h:k3 p rs=some x){f vs}(hr:aG w I β f vs rs.flatten):(x.1.length=rs.length∧∀sz,(∀r∈rs,r.length=sz)→∀r∈x.1,r.length=sz)∧∀I':Nat→Prop,(∀b,I b→I' b)→(∀b∈f,I' b)→(∀id∈x.2,∀b∈F id,I' b)→aG w I' cc [] vs x.1.flatten:=by unfold k3 at h;split at h;·{rename_i hf;simp at h;subst h;exact⟨⟨rfl,fun _ h=>h⟩,fun I' i1 _ _=>R.p7 hr (by simpa[fu]using MU _ hf) i1⟩};·exact PK hp h hr
theorem KI {L : Id → Option (Option Rows)} (hL : ∀ id rows, L id = some (some rows) → dU w I β id rows (F id)) : ∀ n, De w I β F (bT L n)
  | 0 => fun a x h => by simp [bT] at h
  | n + 1 => fun a x h f v hr I' i1 i2 i3 => by
    have ih := KI hL n
    cases a with
    | rs id off len =>
      simp only [bT] at h
      split at h
      · rename_i rs hid
        split at h
        · rename_i hc
          simp only [Option.map_eq_some_iff] at h
          obtain ⟨y, hy, rfl⟩ := h
          obtain ⟨rfl, hv⟩ := hr.nc
          have EP : len = 0 → y.1 = [] := fun h0 => by
            have := congrArg List.length (show (rs.drop off).take len = [] by rw [h0]; rfl)
            rw [h0, List.take_zero] at hy
            simp [k3, iC] at hy
            rw [← hy]
          rcases hv with ⟨a, l, rfl, rfl, _⟩ | ⟨b', o', sz', No, cap, hb', hle', hcap, rfl⟩
          · rw [EP rfl]; exact .gj
          · rcases Nat.eq_zero_or_pos len with h0 | h0
            · subst h0; rw [EP rfl]; exact .gj
            · rcases hL id rs hid with ⟨hb, rfl, hF⟩ | ⟨bm, hb, _⟩ | ⟨b, o, sz, n', vs, cG, hb, hF, oJ, ⟨hne, hsz⟩, hle, bW, hrl⟩
              · simp at hc; omega
              · rw [hb] at hb'; cases hb'
              · rw [hb] at hb'
                simp only [Option.some.injEq, Loc.cX.injEq] at hb'
                obtain ⟨rfl, rfl, rfl, rfl⟩ := hb'
                have hsp : rs.flatten = (rs.take off).flatten ++ (((rs.drop off).take len).flatten ++ ((rs.drop off).drop len).flatten) := by
                  rw [← Ig (rs.drop off) len, ← Ig rs off]
                rw [hsp] at hrl
                obtain ⟨f1, f23, v1, VU, rfl, rfl, h1, h23⟩ := aG.split hrl
                obtain ⟨f2, f3, v2, v3, rfl, rfl, h2, h3⟩ := aG.split h23
                have Fw := h1.length
                rw [k8 (sz := sz) (fun r hr => hsz r (List.mem_of_mem_take hr)), List.length_take, Nat.min_eq_left (by omega)] at Fw
                obtain ⟨⟨l1, l2⟩, g⟩ := PW ih hy h2
                have l9 : y.1.length = len := by rw [l1, List.length_take, List.length_drop]; omega
                have hin : ∀ x ∈ F id, I' x := i3 id (List.mem_cons_self ..)
                have g' := g I' i1 (fun x hx => hin x (by rw [hF]; simp [hx])) fun id hid => i3 id (List.mem_cons_of_mem _ hid)
                have yg : fo w b (o + off * sz) v2 := by
                  have := (bW.drop v1.length).take v2.length
                  rw [List.drop_left, List.take_left, Fw] at this
                  exact this
                have := R.sl (β := cc) (cap := cap) (l2 sz fun r hr => hsz r (List.mem_of_mem_drop (List.mem_of_mem_take hr))) (hin b (by rw [hF]; simp)) yg (by omega) g'
                rw [l9] at this
                exact this
        · cases h
      · cases h
    | mp id row off =>
      simp only [bT] at h
      split at h
      · rename_i rs hid
        split at h
        · rename_i r hrow
          split at h
          · rename_i hoff
            simp only [Option.map_eq_some_iff] at h
            obtain ⟨y, hy, rfl⟩ := h
            obtain ⟨rfl, b', o', sz', n', hb', rfl⟩ := hr.oS
            rcases hL id rs hid with ⟨hb, h0, hF⟩ | ⟨bm, hb, _⟩ | ⟨b, o, sz, n', vs, cG, hb, hF, oJ, ⟨hne, hsz⟩, hle, bW, hrl⟩
            · subst h0; simp at hrow
            · rw [hb] at hb'; cases hb'
            · rw [hb] at hb'
              simp only [Option.some.injEq, Loc.cX.injEq] at hb'
              obtain ⟨rfl, rfl, rfl, rfl⟩ := hb'
              obtain ⟨hsp, hlt⟩ := N5 hrow
              have Sv : r.length = sz := hsz r (List.mem_of_getElem? hrow)
              have hsp : rs.flatten = ((rs.take row).flatten ++ r.take off) ++ (r.drop off ++ (rs.drop (row + 1)).flatten) := by
                have e : r.take off ++ (r.drop off ++ (rs.drop (row + 1)).flatten) = r ++ (rs.drop (row + 1)).flatten := by rw [← List.append_assoc, List.take_append_drop]
                rw [List.append_assoc, e]
                conv => lhs; rw [hsp]
                simp
              rw [hsp] at hrl
              obtain ⟨f1, f23, v1, VU, rfl, rfl, h1, h23⟩ := aG.split hrl
              obtain ⟨f2, f3, v2, v3, rfl, rfl, h2, h3⟩ := aG.split h23
              have Fw := h1.length
              rw [List.length_append, k8 (sz := sz) (fun r hr => hsz r (List.mem_of_mem_take hr)), List.length_take, List.length_take, Nat.min_eq_left (by omega), Nat.min_eq_left hoff] at Fw
              obtain ⟨_, g⟩ := xI ih hy h2
              have hin : ∀ x ∈ F id, I' x := i3 id (List.mem_cons_self ..)
              have g' := g I' i1 (fun x hx => hin x (by rw [hF]; simp [hx])) fun id hid => i3 id (List.mem_cons_of_mem _ hid)
              have yg : fo w b (o + row * sz + off) v2 := by
                have := (bW.drop v1.length).take v2.length
                rw [List.drop_left, List.take_left, Fw, ← Nat.add_assoc] at this
                exact this
              exact .aq (hin b (by rw [hF]; simp)) yg g'
          · cases h
        · cases h
      · cases h
    | cu =>
      simp only [bT, Option.some.injEq] at h; subst h
      obtain ⟨rfl, a, rfl⟩ := hr.zS
      exact .gj
    | agg cs =>
      simp only [bT, Option.map_eq_some_iff] at h
      obtain ⟨y, hy, rfl⟩ := h
      obtain ⟨vs, rfl, hl⟩ := hr.pG
      exact (xI ih hy hl).2 I' i1 i2 i3
    | bL cs =>
      simp only [bT, Option.map_eq_some_iff] at h
      obtain ⟨y, hy, rfl⟩ := h
      obtain ⟨vs, rfl, hl⟩ := hr.C1
      exact .bL ((xI ih hy hl).2 I' i1 i2 i3)
    | fn k a b =>
      simp only [bT, Option.map_eq_some_iff, Option.bind_eq_some_iff] at h
      obtain ⟨y, hy, z, hz, rfl⟩ := h
      obtain ⟨rfl, vs, cs, rfl, h1, h2⟩ := hr.qX
      exact .fn ((xI ih hy h1).2 I' i1 (fun _ h => by cases h) fun id hid => i3 id (List.mem_append.2 (.inl hid))) ((xI ih hz h2).2 I' i1 (fun _ h => by cases h) fun id hid => i3 id (List.mem_append.2 (.inr hid)))
    | dz g y =>
      simp only [bT, Option.some.injEq] at h; subst h
      exact .bz
    | own rs len =>
      simp only [bT, Option.map_eq_some_iff] at h
      obtain ⟨y, hy, rfl⟩ := h
      cases hr with
      | jr =>
        have : y = ([], []) := by simpa [k3, iC] using hy.symm
        subst this; exact .gj
      | kn _ _ _ _ _ _ =>
        have : y = ([], []) := by simpa [k3, iC] using hy.symm
        subst this; exact .gj
      | @own _ b o sz cap n len cG iF _ g0 g1 g2 g3 g4 fB gh =>
        rw [Ig rs len] at gh
        obtain ⟨f1, f2, v1, v2, rfl, rfl, h1, h2⟩ := aG.split gh
        obtain ⟨⟨l1, l2⟩, g⟩ := PW ih hy h1
        have g' := g I' i1 (fun b hb => i2 b (List.mem_cons_of_mem _ (List.mem_append.2 (.inl hb)))) i3
        have LQ : fo w b o v1 := by
          have := fB.take v1.length
          rwa [List.take_left] at this
        have l9 : y.1.length = len := by rw [l1, List.length_take]; omega
        have := R.sl (β := cc) (cap := cap) (l2 sz fun r hr => g1 r (List.mem_of_mem_take hr)) (i2 b (List.mem_cons_self ..)) LQ (by omega) g'
        rw [l9] at this
        exact this
    | aL cs =>
      simp only [bT, Option.map_eq_some_iff] at h
      obtain ⟨y, hy, rfl⟩ := h
      cases hr with
      | @aL _ b o n cG iF _ g2 g3 fB gh =>
        obtain ⟨_, g⟩ := xI ih hy gh
        exact .aq (i2 b (List.mem_cons_self ..)) fB (g I' i1 (fun b hb => i2 b (List.mem_cons_of_mem _ hb)) i3)
    | val u =>
      simp only [bT, Option.some.injEq] at h; subst h
      exact hr.p7 rfl i1
    | nn =>
      simp only [bT, Option.some.injEq] at h; subst h
      exact hr.p7 rfl i1
    | mr id =>
      simp only [bT] at h
      split at h
      · rename_i rs hid
        simp only [Option.some.injEq] at h; subst h
        obtain ⟨rfl, b, hb', rfl⟩ := hr.FB
        rcases hL id rs hid with ⟨hb, _⟩ | ⟨b2, hb, hF, hm⟩ | ⟨b2, o, sz, n', vs, cG, hb, _⟩
        · rw [hb] at hb'; cases hb'
        · rw [hb] at hb'; cases hb'
          exact .im (i3 id (List.mem_cons_self ..) b (by rw [hF]; simp)) hm
        · rw [hb] at hb'; cases hb'
      · cases h
    | ez rows =>
      simp only [bT, Option.some.injEq] at h; subst h
      obtain ⟨b, rfl, rfl, hm⟩ := hr.NI
      exact .im (i2 b (List.mem_cons_self ..)) hm
    | im rows =>
      simp only [bT, Option.some.injEq] at h; subst h
      exact hr.p7 rfl i1
    | sl rows =>
      simp only [bT, Option.some.injEq] at h; subst h
      exact hr.p7 rfl i1
    | aq cells =>
      simp only [bT, Option.some.injEq] at h; subst h
      exact hr.p7 rfl i1
    | dL i rs => cases hr
    | BZ u => cases hr
    | bz =>
      simp only [bT, Option.some.injEq] at h; subst h
      exact .bz
/-! ### Nothing but its own -/
theorem Nm:∀rows:Rows,Ja rows=true→me rows.flatten=true|[],_=>by{simp[me]}|r::rs,h=>by simp only[Ja,Bool.and_eq_true]at h;have:∀a b:List aa,me (a++b)=(me a&&me b):=fun a b=>by{induction a with|nil=>(simp[me])|cons c cs ih=>simp[me,ih,Bool.and_assoc]};rw[List.flatten_cons,this,h.1,Nm rs h.2];rfl
theorem R.mine{f:List Nat}{v:Value}{a:aa}(h:R w I β f v a):mine a=true→∀I':Nat→Prop,R w I' β f v a:=by induction h with|val h=>(intro _ _;exact .val h)|nn=>(intro _ _;exact .nn)|ez h=>(intro _ _;exact .ez h)|cu=>(intro _ _;exact .cu)|nil=>(intro _ _;exact .nil)|cons _ _ ih1 ih2=>(intro hf _;simp only[Ab.mine,me,Bool.and_eq_true]at hf;exact .cons (ih1 hf.1 _) (ih2 (by simpa[Ab.mine]using hf.2) _))|bL _ ih=>(intro hf _;exact .bL (ih (by simpa[Ab.mine]using hf) _))|jr=>(intro _ _;exact .jr)|own h0 h1 h2 h3 h4 h5 _ ih=>(intro hf _;simp only[Ab.mine]at hf;exact .own h0 h1 h2 h3 h4 h5 (ih (by simpa[Ab.mine]using Nm _ hf) _))|kn h0 h1 h2 h3 h5 _ ih=>(intro hf _;simp only[Ab.mine]at hf;exact .kn h0 h1 h2 h3 h5 (ih (by simpa[Ab.mine]using Nm _ hf) _))|aL h1 h2 h3 _ ih=>(intro hf _;simp only[Ab.mine]at hf;exact .aL h1 h2 h3 (ih (by simpa[Ab.mine]using hf) _))|bz=>(intro _ _;exact .bz)|_=>intro hf;simp[Ab.mine]at hf
/-! ### Freezing -/
theorem acY(a b:List aa):jK (a++b)=jK a++jK b:=by induction a with|nil=>(rfl)|cons c cs ih=>simp[jK,ih]
theorem acZ(a:List aa):(jK a).length=a.length:=by induction a with|nil=>(rfl)|cons c cs ih=>simp[jK,ih]
theorem Lq:∀rows:Rows,(jL rows).flatten=jK rows.flatten|[]=>rfl|r::rs=>by simp[jL,acY,Lq rs]
theorem Lr:∀rows:Rows,(jL rows).length=rows.length|[]=>rfl|r::rs=>by simp[jL,Lr rs]
theorem Ls:∀{rows:Rows}{r:List aa},r∈jL rows→∃r'∈rows,r.length=r'.length|[],r,h=>by{simp[jL]at h}|c::rs,r,h=>by simp only[jL,List.mem_cons]at h;rcases h with rfl|h;·{exact⟨c,List.mem_cons_self ..,acZ c⟩};·obtain⟨r',h1,h2⟩:=Ls h;exact⟨r',List.mem_cons_of_mem _ h1,h2⟩
theorem R.acV{β:Id→Option Loc}{f:List Nat}{v:Value}{a:aa}(h:R w I β f v a)(bK:β=cc){I':Nat→Prop}(i1:∀b,I b→I' b):(∀b∈f,I' b)→R w I' cc [] v (dW a):=by induction h with|val h=>(intro _;exact .val h)|nn=>(intro _;exact .nn)|mr h=>(subst bK;cases h)|ez h=>(intro h2;exact .im (h2 _ (List.mem_cons_self ..)) h)|im h1 h2=>(intro _;exact .im (i1 _ h1) h2)|cu=>(intro _;exact .cu)|gj=>(intro _;exact .gj)|sl h1 h2 h3 h4 h5 _=>(intro _;exact .sl h1 (i1 _ h2) h3 h4 (h5.mono i1 (fun _ _=>rfl) (fun _ _ h=>h)))|aq h1 h2 h3 _=>(intro _;exact .aq (i1 _ h1) h2 (h3.mono i1 (fun _ _=>rfl) (fun _ _ h=>h)))|ig h _=>(subst bK;cases h)|rs h _ _=>(subst bK;cases h)|mp h=>(subst bK;cases h)|fn h1 h2 _ _=>(intro _;subst bK;exact .fn (h1.mono i1 (fun _ _=>rfl) (fun _ _ h=>h)) (h2.mono i1 (fun _ _=>rfl) (fun _ _ h=>h)))|nil=>(intro _;exact .nil)|cons _ _ ih1 ih2=>(intro h;exact R.cons (f1:=[]) (f2:=[]) (ih1 bK fun b hb=>h b (List.mem_append.2 (.inl hb))) (ih2 bK fun b hb=>h b (List.mem_append.2 (.inr hb))))|bL _ ih=>(intro h;exact .bL (ih bK h))|jr=>(intro _;exact .gj)|kn _ _ _ _ _ _=>(intro _;simp only[Ab.dW,List.take_zero];exact .gj)| @own _ b o sz cap n len cG iF rows h0 h1 h2 h3 h4 h5 _ ih=>(intro h;have g:=ih bK fun b hb=>h b (List.mem_cons_of_mem _ hb);simp only[Ab.dW]at g⊢;rw[←Lq,Ig (jL rows) len]at g;obtain⟨f1,f2,v1,v2,e1,e2,g1,g2⟩:=aG.split g;obtain rfl:f1=[]:=(List.append_eq_nil_iff.1 e1.symm).1;have LQ:fo w b o v1:=by{rw[e2]at h5;have:=h5.take v1.length;rwa[List.take_left]at this};have hl:((jL rows).take len).length=len:=by{rw[List.length_take,Lr];omega};have:=R.sl (w:=w) (β:=cc) (cap:=cap) (o:=o) (rows:=(jL rows).take len) (fun r hr=>by obtain⟨r',m1,m2⟩:=Ls (List.mem_of_mem_take hr);rw[m2];exact h1 r' m1) (h b (List.mem_cons_self ..)) LQ (by omega) g1;rw[hl]at this;exact this)|aL h1 h2 h3 _ ih=>(intro h;have g:=ih bK fun b hb=>h b (List.mem_cons_of_mem _ hb);exact .aq (h _ (List.mem_cons_self ..)) h3 g)|q2 h _=>(intro _;subst bK;exact .q2 (h.mono i1 (fun _ _=>rfl) (fun _ _ h=>h)))|qZ=>(intro _;exact .qZ)|bz=>intro _;exact .bz
theorem R.dW{f:List Nat}{v:Value}{a:aa}(h:R w I cc f v a){I':Nat→Prop}(i1:∀b,I b→I' b)(hf:∀b∈f,I' b):R w I' cc [] v (dW a):=R.acV h rfl i1 hf
end
end Go.Ab
