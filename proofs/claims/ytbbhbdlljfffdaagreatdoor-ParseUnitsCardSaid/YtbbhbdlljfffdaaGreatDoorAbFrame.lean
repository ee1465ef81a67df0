import Derived.Test.YtbbhbdlljfffdaaGreatDoorAbReg2
open List renaming mem_cons_self->Do,mem_cons_of_mem->Ha,mem_append_left->Hc,mem_append_right->Hk,mem_cons->Hn,not_mem_nil->H0,append_nil->H1,map_congr_left->H2
open Option renaming map_eq_some_iff->GE,bind_eq_some_iff->GT,map_some->Hd,bind_some->Hm
open Option.some renaming injEq->AC
open Prod.mk renaming injEq->Hb
set_option linter.all false
namespace Go.Ab
open Go
variable{L L':Id->Option (Option Rows)}
theorem En:∀{l:List (Id×Option Rows)},(∀x∈l,L' x.1=L x.1)->fresh L' l=fresh L l|[],_=>rfl|x::l,h=>by have ih:=En fun y hy=>h y (Ha _ hy);unfold fresh at ih|-;simp only[List.all_cons,ih,h x (Do ..)]
theorem N7{x:U}{r:Rows×List Id}(h:rowsOf L x=some r)(hh:∀id∈r.2,L' id=L id):rowsOf L' x=some r:=by
 cases x<;>simp only[rowsOf]at h|-<;>try exact h
 rename_i id off len
 split at h
 ·rename_i rs hid
  split at h
  ·rename_i hc
   simp only[AC]at h;subst h
   rw[hh id (by simp),hid]
   simp only[hc,if_true]
  ·cases h
 ·cases h
def s4(p p':(U->Option (U×List Id)))(L L':Id->Option (Option Rows)):Prop:=∀a x,p a=some x->(∀id∈x.2,L' id=L id)->p' a=some x
theorem Ek{p p':U->Option (U×List Id)}(hp:s4 p p' L L'):∀{cs:List U}{x},fF p cs=some x->(∀id∈x.2,L' id=L id)->fF p' cs=some x|[],x,h,_=>h|c::cs,x,h,hh=>by simp only[fF,GT,GE]at h|-;obtain⟨y,hy,z,hz,rfl⟩:=h;exact⟨y,hp _ _ hy fun id hid=>hh id (List.mem_append.2 (.inl hid)),z,Ek hp hz fun id hid=>hh id (List.mem_append.2 (.inr hid)),rfl⟩
theorem yU{p p':U->Option (U×List Id)}(hp:s4 p p' L L'){cs:List U}{x}(h:lS p cs=some x)(hh:∀id∈x.2,L' id=L id):lS p' cs=some x:=by unfold lS at h|-;split at h;·{rename_i hc;simpa[hc]using h};·rename_i hc;simp only[hc];exact Ek hp h hh
theorem Ro{p p':U->Option (U×List Id)}(hp:s4 p p' L L'):∀{rs:Rows}{x},fW (lS p) rs=some x->(∀id∈x.2,L' id=L id)->fW (lS p') rs=some x|[],x,h,_=>h|c::cs,x,h,hh=>by simp only[fW,GT,GE]at h|-;obtain⟨y,hy,z,hz,rfl⟩:=h;exact⟨y,yU hp hy fun id hid=>hh id (List.mem_append.2 (.inl hid)),z,Ro hp hz fun id hid=>hh id (List.mem_append.2 (.inr hid)),rfl⟩
theorem Qj{p p':U->Option (U×List Id)}(hp:s4 p p' L L'){rs:Rows}{x}(h:qJ p rs=some x)(hh:∀id∈x.2,L' id=L id):qJ p' rs=some x:=by unfold qJ at h|-;split at h;·{rename_i hc;simpa[hc]using h};·rename_i hc;simp only[hc];exact Ro hp h hh
theorem Kt:∀n,s4 (dh L n) (dh L' n) L L'|0=>fun a x h=>by{simp[dh]at h}|n+1=>fun a x h hh=>by have ih:=Kt n;cases a with|rs id off len=>(simp only[dh]at h|-;split at h;·{rename_i rs hid;split at h;·{rename_i hc;simp only[GE]at h;obtain⟨y,hy,rfl⟩:=h;rw[hh id (Do ..),hid];simp only[hc,if_true,Qj ih hy fun id hid=>hh id (Ha _ hid),Hd]};·cases h};·cases h)|mp id row off=>(simp only[dh]at h|-;split at h;·{rename_i rs hid;split at h;·{rename_i r hrow;split at h;·{rename_i hoff;simp only[GE]at h;obtain⟨y,hy,rfl⟩:=h;rw[hh id (Do ..),hid];simp only[hrow,hoff,if_true,yU ih hy fun id hid=>hh id (Ha _ hid),Hd]};·cases h};·cases h};·cases h)|agg cs=>(simp only[dh,GE]at h|-;obtain⟨y,hy,rfl⟩:=h;exact⟨y,yU ih hy hh,rfl⟩)|aL cs=>(simp only[dh,GE]at h|-;obtain⟨y,hy,rfl⟩:=h;exact⟨y,yU ih hy hh,rfl⟩)|fn k a b=>(simp only[dh,GE,GT]at h|-;obtain⟨y,hy,z,hz,rfl⟩:=h;exact⟨y,yU ih hy fun id hid=>hh id (List.mem_append.2 (.inl hid)),z,yU ih hz fun id hid=>hh id (List.mem_append.2 (.inr hid)),rfl⟩)|own rs=>(simp only[dh,GE]at h|-;obtain⟨y,hy,rfl⟩:=h;exact⟨y,Qj ih hy hh,rfl⟩)|bh cs=>(simp only[dh,GE]at h|-;obtain⟨y,hy,rfl⟩:=h;exact⟨y,yU ih hy hh,rfl⟩)|cI=>(simpa only[dh]using h)|dV g y=>(simpa only[dh]using h)|val u=>(simpa only[dh]using h)|nn=>(simpa only[dh]using h)|mr id=>(simp only[dh]at h|-;split at h;·{rename_i rs hid;simp only[AC]at h;subst h;rw[hh id (Do ..),hid]};·cases h)|fH rs=>(simpa only[dh]using h)|im rs=>(simpa only[dh]using h)|sl rows=>(simpa only[dh]using h)|bD cells=>(simpa only[dh]using h)|aT i rs=>(simpa only[dh]using h)|az u=>(simpa only[dh]using h)|aW=>simpa only[dh]using h
theorem Jg{p p':U->Option (U×List Id)}(hp:s4 p p' L L'){cs:List U}{x}(h:kn p cs=some x)(hh:∀id∈x.2,L' id=L id):kn p' cs=some x:=by unfold kn at h|-;split at h;·{rename_i hc;simpa[hc]using h};·rename_i hc;simp only[hc];exact Ek hp h hh
theorem T3{p p':U->Option (U×List Id)}(hp:s4 p p' L L'):∀{rs:Rows}{x},fW (kn p) rs=some x->(∀id∈x.2,L' id=L id)->fW (kn p') rs=some x|[],x,h,_=>h|c::cs,x,h,hh=>by simp only[fW,GT,GE]at h|-;obtain⟨y,hy,z,hz,rfl⟩:=h;exact⟨y,Jg hp hy fun id hid=>hh id (List.mem_append.2 (.inl hid)),z,T3 hp hz fun id hid=>hh id (List.mem_append.2 (.inr hid)),rfl⟩
theorem T5{p p':U->Option (U×List Id)}(hp:s4 p p' L L'){rs:Rows}{x}(h:ru p rs=some x)(hh:∀id∈x.2,L' id=L id):ru p' rs=some x:=by unfold ru at h|-;split at h;·{rename_i hc;simpa[hc]using h};·rename_i hc;simp only[hc];exact T3 hp h hh
theorem Ax:∀n,s4 (pk L n) (pk L' n) L L'|0=>fun a x h=>by{simp[pk]at h}|n+1=>fun a x h hh=>by have ih:=Ax n;cases a with|rs id off len=>(simp only[pk]at h|-;split at h;·{rename_i rs hid;split at h;·{rename_i hc;simp only[GE]at h;obtain⟨y,hy,rfl⟩:=h;rw[hh id (Do ..),hid];simp only[hc];rw[T5 ih (by simpa using hy) fun id hid=>hh id (Ha _ hid)];rfl};·cases h};·cases h)|mp id row off=>(simp only[pk]at h|-;split at h;·{rename_i cs hid;split at h;·{rename_i hc;simp only[GE]at h;obtain⟨y,hy,rfl⟩:=h;rw[hh id (Do ..),hid];simp only[hc];rw[Jg ih hy fun id hid=>hh id (Ha _ hid)];rfl};·cases h};·cases h)|agg cs=>(simp only[pk,GE]at h|-;obtain⟨y,hy,rfl⟩:=h;exact⟨y,Jg ih hy hh,rfl⟩)|aL cs=>(simp only[pk,GE]at h|-;obtain⟨y,hy,rfl⟩:=h;exact⟨y,Jg ih hy hh,rfl⟩)|fn k a b=>(simpa only[pk]using h)|own rs=>(simpa only[pk]using h)|bh cs=>(simpa only[pk]using h)|cI=>(simpa only[pk]using h)|dV g y=>(simpa only[pk]using h)|val u=>(simpa only[pk]using h)|nn=>(simpa only[pk]using h)|mr id=>(simp only[pk]at h|-;split at h;·{rename_i rs hid;simp only[AC]at h;subst h;rw[hh id (Do ..),hid]};·cases h)|fH rs=>(simpa only[pk]using h)|im rs=>(simpa only[pk]using h)|sl rows=>(simpa only[pk]using h)|bD cells=>(simpa only[pk]using h)|aT i rs=>(simpa only[pk]using h)|az u=>(simpa only[pk]using h)|aW=>simpa only[pk]using h
theorem NP(o:Oper)(v:U)(rd:List Id)(wr:List (Id×Option Rows)):(put o v rd wr).wr=wr:=rfl
section
variable{C:aF}{f:FuncId}{call:FuncId->List U->Option (U×List U)}{S S':aj}{o:Oper}{e:bn}
def Agree(S S':aj)(e:bn):Prop:=∀id,(id∈e.rd∨∃x∈e.wr,x.1=id)->S'.h id=S.h id
theorem acT{t:TypeId}(he:uJ C f S o t=some e)(hh:Agree S S' e):uJ C f S' o t=some e:=by
 unfold uJ at he|-
 split at he
 ·rename_i cs d h1 h2
  split at he
  ·simp only[AC]at he;subst he
   rename_i hf
   try rw[h1,h2]
   simp only[hh [d] (.inr ⟨_,Do ..,rfl⟩),hf,if_true]
  ·cases he
 ·cases he
theorem acV{t:TypeId}{x:U}(he:rW C f S o t x=some e)(hh:Agree S S' e):rW C f S' o t x=some e:=by unfold rW at he|-;split at he;·{rename_i b d h1 h2;split at he;·{rename_i cs hcs;split at he;·{rename_i hz;rw[if_pos hz];exact he};·rename_i hz;rw[if_neg hz];split at he;·{rename_i hf;simp only[AC]at he;subst he;rw[hh [d] (.inr ⟨_,Do ..,rfl⟩),if_pos hf]};·cases he};·cases he};·cases he
theorem acX{t:TypeId}{n:Nat}{ps:List (Nat×U)}(he:uL C f S o t n ps=some e)(hh:Agree S S' e):uL C f S' o t n ps=some e:=by
 unfold uL at he|-
 split at he
 ·rename_i el d h1 h2
  split at he
  ·rename_i z b k hz hb hk
   split at he
   ·rename_i hc
    try rw[if_pos hc]
    split at he
    ·rename_i rows hr
     try rw[hr]
     split at he
     ·rename_i hfz
      rw[if_pos hfz];exact he
     ·rename_i hfz
      rw[if_neg hfz]
      split at he
      ·rename_i hf
       simp only[AC]at he;subst he
       rw[hh [d] (.inr ⟨_,Do ..,rfl⟩),if_pos hf]
      ·cases he
    ·cases he
   ·cases he
  ·cases he
 ·cases he
theorem acW{t:TypeId}{n:Nat}{ps:List (Nat×U)}(he:rX C f S o t n ps=some e)(hh:Agree S S' e):rX C f S' o t n ps=some e:=by unfold rX at he|-;split at he;·{rename_i hc;rw[if_pos hc];unfold D8 at he|-;split at he;·{rename_i rows d h1 h2;split at he;·{rename_i bQ ids hp;split at he;·{rename_i hn;simp only[AC]at he;subst he;have:ru (pk S'.h 8) rows=some (bQ,ids):=T5 (Ax 8) hp fun id hid=>hh id (.inl hid);simp only[h1,h2,this,hn,if_true]};·cases he};·cases he};·cases he};·rename_i hc;rw[if_neg hc];exact acX he hh
theorem ac7{t:TypeId}{x y:U}(he:uN C S o t x y=some e)(hh:Agree S S' e):uN C S' o t x y=some e:=by
 unfold uN at he|-
 split at he
 ·rename_i el d l c h1 h2 h3 h4
  split at he
  ·rename_i z i hz hi
   split at he
   ·rename_i hc
    simp only[AC]at he;subst he
    try rw[h1,h2,h3,h4]
    try simp only[hz,hi]
    rw[hh [d] (.inr ⟨_,Do ..,rfl⟩),if_pos hc]
   ·cases he
  ·cases he
 ·cases he
theorem ac8{t:TypeId}{r:Option Operand}(he:y8 C S o t r=some e)(hh:Agree S S' e):y8 C S' o t r=some e:=by simp[y8,pE]at he
theorem ac6{t:TypeId}{x k:U}{ok:Bool}(he:y7 C S o t x k ok=some e)(hh:Agree S S' e):y7 C S' o t x k ok=some e:=by simp[y7,pE]at he
theorem Ru{t:TypeId}{x k v:U}(he:uO C S o t x k v=some e)(hh:Agree S S' e):uO C S' o t x k v=some e:=by simp[uO,pE]at he
theorem ac9{t:TypeId}{x:U}{lo hi:Option (Option Int)}(he:rZ C S o t x lo hi=some e)(hh:Agree S S' e):rZ C S' o t x lo hi=some e:=by
 unfold rZ at he|-
 split at he
 ·rename_i el hu
  try rw[hu]
  try simp only
  split at he
  ·exact he
  ·rename_i id off len sz hs
   try rw[hs]
   try simp only
   split at he
   ·rename_i rows hid
    have hrd:id∈e.rd:=by
     simp only[GT]at he
     obtain⟨b,_,he⟩:=he
     split at he
     ·simp only[AC]at he;subst he;simp[put]
     ·cases he
    rw[hh id (.inl hrd),hid]
    exact he
   ·cases he
  ·cases he
 ·rename_i hu;try rw[hu]
  exact he
 ·cases he
theorem ac2{t:TypeId}{x:U}{i:Option Int}(he:pY C S o t x i=some e)(hh:Agree S S' e):pY C S' o t x i=some e:=by
 unfold pY at he|-
 split at he
 ·rename_i el i' hu
  try rw[hu]
  try simp only
  split at he
  ·rename_i hs;try rw[hs]
   exact he
  ·rename_i n id off len hs
   try rw[hs]
   try simp only
   split at he
   ·rename_i hc
    rw[if_pos hc]
    split at he
    ·rename_i rows hid
     have hrd:id∈e.rd:=by
      simp only[GT]at he
      obtain⟨b,_,he⟩:=he
      split at he
      ·simp only[AC]at he;subst he;simp[put]
      ·cases he
     rw[hh id (.inl hrd),hid]
     exact he
    ·cases he
   ·cases he
  ·cases he
 ·rename_i hu;try rw[hu]
  exact he
 ·cases he
theorem ac4{t:TypeId}{x:U}(he:mZ C S o t x=some e)(hh:Agree S S' e):mZ C S' o t x=some e:=by
 unfold mZ at he|-
 split at he
 ·rename_i b n h1 h2
  try rw[h1,h2]
  try simp only
  split at he
  ·exact he
  ·rename_i id row off
   split at he
   ·rename_i rows hid
    obtain⟨r,hr,he⟩:=Option.bind_eq_some_iff.1 he
    split at he
    ·rename_i hc
     split at he
     ·rename_i hem
      have hrd:id∈e.rd:=by
       obtain⟨v,_,he⟩:=Option.map_eq_some_iff.1 he
       subst he;simp[put]
      rw[hh id (.inl hrd),hid]
      simp only[hr,Hm,hc,if_true,hem]
      exact he
     ·rename_i hem
      split at he
      ·rename_i hf
       have aeC:=he
       obtain⟨v,_,he⟩:=Option.map_eq_some_iff.1 he
       have hrd:id∈e.rd:=by subst he;simp[put]
       have hwr:∀x∈(cc (j9 o) 0 ((r.drop off).take n)).2,S'.h x.1=S.h x.1:=fun x hx=>hh x.1 (.inr ⟨x,by subst he;simp[put,hx],rfl⟩)
       rw[hh id (.inl hrd),hid]
       simp only[hr,Hm,hc,if_true,hem,En hwr,hf]
       exact aeC
      ·cases he
    ·cases he
   ·cases he
  ·cases he
 ·cases he
theorem ada{t:TypeId}{ao:Operand}{x y:U}(he:p0 C f S true o t ao x y=some e)(hh:Agree S S' e):p0 C f S' true o t ao x y=some e:=by
 unfold p0 at he|-
 split at he
 ·rename_i b n h1 h2
  try rw[h1,h2]
  try simp only
  split at he
  ·rename_i id row off cs hcs
   try rw[hcs]
   try simp only
   split at he
   ·cases he
   ·rename_i hl
    rw[if_neg hl]
    split at he
    ·rename_i rows hid
     have hrd:id∈e.rd:=by
      obtain⟨r,hr,he⟩:=Option.bind_eq_some_iff.1 he
      split at he
      ·split at he
       ·split at he
        ·simp only[AC]at he;subst he;simp
        ·cases he
       ·split at he
        ·simp only[AC]at he;subst he;simp[put]
        ·cases he
      ·cases he
     rw[hh id (.inl hrd),hid]
     exact he
    ·cases he
  ·cases he
 ·cases he
theorem adf{e1:bn}(h:r0 C f o e1=some e)(hh:Agree S S' e):Agree S S' e1:=by unfold r0 at h;split at h;·{split at h;·{rename_i hw;split at h;·{rename_i hc;obtain⟨rfl,_⟩:=hc;simp only[AC]at h;subst h;intro id hid;refine hh id (hid.imp (fun h=>h) fun⟨x,hx,e⟩=> ?_);rw[hw]at hx;simp only[Hn,H0,or_false]at hx;rcases hx with rfl|rfl;·{exact⟨_,Do ..,e⟩};·exact⟨_,Ha _ (Do ..),e⟩};·cases h};·{rename_i hw;split at h;·{rename_i hc;obtain⟨rfl,_⟩:=hc;simp only[AC]at h;subst h;intro id hid;refine hh id (hid.imp (fun h=>h) fun⟨x,hx,e⟩=> ?_);rw[hw]at hx;simp only[Hn,H0,or_false]at hx;obtain rfl:=hx;exact⟨_,Do ..,e⟩};·cases h};·cases h};·simp only[AC]at h;subst h;exact hh
theorem acU{ts:Array TypeId}{xs:List U}(he:nL C S o ts xs=some e)(hh:Agree S S' e):nL C S' o ts xs=some e:=by
 unfold nL at he|-
 split at he
 ·rename_i x y t el h1 h2
  try rw[h1,h2]
  try simp only
  unfold Bs at he|-
  split at he
  ·rename_i abX d hu hd
   try rw[hu,hd]
   try simp only
   split at he
   ·rename_i i amq i1 ar1 i2 hi hx hy
    split at he
    ·rename_i hc
     unfold oo at he
     have facts:(∀id∈i1++i2,id∈e.rd)∧(∃r,([d],r)∈e.wr):=by
      split at he
      ·split at he
       ·split at he
        ·simp only[AC]at he;subst he
         exact⟨fun id h=>h,_,Ha _ (Do ..)⟩
        ·cases he
       ·cases he
      ·simp only[AC]at he;subst he
       exact⟨fun id h=>h,_,Do ..⟩
      ·cases he
     obtain⟨hrd,r,hwr⟩:=facts
     have ex:=N7 (L':=S'.h) hx fun id hid=>hh id (.inl (hrd id (List.mem_append.2 (.inl hid))))
     have HT:=N7 (L':=S'.h) hy fun id hid=>hh id (.inl (hrd id (List.mem_append.2 (.inr hid))))
     try rw[hi,ex,HT]
     try simp only
     rw[hh [d] (.inr ⟨_,hwr,rfl⟩),if_pos hc]
     unfold oo
     split at he
     ·rename_i id off len
      have hid:id∈i1:=by
       simp only[rowsOf]at hx
       split at hx
       ·split at hx
        ·simp only[AC,Hb]at hx
         rw[<-hx.2];simp
        ·cases hx
       ·cases hx
      try simp only
      rw[hh id (.inl (hrd id (List.mem_append.2 (.inl hid))))]
      exact he
     ·exact he
     ·cases he
    ·cases he
   ·cases he
  ·cases he
 ·rename_i x y t k h1 h2
  try rw[h1,h2]
  try simp only
  unfold Bt at he|-
  split at he
  ·rename_i abX d nn hu hd ae9
   try rw[hu,hd,ae9]
   try simp only
   split at he
   ·rename_i i z amq i1 hi hz hx
    split at he
    ·rename_i hc
     unfold oo at he
     have facts:(∀id∈i1,id∈e.rd)∧(∃r,([d],r)∈e.wr):=by
      split at he
      ·split at he
       ·split at he
        ·simp only[AC]at he;subst he
         exact⟨fun id h=>by simp only[put,H1];exact h,_,Ha _ (Do ..)⟩
        ·cases he
       ·cases he
      ·simp only[AC]at he;subst he
       exact⟨fun id h=>by simp only[put,H1];exact h,_,Do ..⟩
      ·cases he
     obtain⟨hrd,r,hwr⟩:=facts
     have ex:=N7 (L':=S'.h) hx fun id hid=>hh id (.inl (hrd id hid))
     try rw[hi,hz,ex]
     try simp only
     rw[hh [d] (.inr ⟨_,hwr,rfl⟩),if_pos hc]
     unfold oo
     split at he
     ·rename_i id off len
      have hid:id∈i1:=by
       simp only[rowsOf]at hx
       split at hx
       ·split at hx
        ·simp only[AC,Hb]at hx
         rw[<-hx.2];simp
        ·cases hx
       ·cases hx
      try simp only
      rw[hh id (.inl (hrd id hid))]
      exact he
     ·exact he
     ·cases he
    ·cases he
   ·cases he
  ·cases he
 ·cases he
theorem ac3{p:Nat×Nat}{xs:List U}(he:wQ S o p xs=some e)(hh:Agree S S' e):wQ S' o p xs=some e:=by simp[wQ]at he
theorem ac1{ts:Array TypeId}{xs:List U}(he:y6 C S o ts xs=some e)(hh:Agree S S' e):y6 C S' o ts xs=some e:=by simp[y6]at he
theorem ac5{as:List U}(he:zZ S o as=some e)(hh:Agree S S' e):zZ S' o as=some e:=by unfold zZ at he|-;split at he;·{split at he;·{rename_i hc hid;split at he;·{rename_i h2 hk;split at he;·{rename_i hr;split at he;·{rename_i mG;simp only[AC]at he;subst he;have e1:=hh _ (.inl (show _∈[_,_]from Do ..));have e2:=hh _ (.inl (show _∈[_,_]from Ha _ (Do ..)));simp only[hc,e1,hid,e2,h2,hk,hr,mG,and_self,if_true]};·cases he};·cases he};·cases he};·cases he};·cases he
theorem acY{fv:U}{args:List U}(he:tf C f call S o fv args=some e)(hh:Agree S S' e):tf C f call S' o fv args=some e:=by
 unfold tf at he|-
 split at he
 ·rename_i k first caps
  try simp only
  by_cases hlk:C.look k=true
  ·rw[if_pos hlk]at he|-
   exact ac5 he hh
  rw[if_neg hlk]at he|-
  split at he
  ·rename_i as seen d LI bO
   split at he
   ·rename_i r cq
    generalize hr':(if fP C f o.dst=true then ey r else r)=r' at he
    split at he
    ·cases he
    ·rename_i hm
     split at he
     ·rename_i hf
      simp only[AC]at he;subst he
      have hb:tc S'.h (first++args++caps)=some (as,seen):=Ek (Kt 9) LI fun id hid=>hh id (.inl hid)
      have hfr:fresh S'.h (imp [d] r').2=fresh S.h (imp [d] r').2:=En fun x hx=>hh x.1 (.inr ⟨x,hx,rfl⟩)
      rw[hb,bO]
      simp only[cq]
      rw[<-bO,hr',if_neg hm,hfr,if_pos hf]
     ·cases he
   ·cases he
  ·cases he
 ·cases he
theorem Vs:∀{fh:List U}{ms:List Nat}{as:List U}{seen tk eE:List Id},lN S.h ms fh=some (as,seen,tk,eE)->(∀id∈seen,S'.h id=S.h id)->(∀id∈tk++eE,S'.h id=S.h id)->lN S'.h ms fh=some (as,seen,tk,eE)|[],ms,as,seen,tk,eE,hx,_,_=>hx|c::cs,ms,as,seen,tk,eE,hx,h1,h2=>by simp only[lN,GT]at hx|-;obtain⟨⟨ys,s1,t1,bK⟩,hy,hx⟩:=hx;refine⟨(ys,s1,t1,bK), ?_, ?_⟩;·{split at hx<;>·obtain⟨x,hpk,hx⟩:=Option.map_eq_some_iff.1 hx;simp only[Hb]at hx;obtain⟨rfl,rfl,rfl,rfl⟩:=hx;exact Vs hy (fun id hid=>h1 id (by simp[hid])) (fun id hid=>h2 id (by rcases List.mem_append.1 hid with h|h<;>simp[h]))};·split at hx;·{rename_i hm;obtain⟨x,hpk,hx⟩:=Option.map_eq_some_iff.1 hx;simp only[Hb]at hx;obtain⟨rfl,rfl,rfl,rfl⟩:=hx;simp only[hm];rw[Ax 9 _ _ hpk fun id hid=>h2 id (by simp[hid])];rfl};·{rename_i hm;obtain⟨x,hpk,hx⟩:=Option.map_eq_some_iff.1 hx;simp only[Hb]at hx;obtain⟨rfl,rfl,rfl,rfl⟩:=hx;simp only[hm];rw[Ax 9 _ _ hpk fun id hid=>h2 id (by simp[hid])];rfl};·rename_i o9 hm2;obtain⟨x,hpk,hx⟩:=Option.map_eq_some_iff.1 hx;simp only[Hb]at hx;obtain⟨rfl,rfl,rfl,rfl⟩:=hx;rw[Kt 9 _ _ hpk fun id hid=>h1 id (by simp[hid])];rfl
theorem Ux{a b:U}{l:List (Id×Option Rows)}(h:pO S.h a b=some l)(hh:∀x∈l,S'.h x.1=S.h x.1):pO S'.h a b=some l:=by unfold pO at h;split at h;·{rename_i id cs;split at h;·{rename_i old hid;split at h;·{rename_i hc;simp only[AC]at h;subst h;have:=hh _ (Do ..);simp only[pO,this,hid,hc,if_true]};·cases h};·cases h};·{rename_i id n rows;split at h;·{rename_i o1 os hid;split at h;·{rename_i hc;simp only[AC]at h;subst h;have:=hh _ (Do ..);simp only[pO,this,hid];rw[if_pos hc]};·cases h};·{rename_i hid;split at h;·{rename_i hc;simp only[AC]at h;subst h;have:=hh _ (Do ..);simp only[pO,this,hid];rw[if_pos hc]};·cases h};·cases h};·{rename_i id rows;split at h;·{rename_i ya hid;simp only[AC]at h;subst h;have:=hh _ (Do ..);simp only[pO,this,hid]};·cases h};·{cases h};·{cases h};·{cases h};·{cases h};·rename_i g1 g2 g3 g4 _ _ _;simp only[AC]at h;subst h;unfold pO;split<;>first|rfl|exact(g1 _ _ _ rfl).elim|exact(g2 _ _ _ rfl).elim|exact(g3 _ rfl).elim|exact(g4 _ rfl).elim
theorem UA:∀{as bs:List U}{l:List (Id×Option Rows)},nB S.h as bs=some l->(∀x∈l,S'.h x.1=S.h x.1)->nB S'.h as bs=some l|[],[],l,h,_=>h|[],_::_,l,h,_=>by{simp[nB]at h}|_::_,[],l,h,_=>by{simp[nB]at h}|a::as,b::bs,l,h,hh=>by simp only[nB]at h|-;split at h;·{rename_i x y h1 h2;simp only[AC]at h;subst h;rw[Ux h1 fun x hx=>hh x (List.mem_append.2 (.inl hx)),UA h2 fun x hx=>hh x (List.mem_append.2 (.inr hx))]};·cases h
theorem aj4{a b:U}{l:List (Id×Option Rows)}(h:x6 S.h a b=some l)(hh:∀x∈l,S'.h x.1=S.h x.1):x6 S'.h a b=some l:=by unfold x6 at h|-;split at h;·{exact UA h hh};·exact Ux h hh
theorem UD{args:List U}:∀{c4:List Nat}{outs:List U}{l:List (Id×Option Rows)},kq S.h args c4 outs=some l->(∀x∈l,S'.h x.1=S.h x.1)->kq S'.h args c4 outs=some l|[],[],l,h,_=>h|[],_::_,l,h,_=>by{simp[kq]at h}|_::_,[],l,h,_=>by{simp[kq]at h}|j::c4,b::outs,l,h,hh=>by simp only[kq]at h|-;split at h;·{rename_i a y h1 h2;split at h;·{rename_i x h3;simp only[AC]at h;subst h;rw[h1,UD h2 fun x hx=>hh x (List.mem_append.2 (.inr hx))];simp only[aj4 h3 fun x hx=>hh x (List.mem_append.2 (.inl hx))]};·cases h};·cases h
theorem ac0{k:FuncId}{args:List U}(he:tg C f call S o k args=some e)(hh:Agree S S' e):tg C f call S' o k args=some e:=by unfold tg at he|-;split at he;·{rename_i as seen tk eE d htk bO;split at he;·{rename_i r outs cq;generalize hr':(if fP C f o.dst=true then ey r else r)=r' at he;split at he;·{rename_i back iC;split at he;·{rename_i Ik;simp only[AC]at he;subst he;have hw:∀x,(x∈(imp [d] r').2∨x∈back∨x∈(tk++eE).map fun i=>((i,none):Id×Option Rows))->S'.h x.1=S.h x.1:=fun x hx=>hh x.1 (.inr ⟨x,by rw[NP];rcases hx with hx|hx|hx;·{exact List.mem_append.2 (.inl hx)};·{exact List.mem_append.2 (.inr (List.mem_append.2 (.inl hx)))};·exact List.mem_append.2 (.inr (List.mem_append.2 (.inr hx))),rfl⟩);have e1:lN S'.h (C.Cv k) args=some (as,seen,tk,eE):=Vs htk (fun id hid=>hh id (.inl hid)) fun id hid=>hw (id,none) (.inr (.inr (List.mem_map.2 ⟨id,hid,rfl⟩)));have e2:kq S'.h args (C.c4 k) outs=some back:=UD iC fun x hx=>hw x (.inr (.inl hx));have hfr:fresh S'.h (imp [d] r').2=fresh S.h (imp [d] r').2:=En fun x hx=>hw x (.inl hx);rw[e1];simp only[bO];simp only[bO]at hr';simp only[cq,hr',e2,hfr,if_pos Ik]};·cases he};·cases he};·cases he};·cases he
end
open Go
variable{L L':Id->Option (Option Rows)}
section
variable{C:aF}{f:FuncId}{call:FuncId->List U->Option (U×List U)}{S S':aj}{o:Oper}{e:bn}
def tmpsOf(o:Oper):List Nat:=o.op.operands.toList.filterMap fun| .tmp t=>some t|_=>none
theorem aaX{keep:Id->Bool}:s4 (jg L keep) (jg L' keep) L L':=fun a x h hh=>by cases a with|rs i off len=>(simp only[jg]at h|-;split at h;·{rename_i hk;rw[if_pos hk];exact h};·rename_i hk;rw[if_neg hk];exact Ax 8 _ _ h hh)|mp i off len=>(simp only[jg]at h|-;split at h;·{rename_i hk;rw[if_pos hk];exact h};·rename_i hk;rw[if_neg hk];exact Ax 8 _ _ h hh)|mr i=>(simp only[jg]at h|-;split at h;·{rename_i hk;rw[if_pos hk];exact h};·rename_i hk;rw[if_neg hk];exact Ax 8 _ _ h hh)|_=>exact h
theorem Rq{q q':List U->Option (List U×List Id)}(hq:∀r x,q r=some x->(∀id∈x.2,L' id=L id)->q' r=some x):∀{rs:Rows}{x},fW q rs=some x->(∀id∈x.2,L' id=L id)->fW q' rs=some x|[],x,h,_=>h|c::cs,x,h,hh=>by simp only[fW,GT,GE]at h|-;obtain⟨y,hy,z,hz,rfl⟩:=h;exact⟨y,hq _ _ hy fun id hid=>hh id (List.mem_append.2 (.inl hid)),z,Rq hq hz fun id hid=>hh id (List.mem_append.2 (.inr hid)),rfl⟩
theorem aa1{keep:Id->Bool}(r:List U)(x)(hy:mX L keep r=some x)(hh:∀id∈x.2,L' id=L id):mX L' keep r=some x:=by unfold mX at hy|-;split at hy;·{rename_i hc;rw[if_pos hc];exact hy};·rename_i hc;rw[if_neg hc];exact Ek aaX hy hh
theorem aaZ{keep:Id->Bool}{rs:Rows}{x}(h:fW (mX L keep) rs=some x)(hh:∀id∈x.2,L' id=L id):fW (mX L' keep) rs=some x:=Rq aa1 h hh
theorem TB{l:List (Id×Id)}:∀{r:List (Id×Id)}{x},jv L l r=some x->(∀i∈r.map (·.1),L' i=L i)->(∀i∈x.2,L' i=L i)->jv L' l r=some x|[],x,h,_,_=>h|(o,k)::r,x,h,h1,h2=>by simp only[jv]at h|-;rw[h1 o (by simp)];split at h;·{simp only[GT,GE]at h|-;obtain⟨y,hy,bQ,hr,z,hz,rfl⟩:=h;refine⟨y, ?_,bQ,hr,z,TB hz (fun i hi=>h1 i (by simp only[List.map_cons];exact Ha _ hi)) (fun i hi=>h2 i (List.mem_append.2 (.inr hi))),rfl⟩;unfold o3 at hy|-;split at hy;·{rename_i hc;rw[if_pos hc];exact hy};·rename_i hc;rw[if_neg hc];exact aaZ hy fun i hi=>h2 i (List.mem_append.2 (.inl hi))};·cases h
theorem BC:∀(n:Nat)(b:Bool)(p:Id)(j:Nat)(acc:List (Id×Id))(as:List U),∀x∈acc,x∈eF L n b p j acc as|0,_,_,_,_,_,x,hx=>hx|_+1,_,_,_,_,[],x,hx=>hx|n+1,b,p,j,acc,a::as,x,hx=>by unfold eF;apply BC n b p (j+1);cases a with|rs i off len=>(dsimp only;split;exact hx;exact Hc _ hx)|mr i=>(dsimp only;split;exact hx;exact Hc _ hx)|mp i row off=>(dsimp only;split;·{exact hx};·split;·{exact BC n _ _ _ _ _ x (Hc _ hx)};·exact Hc _ hx)|agg cs=>(exact BC n _ _ _ _ _ x hx)|fn k xs cs=>(exact BC n _ _ _ _ _ x hx)|_=>exact hx
theorem abk(n:Nat)(b:Bool)(p:Id)(j:Nat)(acc:List (Id×Id))(a:U)(as:List U):∃l:(Id->Option (Option Rows))->List (Id×Id),∀L,eF L (n+1) b p j acc (a::as)=eF L n b p (j+1) (l L) as∧l L=(match a with| .rs i _ _=>if !b||(iu acc i).isSome then acc else acc++[(i,j::p)]| .mr i=>if !b||(iu acc i).isSome then acc else acc++[(i,j::p)]| .mp i _ _=>if(iu acc i).isSome then acc else(match L i with|some (some [cs])=>eF L n false (j::p) 0 (acc++[(i,j::p)]) cs|_=>acc++[(i,j::p)])| .agg cs=>eF L n b (j::p) 0 acc cs| .fn _ as cs=>eF L n true (j::p) 0 acc (as++cs)|_=>acc):=⟨_,fun L=>⟨by cases a<;>rw[eF]<;>first|rfl|(intros;contradiction)|(intros;rename_i h;cases h),rfl⟩⟩
theorem DZ:∀(n:Nat)(b:Bool)(p:Id)(j:Nat)(acc:List (Id×Id))(as:List U),(∀i∈(eF L n b p j acc as).map (·.1),L' i=L i)->eF L' n b p j acc as=eF L n b p j acc as|0,_,_,_,_,_,_=>rfl|_+1,_,_,_,_,[],_=>rfl|n+1,b,p,j,acc,a::as,h=>by obtain⟨l,hl⟩:=abk n b p j acc a as;rw[(hl L).1]at h|-;rw[(hl L').1];have sub:∀i∈(l L).map (·.1),L' i=L i:=fun i hi=>by{obtain⟨x,hx,rfl⟩:=List.mem_map.1 hi;exact h _ (List.mem_map.2 ⟨x,BC n b p (j+1) _ as x hx,rfl⟩)};have e:l L'=l L:=by{have h1:=(hl L).2;rw[h1]at sub;rw[(hl L').2,h1];clear h1 h hl l;cases a with|mp i row off=>(dsimp only at sub|-;by_cases hs:(iu acc i).isSome=true;·{rw[if_pos hs,if_pos hs]};·rw[if_neg hs]at sub;rw[if_neg hs,if_neg hs];have hi:L' i=L i:=by{refine sub i ?_;split;·{exact List.mem_map.2 ⟨(i,j::p),BC n _ _ _ _ _ _ (Hk _ (List.mem_singleton.2 rfl)),rfl⟩};·exact List.mem_map.2 ⟨(i,j::p),Hk _ (List.mem_singleton.2 rfl),rfl⟩};rw[hi];split;·{rename_i cs hcs;rw[hcs]at sub;exact DZ n false (j::p) 0 _ cs sub};·rfl)|agg cs=>(exact DZ n b (j::p) 0 _ cs sub)|fn k xs cs=>(exact DZ n true (j::p) 0 _ (xs++cs) sub)|_=>rfl};rw[e];exact DZ n b p (j+1) _ as h
theorem Ry{k:FuncId}{args:List U}{x:A9}(h:o8 call L k args=some x)(h1:∀i∈x.l.map (·.1),L' i=L i)(h2:∀i∈x.gone,L' i=L i):o8 call L' k args=some x:=by have hl:x.l=eF L 60 true [ju] 0 [] args:=by{unfold o8 BS at h;split at h;·{split at h;·{split at h;·{obtain⟨back,_,rfl⟩:=Option.map_eq_some_iff.1 h;rfl};·cases h};·cases h};·cases h};obtain⟨obs,outs,ho,_⟩:=BT h;unfold o8 at h|-;rw[DZ 60 true [ju] 0 [] args (by rw[<-hl];exact h1)];unfold BS at h|-;rw[hl]at ho;rw[ho]at h;rw[TB ho (by rw[<-hl];exact h1) h2];exact h
theorem acZ{k:FuncId}{args:List U}(he:qL C f call S o k args=some e)(hh:Agree S S' e):qL C f call S' o k args=some e:=by unfold qL at he|-;simp only[GT]at he|-;obtain⟨x,hx,he⟩:=he;split at he;·{cases he};·rename_i hp;generalize vc:(if fP C f o.dst=true then(if flat x.r=true then ey x.r else .aW)else x.r)=rr at he;split at he;·{rename_i hf;simp only[AC]at he;subst he;have iV:jf S'.h x.back=jf S.h x.back:=by{obtain⟨_,_,_,_,hb,_⟩:=BT hx;have hbk:=(rS hb).1;unfold jf;refine List.filter_congr fun b hb=> ?_;have:S'.h b.1=S.h b.1:=hh b.1 (.inl (by show b.1∈x.l.map (·.1);rw[<-hbk];exact List.mem_map.2 ⟨b,hb,rfl⟩));unfold sU;rw[this]};refine⟨x,Ry hx (fun i hi=>hh i (.inl hi)) (fun i hi=>hh i (.inr ⟨(i,none), ?_,rfl⟩)), ?_⟩;·{simp only[NP];exact Hk _ (Hk _ (List.mem_map.2 ⟨i,hi,rfl⟩))};·rw[if_neg hp];simp only[vc,iV];rw[En (L':=S'.h) (L:=S.h) fun y hy=>hh y.1 (.inr ⟨y,by simp only[NP];exact Hc _ hy,rfl⟩),if_pos hf]};·cases he
theorem Rw(hs:∀t∈tmpsOf o,S'.t t=S.t t){x:Operand}(hx:x∈o.op.operands.toList):S'.get C x=S.get C x:=by cases x with|tmp t=>(exact hs t (List.mem_filterMap.2 ⟨.tmp t,hx,rfl⟩))|_=>rfl
theorem ach(he:bU C f call S true o=some e)(hs:∀t∈tmpsOf o,S'.t t=S.t t)(hh:Agree S S' e):bU C f call S' true o=some e:=by have get:∀x∈o.op.operands.toList,S'.get C x=S.get C x:=fun x hx=>Rw hs hx;have zh:∀xs:List Operand,(∀x∈xs,x∈o.op.operands.toList)->(xs.map fun x=>un true (S'.get C x))=xs.map fun x=>un true (S.get C x):=fun xs h=>H2 fun x hx=>by{rw[get x (h x hx)]};have BR:∀xs:List (Nat×Operand),(∀x∈xs,x.2∈o.op.operands.toList)->(xs.map fun p=>(p.1,un true (S'.get C p.2)))=xs.map fun p=>(p.1,un true (S.get C p.2)):=fun xs h=>H2 fun x hx=>by{rw[get x.2 (h x hx)]};unfold bU at he|-;cases ho:o.op with|move x=>(rw[ho]at he get;simp only[Op.operands]at he get|-;rw[get x (by simp)];exact he)|assign x=>(rw[ho]at he get;simp only[Op.operands]at he get|-;rw[get x (by simp)];exact he)|pick c x y=>(rw[ho]at he get;simp only[Op.operands]at he get|-;rw[get c (by simp),get x (by simp),get y (by simp)];exact he)|alloc t=>(rw[ho]at he;exact acT he hh)|box t x=>(rw[ho]at he get;simp only[Op.operands]at he get|-;rw[get x (by simp)];exact acV he hh)|build t ps=>(rw[ho]at he BR;simp only[Op.operands]at he BR|-;rw[BR ps.toList (fun x hx=>by simp;exact⟨x.1,by simpa using hx⟩)];exact he)|buildSlice t n ps=>(rw[ho]at he BR;simp only[Op.operands]at he BR|-;rw[BR ps.toList (fun x hx=>by simp;exact⟨x.1,by simpa using hx⟩)];exact acW he hh)|load t x=>(rw[ho]at he get;simp only[Op.operands]at he get|-;rw[get x (by simp)];exact ac4 he hh)|store t x y=>(rw[ho]at he get;simp only[Op.operands]at he get|-;rw[get x (by simp),get y (by simp)];exact ada he hh)|nilCheck x=>(rw[ho]at he get;simp only[Op.operands]at he get|-;rw[get x (by simp)];exact he)|binOp op t x y u=>(rw[ho]at he get;simp only[Op.operands]at he get|-;rw[get x (by simp),get y (by simp)];exact he)|unOp op t x=>(rw[ho]at he get;simp only[Op.operands]at he get|-;rw[get x (by simp)];exact he)|convert s t x=>(rw[ho]at he get;simp only[Op.operands]at he get|-;rw[get x (by simp)];exact he)|makeInterface t x=>(rw[ho]at he get;simp only[Op.operands]at he get|-;rw[get x (by simp)];exact he)|makeFunc k xs ys=>(rw[ho]at he zh;simp only[Op.operands]at he zh|-;rw[zh xs.toList (fun x hx=>by simp;exact .inl (by simpa using hx)),zh ys.toList (fun x hx=>by simp;exact .inr (by simpa using hx))];exact he)|makeSlice t x y=>(rw[ho]at he get;simp only[Op.operands]at he get|-;rw[get x (by simp),get y (by simp)];exact ac7 he hh)|slice t x lo hi mx=>(rw[ho]at he get;simp only[Op.operands]at he get|-;split at he;·{cases he};·rename_i hm;rw[if_neg hm,get x (by simp)];have e1:(lo.map fun y=>fA (un true (S'.get C y)))=lo.map fun y=>fA (un true (S.get C y)):=by{cases lo with|none=>(rfl)|some y=>simp only[Hd];rw[get y (by simp)]};have e2:(hi.map fun y=>fA (un true (S'.get C y)))=hi.map fun y=>fA (un true (S.get C y)):=by{cases hi with|none=>(rfl)|some y=>simp only[Hd];rw[get y (by simp)]};rw[e1,e2];exact ac9 he hh)|fieldAddr s x i=>(rw[ho]at he get;simp only[Op.operands]at he get|-;rw[get x (by simp)];exact he)|field s x i=>(rw[ho]at he get;simp only[Op.operands]at he get|-;rw[get x (by simp)];exact he)|indexAddr t x y=>(rw[ho]at he get;simp only[Op.operands]at he get|-;rw[get x (by simp),get y (by simp)];exact ac2 he hh)|index t x y=>(rw[ho]at he get;simp only[Op.operands]at he get|-;rw[get x (by simp),get y (by simp)];exact he)|extract x i=>(rw[ho]at he get;simp only[Op.operands]at he get|-;rw[get x (by simp)];exact he)|typeAssert x xt at_ ok=>(rw[ho]at he get;simp only[Op.operands]at he get|-;rw[get x (by simp)];exact he)|makeMap t r=>(rw[ho]at he;exact ac8 he hh)|lookup t x y ok=>(rw[ho]at he get;simp only[Op.operands]at he get|-;rw[get x (by simp),get y (by simp)];exact ac6 he hh)|mapUpdate t x y z=>(rw[ho]at he get;simp only[Op.operands]at he get|-;rw[get x (by simp),get y (by simp),get z (by simp)];exact Ru he hh)|insert t x y z=>(rw[ho]at he get;simp only[Op.operands]at he get|-;rw[get x (by simp),get y (by simp),get z (by simp)];exact Ru he hh)|call c=>(rw[ho]at he get zh;simp only[Op.operands]at he get zh|-;have hargs:=zh c.args.toList (fun x hx=>by simp only[Call.operands];simp;exact .inr (by simpa using hx));cases hc:c.callee with|builtin b=>(rw[hc]at he;cases b with|len=>(simp only at he|-;rw[hargs];exact he)|append=>(simp only[GT]at he|-;rw[hargs];obtain⟨e1,h1,h2⟩:=he;exact⟨e1,acU h1 (adf h2 hh),h2⟩)|copy=>(simp only at he|-;rw[hargs];exact ac1 he hh)|max=>(simp only at he|-;rw[hargs];exact he)|min=>(simp only at he|-;rw[hargs];exact he)|_=>cases he)|value cW=>(rw[hc]at he;simp only at he|-;rw[get cW (by simp[Call.operands,hc])];split at he;·{rename_i x hx;rw[hargs];exact acZ he hh};rename_i hx;split at he;·{rename_i p hp;rw[hargs];exact ac3 he hh};·rename_i hp;split at he;·{rename_i htk;rw[if_pos htk];cases cW with|func k=>(simp only at he|-;rw[hargs];exact ac0 he hh)|_=>cases he};·rename_i htk;rw[if_neg htk,hargs];exact acY he hh)|invoke r n=>rw[hc]at he;cases he)|_=>rw[ho]at he;cases he
end
end Go.Ab
