import Derived.Test.YtkmdadjmdgonbaaGreatDoorAbReg2
open Bool renaming true->bv,false->ci
open Option renaming some->ac,none->am
open List renaming mem_cons_self->A0,mem_cons_of_mem->GT,mem_append_left->Ha,mem_append_right->Hc,mem_cons->Hk,not_mem_nil->Hm,append_nil->H1,map_congr_left->H2
open Option renaming map_eq_some_iff->Do,bind_eq_some_iff->GE,map_some->Hb,bind_some->Hd
open Option.some renaming injEq->AC
open Prod.mk renaming injEq->Hn
set_option linter.all false
namespace Go.Ab
open Go
variable{L L':Id->Option (Option Rows)}
theorem G8:∀{l:List (Id×Option Rows)},(∀x∈l,L' x.1=L x.1)->fresh L' l=fresh L l|[],_=>rfl|x::l,h=>by have ih:=G8 λy hy=>h y (GT _ hy);unfold fresh at ih|-;simp only[List.all_cons,ih,h x (A0 ..)]
theorem NM{x:U}{r:Rows×List Id}(h:rowsOf L x=ac r)(hh:∀id∈r.2,L' id=L id):rowsOf L' x=ac r:=by
 cases x<;>simp only[rowsOf]at h|-<;>try exact h
 rename_i id off len
 split at h
 ·rename_i rs hid
  split at h
  ·rename_i hc
   simp only[AC]at h;subst h
   rw[hh id (by simp),hid]
   simp only[hc,if_true]
  ·cases h
 ·cases h
def si(p p':(U->Option (U×List Id)))(L L':Id->Option (Option Rows)):Prop:=∀a x,p a=ac x->(∀id∈x.2,L' id=L id)->p' a=ac x
theorem DG{p p':U->Option (U×List Id)}(hp:si p p' L L'):∀{cs:List U}{x},fe p cs=ac x->(∀id∈x.2,L' id=L id)->fe p' cs=ac x|[],x,h,_=>h|c::cs,x,h,hh=>by simp only[fe,GE,Do]at h|-;obtain⟨y,hy,z,hz,rfl⟩:=h;exact⟨y,hp _ _ hy λid hid=>hh id (List.mem_append.2 (.inl hid)),z,DG hp hz λid hid=>hh id (List.mem_append.2 (.inr hid)),rfl⟩
theorem ya{p p':U->Option (U×List Id)}(hp:si p p' L L'){cs:List U}{x}(h:lA p cs=ac x)(hh:∀id∈x.2,L' id=L id):lA p' cs=ac x:=by unfold lA at h|-;split at h;·{rename_i hc;simpa[hc]using h};·rename_i hc;simp only[hc];exact DG hp h hh
theorem Rw{p p':U->Option (U×List Id)}(hp:si p p' L L'):∀{rs:Rows}{x},fQ (lA p) rs=ac x->(∀id∈x.2,L' id=L id)->fQ (lA p') rs=ac x|[],x,h,_=>h|c::cs,x,h,hh=>by simp only[fQ,GE,Do]at h|-;obtain⟨y,hy,z,hz,rfl⟩:=h;exact⟨y,ya hp hy λid hid=>hh id (List.mem_append.2 (.inl hid)),z,Rw hp hz λid hid=>hh id (List.mem_append.2 (.inr hid)),rfl⟩
theorem Qd{p p':U->Option (U×List Id)}(hp:si p p' L L'){rs:Rows}{x}(h:p4 p rs=ac x)(hh:∀id∈x.2,L' id=L id):p4 p' rs=ac x:=by unfold p4 at h|-;split at h;·{rename_i hc;simpa[hc]using h};·rename_i hc;simp only[hc];exact Rw hp h hh
theorem Qf:∀n,si (cY L n) (cY L' n) L L'|0=>λa x h=>by{simp[cY]at h}|n+1=>λa x h hh=>by have ih:=Qf n;cases a with|rs id off len=>(simp only[cY]at h|-;split at h;·{rename_i rs hid;split at h;·{rename_i hc;simp only[Do]at h;obtain⟨y,hy,rfl⟩:=h;rw[hh id (A0 ..),hid];simp only[hc,if_true,Qd ih hy λid hid=>hh id (GT _ hid),Hb]};·cases h};·cases h)|mp id row off=>(simp only[cY]at h|-;split at h;·{rename_i rs hid;split at h;·{rename_i r hrow;split at h;·{rename_i hoff;simp only[Do]at h;obtain⟨y,hy,rfl⟩:=h;rw[hh id (A0 ..),hid];simp only[hrow,hoff,if_true,ya ih hy λid hid=>hh id (GT _ hid),Hb]};·cases h};·cases h};·cases h)|agg cs=>(simp only[cY,Do]at h|-;obtain⟨y,hy,rfl⟩:=h;exact⟨y,ya ih hy hh,rfl⟩)|aC cs=>(simp only[cY,Do]at h|-;obtain⟨y,hy,rfl⟩:=h;exact⟨y,ya ih hy hh,rfl⟩)|fn k a b=>(simp only[cY,Do,GE]at h|-;obtain⟨y,hy,z,hz,rfl⟩:=h;exact⟨y,ya ih hy λid hid=>hh id (List.mem_append.2 (.inl hid)),z,ya ih hz λid hid=>hh id (List.mem_append.2 (.inr hid)),rfl⟩)|own rs=>(simp only[cY,Do]at h|-;obtain⟨y,hy,rfl⟩:=h;exact⟨y,Qd ih hy hh,rfl⟩)|c8 cs=>(simp only[cY,Do]at h|-;obtain⟨y,hy,rfl⟩:=h;exact⟨y,ya ih hy hh,rfl⟩)|cg=>(simpa only[cY]using h)|dO g y=>(simpa only[cY]using h)|val u=>(simpa only[cY]using h)|nn=>(simpa only[cY]using h)|mr id=>(simp only[cY]at h|-;split at h;·{rename_i rs hid;simp only[AC]at h;subst h;rw[hh id (A0 ..),hid]};·cases h)|fo rs=>(simpa only[cY]using h)|im rs=>(simpa only[cY]using h)|iD vs=>(simpa only[cY]using h)|sl rows=>(simpa only[cY]using h)|bL cells=>(simpa only[cY]using h)|aE i rs=>(simpa only[cY]using h)|aF u=>(simpa only[cY]using h)|aS=>simpa only[cY]using h
theorem Iu{p p':U->Option (U×List Id)}(hp:si p p' L L'){cs:List U}{x}(h:jN p cs=ac x)(hh:∀id∈x.2,L' id=L id):jN p' cs=ac x:=by unfold jN at h|-;split at h;·{rename_i hc;simpa[hc]using h};·rename_i hc;simp only[hc];exact DG hp h hh
theorem Ue{p p':U->Option (U×List Id)}(hp:si p p' L L'):∀{rs:Rows}{x},fQ (jN p) rs=ac x->(∀id∈x.2,L' id=L id)->fQ (jN p') rs=ac x|[],x,h,_=>h|c::cs,x,h,hh=>by simp only[fQ,GE,Do]at h|-;obtain⟨y,hy,z,hz,rfl⟩:=h;exact⟨y,Iu hp hy λid hid=>hh id (List.mem_append.2 (.inl hid)),z,Ue hp hz λid hid=>hh id (List.mem_append.2 (.inr hid)),rfl⟩
theorem Ug{p p':U->Option (U×List Id)}(hp:si p p' L L'){rs:Rows}{x}(h:qz p rs=ac x)(hh:∀id∈x.2,L' id=L id):qz p' rs=ac x:=by unfold qz at h|-;split at h;·{rename_i hc;simpa[hc]using h};·rename_i hc;simp only[hc];exact Ue hp h hh
theorem E7:∀n,si (pk L n) (pk L' n) L L'|0=>λa x h=>by{simp[pk]at h}|n+1=>λa x h hh=>by have ih:=E7 n;cases a with|rs id off len=>(simp only[pk]at h|-;split at h;·{rename_i rs hid;split at h;·{rename_i hc;simp only[Do]at h;obtain⟨y,hy,rfl⟩:=h;rw[hh id (A0 ..),hid];simp only[hc];rw[Ug ih (by simpa using hy) λid hid=>hh id (GT _ hid)];rfl};·cases h};·cases h)|mp id row off=>(simp only[pk]at h|-;split at h;·{rename_i cs hid;split at h;·{rename_i hc;simp only[Do]at h;obtain⟨y,hy,rfl⟩:=h;rw[hh id (A0 ..),hid];simp only[hc];rw[Iu ih hy λid hid=>hh id (GT _ hid)];rfl};·cases h};·cases h)|agg cs=>(simp only[pk,Do]at h|-;obtain⟨y,hy,rfl⟩:=h;exact⟨y,Iu ih hy hh,rfl⟩)|aC cs=>(simp only[pk,Do]at h|-;obtain⟨y,hy,rfl⟩:=h;exact⟨y,Iu ih hy hh,rfl⟩)|fn k a b=>(simpa only[pk]using h)|own rs=>(simpa only[pk]using h)|c8 cs=>(simpa only[pk]using h)|cg=>(simpa only[pk]using h)|dO g y=>(simpa only[pk]using h)|val u=>(simpa only[pk]using h)|nn=>(simpa only[pk]using h)|mr id=>(simp only[pk]at h|-;split at h;·{rename_i rs hid;simp only[AC]at h;subst h;rw[hh id (A0 ..),hid]};·cases h)|fo rs=>(simpa only[pk]using h)|im rs=>(simpa only[pk]using h)|iD vs=>(simpa only[pk]using h)|sl rows=>(simpa only[pk]using h)|bL cells=>(simpa only[pk]using h)|aE i rs=>(simpa only[pk]using h)|aF u=>(simpa only[pk]using h)|aS=>simpa only[pk]using h
theorem Ut(o:Oper)(v:U)(rd:List Id)(wr:List (Id×Option Rows)):(put o v rd wr).wr=wr:=rfl
section
variable{C:aH}{f:FuncId}{call:FuncId->List U->Option (U×List U)}{S S':ai}{o:Oper}{e:bg}
def Agree(S S':ai)(e:bg):Prop:=∀id,(id∈e.rd∨∃x∈e.wr,x.1=id)->S'.h id=S.h id
theorem ade{t:TypeId}(he:uv C f S o t=ac e)(hh:Agree S S' e):uv C f S' o t=ac e:=by
 unfold uv at he|-
 split at he
 ·rename_i cs d h1 h2
  split at he
  ·simp only[AC]at he;subst he
   rename_i hf
   try rw[h1,h2]
   simp only[hh [d] (.inr ⟨_,A0 ..,rfl⟩),hf,if_true]
  ·cases he
 ·cases he
theorem adg{t:TypeId}{x:U}(he:q2 C f S o t x=ac e)(hh:Agree S S' e):q2 C f S' o t x=ac e:=by unfold q2 at he|-;split at he;·{rename_i b d h1 h2;split at he;·{rename_i cs hcs;split at he;·{rename_i hz;rw[if_pos hz];exact he};·rename_i hz;rw[if_neg hz];split at he;·{rename_i hf;simp only[AC]at he;subst he;rw[hh [d] (.inr ⟨_,A0 ..,rfl⟩),if_pos hf]};·cases he};·cases he};·cases he
theorem adi{t:TypeId}{n:Nat}{ps:List (Nat×U)}(he:ux C f S o t n ps=ac e)(hh:Agree S S' e):ux C f S' o t n ps=ac e:=by
 unfold ux at he|-
 split at he
 ·rename_i el d h1 h2
  split at he
  ·rename_i z b k hz hb hk
   split at he
   ·rename_i hc
    try rw[if_pos hc]
    split at he
    ·rename_i rows hr
     try rw[hr]
     split at he
     ·rename_i hfz
      rw[if_pos hfz];exact he
     ·rename_i hfz
      rw[if_neg hfz]
      split at he
      ·rename_i hf
       simp only[AC]at he;subst he
       rw[hh [d] (.inr ⟨_,A0 ..,rfl⟩),if_pos hf]
      ·cases he
    ·cases he
   ·cases he
  ·cases he
 ·cases he
theorem adh{t:TypeId}{n:Nat}{ps:List (Nat×U)}(he:q3 C f S o t n ps=ac e)(hh:Agree S S' e):q3 C f S' o t n ps=ac e:=by unfold q3 at he|-;split at he;·{rename_i hc;rw[if_pos hc];unfold Dt at he|-;split at he;·{rename_i rows d h1 h2;split at he;·{rename_i bQ ids hp;split at he;·{rename_i hn;simp only[AC]at he;subst he;have:qz (pk S'.h 8) rows=ac (bQ,ids):=Ug (E7 8) hp λid hid=>hh id (.inl hid);simp only[h1,h2,this,hn,if_true]};·cases he};·cases he};·cases he};·rename_i hc;rw[if_neg hc];exact adi he hh
theorem ads{t:TypeId}{x y:U}(he:uz C S o t x y=ac e)(hh:Agree S S' e):uz C S' o t x y=ac e:=by
 unfold uz at he|-
 split at he
 ·rename_i el d l c h1 h2 h3 h4
  split at he
  ·rename_i z i hz hi
   split at he
   ·rename_i hc
    simp only[AC]at he;subst he
    try rw[h1,h2,h3,h4]
    try simp only[hz,hi]
    rw[hh [d] (.inr ⟨_,A0 ..,rfl⟩),if_pos hc]
   ·cases he
  ·cases he
 ·cases he
theorem adt{t:TypeId}{r:Option Operand}(he:ym C S o t r=ac e)(hh:Agree S S' e):ym C S' o t r=ac e:=by simp[ym,rN]at he
theorem adr{t:TypeId}{x k:U}{ok:Bool}(he:yl C S o t x k ok=ac e)(hh:Agree S S' e):yl C S' o t x k ok=ac e:=by simp[yl,rN]at he
theorem RC{t:TypeId}{x k v:U}(he:we C S o t x k v=ac e)(hh:Agree S S' e):we C S' o t x k v=ac e:=by simp[we,rN]at he
theorem adu{t:TypeId}{x:U}{lo hi:Option (Option Int)}(he:q5 C S o t x lo hi=ac e)(hh:Agree S S' e):q5 C S' o t x lo hi=ac e:=by
 unfold q5 at he|-
 split at he
 ·rename_i el hu
  try rw[hu]
  try simp only
  split at he
  ·exact he
  ·rename_i id off len sz hs
   try rw[hs]
   try simp only
   split at he
   ·rename_i rows hid
    have hrd:id∈e.rd:=by
     simp only[GE]at he
     obtain⟨b,_,he⟩:=he
     split at he
     ·simp only[AC]at he;subst he;simp[put]
     ·cases he
    rw[hh id (.inl hrd),hid]
    exact he
   ·cases he
  ·cases he
 ·rename_i hu;try rw[hu]
  exact he
 ·cases he
theorem adn{t:TypeId}{x:U}{i:Option Int}(he:o4 C S o t x i=ac e)(hh:Agree S S' e):o4 C S' o t x i=ac e:=by
 unfold o4 at he|-
 split at he
 ·rename_i el i' hu
  try rw[hu]
  try simp only
  split at he
  ·rename_i hs;try rw[hs]
   exact he
  ·rename_i n id off len hs
   try rw[hs]
   try simp only
   split at he
   ·rename_i hc
    rw[if_pos hc]
    split at he
    ·rename_i rows hid
     have hrd:id∈e.rd:=by
      simp only[GE]at he
      obtain⟨b,_,he⟩:=he
      split at he
      ·simp only[AC]at he;subst he;simp[put]
      ·cases he
     rw[hh id (.inl hrd),hid]
     exact he
    ·cases he
   ·cases he
  ·cases he
 ·rename_i hu;try rw[hu]
  exact he
 ·cases he
theorem adp{t:TypeId}{x:U}(he:mF C S o t x=ac e)(hh:Agree S S' e):mF C S' o t x=ac e:=by
 unfold mF at he|-
 split at he
 ·rename_i b n h1 h2
  try rw[h1,h2]
  try simp only
  split at he
  ·exact he
  ·rename_i id row off
   split at he
   ·rename_i rows hid
    obtain⟨r,hr,he⟩:=Option.bind_eq_some_iff.1 he
    split at he
    ·rename_i hc
     split at he
     ·rename_i hem
      have hrd:id∈e.rd:=by
       obtain⟨v,_,he⟩:=Option.map_eq_some_iff.1 he
       subst he;simp[put]
      rw[hh id (.inl hrd),hid]
      simp only[hr,Hd,hc,if_true,hem]
      exact he
     ·rename_i hem
      split at he
      ·rename_i hf
       have aeH:=he
       obtain⟨v,_,he⟩:=Option.map_eq_some_iff.1 he
       have hrd:id∈e.rd:=by subst he;simp[put]
       have hwr:∀x∈(b5 (jG o) 0 ((r.drop off).take n)).2,S'.h x.1=S.h x.1:=λx hx=>hh x.1 (.inr ⟨x,by subst he;simp[put,hx],rfl⟩)
       rw[hh id (.inl hrd),hid]
       simp only[hr,Hd,hc,if_true,hem,G8 hwr,hf]
       exact aeH
      ·cases he
    ·cases he
   ·cases he
  ·cases he
 ·cases he
theorem adv{t:TypeId}{ao:Operand}{x y:U}(he:o6 C f S bv o t ao x y=ac e)(hh:Agree S S' e):o6 C f S' bv o t ao x y=ac e:=by
 unfold o6 at he|-
 split at he
 ·rename_i b n h1 h2
  try rw[h1,h2]
  try simp only
  split at he
  ·rename_i id row off cs hcs
   try rw[hcs]
   try simp only
   split at he
   ·cases he
   ·rename_i hl
    rw[if_neg hl]
    split at he
    ·rename_i rows hid
     have hrd:id∈e.rd:=by
      obtain⟨r,hr,he⟩:=Option.bind_eq_some_iff.1 he
      split at he
      ·split at he
       ·split at he
        ·simp only[AC]at he;subst he;simp
        ·cases he
       ·split at he
        ·simp only[AC]at he;subst he;simp[put]
        ·cases he
      ·cases he
     rw[hh id (.inl hrd),hid]
     exact he
    ·cases he
  ·cases he
 ·cases he
theorem ady{e1:bg}(h:q7 C f o e1=ac e)(hh:Agree S S' e):Agree S S' e1:=by unfold q7 at h;split at h;·{split at h;·{rename_i hw;split at h;·{rename_i hc;obtain⟨rfl,_⟩:=hc;simp only[AC]at h;subst h;intro id hid;refine hh id (hid.imp (λh=>h) λ⟨x,hx,e⟩=> ?_);rw[hw]at hx;simp only[Hk,Hm,or_false]at hx;rcases hx with rfl|rfl;·{exact⟨_,A0 ..,e⟩};·exact⟨_,GT _ (A0 ..),e⟩};·cases h};·{rename_i hw;split at h;·{rename_i hc;obtain⟨rfl,_⟩:=hc;simp only[AC]at h;subst h;intro id hid;refine hh id (hid.imp (λh=>h) λ⟨x,hx,e⟩=> ?_);rw[hw]at hx;simp only[Hk,Hm,or_false]at hx;obtain rfl:=hx;exact⟨_,A0 ..,e⟩};·cases h};·cases h};·simp only[AC]at h;subst h;exact hh
theorem adf{ts:Array TypeId}{xs:List U}(he:nq C S o ts xs=ac e)(hh:Agree S S' e):nq C S' o ts xs=ac e:=by
 unfold nq at he|-
 split at he
 ·rename_i x y t el h1 h2
  try rw[h1,h2]
  try simp only
  unfold Ap at he|-
  split at he
  ·rename_i ach d hu hd
   try rw[hu,hd]
   try simp only
   split at he
   ·rename_i i am2 i1 asd i2 hi hx hy
    split at he
    ·rename_i hc
     unfold ow at he
     have facts:(∀id∈i1++i2,id∈e.rd)∧(∃r,([d],r)∈e.wr):=by
      split at he
      ·split at he
       ·split at he
        ·simp only[AC]at he;subst he
         exact⟨λid h=>h,_,GT _ (A0 ..)⟩
        ·cases he
       ·cases he
      ·simp only[AC]at he;subst he
       exact⟨λid h=>h,_,A0 ..⟩
      ·cases he
     obtain⟨hrd,r,hwr⟩:=facts
     have ex:=NM (L':=S'.h) hx λid hid=>hh id (.inl (hrd id (List.mem_append.2 (.inl hid))))
     have G2:=NM (L':=S'.h) hy λid hid=>hh id (.inl (hrd id (List.mem_append.2 (.inr hid))))
     try rw[hi,ex,G2]
     try simp only
     rw[hh [d] (.inr ⟨_,hwr,rfl⟩),if_pos hc]
     unfold ow
     split at he
     ·rename_i id off len
      have hid:id∈i1:=by
       simp only[rowsOf]at hx
       split at hx
       ·split at hx
        ·simp only[AC,Hn]at hx
         rw[<-hx.2];simp
        ·cases hx
       ·cases hx
      try simp only
      rw[hh id (.inl (hrd id (List.mem_append.2 (.inl hid))))]
      exact he
     ·exact he
     ·cases he
    ·cases he
   ·cases he
  ·cases he
 ·rename_i x y t k h1 h2
  try rw[h1,h2]
  try simp only
  unfold Aq at he|-
  split at he
  ·rename_i ach d nn hu hd aff
   try rw[hu,hd,aff]
   try simp only
   split at he
   ·rename_i i z am2 i1 hi hz hx
    split at he
    ·rename_i hc
     unfold ow at he
     have facts:(∀id∈i1,id∈e.rd)∧(∃r,([d],r)∈e.wr):=by
      split at he
      ·split at he
       ·split at he
        ·simp only[AC]at he;subst he
         exact⟨λid h=>by simp only[put,H1];exact h,_,GT _ (A0 ..)⟩
        ·cases he
       ·cases he
      ·simp only[AC]at he;subst he
       exact⟨λid h=>by simp only[put,H1];exact h,_,A0 ..⟩
      ·cases he
     obtain⟨hrd,r,hwr⟩:=facts
     have ex:=NM (L':=S'.h) hx λid hid=>hh id (.inl (hrd id hid))
     try rw[hi,hz,ex]
     try simp only
     rw[hh [d] (.inr ⟨_,hwr,rfl⟩),if_pos hc]
     unfold ow
     split at he
     ·rename_i id off len
      have hid:id∈i1:=by
       simp only[rowsOf]at hx
       split at hx
       ·split at hx
        ·simp only[AC,Hn]at hx
         rw[<-hx.2];simp
        ·cases hx
       ·cases hx
      try simp only
      rw[hh id (.inl (hrd id hid))]
      exact he
     ·exact he
     ·cases he
    ·cases he
   ·cases he
  ·cases he
 ·cases he
theorem ado{p:Nat×Nat}{xs:List U}(he:v8 S o p xs=ac e)(hh:Agree S S' e):v8 S' o p xs=ac e:=by simp[v8]at he
theorem adm{ts:Array TypeId}{xs:List U}(he:yj C S o ts xs=ac e)(hh:Agree S S' e):yj C S' o ts xs=ac e:=by simp[yj]at he
theorem adq{as:List U}(he:HQ S o as=ac e)(hh:Agree S S' e):HQ S' o as=ac e:=by cases he
theorem adj{fv:U}{args:List U}(he:sA C f call S o fv args=ac e)(hh:Agree S S' e):sA C f call S' o fv args=ac e:=by
 unfold sA at he|-
 split at he
 ·rename_i k first caps
  try simp only
  by_cases hlk:C.look k=bv
  ·rw[if_pos hlk]at he|-
   exact adq he hh
  rw[if_neg hlk]at he|-
  split at he
  ·rename_i as seen d Lg bV
   split at he
   ·rename_i r cp
    generalize hr':(if gW C f o.dst=bv then ff r else r)=r' at he
    split at he
    ·cases he
    ·rename_i hm
     split at he
     ·rename_i hf
      simp only[AC]at he;subst he
      have hb:sy S'.h (first++args++caps)=ac (as,seen):=DG (Qf 9) Lg λid hid=>hh id (.inl hid)
      have hfr:fresh S'.h (imp [d] r').2=fresh S.h (imp [d] r').2:=G8 λx hx=>hh x.1 (.inr ⟨x,hx,rfl⟩)
      rw[hb,bV]
      simp only[cp]
      rw[<-bV,hr',if_neg hm,hfr,if_pos hf]
     ·cases he
   ·cases he
  ·cases he
 ·cases he
theorem adl{k:FuncId}{args:List U}(he:AB C f call S o k args=ac e)(hh:Agree S S' e):AB C f call S' o k args=ac e:=by cases he
end
open Go
variable{L L':Id->Option (Option Rows)}
section
variable{C:aH}{f:FuncId}{call:FuncId->List U->Option (U×List U)}{S S':ai}{o:Oper}{e:bg}
def tmpsOf(o:Oper):List Nat:=o.op.operands.toList.filterMap fun| .tmp t=>ac t|_=>am
theorem aa7{keep:Id->Bool}:si (iH L keep) (iH L' keep) L L':=λa x h hh=>by cases a with|rs i off len=>(simp only[iH]at h|-;split at h;·{rename_i hk;rw[if_pos hk];exact h};·rename_i hk;rw[if_neg hk];exact E7 8 _ _ h hh)|mp i off len=>(simp only[iH]at h|-;split at h;·{rename_i hk;rw[if_pos hk];exact h};·rename_i hk;rw[if_neg hk];exact E7 8 _ _ h hh)|mr i=>(simp only[iH]at h|-;split at h;·{rename_i hk;rw[if_pos hk];exact h};·rename_i hk;rw[if_neg hk];exact E7 8 _ _ h hh)|_=>exact h
theorem Ry{q q':List U->Option (List U×List Id)}(hq:∀r x,q r=ac x->(∀id∈x.2,L' id=L id)->q' r=ac x):∀{rs:Rows}{x},fQ q rs=ac x->(∀id∈x.2,L' id=L id)->fQ q' rs=ac x|[],x,h,_=>h|c::cs,x,h,hh=>by simp only[fQ,GE,Do]at h|-;obtain⟨y,hy,z,hz,rfl⟩:=h;exact⟨y,hq _ _ hy λid hid=>hh id (List.mem_append.2 (.inl hid)),z,Ry hq hz λid hid=>hh id (List.mem_append.2 (.inr hid)),rfl⟩
theorem abb{keep:Id->Bool}(r:List U)(x)(hy:mE L keep r=ac x)(hh:∀id∈x.2,L' id=L id):mE L' keep r=ac x:=by unfold mE at hy|-;split at hy;·{rename_i hc;rw[if_pos hc];exact hy};·rename_i hc;rw[if_neg hc];exact DG aa7 hy hh
theorem aa9{keep:Id->Bool}{rs:Rows}{x}(h:fQ (mE L keep) rs=ac x)(hh:∀id∈x.2,L' id=L id):fQ (mE L' keep) rs=ac x:=Ry abb h hh
theorem TK{l:List (Id×Id)}:∀{r:List (Id×Id)}{x},iU L l r=ac x->(∀i∈r.map (·.1),L' i=L i)->(∀i∈x.2,L' i=L i)->iU L' l r=ac x|[],x,h,_,_=>h|(o,k)::r,x,h,h1,h2=>by simp only[iU]at h|-;rw[h1 o (by simp)];split at h;·{simp only[GE,Do]at h|-;obtain⟨y,hy,bQ,hr,z,hz,rfl⟩:=h;refine⟨y, ?_,bQ,hr,z,TK hz (λi hi=>h1 i (by simp only[List.map_cons];exact GT _ hi)) (λi hi=>h2 i (List.mem_append.2 (.inr hi))),rfl⟩;unfold oz at hy|-;split at hy;·{rename_i hc;rw[if_pos hc];exact hy};·rename_i hc;rw[if_neg hc];exact aa9 hy λi hi=>h2 i (List.mem_append.2 (.inl hi))};·cases h
theorem AF:∀(n:Nat)(b:Bool)(p:Id)(j:Nat)(acc:List (Id×Id))(as:List U),∀x∈acc,x∈er L n b p j acc as|0,_,_,_,_,_,x,hx=>hx|_+1,_,_,_,_,[],x,hx=>hx|n+1,b,p,j,acc,a::as,x,hx=>by unfold er;apply AF n b p (j+1);cases a with|rs i off len=>(dsimp only;split;exact hx;exact Ha _ hx)|mr i=>(dsimp only;split;exact hx;exact Ha _ hx)|mp i row off=>(dsimp only;split;·{exact hx};·split;·{exact AF n _ _ _ _ _ x (Ha _ hx)};·exact Ha _ hx)|agg cs=>(exact AF n _ _ _ _ _ x hx)|fn k xs cs=>(exact AF n _ _ _ _ _ x hx)|_=>exact hx
theorem abA(n:Nat)(b:Bool)(p:Id)(j:Nat)(acc:List (Id×Id))(a:U)(as:List U):∃l:(Id->Option (Option Rows))->List (Id×Id),∀L,er L (n+1) b p j acc (a::as)=er L n b p (j+1) (l L) as∧l L=(match a with| .rs i _ _=>if !b||(gQ acc i).isSome then acc else acc++[(i,j::p)]| .mr i=>if !b||(gQ acc i).isSome then acc else acc++[(i,j::p)]| .mp i _ _=>if(gQ acc i).isSome then acc else(match L i with|some (ac [cs])=>er L n ci (j::p) 0 (acc++[(i,j::p)]) cs|_=>acc++[(i,j::p)])| .agg cs=>er L n b (j::p) 0 acc cs| .fn _ as cs=>er L n bv (j::p) 0 acc (as++cs)|_=>acc):=⟨_,λL=>⟨by cases a<;>rw[er]<;>first|rfl|(intros;contradiction)|(intros;rename_i h;cases h),rfl⟩⟩
theorem Dl:∀(n:Nat)(b:Bool)(p:Id)(j:Nat)(acc:List (Id×Id))(as:List U),(∀i∈(er L n b p j acc as).map (·.1),L' i=L i)->er L' n b p j acc as=er L n b p j acc as|0,_,_,_,_,_,_=>rfl|_+1,_,_,_,_,[],_=>rfl|n+1,b,p,j,acc,a::as,h=>by obtain⟨l,hl⟩:=abA n b p j acc a as;rw[(hl L).1]at h|-;rw[(hl L').1];have sub:∀i∈(l L).map (·.1),L' i=L i:=λi hi=>by{obtain⟨x,hx,rfl⟩:=List.mem_map.1 hi;exact h _ (List.mem_map.2 ⟨x,AF n b p (j+1) _ as x hx,rfl⟩)};have e:l L'=l L:=by{have h1:=(hl L).2;rw[h1]at sub;rw[(hl L').2,h1];clear h1 h hl l;cases a with|mp i row off=>(dsimp only at sub|-;by_cases hs:(gQ acc i).isSome=bv;·{rw[if_pos hs,if_pos hs]};·rw[if_neg hs]at sub;rw[if_neg hs,if_neg hs];have hi:L' i=L i:=by{refine sub i ?_;split;·{exact List.mem_map.2 ⟨(i,j::p),AF n _ _ _ _ _ _ (Hc _ (List.mem_singleton.2 rfl)),rfl⟩};·exact List.mem_map.2 ⟨(i,j::p),Hc _ (List.mem_singleton.2 rfl),rfl⟩};rw[hi];split;·{rename_i cs hcs;rw[hcs]at sub;exact Dl n ci (j::p) 0 _ cs sub};·rfl)|agg cs=>(exact Dl n b (j::p) 0 _ cs sub)|fn k xs cs=>(exact Dl n bv (j::p) 0 _ (xs++cs) sub)|_=>rfl};rw[e];exact Dl n b p (j+1) _ as h
theorem RI{k:FuncId}{args:List U}{x:Ae}(h:oF call L k args=ac x)(h1:∀i∈x.l.map (·.1),L' i=L i)(h2:∀i∈x.gone,L' i=L i):oF call L' k args=ac x:=by have hl:x.l=er L 60 bv [iS] 0 [] args:=by{unfold oF AW at h;split at h;·{split at h;·{split at h;·{obtain⟨back,_,rfl⟩:=Option.map_eq_some_iff.1 h;rfl};·cases h};·cases h};·cases h};obtain⟨obs,outs,ho,_⟩:=AX h;unfold oF at h|-;rw[Dl 60 bv [iS] 0 [] args (by rw[<-hl];exact h1)];unfold AW at h|-;rw[hl]at ho;rw[ho]at h;rw[TK ho (by rw[<-hl];exact h1) h2];exact h
theorem adk{k:FuncId}{args:List U}(he:p6 C f call S o k args=ac e)(hh:Agree S S' e):p6 C f call S' o k args=ac e:=by unfold p6 at he|-;simp only[GE]at he|-;obtain⟨x,hx,he⟩:=he;split at he;·{cases he};·rename_i hp;generalize uQ:(if gW C f o.dst=bv then(if flat x.r=bv then ff x.r else .aS)else x.r)=rr at he;split at he;·{rename_i hf;simp only[AC]at he;subst he;have jI:iG S'.h x.back=iG S.h x.back:=by{obtain⟨_,_,_,_,hb,_⟩:=AX hx;have hbk:=(qT hb).1;unfold iG;refine List.filter_congr λb hb=> ?_;have:S'.h b.1=S.h b.1:=hh b.1 (.inl (by show b.1∈x.l.map (·.1);rw[<-hbk];exact List.mem_map.2 ⟨b,hb,rfl⟩));unfold r3;rw[this]};refine⟨x,RI hx (λi hi=>hh i (.inl hi)) (λi hi=>hh i (.inr ⟨(i,am), ?_,rfl⟩)), ?_⟩;·{simp only[Ut];exact Hc _ (Hc _ (List.mem_map.2 ⟨i,hi,rfl⟩))};·rw[if_neg hp];simp only[uQ,jI];rw[G8 (L':=S'.h) (L:=S.h) λy hy=>hh y.1 (.inr ⟨y,by simp only[Ut];exact Ha _ hy,rfl⟩),if_pos hf]};·cases he
theorem RG(hs:∀t∈tmpsOf o,S'.t t=S.t t){x:Operand}(hx:x∈o.op.operands.toList):S'.get C x=S.get C x:=by cases x with|tmp t=>(exact hs t (List.mem_filterMap.2 ⟨.tmp t,hx,rfl⟩))|_=>rfl
theorem acD(he:bU C f call S bv o=ac e)(hs:∀t∈tmpsOf o,S'.t t=S.t t)(hh:Agree S S' e):bU C f call S' bv o=ac e:=by have get:∀x∈o.op.operands.toList,S'.get C x=S.get C x:=λx hx=>RG hs hx;have yx:∀xs:List Operand,(∀x∈xs,x∈o.op.operands.toList)->(xs.map λx=>un bv (S'.get C x))=xs.map λx=>un bv (S.get C x):=λxs h=>H2 λx hx=>by{rw[get x (h x hx)]};have AU:∀xs:List (Nat×Operand),(∀x∈xs,x.2∈o.op.operands.toList)->(xs.map λp=>(p.1,un bv (S'.get C p.2)))=xs.map λp=>(p.1,un bv (S.get C p.2)):=λxs h=>H2 λx hx=>by{rw[get x.2 (h x hx)]};unfold bU at he|-;cases ho:o.op with|move x=>(rw[ho]at he get;simp only[Op.operands]at he get|-;rw[get x (by simp)];exact he)|assign x=>(rw[ho]at he get;simp only[Op.operands]at he get|-;rw[get x (by simp)];exact he)|pick c x y=>(rw[ho]at he get;simp only[Op.operands]at he get|-;rw[get c (by simp),get x (by simp),get y (by simp)];exact he)|alloc t=>(rw[ho]at he;exact ade he hh)|box t x=>(rw[ho]at he get;simp only[Op.operands]at he get|-;rw[get x (by simp)];exact adg he hh)|build t ps=>(rw[ho]at he AU;simp only[Op.operands]at he AU|-;rw[AU ps.toList (λx hx=>by simp;exact⟨x.1,by simpa using hx⟩)];exact he)|buildSlice t n ps=>(rw[ho]at he AU;simp only[Op.operands]at he AU|-;rw[AU ps.toList (λx hx=>by simp;exact⟨x.1,by simpa using hx⟩)];exact adh he hh)|load t x=>(rw[ho]at he get;simp only[Op.operands]at he get|-;rw[get x (by simp)];exact adp he hh)|store t x y=>(rw[ho]at he get;simp only[Op.operands]at he get|-;rw[get x (by simp),get y (by simp)];exact adv he hh)|nilCheck x=>(rw[ho]at he get;simp only[Op.operands]at he get|-;rw[get x (by simp)];exact he)|binOp op t x y u=>(rw[ho]at he get;simp only[Op.operands]at he get|-;rw[get x (by simp),get y (by simp)];exact he)|unOp op t x=>(rw[ho]at he get;simp only[Op.operands]at he get|-;rw[get x (by simp)];exact he)|convert s t x=>(rw[ho]at he get;simp only[Op.operands]at he get|-;rw[get x (by simp)];exact he)|makeInterface t x=>(rw[ho]at he get;simp only[Op.operands]at he get|-;rw[get x (by simp)];exact he)|makeFunc k xs ys=>(rw[ho]at he yx;simp only[Op.operands]at he yx|-;rw[yx xs.toList (λx hx=>by simp;exact .inl (by simpa using hx)),yx ys.toList (λx hx=>by simp;exact .inr (by simpa using hx))];exact he)|makeSlice t x y=>(rw[ho]at he get;simp only[Op.operands]at he get|-;rw[get x (by simp),get y (by simp)];exact ads he hh)|slice t x lo hi mx=>(rw[ho]at he get;simp only[Op.operands]at he get|-;split at he;·{cases he};·rename_i hm;rw[if_neg hm,get x (by simp)];have e1:(lo.map λy=>e8 (un bv (S'.get C y)))=lo.map λy=>e8 (un bv (S.get C y)):=by{cases lo with|none=>(rfl)|some y=>simp only[Hb];rw[get y (by simp)]};have e2:(hi.map λy=>e8 (un bv (S'.get C y)))=hi.map λy=>e8 (un bv (S.get C y)):=by{cases hi with|none=>(rfl)|some y=>simp only[Hb];rw[get y (by simp)]};rw[e1,e2];exact adu he hh)|fieldAddr s x i=>(rw[ho]at he get;simp only[Op.operands]at he get|-;rw[get x (by simp)];exact he)|field s x i=>(rw[ho]at he get;simp only[Op.operands]at he get|-;rw[get x (by simp)];exact he)|indexAddr t x y=>(rw[ho]at he get;simp only[Op.operands]at he get|-;rw[get x (by simp),get y (by simp)];exact adn he hh)|index t x y=>(rw[ho]at he get;simp only[Op.operands]at he get|-;rw[get x (by simp),get y (by simp)];exact he)|extract x i=>(rw[ho]at he get;simp only[Op.operands]at he get|-;rw[get x (by simp)];exact he)|typeAssert x xt at_ ok=>(rw[ho]at he get;simp only[Op.operands]at he get|-;rw[get x (by simp)];exact he)|makeMap t r=>(rw[ho]at he;exact adt he hh)|lookup t x y ok=>(rw[ho]at he get;simp only[Op.operands]at he get|-;rw[get x (by simp),get y (by simp)];exact adr he hh)|mapUpdate t x y z=>(rw[ho]at he get;simp only[Op.operands]at he get|-;rw[get x (by simp),get y (by simp),get z (by simp)];exact RC he hh)|insert t x y z=>(rw[ho]at he get;simp only[Op.operands]at he get|-;rw[get x (by simp),get y (by simp),get z (by simp)];exact RC he hh)|call c=>(rw[ho]at he get yx;simp only[Op.operands]at he get yx|-;have hargs:=yx c.args.toList (λx hx=>by simp only[Call.operands];simp;exact .inr (by simpa using hx));cases hc:c.callee with|builtin b=>(rw[hc]at he;cases b with|len=>(simp only at he|-;rw[hargs];exact he)|append=>(simp only[GE]at he|-;rw[hargs];obtain⟨e1,h1,h2⟩:=he;exact⟨e1,adf h1 (ady h2 hh),h2⟩)|copy=>(simp only at he|-;rw[hargs];exact adm he hh)|max=>(simp only at he|-;rw[hargs];exact he)|min=>(simp only at he|-;rw[hargs];exact he)|_=>cases he)|value cU=>(rw[hc]at he;simp only at he|-;rw[get cU (by simp[Call.operands,hc])];split at he;·{rename_i x hx;rw[hargs];exact adk he hh};rename_i hx;split at he;·{rename_i p hp;rw[hargs];exact ado he hh};·rename_i hp;split at he;·{rename_i htk;rw[if_pos htk];cases cU with|func k=>(simp only at he|-;rw[hargs];exact adl he hh)|_=>cases he};·rename_i htk;rw[if_neg htk,hargs];exact adj he hh)|invoke r n=>rw[hc]at he;cases he)|_=>rw[ho]at he;cases he
end
end Go.Ab
