import Derived.Test.YtkmdadjmdgonbaaGreatDoorAbReg2
open List renaming mem_cons_self->A0,mem_cons_of_mem->GE,mem_append_left->Ha,mem_append_right->Hc,mem_cons->Hk,not_mem_nil->Hm,append_nil->Hn,map_congr_left->H1
open Option renaming map_eq_some_iff->A1,bind_eq_some_iff->Do,map_some->Hb,bind_some->Hd
open Option.some renaming injEq->AC
open Prod.mk renaming injEq->GT
set_option linter.all false
namespace Go.Ab
open Go
variable{L L':Id->Option (Option Rows)}
theorem Ci:∀{l:List (Id×Option Rows)},(∀x∈l,L' x.1=L x.1)->fresh L' l=fresh L l|[],_=>rfl|x::l,h=>by have ih:=Ci fun y hy=>h y (GE _ hy);unfold fresh at ih|-;simp only[List.all_cons,ih,h x (A0 ..)]
theorem L3{x:U}{r:Rows×List Id}(h:rowsOf L x=some r)(hh:∀id∈r.2,L' id=L id):rowsOf L' x=some r:=by
 cases x<;>simp only[rowsOf]at h|-<;>try exact h
 rename_i id off len
 split at h
 ·rename_i rs hid
  split at h
  ·rename_i hc
   simp only[AC]at h;subst h
   rw[hh id (by simp),hid]
   simp only[hc,if_true]
  ·cases h
 ·cases h
def qY(p p':(U->Option (U×List Id)))(L L':Id->Option (Option Rows)):Prop:=∀a x,p a=some x->(∀id∈x.2,L' id=L id)->p' a=some x
theorem Cf{p p':U->Option (U×List Id)}(hp:qY p p' L L'):∀{cs:List U}{x},fj p cs=some x->(∀id∈x.2,L' id=L id)->fj p' cs=some x|[],x,h,_=>h|c::cs,x,h,hh=>by simp only[fj,Do,A1]at h|-;obtain⟨y,hy,z,hz,rfl⟩:=h;exact⟨y,hp _ _ hy fun id hid=>hh id (List.mem_append.2 (.inl hid)),z,Cf hp hz fun id hid=>hh id (List.mem_append.2 (.inr hid)),rfl⟩
theorem v7{p p':U->Option (U×List Id)}(hp:qY p p' L L'){cs:List U}{x}(h:kA p cs=some x)(hh:∀id∈x.2,L' id=L id):kA p' cs=some x:=by unfold kA at h|-;split at h;·{rename_i hc;simpa[hc]using h};·rename_i hc;simp only[hc];exact Cf hp h hh
theorem OT{p p':U->Option (U×List Id)}(hp:qY p p' L L'):∀{rs:Rows}{x},fk (kA p) rs=some x->(∀id∈x.2,L' id=L id)->fk (kA p') rs=some x|[],x,h,_=>h|c::cs,x,h,hh=>by simp only[fk,Do,A1]at h|-;obtain⟨y,hy,z,hz,rfl⟩:=h;exact⟨y,v7 hp hy fun id hid=>hh id (List.mem_append.2 (.inl hid)),z,OT hp hz fun id hid=>hh id (List.mem_append.2 (.inr hid)),rfl⟩
theorem NH{p p':U->Option (U×List Id)}(hp:qY p p' L L'){rs:Rows}{x}(h:oY p rs=some x)(hh:∀id∈x.2,L' id=L id):oY p' rs=some x:=by unfold oY at h|-;split at h;·{rename_i hc;simpa[hc]using h};·rename_i hc;simp only[hc];exact OT hp h hh
theorem Iy:∀n,qY (cI L n) (cI L' n) L L'|0=>fun a x h=>by{simp[cI]at h}|n+1=>fun a x h hh=>by have ih:=Iy n;cases a with|rs id off len=>(simp only[cI]at h|-;split at h;·{rename_i rs hid;split at h;·{rename_i hc;simp only[A1]at h;obtain⟨y,hy,rfl⟩:=h;rw[hh id (A0 ..),hid];simp only[hc,if_true,NH ih hy fun id hid=>hh id (GE _ hid),Hb]};·cases h};·cases h)|mp id row off=>(simp only[cI]at h|-;split at h;·{rename_i rs hid;split at h;·{rename_i r hrow;split at h;·{rename_i hoff;simp only[A1]at h;obtain⟨y,hy,rfl⟩:=h;rw[hh id (A0 ..),hid];simp only[hrow,hoff,if_true,v7 ih hy fun id hid=>hh id (GE _ hid),Hb]};·cases h};·cases h};·cases h)|agg cs=>(simp only[cI,A1]at h|-;obtain⟨y,hy,rfl⟩:=h;exact⟨y,v7 ih hy hh,rfl⟩)|aV cs=>(simp only[cI,A1]at h|-;obtain⟨y,hy,rfl⟩:=h;exact⟨y,v7 ih hy hh,rfl⟩)|fn k a b=>(simp only[cI,A1,Do]at h|-;obtain⟨y,hy,z,hz,rfl⟩:=h;exact⟨y,v7 ih hy fun id hid=>hh id (List.mem_append.2 (.inl hid)),z,v7 ih hz fun id hid=>hh id (List.mem_append.2 (.inr hid)),rfl⟩)|own rs=>(simp only[cI,A1]at h|-;obtain⟨y,hy,rfl⟩:=h;exact⟨y,NH ih hy hh,rfl⟩)|b5 cs=>(simp only[cI,A1]at h|-;obtain⟨y,hy,rfl⟩:=h;exact⟨y,v7 ih hy hh,rfl⟩)|cG=>(simpa only[cI]using h)|dw g y=>(simpa only[cI]using h)|val u=>(simpa only[cI]using h)|nn=>(simpa only[cI]using h)|mr id=>(simp only[cI]at h|-;split at h;·{rename_i rs hid;simp only[AC]at h;subst h;rw[hh id (A0 ..),hid]};·cases h)|eN rs=>(simpa only[cI]using h)|im rs=>(simpa only[cI]using h)|gP vs=>(simpa only[cI]using h)|sl rows=>(simpa only[cI]using h)|aT cells=>(simpa only[cI]using h)|cC i rs=>(simpa only[cI]using h)|ox u=>(simpa only[cI]using h)|bD=>simpa only[cI]using h
theorem GV{p p':U->Option (U×List Id)}(hp:qY p p' L L'){cs:List U}{x}(h:iW p cs=some x)(hh:∀id∈x.2,L' id=L id):iW p' cs=some x:=by unfold iW at h|-;split at h;·{rename_i hc;simpa[hc]using h};·rename_i hc;simp only[hc];exact Cf hp h hh
theorem Rw{p p':U->Option (U×List Id)}(hp:qY p p' L L'):∀{rs:Rows}{x},fk (iW p) rs=some x->(∀id∈x.2,L' id=L id)->fk (iW p') rs=some x|[],x,h,_=>h|c::cs,x,h,hh=>by simp only[fk,Do,A1]at h|-;obtain⟨y,hy,z,hz,rfl⟩:=h;exact⟨y,GV hp hy fun id hid=>hh id (List.mem_append.2 (.inl hid)),z,Rw hp hz fun id hid=>hh id (List.mem_append.2 (.inr hid)),rfl⟩
theorem Ry{p p':U->Option (U×List Id)}(hp:qY p p' L L'){rs:Rows}{x}(h:pO p rs=some x)(hh:∀id∈x.2,L' id=L id):pO p' rs=some x:=by unfold pO at h|-;split at h;·{rename_i hc;simpa[hc]using h};·rename_i hc;simp only[hc];exact Rw hp h hh
theorem ya:∀n,qY (pk L n) (pk L' n) L L'|0=>fun a x h=>by{simp[pk]at h}|n+1=>fun a x h hh=>by have ih:=ya n;cases a with|rs id off len=>(simp only[pk]at h|-;split at h;·{rename_i rs hid;split at h;·{rename_i hc;simp only[A1]at h;obtain⟨y,hy,rfl⟩:=h;rw[hh id (A0 ..),hid];simp only[hc];rw[Ry ih (by simpa using hy) fun id hid=>hh id (GE _ hid)];rfl};·cases h};·cases h)|mp id row off=>(simp only[pk]at h|-;split at h;·{rename_i cs hid;split at h;·{rename_i hc;simp only[A1]at h;obtain⟨y,hy,rfl⟩:=h;rw[hh id (A0 ..),hid];simp only[hc];rw[GV ih hy fun id hid=>hh id (GE _ hid)];rfl};·cases h};·cases h)|agg cs=>(simp only[pk,A1]at h|-;obtain⟨y,hy,rfl⟩:=h;exact⟨y,GV ih hy hh,rfl⟩)|aV cs=>(simp only[pk,A1]at h|-;obtain⟨y,hy,rfl⟩:=h;exact⟨y,GV ih hy hh,rfl⟩)|fn k a b=>(simpa only[pk]using h)|own rs=>(simpa only[pk]using h)|b5 cs=>(simpa only[pk]using h)|cG=>(simpa only[pk]using h)|dw g y=>(simpa only[pk]using h)|val u=>(simpa only[pk]using h)|nn=>(simpa only[pk]using h)|mr id=>(simp only[pk]at h|-;split at h;·{rename_i rs hid;simp only[AC]at h;subst h;rw[hh id (A0 ..),hid]};·cases h)|eN rs=>(simpa only[pk]using h)|im rs=>(simpa only[pk]using h)|gP vs=>(simpa only[pk]using h)|sl rows=>(simpa only[pk]using h)|aT cells=>(simpa only[pk]using h)|cC i rs=>(simpa only[pk]using h)|ox u=>(simpa only[pk]using h)|bD=>simpa only[pk]using h
theorem LM(o:Oper)(v:U)(rd:List Id)(wr:List (Id×Option Rows)):(put o v rd wr).wr=wr:=rfl
section
variable{C:aC}{f:FuncId}{call:FuncId->List U->Option (U×List U)}{S S':ah}{o:Oper}{e:aP}
def Agree(S S':ah)(e:aP):Prop:=∀id,(id∈e.rd∨∃x∈e.wr,x.1=id)->S'.h id=S.h id
theorem Zr{t:TypeId}(he:sI C f S o t=some e)(hh:Agree S S' e):sI C f S' o t=some e:=by
 unfold sI at he|-
 split at he
 ·rename_i cs d h1 h2
  split at he
  ·simp only[AC]at he;subst he
   rename_i hf
   try rw[h1,h2]
   simp only[hh [d] (.inr ⟨_,A0 ..,rfl⟩),hf,if_true]
  ·cases he
 ·cases he
theorem Zt{t:TypeId}{x:U}(he:qj C f S o t x=some e)(hh:Agree S S' e):qj C f S' o t x=some e:=by unfold qj at he|-;split at he;·{rename_i b d h1 h2;split at he;·{rename_i cs hcs;split at he;·{rename_i hz;rw[if_pos hz];exact he};·rename_i hz;rw[if_neg hz];split at he;·{rename_i hf;simp only[AC]at he;subst he;rw[hh [d] (.inr ⟨_,A0 ..,rfl⟩),if_pos hf]};·cases he};·cases he};·cases he
theorem Zv{t:TypeId}{n:Nat}{ps:List (Nat×U)}(he:uz C f S o t n ps=some e)(hh:Agree S S' e):uz C f S' o t n ps=some e:=by
 unfold uz at he|-
 split at he
 ·rename_i el d h1 h2
  split at he
  ·rename_i z b k hz hb hk
   split at he
   ·rename_i hc
    try rw[if_pos hc]
    split at he
    ·rename_i rows hr
     try rw[hr]
     split at he
     ·rename_i hfz
      rw[if_pos hfz];exact he
     ·rename_i hfz
      rw[if_neg hfz]
      split at he
      ·rename_i hf
       simp only[AC]at he;subst he
       rw[hh [d] (.inr ⟨_,A0 ..,rfl⟩),if_pos hf]
      ·cases he
    ·cases he
   ·cases he
  ·cases he
 ·cases he
theorem Zu{t:TypeId}{n:Nat}{ps:List (Nat×U)}(he:sK C f S o t n ps=some e)(hh:Agree S S' e):sK C f S' o t n ps=some e:=by unfold sK at he|-;split at he;·{rename_i hc;rw[if_pos hc];unfold B6 at he|-;split at he;·{rename_i rows d h1 h2;split at he;·{rename_i bB ids hp;split at he;·{rename_i hn;simp only[AC]at he;subst he;have:pO (pk S'.h 8) rows=some (bB,ids):=Ry (ya 8) hp fun id hid=>hh id (.inl hid);simp only[h1,h2,this,hn,if_true]};·cases he};·cases he};·cases he};·rename_i hc;rw[if_neg hc];exact Zv he hh
theorem ZF{t:TypeId}{x y:U}(he:sN C S o t x y=some e)(hh:Agree S S' e):sN C S' o t x y=some e:=by
 unfold sN at he|-
 split at he
 ·rename_i el d l c h1 h2 h3 h4
  split at he
  ·rename_i z i hz hi
   split at he
   ·rename_i hc
    simp only[AC]at he;subst he
    try rw[h1,h2,h3,h4]
    try simp only[hz,hi]
    rw[hh [d] (.inr ⟨_,A0 ..,rfl⟩),if_pos hc]
   ·cases he
  ·cases he
 ·cases he
theorem ZG{t:TypeId}{r:Option Operand}(he:wz C S o t r=some e)(hh:Agree S S' e):wz C S' o t r=some e:=by simp[wz,nL]at he
theorem ZE{t:TypeId}{x k:U}{ok:Bool}(he:wv C S o t x k ok=some e)(hh:Agree S S' e):wv C S' o t x k ok=some e:=by simp[wv,nL]at he
theorem OY{t:TypeId}{x k v:U}(he:sO C S o t x k v=some e)(hh:Agree S S' e):sO C S' o t x k v=some e:=by simp[sO,nL]at he
theorem ZH{t:TypeId}{x:U}{lo hi:Option (Option Int)}(he:ql C S o t x lo hi=some e)(hh:Agree S S' e):ql C S' o t x lo hi=some e:=by
 unfold ql at he|-
 split at he
 ·rename_i el hu
  try rw[hu]
  try simp only
  split at he
  ·exact he
  ·rename_i id off len sz hs
   try rw[hs]
   try simp only
   split at he
   ·rename_i rows hid
    have hrd:id∈e.rd:=by
     simp only[Do]at he
     obtain⟨b,_,he⟩:=he
     split at he
     ·simp only[AC]at he;subst he;simp[put]
     ·cases he
    rw[hh id (.inl hrd),hid]
    exact he
   ·cases he
  ·cases he
 ·rename_i hu;try rw[hu]
  exact he
 ·cases he
theorem ZA{t:TypeId}{x:U}{i:Option Int}(he:qk C S o t x i=some e)(hh:Agree S S' e):qk C S' o t x i=some e:=by
 unfold qk at he|-
 split at he
 ·rename_i el i' hu
  try rw[hu]
  try simp only
  split at he
  ·rename_i hs;try rw[hs]
   exact he
  ·rename_i n id off len hs
   try rw[hs]
   try simp only
   split at he
   ·rename_i hc
    rw[if_pos hc]
    split at he
    ·rename_i rows hid
     have hrd:id∈e.rd:=by
      simp only[Do]at he
      obtain⟨b,_,he⟩:=he
      split at he
      ·simp only[AC]at he;subst he;simp[put]
      ·cases he
     rw[hh id (.inl hrd),hid]
     exact he
    ·cases he
   ·cases he
  ·cases he
 ·rename_i hu;try rw[hu]
  exact he
 ·cases he
theorem ZC{t:TypeId}{x:U}(he:mT C S o t x=some e)(hh:Agree S S' e):mT C S' o t x=some e:=by
 unfold mT at he|-
 split at he
 ·rename_i b n h1 h2
  try rw[h1,h2]
  try simp only
  split at he
  ·exact he
  ·rename_i id row off
   split at he
   ·rename_i rows hid
    obtain⟨r,hr,he⟩:=Option.bind_eq_some_iff.1 he
    split at he
    ·rename_i hc
     split at he
     ·rename_i hem
      have hrd:id∈e.rd:=by
       obtain⟨v,_,he⟩:=Option.map_eq_some_iff.1 he
       subst he;simp[put]
      rw[hh id (.inl hrd),hid]
      simp only[hr,Hd,hc,if_true,hem]
      exact he
     ·rename_i hem
      split at he
      ·rename_i hf
       have aaN:=he
       obtain⟨v,_,he⟩:=Option.map_eq_some_iff.1 he
       have hrd:id∈e.rd:=by subst he;simp[put]
       have hwr:∀x∈(bR (jf o) 0 ((r.drop off).take n)).2,S'.h x.1=S.h x.1:=fun x hx=>hh x.1 (.inr ⟨x,by subst he;simp[put,hx],rfl⟩)
       rw[hh id (.inl hrd),hid]
       simp only[hr,Hd,hc,if_true,hem,Ci hwr,hf]
       exact aaN
      ·cases he
    ·cases he
   ·cases he
  ·cases he
 ·cases he
theorem ZI{t:TypeId}{ao:Operand}{x y:U}(he:n7 C f S true o t ao x y=some e)(hh:Agree S S' e):n7 C f S' true o t ao x y=some e:=by
 unfold n7 at he|-
 split at he
 ·rename_i b n h1 h2
  try rw[h1,h2]
  try simp only
  split at he
  ·rename_i id row off cs hcs
   try rw[hcs]
   try simp only
   split at he
   ·cases he
   ·rename_i hl
    rw[if_neg hl]
    split at he
    ·rename_i rows hid
     have hrd:id∈e.rd:=by
      obtain⟨r,hr,he⟩:=Option.bind_eq_some_iff.1 he
      split at he
      ·split at he
       ·split at he
        ·simp only[AC]at he;subst he;simp
        ·cases he
       ·split at he
        ·simp only[AC]at he;subst he;simp[put]
        ·cases he
      ·cases he
     rw[hh id (.inl hrd),hid]
     exact he
    ·cases he
  ·cases he
 ·cases he
theorem ZL{e1:aP}(h:sP C f o e1=some e)(hh:Agree S S' e):Agree S S' e1:=by unfold sP at h;split at h;·{split at h;·{rename_i hw;split at h;·{rename_i hc;obtain⟨rfl,_⟩:=hc;simp only[AC]at h;subst h;intro id hid;refine hh id (hid.imp (fun h=>h) fun⟨x,hx,e⟩=> ?_);rw[hw]at hx;simp only[Hk,Hm,or_false]at hx;rcases hx with rfl|rfl;·{exact⟨_,A0 ..,e⟩};·exact⟨_,GE _ (A0 ..),e⟩};·cases h};·{rename_i hw;split at h;·{rename_i hc;obtain⟨rfl,_⟩:=hc;simp only[AC]at h;subst h;intro id hid;refine hh id (hid.imp (fun h=>h) fun⟨x,hx,e⟩=> ?_);rw[hw]at hx;simp only[Hk,Hm,or_false]at hx;obtain rfl:=hx;exact⟨_,A0 ..,e⟩};·cases h};·cases h};·simp only[AC]at h;subst h;exact hh
theorem Zs{ts:Array TypeId}{xs:List U}(he:nD C S o ts xs=some e)(hh:Agree S S' e):nD C S' o ts xs=some e:=by
 unfold nD at he|-
 split at he
 ·rename_i x y t el h1 h2
  try rw[h1,h2]
  try simp only
  unfold y7 at he|-
  split at he
  ·rename_i YL d hu hd
   try rw[hu,hd]
   try simp only
   split at he
   ·rename_i i ah6 i1 anz i2 hi hx hy
    split at he
    ·rename_i hc
     unfold n4 at he
     have facts:(∀id∈i1++i2,id∈e.rd)∧(∃r,([d],r)∈e.wr):=by
      split at he
      ·split at he
       ·split at he
        ·simp only[AC]at he;subst he
         exact⟨fun id h=>h,_,GE _ (A0 ..)⟩
        ·cases he
       ·cases he
      ·simp only[AC]at he;subst he
       exact⟨fun id h=>h,_,A0 ..⟩
      ·cases he
     obtain⟨hrd,r,hwr⟩:=facts
     have ex:=L3 (L':=S'.h) hx fun id hid=>hh id (.inl (hrd id (List.mem_append.2 (.inl hid))))
     have FG:=L3 (L':=S'.h) hy fun id hid=>hh id (.inl (hrd id (List.mem_append.2 (.inr hid))))
     try rw[hi,ex,FG]
     try simp only
     rw[hh [d] (.inr ⟨_,hwr,rfl⟩),if_pos hc]
     unfold n4
     split at he
     ·rename_i id off len
      have hid:id∈i1:=by
       simp only[rowsOf]at hx
       split at hx
       ·split at hx
        ·simp only[AC,GT]at hx
         rw[<-hx.2];simp
        ·cases hx
       ·cases hx
      try simp only
      rw[hh id (.inl (hrd id (List.mem_append.2 (.inl hid))))]
      exact he
     ·exact he
     ·cases he
    ·cases he
   ·cases he
  ·cases he
 ·rename_i x y t k h1 h2
  try rw[h1,h2]
  try simp only
  unfold y8 at he|-
  split at he
  ·rename_i YL d nn hu hd abg
   try rw[hu,hd,abg]
   try simp only
   split at he
   ·rename_i i z ah6 i1 hi hz hx
    split at he
    ·rename_i hc
     unfold n4 at he
     have facts:(∀id∈i1,id∈e.rd)∧(∃r,([d],r)∈e.wr):=by
      split at he
      ·split at he
       ·split at he
        ·simp only[AC]at he;subst he
         exact⟨fun id h=>by simp only[put,Hn];exact h,_,GE _ (A0 ..)⟩
        ·cases he
       ·cases he
      ·simp only[AC]at he;subst he
       exact⟨fun id h=>by simp only[put,Hn];exact h,_,A0 ..⟩
      ·cases he
     obtain⟨hrd,r,hwr⟩:=facts
     have ex:=L3 (L':=S'.h) hx fun id hid=>hh id (.inl (hrd id hid))
     try rw[hi,hz,ex]
     try simp only
     rw[hh [d] (.inr ⟨_,hwr,rfl⟩),if_pos hc]
     unfold n4
     split at he
     ·rename_i id off len
      have hid:id∈i1:=by
       simp only[rowsOf]at hx
       split at hx
       ·split at hx
        ·simp only[AC,GT]at hx
         rw[<-hx.2];simp
        ·cases hx
       ·cases hx
      try simp only
      rw[hh id (.inl (hrd id hid))]
      exact he
     ·exact he
     ·cases he
    ·cases he
   ·cases he
  ·cases he
 ·cases he
theorem ZB{p:Nat×Nat}{xs:List U}(he:uD S o p xs=some e)(hh:Agree S S' e):uD S' o p xs=some e:=by simp[uD]at he
theorem Zz{ts:Array TypeId}{xs:List U}(he:wu C S o ts xs=some e)(hh:Agree S S' e):wu C S' o ts xs=some e:=by simp[wu]at he
theorem ZD{as:List U}(he:xR S o as=some e)(hh:Agree S S' e):xR S' o as=some e:=by unfold xR at he|-;split at he;·{split at he;·{rename_i hc hid;split at he;·{rename_i h2 hk;split at he;·{rename_i hr;split at he;·{rename_i mZ;simp only[AC]at he;subst he;have e1:=hh _ (.inl (show _∈[_,_]from A0 ..));have e2:=hh _ (.inl (show _∈[_,_]from GE _ (A0 ..)));simp only[hc,e1,hid,e2,h2,hk,hr,mZ,and_self,if_true]};·cases he};·cases he};·cases he};·cases he};·cases he
theorem Zw{fv:U}{args:List U}(he:rf C f call S o fv args=some e)(hh:Agree S S' e):rf C f call S' o fv args=some e:=by
 unfold rf at he|-
 split at he
 ·rename_i k first caps
  try simp only
  by_cases hlk:C.look k=true
  ·rw[if_pos hlk]at he|-
   exact ZD he hh
  rw[if_neg hlk]at he|-
  split at he
  ·rename_i as seen d JJ bL
   split at he
   ·rename_i r bV
    generalize hr':(if fM C f o.dst=true then dN r else r)=r' at he
    split at he
    ·cases he
    ·rename_i hm
     split at he
     ·rename_i hf
      simp only[AC]at he;subst he
      have hb:q9 S'.h (first++args++caps)=some (as,seen):=Cf (Iy 9) JJ fun id hid=>hh id (.inl hid)
      have hfr:fresh S'.h (imp [d] r').2=fresh S.h (imp [d] r').2:=Ci fun x hx=>hh x.1 (.inr ⟨x,hx,rfl⟩)
      rw[hb,bL]
      simp only[bV]
      rw[<-bL,hr',if_neg hm,hfr,if_pos hf]
     ·cases he
   ·cases he
  ·cases he
 ·cases he
theorem SV:∀{eK:List U}{ms:List Nat}{as:List U}{seen tk dI:List Id},jY S.h ms eK=some (as,seen,tk,dI)->(∀id∈seen,S'.h id=S.h id)->(∀id∈tk++dI,S'.h id=S.h id)->jY S'.h ms eK=some (as,seen,tk,dI)|[],ms,as,seen,tk,dI,hx,_,_=>hx|c::cs,ms,as,seen,tk,dI,hx,h1,h2=>by simp only[jY,Do]at hx|-;obtain⟨⟨ys,s1,t1,bF⟩,hy,hx⟩:=hx;refine⟨(ys,s1,t1,bF), ?_, ?_⟩;·{split at hx<;>·obtain⟨x,hpk,hx⟩:=Option.map_eq_some_iff.1 hx;simp only[GT]at hx;obtain⟨rfl,rfl,rfl,rfl⟩:=hx;exact SV hy (fun id hid=>h1 id (by simp[hid])) (fun id hid=>h2 id (by rcases List.mem_append.1 hid with h|h<;>simp[h]))};·split at hx;·{rename_i hm;obtain⟨x,hpk,hx⟩:=Option.map_eq_some_iff.1 hx;simp only[GT]at hx;obtain⟨rfl,rfl,rfl,rfl⟩:=hx;simp only[hm];rw[ya 9 _ _ hpk fun id hid=>h2 id (by simp[hid])];rfl};·{rename_i hm;obtain⟨x,hpk,hx⟩:=Option.map_eq_some_iff.1 hx;simp only[GT]at hx;obtain⟨rfl,rfl,rfl,rfl⟩:=hx;simp only[hm];rw[ya 9 _ _ hpk fun id hid=>h2 id (by simp[hid])];rfl};·rename_i xm hm2;obtain⟨x,hpk,hx⟩:=Option.map_eq_some_iff.1 hx;simp only[GT]at hx;obtain⟨rfl,rfl,rfl,rfl⟩:=hx;rw[Iy 9 _ _ hpk fun id hid=>h1 id (by simp[hid])];rfl
theorem RW{a b:U}{l:List (Id×Option Rows)}(h:ko S.h a b=some l)(hh:∀x∈l,S'.h x.1=S.h x.1):ko S'.h a b=some l:=by unfold ko at h;split at h;·{rename_i id cs;split at h;·{rename_i old hid;split at h;·{rename_i hc;simp only[AC]at h;subst h;have:=hh _ (A0 ..);simp only[ko,this,hid,hc,if_true]};·cases h};·cases h};·{rename_i id n rows;split at h;·{rename_i o1 os hid;split at h;·{rename_i hc;simp only[AC]at h;subst h;have:=hh _ (A0 ..);simp only[ko,this,hid];rw[if_pos hc]};·cases h};·{rename_i hid;split at h;·{rename_i hc;simp only[AC]at h;subst h;have:=hh _ (A0 ..);simp only[ko,this,hid];rw[if_pos hc]};·cases h};·cases h};·{rename_i id rows;split at h;·{rename_i vw hid;simp only[AC]at h;subst h;have:=hh _ (A0 ..);simp only[ko,this,hid]};·cases h};·{cases h};·{cases h};·{cases h};·{cases h};·rename_i g1 g2 g3 g4 _ _ _;simp only[AC]at h;subst h;unfold ko;split<;>first|rfl|exact(g1 _ _ _ rfl).elim|exact(g2 _ _ _ rfl).elim|exact(g3 _ rfl).elim|exact(g4 _ rfl).elim
theorem RZ:∀{as bs:List U}{l:List (Id×Option Rows)},jE S.h as bs=some l->(∀x∈l,S'.h x.1=S.h x.1)->jE S'.h as bs=some l|[],[],l,h,_=>h|[],_::_,l,h,_=>by{simp[jE]at h}|_::_,[],l,h,_=>by{simp[jE]at h}|a::as,b::bs,l,h,hh=>by simp only[jE]at h|-;split at h;·{rename_i x y h1 h2;simp only[AC]at h;subst h;rw[RW h1 fun x hx=>hh x (List.mem_append.2 (.inl hx)),RZ h2 fun x hx=>hh x (List.mem_append.2 (.inr hx))]};·cases h
theorem afP{a b:U}{l:List (Id×Option Rows)}(h:tQ S.h a b=some l)(hh:∀x∈l,S'.h x.1=S.h x.1):tQ S'.h a b=some l:=by unfold tQ at h|-;split at h;·{exact RZ h hh};·exact RW h hh
theorem R3{args:List U}:∀{cT:List Nat}{outs:List U}{l:List (Id×Option Rows)},ie S.h args cT outs=some l->(∀x∈l,S'.h x.1=S.h x.1)->ie S'.h args cT outs=some l|[],[],l,h,_=>h|[],_::_,l,h,_=>by{simp[ie]at h}|_::_,[],l,h,_=>by{simp[ie]at h}|j::cT,b::outs,l,h,hh=>by simp only[ie]at h|-;split at h;·{rename_i a y h1 h2;split at h;·{rename_i x h3;simp only[AC]at h;subst h;rw[h1,R3 h2 fun x hx=>hh x (List.mem_append.2 (.inr hx))];simp only[afP h3 fun x hx=>hh x (List.mem_append.2 (.inl hx))]};·cases h};·cases h
theorem Zy{k:FuncId}{args:List U}(he:ri C f call S o k args=some e)(hh:Agree S S' e):ri C f call S' o k args=some e:=by unfold ri at he|-;split at he;·{rename_i as seen tk dI d htk bL;split at he;·{rename_i r outs bV;generalize hr':(if fM C f o.dst=true then dN r else r)=r' at he;split at he;·{rename_i back gy;split at he;·{rename_i F1;simp only[AC]at he;subst he;have hw:∀x,(x∈(imp [d] r').2∨x∈back∨x∈(tk++dI).map fun i=>((i,none):Id×Option Rows))->S'.h x.1=S.h x.1:=fun x hx=>hh x.1 (.inr ⟨x,by rw[LM];rcases hx with hx|hx|hx;·{exact List.mem_append.2 (.inl hx)};·{exact List.mem_append.2 (.inr (List.mem_append.2 (.inl hx)))};·exact List.mem_append.2 (.inr (List.mem_append.2 (.inr hx))),rfl⟩);have e1:jY S'.h (C.Aa k) args=some (as,seen,tk,dI):=SV htk (fun id hid=>hh id (.inl hid)) fun id hid=>hw (id,none) (.inr (.inr (List.mem_map.2 ⟨id,hid,rfl⟩)));have e2:ie S'.h args (C.cT k) outs=some back:=R3 gy fun x hx=>hw x (.inr (.inl hx));have hfr:fresh S'.h (imp [d] r').2=fresh S.h (imp [d] r').2:=Ci fun x hx=>hw x (.inl hx);rw[e1];simp only[bL];simp only[bL]at hr';simp only[bV,hr',e2,hfr,if_pos F1]};·cases he};·cases he};·cases he};·cases he
end
open Go
variable{L L':Id->Option (Option Rows)}
section
variable{C:aC}{f:FuncId}{call:FuncId->List U->Option (U×List U)}{S S':ah}{o:Oper}{e:aP}
def tmpsOf(o:Oper):List Nat:=o.op.operands.toList.filterMap fun| .tmp t=>some t|_=>none
theorem XM{keep:Id->Bool}:qY (je L keep) (je L' keep) L L':=fun a x h hh=>by cases a with|rs i off len=>(simp only[je]at h|-;split at h;·{rename_i hk;rw[if_pos hk];exact h};·rename_i hk;rw[if_neg hk];exact ya 8 _ _ h hh)|mp i off len=>(simp only[je]at h|-;split at h;·{rename_i hk;rw[if_pos hk];exact h};·rename_i hk;rw[if_neg hk];exact ya 8 _ _ h hh)|mr i=>(simp only[je]at h|-;split at h;·{rename_i hk;rw[if_pos hk];exact h};·rename_i hk;rw[if_neg hk];exact ya 8 _ _ h hh)|_=>exact h
theorem OV{q q':List U->Option (List U×List Id)}(hq:∀r x,q r=some x->(∀id∈x.2,L' id=L id)->q' r=some x):∀{rs:Rows}{x},fk q rs=some x->(∀id∈x.2,L' id=L id)->fk q' rs=some x|[],x,h,_=>h|c::cs,x,h,hh=>by simp only[fk,Do,A1]at h|-;obtain⟨y,hy,z,hz,rfl⟩:=h;exact⟨y,hq _ _ hy fun id hid=>hh id (List.mem_append.2 (.inl hid)),z,OV hq hz fun id hid=>hh id (List.mem_append.2 (.inr hid)),rfl⟩
theorem XQ{keep:Id->Bool}(r:List U)(x)(hy:kZ L keep r=some x)(hh:∀id∈x.2,L' id=L id):kZ L' keep r=some x:=by unfold kZ at hy|-;split at hy;·{rename_i hc;rw[if_pos hc];exact hy};·rename_i hc;rw[if_neg hc];exact Cf XM hy hh
theorem XO{keep:Id->Bool}{rs:Rows}{x}(h:fk (kZ L keep) rs=some x)(hh:∀id∈x.2,L' id=L id):fk (kZ L' keep) rs=some x:=OV XQ h hh
theorem Q6{l:List (Id×Id)}:∀{r:List (Id×Id)}{x},iV L l r=some x->(∀i∈r.map (·.1),L' i=L i)->(∀i∈x.2,L' i=L i)->iV L' l r=some x|[],x,h,_,_=>h|(o,k)::r,x,h,h1,h2=>by simp only[iV]at h|-;rw[h1 o (by simp)];split at h;·{simp only[Do,A1]at h|-;obtain⟨y,hy,bB,hr,z,hz,rfl⟩:=h;refine⟨y, ?_,bB,hr,z,Q6 hz (fun i hi=>h1 i (by simp only[List.map_cons];exact GE _ hi)) (fun i hi=>h2 i (List.mem_append.2 (.inr hi))),rfl⟩;unfold o3 at hy|-;split at hy;·{rename_i hc;rw[if_pos hc];exact hy};·rename_i hc;rw[if_neg hc];exact XO hy fun i hi=>h2 i (List.mem_append.2 (.inl hi))};·cases h
theorem zg:∀(n:Nat)(b:Bool)(p:Id)(j:Nat)(acc:List (Id×Id))(as:List U),∀x∈acc,x∈eo L n b p j acc as|0,_,_,_,_,_,x,hx=>hx|_+1,_,_,_,_,[],x,hx=>hx|n+1,b,p,j,acc,a::as,x,hx=>by unfold eo;apply zg n b p (j+1);cases a with|rs i off len=>(dsimp only;split;exact hx;exact Ha _ hx)|mr i=>(dsimp only;split;exact hx;exact Ha _ hx)|mp i row off=>(dsimp only;split;·{exact hx};·split;·{exact zg n _ _ _ _ _ x (Ha _ hx)};·exact Ha _ hx)|agg cs=>(exact zg n _ _ _ _ _ x hx)|fn k xs cs=>(exact zg n _ _ _ _ _ x hx)|_=>exact hx
theorem X9(n:Nat)(b:Bool)(p:Id)(j:Nat)(acc:List (Id×Id))(a:U)(as:List U):∃l:(Id->Option (Option Rows))->List (Id×Id),∀L,eo L (n+1) b p j acc (a::as)=eo L n b p (j+1) (l L) as∧l L=(match a with| .rs i _ _=>if !b||(gC acc i).isSome then acc else acc++[(i,j::p)]| .mr i=>if !b||(gC acc i).isSome then acc else acc++[(i,j::p)]| .mp i _ _=>if(gC acc i).isSome then acc else(match L i with|some (some [cs])=>eo L n false (j::p) 0 (acc++[(i,j::p)]) cs|_=>acc++[(i,j::p)])| .agg cs=>eo L n b (j::p) 0 acc cs| .fn _ as cs=>eo L n true (j::p) 0 acc (as++cs)|_=>acc):=⟨_,fun L=>⟨by cases a<;>rw[eo]<;>first|rfl|(intros;contradiction)|(intros;rename_i h;cases h),rfl⟩⟩
theorem BU:∀(n:Nat)(b:Bool)(p:Id)(j:Nat)(acc:List (Id×Id))(as:List U),(∀i∈(eo L n b p j acc as).map (·.1),L' i=L i)->eo L' n b p j acc as=eo L n b p j acc as|0,_,_,_,_,_,_=>rfl|_+1,_,_,_,_,[],_=>rfl|n+1,b,p,j,acc,a::as,h=>by obtain⟨l,hl⟩:=X9 n b p j acc a as;rw[(hl L).1]at h|-;rw[(hl L').1];have sub:∀i∈(l L).map (·.1),L' i=L i:=fun i hi=>by{obtain⟨x,hx,rfl⟩:=List.mem_map.1 hi;exact h _ (List.mem_map.2 ⟨x,zg n b p (j+1) _ as x hx,rfl⟩)};have e:l L'=l L:=by{have h1:=(hl L).2;rw[h1]at sub;rw[(hl L').2,h1];clear h1 h hl l;cases a with|mp i row off=>(dsimp only at sub|-;by_cases hs:(gC acc i).isSome=true;·{rw[if_pos hs,if_pos hs]};·rw[if_neg hs]at sub;rw[if_neg hs,if_neg hs];have hi:L' i=L i:=by{refine sub i ?_;split;·{exact List.mem_map.2 ⟨(i,j::p),zg n _ _ _ _ _ _ (Hc _ (List.mem_singleton.2 rfl)),rfl⟩};·exact List.mem_map.2 ⟨(i,j::p),Hc _ (List.mem_singleton.2 rfl),rfl⟩};rw[hi];split;·{rename_i cs hcs;rw[hcs]at sub;exact BU n false (j::p) 0 _ cs sub};·rfl)|agg cs=>(exact BU n b (j::p) 0 _ cs sub)|fn k xs cs=>(exact BU n true (j::p) 0 _ (xs++cs) sub)|_=>rfl};rw[e];exact BU n b p (j+1) _ as h
theorem O2{k:FuncId}{args:List U}{x:yO}(h:qo call L k args=some x)(h1:∀i∈x.l.map (·.1),L' i=L i)(h2:∀i∈x.gone,L' i=L i):qo call L' k args=some x:=by have hl:x.l=eo L 60 true [jU] 0 [] args:=by{unfold qo Ck at h;split at h;·{split at h;·{split at h;·{obtain⟨back,_,rfl⟩:=Option.map_eq_some_iff.1 h;rfl};·cases h};·cases h};·cases h};obtain⟨obs,outs,ho,_⟩:=zy h;unfold qo at h|-;rw[BU 60 true [jU] 0 [] args (by rw[<-hl];exact h1)];unfold Ck at h|-;rw[hl]at ho;rw[ho]at h;rw[Q6 ho (by rw[<-hl];exact h1) h2];exact h
theorem Zx{k:FuncId}{args:List U}(he:qg C f call S o k args=some e)(hh:Agree S S' e):qg C f call S' o k args=some e:=by unfold qg at he|-;simp only[Do]at he|-;obtain⟨x,hx,he⟩:=he;split at he;·{cases he};·rename_i hp;generalize s4:(if fM C f o.dst=true then(if flat x.r=true then dN x.r else .bD)else x.r)=rr at he;split at he;·{rename_i hf;simp only[AC]at he;subst he;have iG:jd S'.h x.back=jd S.h x.back:=by{obtain⟨_,_,_,_,hb,_⟩:=zy hx;have hbk:=(qf hb).1;unfold jd;refine List.filter_congr fun b hb=> ?_;have:S'.h b.1=S.h b.1:=hh b.1 (.inl (by show b.1∈x.l.map (·.1);rw[<-hbk];exact List.mem_map.2 ⟨b,hb,rfl⟩));unfold yz;rw[this]};refine⟨x,O2 hx (fun i hi=>hh i (.inl hi)) (fun i hi=>hh i (.inr ⟨(i,none), ?_,rfl⟩)), ?_⟩;·{simp only[LM];exact Hc _ (Hc _ (List.mem_map.2 ⟨i,hi,rfl⟩))};·rw[if_neg hp];simp only[s4,iG];rw[Ci (L':=S'.h) (L:=S.h) fun y hy=>hh y.1 (.inr ⟨y,by simp only[LM];exact Ha _ hy,rfl⟩),if_pos hf]};·cases he
theorem O1(hs:∀t∈tmpsOf o,S'.t t=S.t t){x:Operand}(hx:x∈o.op.operands.toList):S'.get C x=S.get C x:=by cases x with|tmp t=>(exact hs t (List.mem_filterMap.2 ⟨.tmp t,hx,rfl⟩))|_=>rfl
theorem Y0(he:bS C f call S true o=some e)(hs:∀t∈tmpsOf o,S'.t t=S.t t)(hh:Agree S S' e):bS C f call S' true o=some e:=by have get:∀x∈o.op.operands.toList,S'.get C x=S.get C x:=fun x hx=>O1 hs hx;have wG:∀xs:List Operand,(∀x∈xs,x∈o.op.operands.toList)->(xs.map fun x=>un true (S'.get C x))=xs.map fun x=>un true (S.get C x):=fun xs h=>H1 fun x hx=>by{rw[get x (h x hx)]};have zw:∀xs:List (Nat×Operand),(∀x∈xs,x.2∈o.op.operands.toList)->(xs.map fun p=>(p.1,un true (S'.get C p.2)))=xs.map fun p=>(p.1,un true (S.get C p.2)):=fun xs h=>H1 fun x hx=>by{rw[get x.2 (h x hx)]};unfold bS at he|-;cases ho:o.op with|move x=>(rw[ho]at he get;simp only[Op.operands]at he get|-;rw[get x (by simp)];exact he)|assign x=>(rw[ho]at he get;simp only[Op.operands]at he get|-;rw[get x (by simp)];exact he)|pick c x y=>(rw[ho]at he get;simp only[Op.operands]at he get|-;rw[get c (by simp),get x (by simp),get y (by simp)];exact he)|alloc t=>(rw[ho]at he;exact Zr he hh)|box t x=>(rw[ho]at he get;simp only[Op.operands]at he get|-;rw[get x (by simp)];exact Zt he hh)|build t ps=>(rw[ho]at he zw;simp only[Op.operands]at he zw|-;rw[zw ps.toList (fun x hx=>by simp;exact⟨x.1,by simpa using hx⟩)];exact he)|buildSlice t n ps=>(rw[ho]at he zw;simp only[Op.operands]at he zw|-;rw[zw ps.toList (fun x hx=>by simp;exact⟨x.1,by simpa using hx⟩)];exact Zu he hh)|load t x=>(rw[ho]at he get;simp only[Op.operands]at he get|-;rw[get x (by simp)];exact ZC he hh)|store t x y=>(rw[ho]at he get;simp only[Op.operands]at he get|-;rw[get x (by simp),get y (by simp)];exact ZI he hh)|nilCheck x=>(rw[ho]at he get;simp only[Op.operands]at he get|-;rw[get x (by simp)];exact he)|binOp op t x y u=>(rw[ho]at he get;simp only[Op.operands]at he get|-;rw[get x (by simp),get y (by simp)];exact he)|unOp op t x=>(rw[ho]at he get;simp only[Op.operands]at he get|-;rw[get x (by simp)];exact he)|convert s t x=>(rw[ho]at he get;simp only[Op.operands]at he get|-;rw[get x (by simp)];exact he)|makeInterface t x=>(rw[ho]at he get;simp only[Op.operands]at he get|-;rw[get x (by simp)];exact he)|makeFunc k xs ys=>(rw[ho]at he wG;simp only[Op.operands]at he wG|-;rw[wG xs.toList (fun x hx=>by simp;exact .inl (by simpa using hx)),wG ys.toList (fun x hx=>by simp;exact .inr (by simpa using hx))];exact he)|makeSlice t x y=>(rw[ho]at he get;simp only[Op.operands]at he get|-;rw[get x (by simp),get y (by simp)];exact ZF he hh)|slice t x lo hi mx=>(rw[ho]at he get;simp only[Op.operands]at he get|-;split at he;·{cases he};·rename_i hm;rw[if_neg hm,get x (by simp)];have e1:(lo.map fun y=>eP (un true (S'.get C y)))=lo.map fun y=>eP (un true (S.get C y)):=by{cases lo with|none=>(rfl)|some y=>simp only[Hb];rw[get y (by simp)]};have e2:(hi.map fun y=>eP (un true (S'.get C y)))=hi.map fun y=>eP (un true (S.get C y)):=by{cases hi with|none=>(rfl)|some y=>simp only[Hb];rw[get y (by simp)]};rw[e1,e2];exact ZH he hh)|fieldAddr s x i=>(rw[ho]at he get;simp only[Op.operands]at he get|-;rw[get x (by simp)];exact he)|field s x i=>(rw[ho]at he get;simp only[Op.operands]at he get|-;rw[get x (by simp)];exact he)|indexAddr t x y=>(rw[ho]at he get;simp only[Op.operands]at he get|-;rw[get x (by simp),get y (by simp)];exact ZA he hh)|index t x y=>(rw[ho]at he get;simp only[Op.operands]at he get|-;rw[get x (by simp),get y (by simp)];exact he)|extract x i=>(rw[ho]at he get;simp only[Op.operands]at he get|-;rw[get x (by simp)];exact he)|typeAssert x xt at_ ok=>(rw[ho]at he get;simp only[Op.operands]at he get|-;rw[get x (by simp)];exact he)|makeMap t r=>(rw[ho]at he;exact ZG he hh)|lookup t x y ok=>(rw[ho]at he get;simp only[Op.operands]at he get|-;rw[get x (by simp),get y (by simp)];exact ZE he hh)|mapUpdate t x y z=>(rw[ho]at he get;simp only[Op.operands]at he get|-;rw[get x (by simp),get y (by simp),get z (by simp)];exact OY he hh)|insert t x y z=>(rw[ho]at he get;simp only[Op.operands]at he get|-;rw[get x (by simp),get y (by simp),get z (by simp)];exact OY he hh)|call c=>(rw[ho]at he get wG;simp only[Op.operands]at he get wG|-;have hargs:=wG c.args.toList (fun x hx=>by simp only[Call.operands];simp;exact .inr (by simpa using hx));cases hc:c.callee with|builtin b=>(rw[hc]at he;cases b with|len=>(simp only at he|-;rw[hargs];exact he)|append=>(simp only[Do]at he|-;rw[hargs];obtain⟨e1,h1,h2⟩:=he;exact⟨e1,Zs h1 (ZL h2 hh),h2⟩)|copy=>(simp only at he|-;rw[hargs];exact Zz he hh)|max=>(simp only at he|-;rw[hargs];exact he)|min=>(simp only at he|-;rw[hargs];exact he)|_=>cases he)|value cS=>(rw[hc]at he;simp only at he|-;rw[get cS (by simp[Call.operands,hc])];split at he;·{rename_i x hx;rw[hargs];exact Zx he hh};rename_i hx;split at he;·{rename_i p hp;rw[hargs];exact ZB he hh};·rename_i hp;split at he;·{rename_i htk;rw[if_pos htk];cases cS with|func k=>(simp only at he|-;rw[hargs];exact Zy he hh)|_=>cases he};·rename_i htk;rw[if_neg htk,hargs];exact Zw he hh)|invoke r n=>rw[hc]at he;cases he)|_=>rw[ho]at he;cases he
end
end Go.Ab
