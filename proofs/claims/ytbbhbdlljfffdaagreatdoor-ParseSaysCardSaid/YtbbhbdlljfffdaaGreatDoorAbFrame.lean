import Derived.Test.YtbbhbdlljfffdaaGreatDoorAbReg2
open List renaming mem_cons_self->Do,mem_cons_of_mem->Ha,mem_append_left->Hc,mem_cons->Hm,not_mem_nil->Hn,append_nil->H0,map_congr_left->H1
open Option renaming map_eq_some_iff->GE,bind_eq_some_iff->GT,map_some->Hd,bind_some->Hk
open Option.some renaming injEq->AC
open Prod.mk renaming injEq->Hb
set_option linter.all false
namespace Go.Ab
open Go
variable{L L':Id->Option (Option Rows)}
theorem BS:∀{l:List (Id×Option Rows)},(∀x∈l,L' x.1=L x.1)->fresh L' l=fresh L l|[],_=>rfl|x::l,h=>by have ih:=BS fun y hy=>h y (Ha _ hy);unfold fresh at ih|-;simp only[List.all_cons,ih,h x (Do ..)]
theorem Gx{x:U}{r:Rows×List Id}(h:rowsOf L x=some r)(hh:∀id∈r.2,L' id=L id):rowsOf L' x=some r:=by
 cases x<;>simp only[rowsOf]at h|-<;>try exact h
 rename_i id off len
 split at h
 ·rename_i rs hid
  split at h
  ·rename_i hc
   simp only[AC]at h;subst h
   rw[hh id (by simp),hid]
   simp only[hc,if_true]
  ·cases h
 ·cases h
def qO(p p':(U->Option (U×List Id)))(L L':Id->Option (Option Rows)):Prop:=∀a x,p a=some x->(∀id∈x.2,L' id=L id)->p' a=some x
theorem BO{p p':U->Option (U×List Id)}(hp:qO p p' L L'):∀{cs:List U}{x},eu p cs=some x->(∀id∈x.2,L' id=L id)->eu p' cs=some x|[],x,h,_=>h|c::cs,x,h,hh=>by simp only[eu,GT,GE]at h|-;obtain⟨y,hy,z,hz,rfl⟩:=h;exact⟨y,hp _ _ hy fun id hid=>hh id (List.mem_append.2 (.inl hid)),z,BO hp hz fun id hid=>hh id (List.mem_append.2 (.inr hid)),rfl⟩
theorem vW{p p':U->Option (U×List Id)}(hp:qO p p' L L'){cs:List U}{x}(h:j3 p cs=some x)(hh:∀id∈x.2,L' id=L id):j3 p' cs=some x:=by unfold j3 at h|-;split at h;·{rename_i hc;simpa[hc]using h};·rename_i hc;simp only[hc];exact BO hp h hh
theorem N7{p p':U->Option (U×List Id)}(hp:qO p p' L L'):∀{rs:Rows}{x},eS (j3 p) rs=some x->(∀id∈x.2,L' id=L id)->eS (j3 p') rs=some x|[],x,h,_=>h|c::cs,x,h,hh=>by simp only[eS,GT,GE]at h|-;obtain⟨y,hy,z,hz,rfl⟩:=h;exact⟨y,vW hp hy fun id hid=>hh id (List.mem_append.2 (.inl hid)),z,N7 hp hz fun id hid=>hh id (List.mem_append.2 (.inr hid)),rfl⟩
theorem MU{p p':U->Option (U×List Id)}(hp:qO p p' L L'){rs:Rows}{x}(h:oS p rs=some x)(hh:∀id∈x.2,L' id=L id):oS p' rs=some x:=by unfold oS at h|-;split at h;·{rename_i hc;simpa[hc]using h};·rename_i hc;simp only[hc];exact N7 hp h hh
theorem Hv:∀n,qO (ct L n) (ct L' n) L L'|0=>fun a x h=>by{simp[ct]at h}|n+1=>fun a x h hh=>by have ih:=Hv n;cases a with|rs id off len=>(simp only[ct]at h|-;split at h;·{rename_i rs hid;split at h;·{rename_i hc;simp only[GE]at h;obtain⟨y,hy,rfl⟩:=h;rw[hh id (Do ..),hid];simp only[hc,if_true,MU ih hy fun id hid=>hh id (Ha _ hid),Hd]};·cases h};·cases h)|mp id row off=>(simp only[ct]at h|-;split at h;·{rename_i rs hid;split at h;·{rename_i r hrow;split at h;·{rename_i hoff;simp only[GE]at h;obtain⟨y,hy,rfl⟩:=h;rw[hh id (Do ..),hid];simp only[hrow,hoff,if_true,vW ih hy fun id hid=>hh id (Ha _ hid),Hd]};·cases h};·cases h};·cases h)|agg cs=>(simp only[ct,GE]at h|-;obtain⟨y,hy,rfl⟩:=h;exact⟨y,vW ih hy hh,rfl⟩)|aI cs=>(simp only[ct,GE]at h|-;obtain⟨y,hy,rfl⟩:=h;exact⟨y,vW ih hy hh,rfl⟩)|fn k a b=>(simp only[ct,GE,GT]at h|-;obtain⟨y,hy,z,hz,rfl⟩:=h;exact⟨y,vW ih hy fun id hid=>hh id (List.mem_append.2 (.inl hid)),z,vW ih hz fun id hid=>hh id (List.mem_append.2 (.inr hid)),rfl⟩)|own rs=>(simp only[ct,GE]at h|-;obtain⟨y,hy,rfl⟩:=h;exact⟨y,MU ih hy hh,rfl⟩)|bf cs=>(simp only[ct,GE]at h|-;obtain⟨y,hy,rfl⟩:=h;exact⟨y,vW ih hy hh,rfl⟩)|bW=>(simpa only[ct]using h)|c6 g y=>(simpa only[ct]using h)|val u=>(simpa only[ct]using h)|nn=>(simpa only[ct]using h)|mr id=>(simp only[ct]at h|-;split at h;·{rename_i rs hid;simp only[AC]at h;subst h;rw[hh id (Do ..),hid]};·cases h)|ey rs=>(simpa only[ct]using h)|im rs=>(simpa only[ct]using h)|sl rows=>(simpa only[ct]using h)|aP cells=>(simpa only[ct]using h)|bM i rs=>(simpa only[ct]using h)|bl u=>(simpa only[ct]using h)|aF=>simpa only[ct]using h
theorem Gf{p p':U->Option (U×List Id)}(hp:qO p p' L L'){cs:List U}{x}(h:iM p cs=some x)(hh:∀id∈x.2,L' id=L id):iM p' cs=some x:=by unfold iM at h|-;split at h;·{rename_i hc;simpa[hc]using h};·rename_i hc;simp only[hc];exact BO hp h hh
theorem QY{p p':U->Option (U×List Id)}(hp:qO p p' L L'):∀{rs:Rows}{x},eS (iM p) rs=some x->(∀id∈x.2,L' id=L id)->eS (iM p') rs=some x|[],x,h,_=>h|c::cs,x,h,hh=>by simp only[eS,GT,GE]at h|-;obtain⟨y,hy,z,hz,rfl⟩:=h;exact⟨y,Gf hp hy fun id hid=>hh id (List.mem_append.2 (.inl hid)),z,QY hp hz fun id hid=>hh id (List.mem_append.2 (.inr hid)),rfl⟩
theorem Q0{p p':U->Option (U×List Id)}(hp:qO p p' L L'){rs:Rows}{x}(h:pL p rs=some x)(hh:∀id∈x.2,L' id=L id):pL p' rs=some x:=by unfold pL at h|-;split at h;·{rename_i hc;simpa[hc]using h};·rename_i hc;simp only[hc];exact QY hp h hh
theorem xM:∀n,qO (pk L n) (pk L' n) L L'|0=>fun a x h=>by{simp[pk]at h}|n+1=>fun a x h hh=>by have ih:=xM n;cases a with|rs id off len=>(simp only[pk]at h|-;split at h;·{rename_i rs hid;split at h;·{rename_i hc;simp only[GE]at h;obtain⟨y,hy,rfl⟩:=h;rw[hh id (Do ..),hid];simp only[hc];rw[Q0 ih (by simpa using hy) fun id hid=>hh id (Ha _ hid)];rfl};·cases h};·cases h)|mp id row off=>(simp only[pk]at h|-;split at h;·{rename_i cs hid;split at h;·{rename_i hc;simp only[GE]at h;obtain⟨y,hy,rfl⟩:=h;rw[hh id (Do ..),hid];simp only[hc];rw[Gf ih hy fun id hid=>hh id (Ha _ hid)];rfl};·cases h};·cases h)|agg cs=>(simp only[pk,GE]at h|-;obtain⟨y,hy,rfl⟩:=h;exact⟨y,Gf ih hy hh,rfl⟩)|aI cs=>(simp only[pk,GE]at h|-;obtain⟨y,hy,rfl⟩:=h;exact⟨y,Gf ih hy hh,rfl⟩)|fn k a b=>(simpa only[pk]using h)|own rs=>(simpa only[pk]using h)|bf cs=>(simpa only[pk]using h)|bW=>(simpa only[pk]using h)|c6 g y=>(simpa only[pk]using h)|val u=>(simpa only[pk]using h)|nn=>(simpa only[pk]using h)|mr id=>(simp only[pk]at h|-;split at h;·{rename_i rs hid;simp only[AC]at h;subst h;rw[hh id (Do ..),hid]};·cases h)|ey rs=>(simpa only[pk]using h)|im rs=>(simpa only[pk]using h)|sl rows=>(simpa only[pk]using h)|aP cells=>(simpa only[pk]using h)|bM i rs=>(simpa only[pk]using h)|bl u=>(simpa only[pk]using h)|aF=>simpa only[pk]using h
theorem Rc(o:Oper)(v:U)(rd:List Id)(wr:List (Id×Option Rows)):(put o v rd wr).rd=rd:=rfl
theorem KS(o:Oper)(v:U)(rd:List Id)(wr:List (Id×Option Rows)):(put o v rd wr).wr=wr:=rfl
section
variable{C:ax}{f:FuncId}{call:FuncId->List U->Option (U×List U)}{S S':ah}{o:Oper}{e:aJ}
def Agree(S S':ah)(e:aJ):Prop:=∀id,(id∈e.rd∨∃x∈e.wr,x.1=id)->S'.h id=S.h id
theorem YV{t:TypeId}(he:sJ C f S o t=some e)(hh:Agree S S' e):sJ C f S' o t=some e:=by
 unfold sJ at he|-
 split at he
 ·rename_i cs d h1 h2
  split at he
  ·simp only[AC]at he;subst he
   rename_i hf
   try rw[h1,h2]
   simp only[hh [d] (.inr ⟨_,Do ..,rfl⟩),hf,if_true]
  ·cases he
 ·cases he
theorem YX{t:TypeId}{x:U}(he:p7 C f S o t x=some e)(hh:Agree S S' e):p7 C f S' o t x=some e:=by unfold p7 at he|-;split at he;·{rename_i b d h1 h2;split at he;·{rename_i cs hcs;split at he;·{rename_i hz;rw[if_pos hz];exact he};·rename_i hz;rw[if_neg hz];split at he;·{rename_i hf;simp only[AC]at he;subst he;rw[hh [d] (.inr ⟨_,Do ..,rfl⟩),if_pos hf]};·cases he};·cases he};·cases he
theorem YZ{t:TypeId}{n:Nat}{ps:List (Nat×U)}(he:sL C f S o t n ps=some e)(hh:Agree S S' e):sL C f S' o t n ps=some e:=by
 unfold sL at he|-
 split at he
 ·rename_i el d h1 h2
  split at he
  ·rename_i z b k hz hb hk
   split at he
   ·rename_i hc
    try rw[if_pos hc]
    split at he
    ·rename_i rows hr
     try rw[hr]
     split at he
     ·rename_i hfz
      rw[if_pos hfz];exact he
     ·rename_i hfz
      rw[if_neg hfz]
      split at he
      ·rename_i hf
       simp only[AC]at he;subst he
       rw[hh [d] (.inr ⟨_,Do ..,rfl⟩),if_pos hf]
      ·cases he
    ·cases he
   ·cases he
  ·cases he
 ·cases he
theorem YY{t:TypeId}{n:Nat}{ps:List (Nat×U)}(he:p8 C f S o t n ps=some e)(hh:Agree S S' e):p8 C f S' o t n ps=some e:=by unfold p8 at he|-;split at he;·{rename_i hc;rw[if_pos hc];unfold BD at he|-;split at he;·{rename_i rows d h1 h2;split at he;·{rename_i aT ids hp;split at he;·{rename_i hn;simp only[AC]at he;subst he;have:pL (pk S'.h 8) rows=some (aT,ids):=Q0 (xM 8) hp fun id hid=>hh id (.inl hid);simp only[h1,h2,this,hn,if_true]};·cases he};·cases he};·cases he};·rename_i hc;rw[if_neg hc];exact YZ he hh
theorem Y9{t:TypeId}{x y:U}(he:sN C S o t x y=some e)(hh:Agree S S' e):sN C S' o t x y=some e:=by
 unfold sN at he|-
 split at he
 ·rename_i el d l c h1 h2 h3 h4
  split at he
  ·rename_i z i hz hi
   split at he
   ·rename_i hc
    simp only[AC]at he;subst he
    try rw[h1,h2,h3,h4]
    try simp only[hz,hi]
    rw[hh [d] (.inr ⟨_,Do ..,rfl⟩),if_pos hc]
   ·cases he
  ·cases he
 ·cases he
theorem Za{t:TypeId}{r:Option Operand}(he:wj C S o t r=some e)(hh:Agree S S' e):wj C S' o t r=some e:=by
 unfold wj at he|-
 split at he
 ·rename_i d h1 h2
  split at he
  ·rename_i hc
   simp only[AC]at he;subst he
   try rw[h1,h2]
   try simp only
   rw[hh [d] (.inr ⟨_,Do ..,rfl⟩),if_pos hc]
  ·cases he
 ·cases he
theorem Y8{t:TypeId}{x k:U}{ok:Bool}(he:wh C S o t x k ok=some e)(hh:Agree S S' e):wh C S' o t x k ok=some e:=by unfold wh at he|-;split at he;·{rename_i kind z rows ids kv h1 h2;obtain⟨r,hf,rfl⟩:=Option.map_eq_some_iff.1 he;have e2:CN S'.h x=some (rows,ids):=by{unfold CN at h2|-;split at h2;·{rename_i id;split at h2;·{rename_i aT hid;simp only[Option.some.injEq,Prod.mk.injEq]at h2;obtain⟨rfl,rfl⟩:=h2;rw[hh id (.inl (by rw[Rc];exact List.mem_cons_self ..)),hid]};·cases h2};·{exact h2};·{exact h2};·cases h2};rw[h1,e2];simp only[hf,Option.map_some]};·cases he
theorem Od{t:TypeId}{x k v:U}(he:sO C S o t x k v=some e)(hh:Agree S S' e):sO C S' o t x k v=some e:=by
 unfold sO at he|-
 split at he
 ·rename_i kind z id kv nU h1
  split at he
  ·rename_i rows hid
   split at he
   ·rename_i hc
    obtain⟨aT,hp,rfl⟩:=Option.map_eq_some_iff.1 he
    try rw[h1]
    try simp only
    rw[hh id (.inl (by rw[Rc];exact Do ..)),hid]
    simp only[if_pos hc,hp,Hd]
   ·cases he
  ·cases he
 ·cases he
theorem Zb{t:TypeId}{x:U}{lo hi:Option (Option Int)}(he:qa C S o t x lo hi=some e)(hh:Agree S S' e):qa C S' o t x lo hi=some e:=by
 unfold qa at he|-
 split at he
 ·rename_i el hu
  try rw[hu]
  try simp only
  split at he
  ·exact he
  ·rename_i id off len sz hs
   try rw[hs]
   try simp only
   split at he
   ·rename_i rows hid
    have hrd:id∈e.rd:=by
     simp only[GT]at he
     obtain⟨b,_,he⟩:=he
     split at he
     ·simp only[AC]at he;subst he;simp[put]
     ·cases he
    rw[hh id (.inl hrd),hid]
    exact he
   ·cases he
  ·cases he
 ·rename_i hu;try rw[hu]
  exact he
 ·cases he
theorem Y4{t:TypeId}{x:U}{i:Option Int}(he:n5 C S o t x i=some e)(hh:Agree S S' e):n5 C S' o t x i=some e:=by
 unfold n5 at he|-
 split at he
 ·rename_i el i' hu
  try rw[hu]
  try simp only
  split at he
  ·rename_i hs;try rw[hs]
   exact he
  ·rename_i n id off len hs
   try rw[hs]
   try simp only
   split at he
   ·rename_i hc
    rw[if_pos hc]
    split at he
    ·rename_i rows hid
     have hrd:id∈e.rd:=by
      simp only[GT]at he
      obtain⟨b,_,he⟩:=he
      split at he
      ·simp only[AC]at he;subst he;simp[put]
      ·cases he
     rw[hh id (.inl hrd),hid]
     exact he
    ·cases he
   ·cases he
  ·cases he
 ·rename_i hu;try rw[hu]
  exact he
 ·cases he
theorem Y6{t:TypeId}{x:U}(he:mF C S o t x=some e)(hh:Agree S S' e):mF C S' o t x=some e:=by
 unfold mF at he|-
 split at he
 ·rename_i b n h1 h2
  try rw[h1,h2]
  try simp only
  split at he
  ·exact he
  ·rename_i id row off
   split at he
   ·rename_i rows hid
    obtain⟨r,hr,he⟩:=Option.bind_eq_some_iff.1 he
    split at he
    ·rename_i hc
     split at he
     ·rename_i hem
      have hrd:id∈e.rd:=by
       obtain⟨v,_,he⟩:=Option.map_eq_some_iff.1 he
       subst he;simp[put]
      rw[hh id (.inl hrd),hid]
      simp only[hr,Hk,hc,if_true,hem]
      exact he
     ·rename_i hem
      split at he
      ·rename_i hf
       have aaI:=he
       obtain⟨v,_,he⟩:=Option.map_eq_some_iff.1 he
       have hrd:id∈e.rd:=by subst he;simp[put]
       have hwr:∀x∈(bB (iT o) 0 ((r.drop off).take n)).2,S'.h x.1=S.h x.1:=fun x hx=>hh x.1 (.inr ⟨x,by subst he;simp[put,hx],rfl⟩)
       rw[hh id (.inl hrd),hid]
       simp only[hr,Hk,hc,if_true,hem,BS hwr,hf]
       exact aaI
      ·cases he
    ·cases he
   ·cases he
  ·cases he
 ·cases he
theorem Zc{t:TypeId}{ao:Operand}{x y:U}(he:n7 C f S true o t ao x y=some e)(hh:Agree S S' e):n7 C f S' true o t ao x y=some e:=by
 unfold n7 at he|-
 split at he
 ·rename_i b n h1 h2
  try rw[h1,h2]
  try simp only
  split at he
  ·rename_i id row off cs hcs
   try rw[hcs]
   try simp only
   split at he
   ·cases he
   ·rename_i hl
    rw[if_neg hl]
    split at he
    ·rename_i rows hid
     have hrd:id∈e.rd:=by
      obtain⟨r,hr,he⟩:=Option.bind_eq_some_iff.1 he
      split at he
      ·split at he
       ·split at he
        ·simp only[AC]at he;subst he;simp
        ·cases he
       ·split at he
        ·simp only[AC]at he;subst he;simp[put]
        ·cases he
      ·cases he
     rw[hh id (.inl hrd),hid]
     exact he
    ·cases he
  ·cases he
 ·cases he
theorem Zg{e1:aJ}(h:qb C f o e1=some e)(hh:Agree S S' e):Agree S S' e1:=by unfold qb at h;split at h;·{split at h;·{rename_i hw;split at h;·{rename_i hc;obtain⟨rfl,_⟩:=hc;simp only[AC]at h;subst h;intro id hid;refine hh id (hid.imp (fun h=>h) fun⟨x,hx,e⟩=> ?_);rw[hw]at hx;simp only[Hm,Hn,or_false]at hx;rcases hx with rfl|rfl;·{exact⟨_,Do ..,e⟩};·exact⟨_,Ha _ (Do ..),e⟩};·cases h};·{rename_i hw;split at h;·{rename_i hc;obtain⟨rfl,_⟩:=hc;simp only[AC]at h;subst h;intro id hid;refine hh id (hid.imp (fun h=>h) fun⟨x,hx,e⟩=> ?_);rw[hw]at hx;simp only[Hm,Hn,or_false]at hx;obtain rfl:=hx;exact⟨_,Do ..,e⟩};·cases h};·cases h};·simp only[AC]at h;subst h;exact hh
theorem YW{ts:Array TypeId}{xs:List U}(he:lU C S o ts xs=some e)(hh:Agree S S' e):lU C S' o ts xs=some e:=by
 unfold lU at he|-
 split at he
 ·rename_i x y t el h1 h2
  try rw[h1,h2]
  try simp only
  unfold yR at he|-
  split at he
  ·rename_i X4 d hu hd
   try rw[hu,hd]
   try simp only
   split at he
   ·rename_i i aiD i1 anL i2 hi hx hy
    split at he
    ·rename_i hc
     unfold mB at he
     have facts:(∀id∈i1++i2,id∈e.rd)∧(∃r,([d],r)∈e.wr):=by
      split at he
      ·split at he
       ·split at he
        ·simp only[AC]at he;subst he
         exact⟨fun id h=>h,_,Ha _ (Do ..)⟩
        ·cases he
       ·cases he
      ·simp only[AC]at he;subst he
       exact⟨fun id h=>h,_,Do ..⟩
      ·cases he
     obtain⟨hrd,r,hwr⟩:=facts
     have ex:=Gx (L':=S'.h) hx fun id hid=>hh id (.inl (hrd id (List.mem_append.2 (.inl hid))))
     have E3:=Gx (L':=S'.h) hy fun id hid=>hh id (.inl (hrd id (List.mem_append.2 (.inr hid))))
     try rw[hi,ex,E3]
     try simp only
     rw[hh [d] (.inr ⟨_,hwr,rfl⟩),if_pos hc]
     unfold mB
     split at he
     ·rename_i id off len
      have hid:id∈i1:=by
       simp only[rowsOf]at hx
       split at hx
       ·split at hx
        ·simp only[AC,Hb]at hx
         rw[<-hx.2];simp
        ·cases hx
       ·cases hx
      try simp only
      rw[hh id (.inl (hrd id (List.mem_append.2 (.inl hid))))]
      exact he
     ·exact he
     ·cases he
    ·cases he
   ·cases he
  ·cases he
 ·rename_i x y t k h1 h2
  try rw[h1,h2]
  try simp only
  unfold yS at he|-
  split at he
  ·rename_i X4 d nn hu hd Ji
   try rw[hu,hd,Ji]
   try simp only
   split at he
   ·rename_i i z aiD i1 hi hz hx
    split at he
    ·rename_i hc
     unfold mB at he
     have facts:(∀id∈i1,id∈e.rd)∧(∃r,([d],r)∈e.wr):=by
      split at he
      ·split at he
       ·split at he
        ·simp only[AC]at he;subst he
         exact⟨fun id h=>by simp only[put,H0];exact h,_,Ha _ (Do ..)⟩
        ·cases he
       ·cases he
      ·simp only[AC]at he;subst he
       exact⟨fun id h=>by simp only[put,H0];exact h,_,Do ..⟩
      ·cases he
     obtain⟨hrd,r,hwr⟩:=facts
     have ex:=Gx (L':=S'.h) hx fun id hid=>hh id (.inl (hrd id hid))
     try rw[hi,hz,ex]
     try simp only
     rw[hh [d] (.inr ⟨_,hwr,rfl⟩),if_pos hc]
     unfold mB
     split at he
     ·rename_i id off len
      have hid:id∈i1:=by
       simp only[rowsOf]at hx
       split at hx
       ·split at hx
        ·simp only[AC,Hb]at hx
         rw[<-hx.2];simp
        ·cases hx
       ·cases hx
      try simp only
      rw[hh id (.inl (hrd id hid))]
      exact he
     ·exact he
     ·cases he
    ·cases he
   ·cases he
  ·cases he
 ·cases he
theorem Y5{p:Nat×Nat}{xs:List U}(he:uG S o p xs=some e)(hh:Agree S S' e):uG S' o p xs=some e:=by unfold uG at he|-;split at he;·{rename_i id row off;split at he;·{rename_i rows hid;split at he;·{rename_i iX off2 len hcell;split at he;·{rename_i eP Ch;split at he;·{rename_i hc;simp only[AC]at he;subst he;have e1:S'.h id=S.h id:=hh id (.inl (by simp[put]));have e2:S'.h iX=S.h iX:=hh iX (.inl (by simp[put]));simp only[e1,hid,hcell,e2,Ch,hc,if_true]};·cases he};·cases he};·cases he};·cases he};·{exact he};·cases he
theorem Y3{ts:Array TypeId}{xs:List U}(he:wg C S o ts xs=some e)(hh:Agree S S' e):wg C S' o ts xs=some e:=by unfold wg at he|-;split at he;·{rename_i x y el h1;split at he;·{rename_i id off len ys i2 hsz Cw;split at he;·{rename_i rows hid;split at he;·{rename_i hc;simp only[AC]at he;subst he;have e1:S'.h id=S.h id:=hh id (.inl (by simp[put]));have e2:rowsOf S'.h y=some (ys,i2):=Gx Cw (fun i hi=>hh i (.inl (by simp[put];exact .inr hi)));simp only[hsz,e2,e1,hid,hc,if_true]};·cases he};·cases he};·cases he};·cases he
theorem Y7{as:List U}(he:xq S o as=some e)(hh:Agree S S' e):xq S' o as=some e:=by unfold xq at he|-;split at he;·{split at he;·{rename_i hc hid;split at he;·{rename_i h2 hk;split at he;·{rename_i hr;split at he;·{rename_i gX;simp only[AC]at he;subst he;have e1:=hh _ (.inl (show _∈[_,_]from Do ..));have e2:=hh _ (.inl (show _∈[_,_]from Ha _ (Do ..)));simp only[hc,e1,hid,e2,h2,hk,hr,gX,and_self,if_true]};·cases he};·cases he};·cases he};·cases he};·cases he
theorem Y0{fv:U}{args:List U}(he:qT C f call S o fv args=some e)(hh:Agree S S' e):qT C f call S' o fv args=some e:=by
 unfold qT at he|-
 split at he
 ·rename_i k first caps
  try simp only
  by_cases hlk:C.look k=true
  ·rw[if_pos hlk]at he|-
   exact Y7 he hh
  rw[if_neg hlk]at he|-
  split at he
  ·rename_i as seen d IN aU
   split at he
   ·rename_i r bz
    generalize hr':(if eG C f o.dst=true then dy r else r)=r' at he
    split at he
    ·cases he
    ·rename_i hm
     split at he
     ·rename_i hf
      simp only[AC]at he;subst he
      have hb:qS S'.h (first++args++caps)=some (as,seen):=BO (Hv 9) IN fun id hid=>hh id (.inl hid)
      have hfr:fresh S'.h (imp [d] r').2=fresh S.h (imp [d] r').2:=BS fun x hx=>hh x.1 (.inr ⟨x,hx,rfl⟩)
      rw[hb,aU]
      simp only[bz]
      rw[<-aU,hr',if_neg hm,hfr,if_pos hf]
     ·cases he
   ·cases he
  ·cases he
 ·cases he
theorem Sq:∀{eR:List U}{ms:List Nat}{as:List U}{seen tk dz:List Id},jW S.h ms eR=some (as,seen,tk,dz)->(∀id∈seen,S'.h id=S.h id)->(∀id∈tk++dz,S'.h id=S.h id)->jW S'.h ms eR=some (as,seen,tk,dz)|[],ms,as,seen,tk,dz,hx,_,_=>hx|c::cs,ms,as,seen,tk,dz,hx,h1,h2=>by simp only[jW,GT]at hx|-;obtain⟨⟨ys,s1,t1,bC⟩,hy,hx⟩:=hx;refine⟨(ys,s1,t1,bC), ?_, ?_⟩;·{split at hx<;>·obtain⟨x,hpk,hx⟩:=Option.map_eq_some_iff.1 hx;simp only[Hb]at hx;obtain⟨rfl,rfl,rfl,rfl⟩:=hx;exact Sq hy (fun id hid=>h1 id (by simp[hid])) (fun id hid=>h2 id (by rcases List.mem_append.1 hid with h|h<;>simp[h]))};·split at hx;·{rename_i hm;obtain⟨x,hpk,hx⟩:=Option.map_eq_some_iff.1 hx;simp only[Hb]at hx;obtain⟨rfl,rfl,rfl,rfl⟩:=hx;simp only[hm];rw[xM 9 _ _ hpk fun id hid=>h2 id (by simp[hid])];rfl};·{rename_i hm;obtain⟨x,hpk,hx⟩:=Option.map_eq_some_iff.1 hx;simp only[Hb]at hx;obtain⟨rfl,rfl,rfl,rfl⟩:=hx;simp only[hm];rw[xM 9 _ _ hpk fun id hid=>h2 id (by simp[hid])];rfl};·rename_i mP hm2;obtain⟨x,hpk,hx⟩:=Option.map_eq_some_iff.1 hx;simp only[Hb]at hx;obtain⟨rfl,rfl,rfl,rfl⟩:=hx;rw[Hv 9 _ _ hpk fun id hid=>h1 id (by simp[hid])];rfl
theorem Rs{a b:U}{l:List (Id×Option Rows)}(h:nQ S.h a b=some l)(hh:∀x∈l,S'.h x.1=S.h x.1):nQ S'.h a b=some l:=by unfold nQ at h;split at h;·{rename_i id cs;split at h;·{rename_i old hid;split at h;·{rename_i hc;simp only[AC]at h;subst h;have:=hh _ (Do ..);simp only[nQ,this,hid,hc,if_true]};·cases h};·cases h};·{rename_i id n rows;split at h;·{rename_i o1 os hid;split at h;·{rename_i hc;simp only[AC]at h;subst h;have:=hh _ (Do ..);simp only[nQ,this,hid];rw[if_pos hc]};·cases h};·{rename_i hid;split at h;·{rename_i hc;simp only[AC]at h;subst h;have:=hh _ (Do ..);simp only[nQ,this,hid];rw[if_pos hc]};·cases h};·cases h};·{rename_i id rows;split at h;·{rename_i vv hid;simp only[AC]at h;subst h;have:=hh _ (Do ..);simp only[nQ,this,hid]};·cases h};·{cases h};·{cases h};·{cases h};·{cases h};·rename_i g1 g2 g3 g4 _ _ _;simp only[AC]at h;subst h;unfold nQ;split<;>first|rfl|exact(g1 _ _ _ rfl).elim|exact(g2 _ _ _ rfl).elim|exact(g3 _ rfl).elim|exact(g4 _ rfl).elim
theorem Rv:∀{as bs:List U}{l:List (Id×Option Rows)},lG S.h as bs=some l->(∀x∈l,S'.h x.1=S.h x.1)->lG S'.h as bs=some l|[],[],l,h,_=>h|[],_::_,l,h,_=>by{simp[lG]at h}|_::_,[],l,h,_=>by{simp[lG]at h}|a::as,b::bs,l,h,hh=>by simp only[lG]at h|-;split at h;·{rename_i x y h1 h2;simp only[AC]at h;subst h;rw[Rs h1 fun x hx=>hh x (List.mem_append.2 (.inl hx)),Rv h2 fun x hx=>hh x (List.mem_append.2 (.inr hx))]};·cases h
theorem agn{a b:U}{l:List (Id×Option Rows)}(h:vq S.h a b=some l)(hh:∀x∈l,S'.h x.1=S.h x.1):vq S'.h a b=some l:=by unfold vq at h|-;split at h;·{exact Rv h hh};·exact Rs h hh
theorem Ry{args:List U}:∀{bX:List Nat}{outs:List U}{l:List (Id×Option Rows)},iN S.h args bX outs=some l->(∀x∈l,S'.h x.1=S.h x.1)->iN S'.h args bX outs=some l|[],[],l,h,_=>h|[],_::_,l,h,_=>by{simp[iN]at h}|_::_,[],l,h,_=>by{simp[iN]at h}|j::bX,b::outs,l,h,hh=>by simp only[iN]at h|-;split at h;·{rename_i a y h1 h2;split at h;·{rename_i x h3;simp only[AC]at h;subst h;rw[h1,Ry h2 fun x hx=>hh x (List.mem_append.2 (.inr hx))];simp only[agn h3 fun x hx=>hh x (List.mem_append.2 (.inl hx))]};·cases h};·cases h
theorem Y2{k:FuncId}{args:List U}(he:qU C f call S o k args=some e)(hh:Agree S S' e):qU C f call S' o k args=some e:=by unfold qU at he|-;split at he;·{rename_i as seen tk dz d htk aU;split at he;·{rename_i r outs bz;generalize hr':(if eG C f o.dst=true then dy r else r)=r' at he;split at he;·{rename_i back fB;split at he;·{rename_i Fk;simp only[AC]at he;subst he;have hw:∀x,(x∈(imp [d] r').2∨x∈back∨x∈(tk++dz).map fun i=>((i,none):Id×Option Rows))->S'.h x.1=S.h x.1:=fun x hx=>hh x.1 (.inr ⟨x,by rw[KS];rcases hx with hx|hx|hx;·{exact List.mem_append.2 (.inl hx)};·{exact List.mem_append.2 (.inr (List.mem_append.2 (.inl hx)))};·exact List.mem_append.2 (.inr (List.mem_append.2 (.inr hx))),rfl⟩);have e1:jW S'.h (C.Ai k) args=some (as,seen,tk,dz):=Sq htk (fun id hid=>hh id (.inl hid)) fun id hid=>hw (id,none) (.inr (.inr (List.mem_map.2 ⟨id,hid,rfl⟩)));have e2:iN S'.h args (C.bX k) outs=some back:=Ry fB fun x hx=>hw x (.inr (.inl hx));have hfr:fresh S'.h (imp [d] r').2=fresh S.h (imp [d] r').2:=BS fun x hx=>hw x (.inl hx);rw[e1];simp only[aU];simp only[aU]at hr';simp only[bz,hr',e2,hfr,if_pos Fk]};·cases he};·cases he};·cases he};·cases he
end
open Go
variable{L L':Id->Option (Option Rows)}
section
variable{C:ax}{f:FuncId}{call:FuncId->List U->Option (U×List U)}{S S':ah}{o:Oper}{e:aJ}
def tmpsOf(o:Oper):List Nat:=o.op.operands.toList.filterMap fun| .tmp t=>some t|_=>none
theorem W9{keep:Id->Bool}:qO (gW L keep) (gW L' keep) L L':=fun a x h hh=>by cases a with|rs i off len=>(simp only[gW]at h|-;split at h;·{rename_i hk;rw[if_pos hk];exact h};·rename_i hk;rw[if_neg hk];exact xM 8 _ _ h hh)|mp i off len=>(simp only[gW]at h|-;split at h;·{rename_i hk;rw[if_pos hk];exact h};·rename_i hk;rw[if_neg hk];exact xM 8 _ _ h hh)|mr i=>(simp only[gW]at h|-;split at h;·{rename_i hk;rw[if_pos hk];exact h};·rename_i hk;rw[if_neg hk];exact xM 8 _ _ h hh)|_=>exact h
theorem N9{q q':List U->Option (List U×List Id)}(hq:∀r x,q r=some x->(∀id∈x.2,L' id=L id)->q' r=some x):∀{rs:Rows}{x},eS q rs=some x->(∀id∈x.2,L' id=L id)->eS q' rs=some x|[],x,h,_=>h|c::cs,x,h,hh=>by simp only[eS,GT,GE]at h|-;obtain⟨y,hy,z,hz,rfl⟩:=h;exact⟨y,hq _ _ hy fun id hid=>hh id (List.mem_append.2 (.inl hid)),z,N9 hq hz fun id hid=>hh id (List.mem_append.2 (.inr hid)),rfl⟩
theorem Xd{keep:Id->Bool}(r:List U)(x)(hy:k3 L keep r=some x)(hh:∀id∈x.2,L' id=L id):k3 L' keep r=some x:=by unfold k3 at hy|-;split at hy;·{rename_i hc;rw[if_pos hc];exact hy};·rename_i hc;rw[if_neg hc];exact BO W9 hy hh
theorem Xb{keep:Id->Bool}{rs:Rows}{x}(h:eS (k3 L keep) rs=some x)(hh:∀id∈x.2,L' id=L id):eS (k3 L' keep) rs=some x:=N9 Xd h hh
theorem Qw{l:List (Id×Id)}:∀{r:List (Id×Id)}{x},gP L l r=some x->(∀i∈r.map (·.1),L' i=L i)->(∀i∈x.2,L' i=L i)->gP L' l r=some x|[],x,h,_,_=>h|(o,k)::r,x,h,h1,h2=>by simp only[gP]at h|-;rw[h1 o (by simp)];split at h;·{simp only[GT,GE]at h|-;obtain⟨y,hy,aT,hr,z,hz,rfl⟩:=h;refine⟨y, ?_,aT,hr,z,Qw hz (fun i hi=>h1 i (by simp only[List.map_cons];exact Ha _ hi)) (fun i hi=>h2 i (List.mem_append.2 (.inr hi))),rfl⟩;unfold nx at hy|-;split at hy;·{rename_i hc;rw[if_pos hc];exact hy};·rename_i hc;rw[if_neg hc];exact Xb hy fun i hi=>h2 i (List.mem_append.2 (.inl hi))};·cases h
theorem y3:∀(n:Nat)(b:Bool)(p:Id)(j:Nat)(acc:List (Id×Id))(as:List U),∀x∈acc,x∈dM L n b p j acc as|0,_,_,_,_,_,x,hx=>hx|_+1,_,_,_,_,[],x,hx=>hx|n+1,b,p,j,acc,a::as,x,hx=>by unfold dM;apply y3 n b p (j+1);cases a with|rs i off len=>(dsimp only;split;exact hx;exact Hc _ hx)|mr i=>(dsimp only;split;exact hx;exact Hc _ hx)|mp i row off=>(dsimp only;split;·{exact hx};·split;·{exact y3 n _ _ _ _ _ x (Hc _ hx)};·exact Hc _ hx)|agg cs=>(exact y3 n _ _ _ _ _ x hx)|fn k xs cs=>(exact y3 n _ _ _ _ _ x hx)|_=>exact hx
theorem Xw(n:Nat)(b:Bool)(p:Id)(j:Nat)(acc:List (Id×Id))(a:U)(as:List U):∃l:(Id->Option (Option Rows))->List (Id×Id),∀L,dM L (n+1) b p j acc (a::as)=dM L n b p (j+1) (l L) as∧l L=(match a with| .rs i _ _=>if !b||(gy acc i).isSome then acc else acc++[(i,j::p)]| .mr i=>if !b||(gy acc i).isSome then acc else acc++[(i,j::p)]| .mp i _ _=>if(gy acc i).isSome then acc else(match L i with|some (some [cs])=>dM L n false (j::p) 0 (acc++[(i,j::p)]) cs|_=>acc++[(i,j::p)])| .agg cs=>dM L n b (j::p) 0 acc cs| .fn _ as cs=>dM L n true (j::p) 0 acc (as++cs)|_=>acc):=⟨_,fun L=>⟨by cases a<;>rw[dM]<;>first|rfl|(intros;contradiction)|(intros;rename_i h;cases h),rfl⟩⟩
theorem Bv:∀(n:Nat)(b:Bool)(p:Id)(j:Nat)(acc:List (Id×Id))(as:List U),(∀i∈(dM L n b p j acc as).map (·.1),L' i=L i)->dM L' n b p j acc as=dM L n b p j acc as|0,_,_,_,_,_,_=>rfl|_+1,_,_,_,_,[],_=>rfl|n+1,b,p,j,acc,a::as,h=>by obtain⟨l,hl⟩:=Xw n b p j acc a as;rw[(hl L).1]at h|-;rw[(hl L').1];have sub:∀i∈(l L).map (·.1),L' i=L i:=fun i hi=>by{obtain⟨x,hx,rfl⟩:=List.mem_map.1 hi;exact h _ (List.mem_map.2 ⟨x,y3 n b p (j+1) _ as x hx,rfl⟩)};have e:l L'=l L:=by{have h1:=(hl L).2;rw[h1]at sub;rw[(hl L').2,h1];clear h1 h hl l;cases a with|mp i row off=>(dsimp only at sub|-;by_cases hs:(gy acc i).isSome=true;·{rw[if_pos hs,if_pos hs]};·rw[if_neg hs]at sub;rw[if_neg hs,if_neg hs];have hi:L' i=L i:=by{refine sub i ?_;split;·{exact List.mem_map.2 ⟨(i,j::p),y3 n _ _ _ _ _ _ (List.mem_append_right _ (List.mem_singleton.2 rfl)),rfl⟩};·exact List.mem_map.2 ⟨(i,j::p),List.mem_append_right _ (List.mem_singleton.2 rfl),rfl⟩};rw[hi];split;·{rename_i cs hcs;rw[hcs]at sub;exact Bv n false (j::p) 0 _ cs sub};·rfl)|agg cs=>(exact Bv n b (j::p) 0 _ cs sub)|fn k xs cs=>(exact Bv n true (j::p) 0 _ (xs++cs) sub)|_=>rfl};rw[e];exact Bv n b p (j+1) _ as h
theorem Oh{k:FuncId}{args:List U}{x:yt}(h:nC call L k args=some x)(h1:∀i∈x.l.map (·.1),L' i=L i)(h2:∀i∈x.gone,L' i=L i):nC call L' k args=some x:=by have hl:x.l=dM L 60 true [gO] 0 [] args:=by{unfold nC zl at h;split at h;·{split at h;·{split at h;·{obtain⟨back,_,rfl⟩:=Option.map_eq_some_iff.1 h;rfl};·cases h};·cases h};·cases h};obtain⟨obs,outs,ho,_⟩:=zm h;unfold nC at h|-;rw[Bv 60 true [gO] 0 [] args (by rw[<-hl];exact h1)];unfold zl at h|-;rw[hl]at ho;rw[ho]at h;rw[Qw ho (by rw[<-hl];exact h1) h2];exact h
theorem Y1{k:FuncId}{args:List U}(he:oU C f call S o k args=some e)(hh:Agree S S' e):oU C f call S' o k args=some e:=by unfold oU at he|-;simp only[GT]at he|-;obtain⟨x,hx,he⟩:=he;split at he;·{cases he};·rename_i hp;generalize s6:(if eG C f o.dst=true then(if flat x.r=true then dy x.r else .aF)else x.r)=rr at he;split at he;·{rename_i hf;simp only[AC]at he;subst he;have gr:hY S'.h x.back=hY S.h x.back:=by{obtain⟨_,_,_,_,hb,_⟩:=zm hx;have hbk:=(p4 hb).1;unfold hY;refine List.filter_congr fun b hb=> ?_;have:S'.h b.1=S.h b.1:=hh b.1 (.inl (by show b.1∈x.l.map (·.1);rw[<-hbk];exact List.mem_map.2 ⟨b,hb,rfl⟩));unfold yc;rw[this]};refine⟨x,Oh hx (fun i hi=>hh i (.inl hi)) (fun i hi=>hh i (.inr ⟨(i,none), ?_,rfl⟩)), ?_⟩;·{simp only[KS];exact List.mem_append_right _ (List.mem_append_right _ (List.mem_map.2 ⟨i,hi,rfl⟩))};·rw[if_neg hp];simp only[s6,gr];rw[BS (L':=S'.h) (L:=S.h) fun y hy=>hh y.1 (.inr ⟨y,by simp only[KS];exact List.mem_append_left _ hy,rfl⟩),if_pos hf]};·cases he
theorem Of(hs:∀t∈tmpsOf o,S'.t t=S.t t){x:Operand}(hx:x∈o.op.operands.toList):S'.get C x=S.get C x:=by cases x with|tmp t=>(exact hs t (List.mem_filterMap.2 ⟨.tmp t,hx,rfl⟩))|_=>rfl
theorem Yn(he:bp C f call S true o=some e)(hs:∀t∈tmpsOf o,S'.t t=S.t t)(hh:Agree S S' e):bp C f call S' true o=some e:=by have get:∀x∈o.op.operands.toList,S'.get C x=S.get C x:=fun x hx=>Of hs hx;have wz:∀xs:List Operand,(∀x∈xs,x∈o.op.operands.toList)->(xs.map fun x=>un true (S'.get C x))=xs.map fun x=>un true (S.get C x):=fun xs h=>H1 fun x hx=>by{rw[get x (h x hx)]};have zk:∀xs:List (Nat×Operand),(∀x∈xs,x.2∈o.op.operands.toList)->(xs.map fun p=>(p.1,un true (S'.get C p.2)))=xs.map fun p=>(p.1,un true (S.get C p.2)):=fun xs h=>H1 fun x hx=>by{rw[get x.2 (h x hx)]};unfold bp at he|-;cases ho:o.op with|move x=>(rw[ho]at he get;simp only[Op.operands]at he get|-;rw[get x (by simp)];exact he)|assign x=>(rw[ho]at he get;simp only[Op.operands]at he get|-;rw[get x (by simp)];exact he)|pick c x y=>(rw[ho]at he get;simp only[Op.operands]at he get|-;rw[get c (by simp),get x (by simp),get y (by simp)];exact he)|alloc t=>(rw[ho]at he;exact YV he hh)|box t x=>(rw[ho]at he get;simp only[Op.operands]at he get|-;rw[get x (by simp)];exact YX he hh)|build t ps=>(rw[ho]at he zk;simp only[Op.operands]at he zk|-;rw[zk ps.toList (fun x hx=>by simp;exact⟨x.1,by simpa using hx⟩)];exact he)|buildSlice t n ps=>(rw[ho]at he zk;simp only[Op.operands]at he zk|-;rw[zk ps.toList (fun x hx=>by simp;exact⟨x.1,by simpa using hx⟩)];exact YY he hh)|load t x=>(rw[ho]at he get;simp only[Op.operands]at he get|-;rw[get x (by simp)];exact Y6 he hh)|store t x y=>(rw[ho]at he get;simp only[Op.operands]at he get|-;rw[get x (by simp),get y (by simp)];exact Zc he hh)|nilCheck x=>(rw[ho]at he get;simp only[Op.operands]at he get|-;rw[get x (by simp)];exact he)|binOp op t x y u=>(rw[ho]at he get;simp only[Op.operands]at he get|-;rw[get x (by simp),get y (by simp)];exact he)|unOp op t x=>(rw[ho]at he get;simp only[Op.operands]at he get|-;rw[get x (by simp)];exact he)|convert s t x=>(rw[ho]at he get;simp only[Op.operands]at he get|-;rw[get x (by simp)];exact he)|makeInterface t x=>(rw[ho]at he get;simp only[Op.operands]at he get|-;rw[get x (by simp)];exact he)|makeFunc k xs ys=>(rw[ho]at he wz;simp only[Op.operands]at he wz|-;rw[wz xs.toList (fun x hx=>by simp;exact .inl (by simpa using hx)),wz ys.toList (fun x hx=>by simp;exact .inr (by simpa using hx))];exact he)|makeSlice t x y=>(rw[ho]at he get;simp only[Op.operands]at he get|-;rw[get x (by simp),get y (by simp)];exact Y9 he hh)|slice t x lo hi mx=>(rw[ho]at he get;simp only[Op.operands]at he get|-;split at he;·{cases he};·rename_i hm;rw[if_neg hm,get x (by simp)];have e1:(lo.map fun y=>ek (un true (S'.get C y)))=lo.map fun y=>ek (un true (S.get C y)):=by{cases lo with|none=>(rfl)|some y=>simp only[Option.map_some];rw[get y (by simp)]};have e2:(hi.map fun y=>ek (un true (S'.get C y)))=hi.map fun y=>ek (un true (S.get C y)):=by{cases hi with|none=>(rfl)|some y=>simp only[Option.map_some];rw[get y (by simp)]};rw[e1,e2];exact Zb he hh)|fieldAddr s x i=>(rw[ho]at he get;simp only[Op.operands]at he get|-;rw[get x (by simp)];exact he)|field s x i=>(rw[ho]at he get;simp only[Op.operands]at he get|-;rw[get x (by simp)];exact he)|indexAddr t x y=>(rw[ho]at he get;simp only[Op.operands]at he get|-;rw[get x (by simp),get y (by simp)];exact Y4 he hh)|index t x y=>(rw[ho]at he get;simp only[Op.operands]at he get|-;rw[get x (by simp),get y (by simp)];exact he)|extract x i=>(rw[ho]at he get;simp only[Op.operands]at he get|-;rw[get x (by simp)];exact he)|typeAssert x xt at_ ok=>(rw[ho]at he get;simp only[Op.operands]at he get|-;rw[get x (by simp)];exact he)|makeMap t r=>(rw[ho]at he;exact Za he hh)|lookup t x y ok=>(rw[ho]at he get;simp only[Op.operands]at he get|-;rw[get x (by simp),get y (by simp)];exact Y8 he hh)|mapUpdate t x y z=>(rw[ho]at he get;simp only[Op.operands]at he get|-;rw[get x (by simp),get y (by simp),get z (by simp)];exact Od he hh)|insert t x y z=>(rw[ho]at he get;simp only[Op.operands]at he get|-;rw[get x (by simp),get y (by simp),get z (by simp)];exact Od he hh)|call c=>(rw[ho]at he get wz;simp only[Op.operands]at he get wz|-;have hargs:=wz c.args.toList (fun x hx=>by simp only[Call.operands];simp;exact .inr (by simpa using hx));cases hc:c.callee with|builtin b=>(rw[hc]at he;cases b with|len=>(simp only at he|-;rw[hargs];exact he)|append=>(simp only[GT]at he|-;rw[hargs];obtain⟨e1,h1,h2⟩:=he;exact⟨e1,YW h1 (Zg h2 hh),h2⟩)|copy=>(simp only at he|-;rw[hargs];exact Y3 he hh)|max=>(simp only at he|-;rw[hargs];exact he)|min=>(simp only at he|-;rw[hargs];exact he)|_=>cases he)|value bV=>(rw[hc]at he;simp only at he|-;rw[get bV (by simp[Call.operands,hc])];split at he;·{rename_i x hx;rw[hargs];exact Y1 he hh};rename_i hx;split at he;·{rename_i p hp;rw[hargs];exact Y5 he hh};·rename_i hp;split at he;·{rename_i htk;rw[if_pos htk];cases bV with|func k=>(simp only at he|-;rw[hargs];exact Y2 he hh)|_=>cases he};·rename_i htk;rw[if_neg htk,hargs];exact Y0 he hh)|invoke r n=>rw[hc]at he;cases he)|_=>rw[ho]at he;cases he
end
end Go.Ab
