import Derived.Test.YtbbhbdlljfffdaaGreatDoorAbReg2
open List renaming mem_cons_self->Do,mem_cons_of_mem->Ha,mem_append_left->Hc,mem_cons->Hm,not_mem_nil->Hn,append_nil->H0,map_congr_left->H1
open Option renaming map_eq_some_iff->GE,bind_eq_some_iff->GT,map_some->Hd,bind_some->Hk
open Option.some renaming injEq->AC
open Prod.mk renaming injEq->Hb
set_option linter.all false
namespace Go.Ab
open Go
variable{L L':Id->Option (Option Rows)}
theorem CK:∀{l:List (Id×Option Rows)},(∀x∈l,L' x.1=L x.1)->fresh L' l=fresh L l|[],_=>rfl|x::l,h=>by have ih:=CK fun y hy=>h y (Ha _ hy);unfold fresh at ih|-;simp only[List.all_cons,ih,h x (Do ..)]
theorem Ih{x:U}{r:Rows×List Id}(h:rowsOf L x=some r)(hh:∀id∈r.2,L' id=L id):rowsOf L' x=some r:=by
 cases x<;>simp only[rowsOf]at h|-<;>try exact h
 rename_i id off len
 split at h
 ·rename_i rs hid
  split at h
  ·rename_i hc
   simp only[AC]at h;subst h
   rw[hh id (by simp),hid]
   simp only[hc,if_true]
  ·cases h
 ·cases h
def rM(p p':(U->Option (U×List Id)))(L L':Id->Option (Option Rows)):Prop:=∀a x,p a=some x->(∀id∈x.2,L' id=L id)->p' a=some x
theorem CG{p p':U->Option (U×List Id)}(hp:rM p p' L L'):∀{cs:List U}{x},dL p cs=some x->(∀id∈x.2,L' id=L id)->dL p' cs=some x|[],x,h,_=>h|c::cs,x,h,hh=>by simp only[dL,GT,GE]at h|-;obtain⟨y,hy,z,hz,rfl⟩:=h;exact⟨y,hp _ _ hy fun id hid=>hh id (List.mem_append.2 (.inl hid)),z,CG hp hz fun id hid=>hh id (List.mem_append.2 (.inr hid)),rfl⟩
theorem wY{p p':U->Option (U×List Id)}(hp:rM p p' L L'){cs:List U}{x}(h:gv p cs=some x)(hh:∀id∈x.2,L' id=L id):gv p' cs=some x:=by unfold gv at h|-;split at h;·{rename_i hc;simpa[hc]using h};·rename_i hc;simp only[hc];exact CG hp h hh
theorem Q8{p p':U->Option (U×List Id)}(hp:rM p p' L L'):∀{rs:Rows}{x},dP (gv p) rs=some x->(∀id∈x.2,L' id=L id)->dP (gv p') rs=some x|[],x,h,_=>h|c::cs,x,h,hh=>by simp only[dP,GT,GE]at h|-;obtain⟨y,hy,z,hz,rfl⟩:=h;exact⟨y,wY hp hy fun id hid=>hh id (List.mem_append.2 (.inl hid)),z,Q8 hp hz fun id hid=>hh id (List.mem_append.2 (.inr hid)),rfl⟩
theorem Pq{p p':U->Option (U×List Id)}(hp:rM p p' L L'){rs:Rows}{x}(h:lP p rs=some x)(hh:∀id∈x.2,L' id=L id):lP p' rs=some x:=by unfold lP at h|-;split at h;·{rename_i hc;simpa[hc]using h};·rename_i hc;simp only[hc];exact Q8 hp h hh
theorem Jm:∀n,rM (bT L n) (bT L' n) L L'|0=>fun a x h=>by{simp[bT]at h}|n+1=>fun a x h hh=>by have ih:=Jm n;cases a with|rs id off len=>(simp only[bT]at h|-;split at h;·{rename_i rs hid;split at h;·{rename_i hc;simp only[GE]at h;obtain⟨y,hy,rfl⟩:=h;rw[hh id (Do ..),hid];simp only[hc,if_true,Pq ih hy fun id hid=>hh id (Ha _ hid),Hd]};·cases h};·cases h)|mp id row off=>(simp only[bT]at h|-;split at h;·{rename_i rs hid;split at h;·{rename_i r hrow;split at h;·{rename_i hoff;simp only[GE]at h;obtain⟨y,hy,rfl⟩:=h;rw[hh id (Do ..),hid];simp only[hrow,hoff,if_true,wY ih hy fun id hid=>hh id (Ha _ hid),Hd]};·cases h};·cases h};·cases h)|agg cs=>(simp only[bT,GE]at h|-;obtain⟨y,hy,rfl⟩:=h;exact⟨y,wY ih hy hh,rfl⟩)|aU cs=>(simp only[bT,GE]at h|-;obtain⟨y,hy,rfl⟩:=h;exact⟨y,wY ih hy hh,rfl⟩)|fn k a b=>(simp only[bT,GE,GT]at h|-;obtain⟨y,hy,z,hz,rfl⟩:=h;exact⟨y,wY ih hy fun id hid=>hh id (List.mem_append.2 (.inl hid)),z,wY ih hz fun id hid=>hh id (List.mem_append.2 (.inr hid)),rfl⟩)|own rs=>(simp only[bT,GE]at h|-;obtain⟨y,hy,rfl⟩:=h;exact⟨y,Pq ih hy hh,rfl⟩)|aP cs=>(simp only[bT,GE]at h|-;obtain⟨y,hy,rfl⟩:=h;exact⟨y,wY ih hy hh,rfl⟩)|ct=>(simpa only[bT]using h)|c8 g y=>(simpa only[bT]using h)|val u=>(simpa only[bT]using h)|nn=>(simpa only[bT]using h)|mr id=>(simp only[bT]at h|-;split at h;·{rename_i rs hid;simp only[AC]at h;subst h;rw[hh id (Do ..),hid]};·cases h)|ef rs=>(simpa only[bT]using h)|im rs=>(simpa only[bT]using h)|sl rows=>(simpa only[bT]using h)|ay cells=>(simpa only[bT]using h)|bQ i rs=>(simpa only[bT]using h)|AY u=>(simpa only[bT]using h)|bf=>simpa only[bT]using h
theorem HQ{p p':U->Option (U×List Id)}(hp:rM p p' L L'){cs:List U}{x}(h:ig p cs=some x)(hh:∀id∈x.2,L' id=L id):ig p' cs=some x:=by unfold ig at h|-;split at h;·{rename_i hc;simpa[hc]using h};·rename_i hc;simp only[hc];exact CG hp h hh
theorem T6{p p':U->Option (U×List Id)}(hp:rM p p' L L'):∀{rs:Rows}{x},dP (ig p) rs=some x->(∀id∈x.2,L' id=L id)->dP (ig p') rs=some x|[],x,h,_=>h|c::cs,x,h,hh=>by simp only[dP,GT,GE]at h|-;obtain⟨y,hy,z,hz,rfl⟩:=h;exact⟨y,HQ hp hy fun id hid=>hh id (List.mem_append.2 (.inl hid)),z,T6 hp hz fun id hid=>hh id (List.mem_append.2 (.inr hid)),rfl⟩
theorem T7{p p':U->Option (U×List Id)}(hp:rM p p' L L'){rs:Rows}{x}(h:mm p rs=some x)(hh:∀id∈x.2,L' id=L id):mm p' rs=some x:=by unfold mm at h|-;split at h;·{rename_i hc;simpa[hc]using h};·rename_i hc;simp only[hc];exact T6 hp h hh
theorem yB:∀n,rM (pk L n) (pk L' n) L L'|0=>fun a x h=>by{simp[pk]at h}|n+1=>fun a x h hh=>by have ih:=yB n;cases a with|rs id off len=>(simp only[pk]at h|-;split at h;·{rename_i rs hid;split at h;·{rename_i hc;simp only[GE]at h;obtain⟨y,hy,rfl⟩:=h;rw[hh id (Do ..),hid];simp only[hc];rw[T7 ih (by simpa using hy) fun id hid=>hh id (Ha _ hid)];rfl};·cases h};·cases h)|mp id row off=>(simp only[pk]at h|-;split at h;·{rename_i cs hid;split at h;·{rename_i hc;simp only[GE]at h;obtain⟨y,hy,rfl⟩:=h;rw[hh id (Do ..),hid];simp only[hc];rw[HQ ih hy fun id hid=>hh id (Ha _ hid)];rfl};·cases h};·cases h)|agg cs=>(simp only[pk,GE]at h|-;obtain⟨y,hy,rfl⟩:=h;exact⟨y,HQ ih hy hh,rfl⟩)|aU cs=>(simp only[pk,GE]at h|-;obtain⟨y,hy,rfl⟩:=h;exact⟨y,HQ ih hy hh,rfl⟩)|fn k a b=>(simpa only[pk]using h)|own rs=>(simpa only[pk]using h)|aP cs=>(simpa only[pk]using h)|ct=>(simpa only[pk]using h)|c8 g y=>(simpa only[pk]using h)|val u=>(simpa only[pk]using h)|nn=>(simpa only[pk]using h)|mr id=>(simp only[pk]at h|-;split at h;·{rename_i rs hid;simp only[AC]at h;subst h;rw[hh id (Do ..),hid]};·cases h)|ef rs=>(simpa only[pk]using h)|im rs=>(simpa only[pk]using h)|sl rows=>(simpa only[pk]using h)|ay cells=>(simpa only[pk]using h)|bQ i rs=>(simpa only[pk]using h)|AY u=>(simpa only[pk]using h)|bf=>simpa only[pk]using h
theorem Us(o:Oper)(v:U)(rd:List Id)(wr:List (Id×Option Rows)):(put o v rd wr).rd=rd:=rfl
theorem M0(o:Oper)(v:U)(rd:List Id)(wr:List (Id×Option Rows)):(put o v rd wr).wr=wr:=rfl
section
variable{C:aF}{f:FuncId}{call:FuncId->List U->Option (U×List U)}{S S':ah}{o:Oper}{e:bh}
def Agree(S S':ah)(e:bh):Prop:=∀id,(id∈e.rd∨∃x∈e.wr,x.1=id)->S'.h id=S.h id
theorem acv{t:TypeId}(he:tw C f S o t=some e)(hh:Agree S S' e):tw C f S' o t=some e:=by
 unfold tw at he|-
 split at he
 ·rename_i cs d h1 h2
  split at he
  ·simp only[AC]at he;subst he
   rename_i hf
   try rw[h1,h2]
   simp only[hh [d] (.inr ⟨_,Do ..,rfl⟩),hf,if_true]
  ·cases he
 ·cases he
theorem acy{t:TypeId}{x:U}(he:qR C f S o t x=some e)(hh:Agree S S' e):qR C f S' o t x=some e:=by unfold qR at he|-;split at he;·{rename_i b d h1 h2;split at he;·{rename_i cs hcs;split at he;·{rename_i hz;rw[if_pos hz];exact he};·rename_i hz;rw[if_neg hz];split at he;·{rename_i hf;simp only[AC]at he;subst he;rw[hh [d] (.inr ⟨_,Do ..,rfl⟩),if_pos hf]};·cases he};·cases he};·cases he
theorem acA{t:TypeId}{n:Nat}{ps:List (Nat×U)}(he:tA C f S o t n ps=some e)(hh:Agree S S' e):tA C f S' o t n ps=some e:=by
 unfold tA at he|-
 split at he
 ·rename_i el d h1 h2
  split at he
  ·rename_i z b k hz hb hk
   split at he
   ·rename_i hc
    try rw[if_pos hc]
    split at he
    ·rename_i rows hr
     try rw[hr]
     split at he
     ·rename_i hfz
      rw[if_pos hfz];exact he
     ·rename_i hfz
      rw[if_neg hfz]
      split at he
      ·rename_i hf
       simp only[AC]at he;subst he
       rw[hh [d] (.inr ⟨_,Do ..,rfl⟩),if_pos hf]
      ·cases he
    ·cases he
   ·cases he
  ·cases he
 ·cases he
theorem acz{t:TypeId}{n:Nat}{ps:List (Nat×U)}(he:qS C f S o t n ps=some e)(hh:Agree S S' e):qS C f S' o t n ps=some e:=by unfold qS at he|-;split at he;·{rename_i hc;rw[if_pos hc];unfold Cw at he|-;split at he;·{rename_i rows d h1 h2;split at he;·{rename_i aY ids hp;split at he;·{rename_i hn;simp only[AC]at he;subst he;have:mm (pk S'.h 8) rows=some (aY,ids):=T7 (yB 8) hp fun id hid=>hh id (.inl hid);simp only[h1,h2,this,hn,if_true]};·cases he};·cases he};·cases he};·rename_i hc;rw[if_neg hc];exact acA he hh
theorem acK{t:TypeId}{x y:U}(he:tC C S o t x y=some e)(hh:Agree S S' e):tC C S' o t x y=some e:=by
 unfold tC at he|-
 split at he
 ·rename_i el d l c h1 h2 h3 h4
  split at he
  ·rename_i z i hz hi
   split at he
   ·rename_i hc
    simp only[AC]at he;subst he
    try rw[h1,h2,h3,h4]
    try simp only[hz,hi]
    rw[hh [d] (.inr ⟨_,Do ..,rfl⟩),if_pos hc]
   ·cases he
  ·cases he
 ·cases he
theorem acL{t:TypeId}{r:Option Operand}(he:tD C S o t r=some e)(hh:Agree S S' e):tD C S' o t r=some e:=by
 unfold tD at he|-
 split at he
 ·rename_i d h1 h2
  split at he
  ·rename_i hc
   simp only[AC]at he;subst he
   try rw[h1,h2]
   try simp only
   rw[hh [d] (.inr ⟨_,Do ..,rfl⟩),if_pos hc]
  ·cases he
 ·cases he
theorem acJ{t:TypeId}{x k:U}{ok:Bool}(he:oN C S o t x k ok=some e)(hh:Agree S S' e):oN C S' o t x k ok=some e:=by unfold oN at he|-;split at he;·{rename_i kind z rows ids kv h1 h2;obtain⟨r,hf,rfl⟩:=Option.map_eq_some_iff.1 he;have e2:vG S'.h x=some (rows,ids):=by{unfold vG at h2|-;split at h2;·{rename_i id;split at h2;·{rename_i aY hid;simp only[Option.some.injEq,Prod.mk.injEq]at h2;obtain⟨rfl,rfl⟩:=h2;rw[hh id (.inl (by rw[Us];exact List.mem_cons_self ..)),hid]};·cases h2};·{exact h2};·{exact h2};·cases h2};rw[h1,e2];simp only[hf,Option.map_some]};·cases he
theorem Rh{t:TypeId}{x k v:U}(he:qT C S o t x k v=some e)(hh:Agree S S' e):qT C S' o t x k v=some e:=by
 unfold qT at he|-
 split at he
 ·rename_i kind z id kv oC h1
  split at he
  ·rename_i rows hid
   split at he
   ·rename_i hc
    obtain⟨aY,hp,rfl⟩:=Option.map_eq_some_iff.1 he
    try rw[h1]
    try simp only
    rw[hh id (.inl (by rw[Us];exact Do ..)),hid]
    simp only[if_pos hc,hp,Hd]
   ·cases he
  ·cases he
 ·cases he
theorem acM{t:TypeId}{x:U}{lo hi:Option (Option Int)}(he:oO C S o t x lo hi=some e)(hh:Agree S S' e):oO C S' o t x lo hi=some e:=by
 unfold oO at he|-
 split at he
 ·rename_i el hu
  try rw[hu]
  try simp only
  split at he
  ·exact he
  ·rename_i id off len sz hs
   try rw[hs]
   try simp only
   split at he
   ·rename_i rows hid
    have hrd:id∈e.rd:=by
     simp only[GT]at he
     obtain⟨b,_,he⟩:=he
     split at he
     ·simp only[AC]at he;subst he;simp[put]
     ·cases he
    rw[hh id (.inl hrd),hid]
    exact he
   ·cases he
  ·cases he
 ·rename_i hu;try rw[hu]
  exact he
 ·cases he
theorem acF{t:TypeId}{x:U}{i:Option Int}(he:nq C S o t x i=some e)(hh:Agree S S' e):nq C S' o t x i=some e:=by
 unfold nq at he|-
 split at he
 ·rename_i el i' hu
  try rw[hu]
  try simp only
  split at he
  ·rename_i hs;try rw[hs]
   exact he
  ·rename_i n id off len hs
   try rw[hs]
   try simp only
   split at he
   ·rename_i hc
    rw[if_pos hc]
    split at he
    ·rename_i rows hid
     have hrd:id∈e.rd:=by
      simp only[GT]at he
      obtain⟨b,_,he⟩:=he
      split at he
      ·simp only[AC]at he;subst he;simp[put]
      ·cases he
     rw[hh id (.inl hrd),hid]
     exact he
    ·cases he
   ·cases he
  ·cases he
 ·rename_i hu;try rw[hu]
  exact he
 ·cases he
theorem acH{t:TypeId}{x:U}(he:lU C S o t x=some e)(hh:Agree S S' e):lU C S' o t x=some e:=by
 unfold lU at he|-
 split at he
 ·rename_i b n h1 h2
  try rw[h1,h2]
  try simp only
  split at he
  ·exact he
  ·rename_i id row off
   split at he
   ·rename_i rows hid
    obtain⟨r,hr,he⟩:=Option.bind_eq_some_iff.1 he
    split at he
    ·rename_i hc
     split at he
     ·rename_i hem
      have hrd:id∈e.rd:=by
       obtain⟨v,_,he⟩:=Option.map_eq_some_iff.1 he
       subst he;simp[put]
      rw[hh id (.inl hrd),hid]
      simp only[hr,Hk,hc,if_true,hem]
      exact he
     ·rename_i hem
      split at he
      ·rename_i hf
       have aeC:=he
       obtain⟨v,_,he⟩:=Option.map_eq_some_iff.1 he
       have hrd:id∈e.rd:=by subst he;simp[put]
       have hwr:∀x∈(bJ (ja o) 0 ((r.drop off).take n)).2,S'.h x.1=S.h x.1:=fun x hx=>hh x.1 (.inr ⟨x,by subst he;simp[put,hx],rfl⟩)
       rw[hh id (.inl hrd),hid]
       simp only[hr,Hk,hc,if_true,hem,CK hwr,hf]
       exact aeC
      ·cases he
    ·cases he
   ·cases he
  ·cases he
 ·cases he
theorem acN{t:TypeId}{ao:Operand}{x y:U}(he:oP C f S true o t ao x y=some e)(hh:Agree S S' e):oP C f S' true o t ao x y=some e:=by
 unfold oP at he|-
 split at he
 ·rename_i b n h1 h2
  try rw[h1,h2]
  try simp only
  split at he
  ·rename_i id row off cs hcs
   try rw[hcs]
   try simp only
   split at he
   ·cases he
   ·rename_i hl
    rw[if_neg hl]
    split at he
    ·rename_i rows hid
     have hrd:id∈e.rd:=by
      obtain⟨r,hr,he⟩:=Option.bind_eq_some_iff.1 he
      split at he
      ·split at he
       ·split at he
        ·simp only[AC]at he;subst he;simp
        ·cases he
       ·split at he
        ·simp only[AC]at he;subst he;simp[put]
        ·cases he
      ·cases he
     rw[hh id (.inl hrd),hid]
     exact he
    ·cases he
  ·cases he
 ·cases he
theorem acR{e1:bh}(h:tG C f o e1=some e)(hh:Agree S S' e):Agree S S' e1:=by unfold tG at h;split at h;·{split at h;·{rename_i hw;split at h;·{rename_i hc;obtain⟨rfl,_⟩:=hc;simp only[AC]at h;subst h;intro id hid;refine hh id (hid.imp (fun h=>h) fun⟨x,hx,e⟩=> ?_);rw[hw]at hx;simp only[Hm,Hn,or_false]at hx;rcases hx with rfl|rfl;·{exact⟨_,Do ..,e⟩};·exact⟨_,Ha _ (Do ..),e⟩};·cases h};·{rename_i hw;split at h;·{rename_i hc;obtain⟨rfl,_⟩:=hc;simp only[AC]at h;subst h;intro id hid;refine hh id (hid.imp (fun h=>h) fun⟨x,hx,e⟩=> ?_);rw[hw]at hx;simp only[Hm,Hn,or_false]at hx;obtain rfl:=hx;exact⟨_,Do ..,e⟩};·cases h};·cases h};·simp only[AC]at h;subst h;exact hh
theorem acw{ts:Array TypeId}{xs:List U}(he:n6 C S o ts xs=some e)(hh:Agree S S' e):n6 C S' o ts xs=some e:=by
 unfold n6 at he|-
 split at he
 ·rename_i x y t el h1 h2
  try rw[h1,h2]
  try simp only
  unfold zz at he|-
  split at he
  ·rename_i abF d hu hd
   try rw[hu,hd]
   try simp only
   split at he
   ·rename_i i amr i1 ark i2 hi hx hy
    split at he
    ·rename_i hc
     unfold nY at he
     have facts:(∀id∈i1++i2,id∈e.rd)∧(∃r,([d],r)∈e.wr):=by
      split at he
      ·split at he
       ·split at he
        ·simp only[AC]at he;subst he
         exact⟨fun id h=>h,_,Ha _ (Do ..)⟩
        ·cases he
       ·cases he
      ·simp only[AC]at he;subst he
       exact⟨fun id h=>h,_,Do ..⟩
      ·cases he
     obtain⟨hrd,r,hwr⟩:=facts
     have ex:=Ih (L':=S'.h) hx fun id hid=>hh id (.inl (hrd id (List.mem_append.2 (.inl hid))))
     have F4:=Ih (L':=S'.h) hy fun id hid=>hh id (.inl (hrd id (List.mem_append.2 (.inr hid))))
     try rw[hi,ex,F4]
     try simp only
     rw[hh [d] (.inr ⟨_,hwr,rfl⟩),if_pos hc]
     unfold nY
     split at he
     ·rename_i id off len
      have hid:id∈i1:=by
       simp only[rowsOf]at hx
       split at hx
       ·split at hx
        ·simp only[AC,Hb]at hx
         rw[<-hx.2];simp
        ·cases hx
       ·cases hx
      try simp only
      rw[hh id (.inl (hrd id (List.mem_append.2 (.inl hid))))]
      exact he
     ·exact he
     ·cases he
    ·cases he
   ·cases he
  ·cases he
 ·rename_i x y t k h1 h2
  try rw[h1,h2]
  try simp only
  unfold zA at he|-
  split at he
  ·rename_i abF d nn hu hd K7
   try rw[hu,hd,K7]
   try simp only
   split at he
   ·rename_i i z amr i1 hi hz hx
    split at he
    ·rename_i hc
     unfold nY at he
     have facts:(∀id∈i1,id∈e.rd)∧(∃r,([d],r)∈e.wr):=by
      split at he
      ·split at he
       ·split at he
        ·simp only[AC]at he;subst he
         exact⟨fun id h=>by simp only[put,H0];exact h,_,Ha _ (Do ..)⟩
        ·cases he
       ·cases he
      ·simp only[AC]at he;subst he
       exact⟨fun id h=>by simp only[put,H0];exact h,_,Do ..⟩
      ·cases he
     obtain⟨hrd,r,hwr⟩:=facts
     have ex:=Ih (L':=S'.h) hx fun id hid=>hh id (.inl (hrd id hid))
     try rw[hi,hz,ex]
     try simp only
     rw[hh [d] (.inr ⟨_,hwr,rfl⟩),if_pos hc]
     unfold nY
     split at he
     ·rename_i id off len
      have hid:id∈i1:=by
       simp only[rowsOf]at hx
       split at hx
       ·split at hx
        ·simp only[AC,Hb]at hx
         rw[<-hx.2];simp
        ·cases hx
       ·cases hx
      try simp only
      rw[hh id (.inl (hrd id hid))]
      exact he
     ·exact he
     ·cases he
    ·cases he
   ·cases he
  ·cases he
 ·cases he
theorem acG{p:Nat×Nat}{xs:List U}(he:u9 S o p xs=some e)(hh:Agree S S' e):u9 S' o p xs=some e:=by unfold u9 at he|-;split at he;·{rename_i id row off;split at he;·{rename_i rows hid;split at he;·{rename_i fU off2 len hcell;split at he;·{rename_i fc xL;split at he;·{rename_i hc;simp only[AC]at he;subst he;have e1:S'.h id=S.h id:=hh id (.inl (by simp[put]));have e2:S'.h fU=S.h fU:=hh fU (.inl (by simp[put]));simp only[e1,hid,hcell,e2,xL,hc,if_true]};·cases he};·cases he};·cases he};·cases he};·{exact he};·cases he
theorem acE{ts:Array TypeId}{xs:List U}(he:xm C S o ts xs=some e)(hh:Agree S S' e):xm C S' o ts xs=some e:=by unfold xm at he|-;split at he;·{rename_i x y el h1;split at he;·{rename_i id off len ys i2 hsz Dt;split at he;·{rename_i rows hid;split at he;·{rename_i hc;simp only[AC]at he;subst he;have e1:S'.h id=S.h id:=hh id (.inl (by simp[put]));have e2:rowsOf S'.h y=some (ys,i2):=Ih Dt (fun i hi=>hh i (.inl (by simp[put];exact .inr hi)));simp only[hsz,e2,e1,hid,hc,if_true]};·cases he};·cases he};·cases he};·cases he
theorem acI{as:List U}(he:vF S o as=some e)(hh:Agree S S' e):vF S' o as=some e:=by unfold vF at he|-;split at he;·{split at he;·{rename_i hc hid;split at he;·{rename_i h2 hk;split at he;·{rename_i hr;split at he;·{rename_i jX;simp only[AC]at he;subst he;have e1:=hh _ (.inl (show _∈[_,_]from Do ..));have e2:=hh _ (.inl (show _∈[_,_]from Ha _ (Do ..)));simp only[hc,e1,hid,e2,h2,hk,hr,jX,and_self,if_true]};·cases he};·cases he};·cases he};·cases he};·cases he
theorem acB{fv:U}{args:List U}(he:qN C f call S o fv args=some e)(hh:Agree S S' e):qN C f call S' o fv args=some e:=by
 unfold qN at he|-
 split at he
 ·rename_i k first caps
  try simp only
  by_cases hlk:C.look k=true
  ·rw[if_pos hlk]at he|-
   exact acI he hh
  rw[if_neg hlk]at he|-
  split at he
  ·rename_i as seen d KF bw
   split at he
   ·rename_i r bU
    generalize hr':(if eX C f o.dst=true then dF r else r)=r' at he
    split at he
    ·cases he
    ·rename_i hm
     split at he
     ·rename_i hf
      simp only[AC]at he;subst he
      have hb:rT S'.h (first++args++caps)=some (as,seen):=CG (Jm 9) KF fun id hid=>hh id (.inl hid)
      have hfr:fresh S'.h (imp [d] r').2=fresh S.h (imp [d] r').2:=CK fun x hx=>hh x.1 (.inr ⟨x,hx,rfl⟩)
      rw[hb,bw]
      simp only[bU]
      rw[<-bw,hr',if_neg hm,hfr,if_pos hf]
     ·cases he
   ·cases he
  ·cases he
 ·cases he
theorem Vm:∀{er:List U}{ms:List Nat}{as:List U}{seen tk dj:List Id},kg S.h ms er=some (as,seen,tk,dj)->(∀id∈seen,S'.h id=S.h id)->(∀id∈tk++dj,S'.h id=S.h id)->kg S'.h ms er=some (as,seen,tk,dj)|[],ms,as,seen,tk,dj,hx,_,_=>hx|c::cs,ms,as,seen,tk,dj,hx,h1,h2=>by simp only[kg,GT]at hx|-;obtain⟨⟨ys,s1,t1,bR⟩,hy,hx⟩:=hx;refine⟨(ys,s1,t1,bR), ?_, ?_⟩;·{split at hx<;>·obtain⟨x,hpk,hx⟩:=Option.map_eq_some_iff.1 hx;simp only[Hb]at hx;obtain⟨rfl,rfl,rfl,rfl⟩:=hx;exact Vm hy (fun id hid=>h1 id (by simp[hid])) (fun id hid=>h2 id (by rcases List.mem_append.1 hid with h|h<;>simp[h]))};·split at hx;·{rename_i hm;obtain⟨x,hpk,hx⟩:=Option.map_eq_some_iff.1 hx;simp only[Hb]at hx;obtain⟨rfl,rfl,rfl,rfl⟩:=hx;simp only[hm];rw[yB 9 _ _ hpk fun id hid=>h2 id (by simp[hid])];rfl};·{rename_i hm;obtain⟨x,hpk,hx⟩:=Option.map_eq_some_iff.1 hx;simp only[Hb]at hx;obtain⟨rfl,rfl,rfl,rfl⟩:=hx;simp only[hm];rw[yB 9 _ _ hpk fun id hid=>h2 id (by simp[hid])];rfl};·rename_i vp hm2;obtain⟨x,hpk,hx⟩:=Option.map_eq_some_iff.1 hx;simp only[Hb]at hx;obtain⟨rfl,rfl,rfl,rfl⟩:=hx;rw[Jm 9 _ _ hpk fun id hid=>h1 id (by simp[hid])];rfl
theorem UA{a b:U}{l:List (Id×Option Rows)}(h:jF S.h a b=some l)(hh:∀x∈l,S'.h x.1=S.h x.1):jF S'.h a b=some l:=by unfold jF at h;split at h;·{rename_i id cs;split at h;·{rename_i old hid;split at h;·{rename_i hc;simp only[AC]at h;subst h;have:=hh _ (Do ..);simp only[jF,this,hid,hc,if_true]};·cases h};·cases h};·{rename_i id n rows;split at h;·{rename_i o1 os hid;split at h;·{rename_i hc;simp only[AC]at h;subst h;have:=hh _ (Do ..);simp only[jF,this,hid];rw[if_pos hc]};·cases h};·{rename_i hid;split at h;·{rename_i hc;simp only[AC]at h;subst h;have:=hh _ (Do ..);simp only[jF,this,hid];rw[if_pos hc]};·cases h};·cases h};·{rename_i id rows;split at h;·{rename_i vZ hid;simp only[AC]at h;subst h;have:=hh _ (Do ..);simp only[jF,this,hid]};·cases h};·{cases h};·{cases h};·{cases h};·{cases h};·rename_i g1 g2 g3 g4 _ _ _;simp only[AC]at h;subst h;unfold jF;split<;>first|rfl|exact(g1 _ _ _ rfl).elim|exact(g2 _ _ _ rfl).elim|exact(g3 _ rfl).elim|exact(g4 _ rfl).elim
theorem UD:∀{as bs:List U}{l:List (Id×Option Rows)},j9 S.h as bs=some l->(∀x∈l,S'.h x.1=S.h x.1)->j9 S'.h as bs=some l|[],[],l,h,_=>h|[],_::_,l,h,_=>by{simp[j9]at h}|_::_,[],l,h,_=>by{simp[j9]at h}|a::as,b::bs,l,h,hh=>by simp only[j9]at h|-;split at h;·{rename_i x y h1 h2;simp only[AC]at h;subst h;rw[UA h1 fun x hx=>hh x (List.mem_append.2 (.inl hx)),UD h2 fun x hx=>hh x (List.mem_append.2 (.inr hx))]};·cases h
theorem akh{a b:U}{l:List (Id×Option Rows)}(h:sG S.h a b=some l)(hh:∀x∈l,S'.h x.1=S.h x.1):sG S'.h a b=some l:=by unfold sG at h|-;split at h;·{exact UD h hh};·exact UA h hh
theorem UG{args:List U}:∀{cp:List Nat}{outs:List U}{l:List (Id×Option Rows)},gY S.h args cp outs=some l->(∀x∈l,S'.h x.1=S.h x.1)->gY S'.h args cp outs=some l|[],[],l,h,_=>h|[],_::_,l,h,_=>by{simp[gY]at h}|_::_,[],l,h,_=>by{simp[gY]at h}|j::cp,b::outs,l,h,hh=>by simp only[gY]at h|-;split at h;·{rename_i a y h1 h2;split at h;·{rename_i x h3;simp only[AC]at h;subst h;rw[h1,UG h2 fun x hx=>hh x (List.mem_append.2 (.inr hx))];simp only[akh h3 fun x hx=>hh x (List.mem_append.2 (.inl hx))]};·cases h};·cases h
theorem acD{k:FuncId}{args:List U}(he:rU C f call S o k args=some e)(hh:Agree S S' e):rU C f call S' o k args=some e:=by unfold rU at he|-;split at he;·{rename_i as seen tk dj d htk bw;split at he;·{rename_i r outs bU;generalize hr':(if eX C f o.dst=true then dF r else r)=r' at he;split at he;·{rename_i back kN;split at he;·{rename_i GD;simp only[AC]at he;subst he;have hw:∀x,(x∈(imp [d] r').2∨x∈back∨x∈(tk++dj).map fun i=>((i,none):Id×Option Rows))->S'.h x.1=S.h x.1:=fun x hx=>hh x.1 (.inr ⟨x,by rw[M0];rcases hx with hx|hx|hx;·{exact List.mem_append.2 (.inl hx)};·{exact List.mem_append.2 (.inr (List.mem_append.2 (.inl hx)))};·exact List.mem_append.2 (.inr (List.mem_append.2 (.inr hx))),rfl⟩);have e1:kg S'.h (C.yp k) args=some (as,seen,tk,dj):=Vm htk (fun id hid=>hh id (.inl hid)) fun id hid=>hw (id,none) (.inr (.inr (List.mem_map.2 ⟨id,hid,rfl⟩)));have e2:gY S'.h args (C.cp k) outs=some back:=UG kN fun x hx=>hw x (.inr (.inl hx));have hfr:fresh S'.h (imp [d] r').2=fresh S.h (imp [d] r').2:=CK fun x hx=>hw x (.inl hx);rw[e1];simp only[bw];simp only[bw]at hr';simp only[bU,hr',e2,hfr,if_pos GD]};·cases he};·cases he};·cases he};·cases he
end
open Go
variable{L L':Id->Option (Option Rows)}
section
variable{C:aF}{f:FuncId}{call:FuncId->List U->Option (U×List U)}{S S':ah}{o:Oper}{e:bh}
def tmpsOf(o:Oper):List Nat:=o.op.operands.toList.filterMap fun| .tmp t=>some t|_=>none
theorem aaA{keep:Id->Bool}:rM (gC L keep) (gC L' keep) L L':=fun a x h hh=>by cases a with|rs i off len=>(simp only[gC]at h|-;split at h;·{rename_i hk;rw[if_pos hk];exact h};·rename_i hk;rw[if_neg hk];exact yB 8 _ _ h hh)|mp i off len=>(simp only[gC]at h|-;split at h;·{rename_i hk;rw[if_pos hk];exact h};·rename_i hk;rw[if_neg hk];exact yB 8 _ _ h hh)|mr i=>(simp only[gC]at h|-;split at h;·{rename_i hk;rw[if_pos hk];exact h};·rename_i hk;rw[if_neg hk];exact yB 8 _ _ h hh)|_=>exact h
theorem Rb{q q':List U->Option (List U×List Id)}(hq:∀r x,q r=some x->(∀id∈x.2,L' id=L id)->q' r=some x):∀{rs:Rows}{x},dP q rs=some x->(∀id∈x.2,L' id=L id)->dP q' rs=some x|[],x,h,_=>h|c::cs,x,h,hh=>by simp only[dP,GT,GE]at h|-;obtain⟨y,hy,z,hz,rfl⟩:=h;exact⟨y,hq _ _ hy fun id hid=>hh id (List.mem_append.2 (.inl hid)),z,Rb hq hz fun id hid=>hh id (List.mem_append.2 (.inr hid)),rfl⟩
theorem aaE{keep:Id->Bool}(r:List U)(x)(hy:lR L keep r=some x)(hh:∀id∈x.2,L' id=L id):lR L' keep r=some x:=by unfold lR at hy|-;split at hy;·{rename_i hc;rw[if_pos hc];exact hy};·rename_i hc;rw[if_neg hc];exact CG aaA hy hh
theorem aaC{keep:Id->Bool}{rs:Rows}{x}(h:dP (lR L keep) rs=some x)(hh:∀id∈x.2,L' id=L id):dP (lR L' keep) rs=some x:=Rb aaE h hh
theorem TF{l:List (Id×Id)}:∀{r:List (Id×Id)}{x},iN L l r=some x->(∀i∈r.map (·.1),L' i=L i)->(∀i∈x.2,L' i=L i)->iN L' l r=some x|[],x,h,_,_=>h|(o,k)::r,x,h,h1,h2=>by simp only[iN]at h|-;rw[h1 o (by simp)];split at h;·{simp only[GT,GE]at h|-;obtain⟨y,hy,aY,hr,z,hz,rfl⟩:=h;refine⟨y, ?_,aY,hr,z,TF hz (fun i hi=>h1 i (by simp only[List.map_cons];exact Ha _ hi)) (fun i hi=>h2 i (List.mem_append.2 (.inr hi))),rfl⟩;unfold n5 at hy|-;split at hy;·{rename_i hc;rw[if_pos hc];exact hy};·rename_i hc;rw[if_neg hc];exact aaC hy fun i hi=>h2 i (List.mem_append.2 (.inl hi))};·cases h
theorem zH:∀(n:Nat)(b:Bool)(p:Id)(j:Nat)(acc:List (Id×Id))(as:List U),∀x∈acc,x∈eu L n b p j acc as|0,_,_,_,_,_,x,hx=>hx|_+1,_,_,_,_,[],x,hx=>hx|n+1,b,p,j,acc,a::as,x,hx=>by unfold eu;apply zH n b p (j+1);cases a with|rs i off len=>(dsimp only;split;exact hx;exact Hc _ hx)|mr i=>(dsimp only;split;exact hx;exact Hc _ hx)|mp i row off=>(dsimp only;split;·{exact hx};·split;·{exact zH n _ _ _ _ _ x (Hc _ hx)};·exact Hc _ hx)|agg cs=>(exact zH n _ _ _ _ _ x hx)|fn k xs cs=>(exact zH n _ _ _ _ _ x hx)|_=>exact hx
theorem aa0(n:Nat)(b:Bool)(p:Id)(j:Nat)(acc:List (Id×Id))(a:U)(as:List U):∃l:(Id->Option (Option Rows))->List (Id×Id),∀L,eu L (n+1) b p j acc (a::as)=eu L n b p (j+1) (l L) as∧l L=(match a with| .rs i _ _=>if !b||(gi acc i).isSome then acc else acc++[(i,j::p)]| .mr i=>if !b||(gi acc i).isSome then acc else acc++[(i,j::p)]| .mp i _ _=>if(gi acc i).isSome then acc else(match L i with|some (some [cs])=>eu L n false (j::p) 0 (acc++[(i,j::p)]) cs|_=>acc++[(i,j::p)])| .agg cs=>eu L n b (j::p) 0 acc cs| .fn _ as cs=>eu L n true (j::p) 0 acc (as++cs)|_=>acc):=⟨_,fun L=>⟨by cases a<;>rw[eu]<;>first|rfl|(intros;contradiction)|(intros;rename_i h;cases h),rfl⟩⟩
theorem Ch:∀(n:Nat)(b:Bool)(p:Id)(j:Nat)(acc:List (Id×Id))(as:List U),(∀i∈(eu L n b p j acc as).map (·.1),L' i=L i)->eu L' n b p j acc as=eu L n b p j acc as|0,_,_,_,_,_,_=>rfl|_+1,_,_,_,_,[],_=>rfl|n+1,b,p,j,acc,a::as,h=>by obtain⟨l,hl⟩:=aa0 n b p j acc a as;rw[(hl L).1]at h|-;rw[(hl L').1];have sub:∀i∈(l L).map (·.1),L' i=L i:=fun i hi=>by{obtain⟨x,hx,rfl⟩:=List.mem_map.1 hi;exact h _ (List.mem_map.2 ⟨x,zH n b p (j+1) _ as x hx,rfl⟩)};have e:l L'=l L:=by{have h1:=(hl L).2;rw[h1]at sub;rw[(hl L').2,h1];clear h1 h hl l;cases a with|mp i row off=>(dsimp only at sub|-;by_cases hs:(gi acc i).isSome=true;·{rw[if_pos hs,if_pos hs]};·rw[if_neg hs]at sub;rw[if_neg hs,if_neg hs];have hi:L' i=L i:=by{refine sub i ?_;split;·{exact List.mem_map.2 ⟨(i,j::p),zH n _ _ _ _ _ _ (List.mem_append_right _ (List.mem_singleton.2 rfl)),rfl⟩};·exact List.mem_map.2 ⟨(i,j::p),List.mem_append_right _ (List.mem_singleton.2 rfl),rfl⟩};rw[hi];split;·{rename_i cs hcs;rw[hcs]at sub;exact Ch n false (j::p) 0 _ cs sub};·rfl)|agg cs=>(exact Ch n b (j::p) 0 _ cs sub)|fn k xs cs=>(exact Ch n true (j::p) 0 _ (xs++cs) sub)|_=>rfl};rw[e];exact Ch n b p (j+1) _ as h
theorem adj{k:FuncId}{args:List U}{x:zg}(h:r5 call L k args=some x)(h1:∀i∈x.l.map (·.1),L' i=L i)(h2:∀i∈x.gone,L' i=L i):r5 call L' k args=some x:=by have hl:x.l=eu L 60 true [iL] 0 [] args:=by{unfold r5 CO at h;split at h;·{split at h;·{split at h;·{obtain⟨back,_,rfl⟩:=Option.map_eq_some_iff.1 h;rfl};·cases h};·cases h};·cases h};obtain⟨obs,outs,ho,_⟩:=Gn h;unfold r5 at h|-;rw[Ch 60 true [iL] 0 [] args (by rw[<-hl];exact h1)];unfold CO at h|-;rw[hl]at ho;rw[ho]at h;rw[TF ho (by rw[<-hl];exact h1) h2];exact h
theorem acC{k:FuncId}{args:List U}(he:qO C f call S o k args=some e)(hh:Agree S S' e):qO C f call S' o k args=some e:=by unfold qO at he|-;simp only[GT]at he|-;obtain⟨x,hx,he⟩:=he;split at he;·{cases he};·rename_i hp;generalize tR:(if eX C f o.dst=true then(if flat x.r=true then dF x.r else .bf)else x.r)=rr at he;split at he;·{rename_i hf;simp only[AC]at he;subst he;have jz:kr S'.h x.back=kr S.h x.back:=by{obtain⟨_,_,_,_,hb,_⟩:=Gn hx;have hbk:=(wV hb).1;unfold kr;refine List.filter_congr fun b hb=> ?_;have:S'.h b.1=S.h b.1:=hh b.1 (.inl (by show b.1∈x.l.map (·.1);rw[<-hbk];exact List.mem_map.2 ⟨b,hb,rfl⟩));unfold yL;rw[this]};refine⟨x,adj hx (fun i hi=>hh i (.inl hi)) (fun i hi=>hh i (.inr ⟨(i,none), ?_,rfl⟩)), ?_⟩;·{simp only[M0];exact List.mem_append_right _ (List.mem_append_right _ (List.mem_map.2 ⟨i,hi,rfl⟩))};·rw[if_neg hp];simp only[tR,jz];rw[CK (L':=S'.h) (L:=S.h) fun y hy=>hh y.1 (.inr ⟨y,by simp only[M0];exact List.mem_append_left _ hy,rfl⟩),if_pos hf]};·cases he
theorem adf(hs:∀t∈tmpsOf o,S'.t t=S.t t){x:Operand}(hx:x∈o.op.operands.toList):S'.get C x=S.get C x:=by cases x with|tmp t=>(exact hs t (List.mem_filterMap.2 ⟨.tmp t,hx,rfl⟩))|_=>rfl
theorem abT(he:bk C f call S true o=some e)(hs:∀t∈tmpsOf o,S'.t t=S.t t)(hh:Agree S S' e):bk C f call S' true o=some e:=by have get:∀x∈o.op.operands.toList,S'.get C x=S.get C x:=fun x hx=>adf hs hx;have xw:∀xs:List Operand,(∀x∈xs,x∈o.op.operands.toList)->(xs.map fun x=>un true (S'.get C x))=xs.map fun x=>un true (S.get C x):=fun xs h=>H1 fun x hx=>by{rw[get x (h x hx)]};have z7:∀xs:List (Nat×Operand),(∀x∈xs,x.2∈o.op.operands.toList)->(xs.map fun p=>(p.1,un true (S'.get C p.2)))=xs.map fun p=>(p.1,un true (S.get C p.2)):=fun xs h=>H1 fun x hx=>by{rw[get x.2 (h x hx)]};unfold bk at he|-;cases ho:o.op with|move x=>(rw[ho]at he get;simp only[Op.operands]at he get|-;rw[get x (by simp)];exact he)|assign x=>(rw[ho]at he get;simp only[Op.operands]at he get|-;rw[get x (by simp)];exact he)|pick c x y=>(rw[ho]at he get;simp only[Op.operands]at he get|-;rw[get c (by simp),get x (by simp),get y (by simp)];exact he)|alloc t=>(rw[ho]at he;exact acv he hh)|box t x=>(rw[ho]at he get;simp only[Op.operands]at he get|-;rw[get x (by simp)];exact acy he hh)|build t ps=>(rw[ho]at he z7;simp only[Op.operands]at he z7|-;rw[z7 ps.toList (fun x hx=>by simp;exact⟨x.1,by simpa using hx⟩)];exact he)|buildSlice t n ps=>(rw[ho]at he z7;simp only[Op.operands]at he z7|-;rw[z7 ps.toList (fun x hx=>by simp;exact⟨x.1,by simpa using hx⟩)];exact acz he hh)|load t x=>(rw[ho]at he get;simp only[Op.operands]at he get|-;rw[get x (by simp)];exact acH he hh)|store t x y=>(rw[ho]at he get;simp only[Op.operands]at he get|-;rw[get x (by simp),get y (by simp)];exact acN he hh)|nilCheck x=>(rw[ho]at he get;simp only[Op.operands]at he get|-;rw[get x (by simp)];exact he)|binOp op t x y u=>(rw[ho]at he get;simp only[Op.operands]at he get|-;rw[get x (by simp),get y (by simp)];exact he)|unOp op t x=>(rw[ho]at he get;simp only[Op.operands]at he get|-;rw[get x (by simp)];exact he)|convert s t x=>(rw[ho]at he get;simp only[Op.operands]at he get|-;rw[get x (by simp)];exact he)|makeInterface t x=>(rw[ho]at he get;simp only[Op.operands]at he get|-;rw[get x (by simp)];exact he)|makeFunc k xs ys=>(rw[ho]at he xw;simp only[Op.operands]at he xw|-;rw[xw xs.toList (fun x hx=>by simp;exact .inl (by simpa using hx)),xw ys.toList (fun x hx=>by simp;exact .inr (by simpa using hx))];exact he)|makeSlice t x y=>(rw[ho]at he get;simp only[Op.operands]at he get|-;rw[get x (by simp),get y (by simp)];exact acK he hh)|slice t x lo hi mx=>(rw[ho]at he get;simp only[Op.operands]at he get|-;split at he;·{cases he};·rename_i hm;rw[if_neg hm,get x (by simp)];have e1:(lo.map fun y=>en (un true (S'.get C y)))=lo.map fun y=>en (un true (S.get C y)):=by{cases lo with|none=>(rfl)|some y=>simp only[Option.map_some];rw[get y (by simp)]};have e2:(hi.map fun y=>en (un true (S'.get C y)))=hi.map fun y=>en (un true (S.get C y)):=by{cases hi with|none=>(rfl)|some y=>simp only[Option.map_some];rw[get y (by simp)]};rw[e1,e2];exact acM he hh)|fieldAddr s x i=>(rw[ho]at he get;simp only[Op.operands]at he get|-;rw[get x (by simp)];exact he)|field s x i=>(rw[ho]at he get;simp only[Op.operands]at he get|-;rw[get x (by simp)];exact he)|indexAddr t x y=>(rw[ho]at he get;simp only[Op.operands]at he get|-;rw[get x (by simp),get y (by simp)];exact acF he hh)|index t x y=>(rw[ho]at he get;simp only[Op.operands]at he get|-;rw[get x (by simp),get y (by simp)];exact he)|extract x i=>(rw[ho]at he get;simp only[Op.operands]at he get|-;rw[get x (by simp)];exact he)|makeMap t r=>(rw[ho]at he;exact acL he hh)|lookup t x y ok=>(rw[ho]at he get;simp only[Op.operands]at he get|-;rw[get x (by simp),get y (by simp)];exact acJ he hh)|mapUpdate t x y z=>(rw[ho]at he get;simp only[Op.operands]at he get|-;rw[get x (by simp),get y (by simp),get z (by simp)];exact Rh he hh)|insert t x y z=>(rw[ho]at he get;simp only[Op.operands]at he get|-;rw[get x (by simp),get y (by simp),get z (by simp)];exact Rh he hh)|call c=>(rw[ho]at he get xw;simp only[Op.operands]at he get xw|-;have hargs:=xw c.args.toList (fun x hx=>by simp only[Call.operands];simp;exact .inr (by simpa using hx));cases hc:c.callee with|builtin b=>(rw[hc]at he;cases b with|len=>(simp only at he|-;rw[hargs];exact he)|append=>(simp only[GT]at he|-;rw[hargs];obtain⟨e1,h1,h2⟩:=he;exact⟨e1,acw h1 (acR h2 hh),h2⟩)|copy=>(simp only at he|-;rw[hargs];exact acE he hh)|max=>(simp only at he|-;rw[hargs];exact he)|min=>(simp only at he|-;rw[hargs];exact he)|_=>cases he)|value aI=>(rw[hc]at he;simp only at he|-;rw[get aI (by simp[Call.operands,hc])];split at he;·{rename_i x hx;rw[hargs];exact acC he hh};rename_i hx;split at he;·{rename_i p hp;rw[hargs];exact acG he hh};·rename_i hp;split at he;·{rename_i htk;rw[if_pos htk];cases aI with|func k=>(simp only at he|-;rw[hargs];exact acD he hh)|_=>cases he};·rename_i htk;rw[if_neg htk,hargs];exact acB he hh)|invoke r n=>rw[hc]at he;cases he)|_=>rw[ho]at he;cases he
end
end Go.Ab
