import Derived.Test.YtbbhbdlljfffdaaGreatDoorAbReg2
open List renaming mem_cons_self→GT,mem_cons_of_mem→Hc,mem_append_left→Hk,mem_cons→H0,not_mem_nil→H1,append_nil→H2,map_congr_left→H3
open Option renaming map_eq_some_iff→Ha,bind_eq_some_iff→Hb,map_some→Hm,bind_some→Hn
open Option.some renaming injEq→GE
open Prod.mk renaming injEq→Hd
set_option linter.all false
namespace Go.Ab
open Go
variable{L L':Id→Option (Option Rows)}
theorem vF:∀{l:List (Id×Option Rows)},(∀x∈l,L' x.1=L x.1)→fresh L' l=fresh L l|[],_=>rfl|x::l,h=>by have ih:=vF fun y hy=>h y (Hc _ hy);unfold fresh at ih⊢;simp only[List.all_cons,ih,h x (GT ..)]
theorem Ap{x:U}{r:Rows×List Id}(h:rowsOf L x=some r)(hh:∀id∈r.2,L' id=L id):rowsOf L' x=some r:=by
 cases x<;>simp only[rowsOf]at h⊢<;>try exact h
 rename_i id off len
 split at h
 ·rename_i rs hid
  split at h
  ·rename_i hc
   simp only[GE]at h;subst h
   rw[hh id (by simp),hid]
   simp only[hc,if_true]
  ·cases h
 ·cases h
def nw(p p':(U→Option (U×List Id)))(L L':Id→Option (Option Rows)):Prop:=∀a x,p a=some x→(∀id∈x.2,L' id=L id)→p' a=some x
theorem vB{p p':U→Option (U×List Id)}(hp:nw p p' L L'):∀{cs:List U}{x},dF p cs=some x→(∀id∈x.2,L' id=L id)→dF p' cs=some x|[],x,h,_=>h|c::cs,x,h,hh=>by simp only[dF,Hb,Ha]at h⊢;obtain⟨y,hy,z,hz,rfl⟩:=h;exact⟨y,hp _ _ hy fun id hid=>hh id (List.mem_append.2 (.inl hid)),z,vB hp hz fun id hid=>hh id (List.mem_append.2 (.inr hid)),rfl⟩
theorem qY{p p':U→Option (U×List Id)}(hp:nw p p' L L'){cs:List U}{x}(h:ig p cs=some x)(hh:∀id∈x.2,L' id=L id):ig p' cs=some x:=by unfold ig at h⊢;split at h;·{rename_i hc;simpa[hc]using h};·rename_i hc;simp only[hc];exact vB hp h hh
theorem HG{p p':U→Option (U×List Id)}(hp:nw p p' L L'):∀{rs:Rows}{x},ef (ig p) rs=some x→(∀id∈x.2,L' id=L id)→ef (ig p') rs=some x|[],x,h,_=>h|c::cs,x,h,hh=>by simp only[ef,Hb,Ha]at h⊢;obtain⟨y,hy,z,hz,rfl⟩:=h;exact⟨y,qY hp hy fun id hid=>hh id (List.mem_append.2 (.inl hid)),z,HG hp hz fun id hid=>hh id (List.mem_append.2 (.inr hid)),rfl⟩
theorem Gv{p p':U→Option (U×List Id)}(hp:nw p p' L L'){rs:Rows}{x}(h:lQ p rs=some x)(hh:∀id∈x.2,L' id=L id):lQ p' rs=some x:=by unfold lQ at h⊢;split at h;·{rename_i hc;simpa[hc]using h};·rename_i hc;simp only[hc];exact HG hp h hh
theorem Be:∀n,nw (bV L n) (bV L' n) L L'|0=>fun a x h=>by{simp[bV]at h}|n+1=>fun a x h hh=>by have ih:=Be n;cases a with|rs id off len=>(simp only[bV]at h⊢;split at h;·{rename_i rs hid;split at h;·{rename_i hc;simp only[Ha]at h;obtain⟨y,hy,rfl⟩:=h;rw[hh id (GT ..),hid];simp only[hc,if_true,Gv ih hy fun id hid=>hh id (Hc _ hid),Hm]};·cases h};·cases h)|mp id row off=>(simp only[bV]at h⊢;split at h;·{rename_i rs hid;split at h;·{rename_i r hrow;split at h;·{rename_i hoff;simp only[Ha]at h;obtain⟨y,hy,rfl⟩:=h;rw[hh id (GT ..),hid];simp only[hrow,hoff,if_true,qY ih hy fun id hid=>hh id (Hc _ hid),Hm]};·cases h};·cases h};·cases h)|agg cs=>(simp only[bV,Ha]at h⊢;obtain⟨y,hy,rfl⟩:=h;exact⟨y,qY ih hy hh,rfl⟩)|aE cs=>(simp only[bV,Ha]at h⊢;obtain⟨y,hy,rfl⟩:=h;exact⟨y,qY ih hy hh,rfl⟩)|fn k a b=>(simp only[bV,Ha,Hb]at h⊢;obtain⟨y,hy,z,hz,rfl⟩:=h;exact⟨y,qY ih hy fun id hid=>hh id (List.mem_append.2 (.inl hid)),z,qY ih hz fun id hid=>hh id (List.mem_append.2 (.inr hid)),rfl⟩)|own rs=>(simp only[bV,Ha]at h⊢;obtain⟨y,hy,rfl⟩:=h;exact⟨y,Gv ih hy hh,rfl⟩)|ck cs=>(simp only[bV,Ha]at h⊢;obtain⟨y,hy,rfl⟩:=h;exact⟨y,qY ih hy hh,rfl⟩)|bQ=>(simpa only[bV]using h)|cF g y=>(simpa only[bV]using h)|val u=>(simpa only[bV]using h)|nn=>(simpa only[bV]using h)|mr id=>(simp only[bV]at h⊢;split at h;·{rename_i rs hid;simp only[GE]at h;subst h;rw[hh id (GT ..),hid]};·cases h)|dJ rs=>(simpa only[bV]using h)|im rs=>(simpa only[bV]using h)|sl rows=>(simpa only[bV]using h)|aL cells=>(simpa only[bV]using h)|aP i rs=>(simpa only[bV]using h)|uo u=>(simpa only[bV]using h)|aU=>simpa only[bV]using h
theorem Ae{p p':U→Option (U×List Id)}(hp:nw p p' L L'){cs:List U}{x}(h:gj p cs=some x)(hh:∀id∈x.2,L' id=L id):gj p' cs=some x:=by unfold gj at h⊢;split at h;·{rename_i hc;simpa[hc]using h};·rename_i hc;simp only[hc];exact vB hp h hh
theorem J2{p p':U→Option (U×List Id)}(hp:nw p p' L L'):∀{rs:Rows}{x},ef (gj p) rs=some x→(∀id∈x.2,L' id=L id)→ef (gj p') rs=some x|[],x,h,_=>h|c::cs,x,h,hh=>by simp only[ef,Hb,Ha]at h⊢;obtain⟨y,hy,z,hz,rfl⟩:=h;exact⟨y,Ae hp hy fun id hid=>hh id (List.mem_append.2 (.inl hid)),z,J2 hp hz fun id hid=>hh id (List.mem_append.2 (.inr hid)),rfl⟩
theorem J4{p p':U→Option (U×List Id)}(hp:nw p p' L L'){rs:Rows}{x}(h:mo p rs=some x)(hh:∀id∈x.2,L' id=L id):mo p' rs=some x:=by unfold mo at h⊢;split at h;·{rename_i hc;simpa[hc]using h};·rename_i hc;simp only[hc];exact J2 hp h hh
theorem su:∀n,nw (pk L n) (pk L' n) L L'|0=>fun a x h=>by{simp[pk]at h}|n+1=>fun a x h hh=>by have ih:=su n;cases a with|rs id off len=>(simp only[pk]at h⊢;split at h;·{rename_i rs hid;split at h;·{rename_i hc;simp only[Ha]at h;obtain⟨y,hy,rfl⟩:=h;rw[hh id (GT ..),hid];simp only[hc];rw[J4 ih (by simpa using hy) fun id hid=>hh id (Hc _ hid)];rfl};·cases h};·cases h)|mp id row off=>(simp only[pk]at h⊢;split at h;·{rename_i cs hid;split at h;·{rename_i hc;simp only[Ha]at h;obtain⟨y,hy,rfl⟩:=h;rw[hh id (GT ..),hid];simp only[hc];rw[Ae ih hy fun id hid=>hh id (Hc _ hid)];rfl};·cases h};·cases h)|agg cs=>(simp only[pk,Ha]at h⊢;obtain⟨y,hy,rfl⟩:=h;exact⟨y,Ae ih hy hh,rfl⟩)|aE cs=>(simp only[pk,Ha]at h⊢;obtain⟨y,hy,rfl⟩:=h;exact⟨y,Ae ih hy hh,rfl⟩)|fn k a b=>(simpa only[pk]using h)|own rs=>(simpa only[pk]using h)|ck cs=>(simpa only[pk]using h)|bQ=>(simpa only[pk]using h)|cF g y=>(simpa only[pk]using h)|val u=>(simpa only[pk]using h)|nn=>(simpa only[pk]using h)|mr id=>(simp only[pk]at h⊢;split at h;·{rename_i rs hid;simp only[GE]at h;subst h;rw[hh id (GT ..),hid]};·cases h)|dJ rs=>(simpa only[pk]using h)|im rs=>(simpa only[pk]using h)|sl rows=>(simpa only[pk]using h)|aL cells=>(simpa only[pk]using h)|aP i rs=>(simpa only[pk]using h)|uo u=>(simpa only[pk]using h)|aU=>simpa only[pk]using h
theorem Kg(o:Oper)(v:U)(rd:List Id)(wr:List (Id×Option Rows)):(put o v rd wr).rd=rd:=rfl
theorem Ea(o:Oper)(v:U)(rd:List Id)(wr:List (Id×Option Rows)):(put o v rd wr).wr=wr:=rfl
section
variable{C:aB}{f:FuncId}{call:FuncId→List U→Option (U×List U)}{S S':ah}{o:Oper}{e:aT}
def Agree(S S':ah)(e:aT):Prop:=∀id,(id∈e.rd∨∃x∈e.wr,x.1=id)→S'.h id=S.h id
theorem Q6{t:TypeId}(he:ou C f S o t=some e)(hh:Agree S S' e):ou C f S' o t=some e:=by
 unfold ou at he⊢
 split at he
 ·rename_i cs d h1 h2
  split at he
  ·simp only[GE]at he;subst he
   rename_i hf
   try rw[h1,h2]
   simp only[hh [d] (.inr ⟨_,GT ..,rfl⟩),hf,if_true]
  ·cases he
 ·cases he
theorem Q8{t:TypeId}{x:U}(he:mJ C f S o t x=some e)(hh:Agree S S' e):mJ C f S' o t x=some e:=by unfold mJ at he⊢;split at he;·{rename_i b d h1 h2;split at he;·{rename_i cs hcs;split at he;·{rename_i hz;rw[AC hz];exact he};·rename_i hz;rw[Do hz];split at he;·{rename_i hf;simp only[GE]at he;subst he;rw[hh [d] (.inr ⟨_,GT ..,rfl⟩),AC hf]};·cases he};·cases he};·cases he
theorem Ra{t:TypeId}{n:Nat}{ps:List (Nat×U)}(he:ow C f S o t n ps=some e)(hh:Agree S S' e):ow C f S' o t n ps=some e:=by
 unfold ow at he⊢
 split at he
 ·rename_i el d h1 h2
  split at he
  ·rename_i z b k hz hb hk
   split at he
   ·rename_i hc
    try rw[AC hc]
    split at he
    ·rename_i rows hr
     try rw[hr]
     split at he
     ·rename_i hfz
      rw[AC hfz];exact he
     ·rename_i hfz
      rw[Do hfz]
      split at he
      ·rename_i hf
       simp only[GE]at he;subst he
       rw[hh [d] (.inr ⟨_,GT ..,rfl⟩),AC hf]
      ·cases he
    ·cases he
   ·cases he
  ·cases he
 ·cases he
theorem Q9{t:TypeId}{n:Nat}{ps:List (Nat×U)}(he:mK C f S o t n ps=some e)(hh:Agree S S' e):mK C f S' o t n ps=some e:=by unfold mK at he⊢;split at he;·{rename_i hc;rw[AC hc];unfold vp at he⊢;split at he;·{rename_i rows d h1 h2;split at he;·{rename_i aV ids hp;split at he;·{rename_i hn;simp only[GE]at he;subst he;have:mo (pk S'.h 8) rows=some (aV,ids):=J4 (su 8) hp fun id hid=>hh id (.inl hid);simp only[h1,h2,this,hn,if_true]};·cases he};·cases he};·cases he};·rename_i hc;rw[Do hc];exact Ra he hh
theorem Rk{t:TypeId}{x y:U}(he:oy C S o t x y=some e)(hh:Agree S S' e):oy C S' o t x y=some e:=by
 unfold oy at he⊢
 split at he
 ·rename_i el d l c h1 h2 h3 h4
  split at he
  ·rename_i z i hz hi
   split at he
   ·rename_i hc
    simp only[GE]at he;subst he
    try rw[h1,h2,h3,h4]
    try simp only[hz,hi]
    rw[hh [d] (.inr ⟨_,GT ..,rfl⟩),AC hc]
   ·cases he
  ·cases he
 ·cases he
theorem Rl{t:TypeId}{r:Option Operand}(he:q8 C S o t r=some e)(hh:Agree S S' e):q8 C S' o t r=some e:=by
 unfold q8 at he⊢
 split at he
 ·rename_i d h1 h2
  split at he
  ·rename_i hc
   simp only[GE]at he;subst he
   try rw[h1,h2]
   try simp only
   rw[hh [d] (.inr ⟨_,GT ..,rfl⟩),AC hc]
  ·cases he
 ·cases he
theorem Rj{t:TypeId}{x k:U}{ok:Bool}(he:q7 C S o t x k ok=some e)(hh:Agree S S' e):q7 C S' o t x k ok=some e:=by unfold q7 at he⊢;split at he;·{rename_i kind z rows ids kv h1 h2;obtain⟨r,hf,rfl⟩:=Option.map_eq_some_iff.1 he;have e2:w7 S'.h x=some (rows,ids):=by{unfold w7 at h2⊢;split at h2;·{rename_i id;split at h2;·{rename_i aV hid;simp only[Option.some.injEq,Prod.mk.injEq]at h2;obtain⟨rfl,rfl⟩:=h2;rw[hh id (.inl (by rw[Kg];exact List.mem_cons_self ..)),hid]};·cases h2};·{exact h2};·{exact h2};·cases h2};rw[h1,e2];simp only[hf,Option.map_some]};·cases he
theorem HL{t:TypeId}{x k v:U}(he:oz C S o t x k v=some e)(hh:Agree S S' e):oz C S' o t x k v=some e:=by
 unfold oz at he⊢
 split at he
 ·rename_i kind z id kv kP h1
  split at he
  ·rename_i rows hid
   split at he
   ·rename_i hc
    obtain⟨aV,hp,rfl⟩:=Option.map_eq_some_iff.1 he
    try rw[h1]
    try simp only
    rw[hh id (.inl (by rw[Kg];exact GT ..)),hid]
    simp only[AC hc,hp,Hm]
   ·cases he
  ·cases he
 ·cases he
theorem Rm{t:TypeId}{x:U}{lo hi:Option (Option Int)}(he:mL C S o t x lo hi=some e)(hh:Agree S S' e):mL C S' o t x lo hi=some e:=by
 unfold mL at he⊢
 split at he
 ·rename_i el hu
  try rw[hu]
  try simp only
  split at he
  ·exact he
  ·rename_i id off len sz hs
   try rw[hs]
   try simp only
   split at he
   ·rename_i rows hid
    have hrd:id∈e.rd:=by
     simp only[Hb]at he
     obtain⟨b,_,he⟩:=he
     split at he
     ·simp only[GE]at he;subst he;simp[put]
     ·cases he
    rw[hh id (.inl hrd),hid]
    exact he
   ·cases he
  ·cases he
 ·rename_i hu;try rw[hu]
  exact he
 ·cases he
theorem Rf{t:TypeId}{x:U}{i:Option Int}(he:k3 C S o t x i=some e)(hh:Agree S S' e):k3 C S' o t x i=some e:=by
 unfold k3 at he⊢
 split at he
 ·rename_i el i' hu
  try rw[hu]
  try simp only
  split at he
  ·rename_i hs;try rw[hs]
   exact he
  ·rename_i n id off len hs
   try rw[hs]
   try simp only
   split at he
   ·rename_i hc
    rw[AC hc]
    split at he
    ·rename_i rows hid
     have hrd:id∈e.rd:=by
      simp only[Hb]at he
      obtain⟨b,_,he⟩:=he
      split at he
      ·simp only[GE]at he;subst he;simp[put]
      ·cases he
     rw[hh id (.inl hrd),hid]
     exact he
    ·cases he
   ·cases he
  ·cases he
 ·rename_i hu;try rw[hu]
  exact he
 ·cases he
theorem Rh{t:TypeId}{x:U}(he:iY C S o t x=some e)(hh:Agree S S' e):iY C S' o t x=some e:=by
 unfold iY at he⊢
 split at he
 ·rename_i b n h1 h2
  try rw[h1,h2]
  try simp only
  split at he
  ·exact he
  ·rename_i id row off
   split at he
   ·rename_i rows hid
    obtain⟨r,hr,he⟩:=Option.bind_eq_some_iff.1 he
    split at he
    ·rename_i hc
     split at he
     ·rename_i hem
      have hrd:id∈e.rd:=by
       obtain⟨v,_,he⟩:=Option.map_eq_some_iff.1 he
       subst he;simp[put]
      rw[hh id (.inl hrd),hid]
      simp only[hr,Hn,hc,if_true,hem]
      exact he
     ·rename_i hem
      split at he
      ·rename_i hf
       have Tb:=he
       obtain⟨v,_,he⟩:=Option.map_eq_some_iff.1 he
       have hrd:id∈e.rd:=by subst he;simp[put]
       have hwr:∀x∈(bw (gd o) 0 ((r.drop off).take n)).2,S'.h x.1=S.h x.1:=fun x hx=>hh x.1 (.inr ⟨x,by subst he;simp[put,hx],rfl⟩)
       rw[hh id (.inl hrd),hid]
       simp only[hr,Hn,hc,if_true,hem,vF hwr,hf]
       exact Tb
      ·cases he
    ·cases he
   ·cases he
  ·cases he
 ·cases he
theorem Rn{t:TypeId}{ao:Operand}{x y:U}(he:k4 C f S true o t ao x y=some e)(hh:Agree S S' e):k4 C f S' true o t ao x y=some e:=by
 unfold k4 at he⊢
 split at he
 ·rename_i b n h1 h2
  try rw[h1,h2]
  try simp only
  split at he
  ·rename_i id row off cs hcs
   try rw[hcs]
   try simp only
   split at he
   ·cases he
   ·rename_i hl
    rw[Do hl]
    split at he
    ·rename_i rows hid
     have hrd:id∈e.rd:=by
      obtain⟨r,hr,he⟩:=Option.bind_eq_some_iff.1 he
      split at he
      ·split at he
       ·split at he
        ·simp only[GE]at he;subst he;simp
        ·cases he
       ·split at he
        ·simp only[GE]at he;subst he;simp[put]
        ·cases he
      ·cases he
     rw[hh id (.inl hrd),hid]
     exact he
    ·cases he
  ·cases he
 ·cases he
theorem Rr{e1:aT}(h:mM C f o e1=some e)(hh:Agree S S' e):Agree S S' e1:=by unfold mM at h;split at h;·{split at h;·{rename_i hw;split at h;·{rename_i hc;obtain⟨rfl,_⟩:=hc;simp only[GE]at h;subst h;intro id hid;refine hh id (hid.imp (fun h=>h) fun⟨x,hx,e⟩=> ?_);rw[hw]at hx;simp only[H0,H1,or_false]at hx;rcases hx with rfl|rfl;·{exact⟨_,GT ..,e⟩};·exact⟨_,Hc _ (GT ..),e⟩};·cases h};·{rename_i hw;split at h;·{rename_i hc;obtain⟨rfl,_⟩:=hc;simp only[GE]at h;subst h;intro id hid;refine hh id (hid.imp (fun h=>h) fun⟨x,hx,e⟩=> ?_);rw[hw]at hx;simp only[H0,H1,or_false]at hx;obtain rfl:=hx;exact⟨_,GT ..,e⟩};·cases h};·cases h};·simp only[GE]at h;subst h;exact hh
theorem Q7{ts:Array TypeId}{xs:List U}(he:jA C S o ts xs=some e)(hh:Agree S S' e):jA C S' o ts xs=some e:=by
 unfold jA at he⊢
 split at he
 ·rename_i x y t el h1 h2
  try rw[h1,h2]
  try simp only
  unfold sX at he⊢
  split at he
  ·rename_i Qm d hu hd
   try rw[hu,hd]
   try simp only
   split at he
   ·rename_i i Y3 i1 adK i2 hi hx hy
    split at he
    ·rename_i hc
     unfold kr at he
     have facts:(∀id∈i1++i2,id∈e.rd)∧(∃r,([d],r)∈e.wr):=by
      split at he
      ·split at he
       ·split at he
        ·simp only[GE]at he;subst he
         exact⟨fun id h=>h,_,Hc _ (GT ..)⟩
        ·cases he
       ·cases he
      ·simp only[GE]at he;subst he
       exact⟨fun id h=>h,_,GT ..⟩
      ·cases he
     obtain⟨hrd,r,hwr⟩:=facts
     have ex:=Ap (L':=S'.h) hx fun id hid=>hh id (.inl (hrd id (List.mem_append.2 (.inl hid))))
     have y4:=Ap (L':=S'.h) hy fun id hid=>hh id (.inl (hrd id (List.mem_append.2 (.inr hid))))
     try rw[hi,ex,y4]
     try simp only
     rw[hh [d] (.inr ⟨_,hwr,rfl⟩),AC hc]
     unfold kr
     split at he
     ·rename_i id off len
      have hid:id∈i1:=by
       simp only[rowsOf]at hx
       split at hx
       ·split at hx
        ·simp only[GE,Hd]at hx
         rw[←hx.2];simp
        ·cases hx
       ·cases hx
      try simp only
      rw[hh id (.inl (hrd id (List.mem_append.2 (.inl hid))))]
      exact he
     ·exact he
     ·cases he
    ·cases he
   ·cases he
  ·cases he
 ·rename_i x y t k h1 h2
  try rw[h1,h2]
  try simp only
  unfold sY at he⊢
  split at he
  ·rename_i Qm d nn hu hd Cu
   try rw[hu,hd,Cu]
   try simp only
   split at he
   ·rename_i i z Y3 i1 hi hz hx
    split at he
    ·rename_i hc
     unfold kr at he
     have facts:(∀id∈i1,id∈e.rd)∧(∃r,([d],r)∈e.wr):=by
      split at he
      ·split at he
       ·split at he
        ·simp only[GE]at he;subst he
         exact⟨fun id h=>by simp only[put,H2];exact h,_,Hc _ (GT ..)⟩
        ·cases he
       ·cases he
      ·simp only[GE]at he;subst he
       exact⟨fun id h=>by simp only[put,H2];exact h,_,GT ..⟩
      ·cases he
     obtain⟨hrd,r,hwr⟩:=facts
     have ex:=Ap (L':=S'.h) hx fun id hid=>hh id (.inl (hrd id hid))
     try rw[hi,hz,ex]
     try simp only
     rw[hh [d] (.inr ⟨_,hwr,rfl⟩),AC hc]
     unfold kr
     split at he
     ·rename_i id off len
      have hid:id∈i1:=by
       simp only[rowsOf]at hx
       split at hx
       ·split at hx
        ·simp only[GE,Hd]at hx
         rw[←hx.2];simp
        ·cases hx
       ·cases hx
      try simp only
      rw[hh id (.inl (hrd id hid))]
      exact he
     ·exact he
     ·cases he
    ·cases he
   ·cases he
  ·cases he
 ·cases he
theorem Rg{p:Nat×Nat}{xs:List U}(he:pU S o p xs=some e)(hh:Agree S S' e):pU S' o p xs=some e:=by unfold pU at he⊢;split at he;·{rename_i id row off;split at he;·{rename_i rows hid;split at he;·{rename_i gv off2 len hcell;split at he;·{rename_i dY vX;split at he;·{rename_i hc;simp only[GE]at he;subst he;have e1:S'.h id=S.h id:=hh id (.inl (by simp[put]));have e2:S'.h gv=S.h gv:=hh gv (.inl (by simp[put]));simp only[e1,hid,hcell,e2,vX,hc,if_true]};·cases he};·cases he};·cases he};·cases he};·{exact he};·cases he
theorem Re{ts:Array TypeId}{xs:List U}(he:q6 C S o ts xs=some e)(hh:Agree S S' e):q6 C S' o ts xs=some e:=by unfold q6 at he⊢;split at he;·{rename_i x y el h1;split at he;·{rename_i id off len ys i2 hsz wG;split at he;·{rename_i rows hid;split at he;·{rename_i hc;simp only[GE]at he;subst he;have e1:S'.h id=S.h id:=hh id (.inl (by simp[put]));have e2:rowsOf S'.h y=some (ys,i2):=Ap wG (fun i hi=>hh i (.inl (by simp[put];exact .inr hi)));simp only[hsz,e2,e1,hid,hc,if_true]};·cases he};·cases he};·cases he};·cases he
theorem Ri{as:List U}(he:r8 S o as=some e)(hh:Agree S S' e):r8 S' o as=some e:=by unfold r8 at he⊢;split at he;·{split at he;·{rename_i hc hid;split at he;·{rename_i h2 hk;split at he;·{rename_i hr;split at he;·{rename_i gJ;simp only[GE]at he;subst he;have e1:=hh _ (.inl (show _∈[_,_]from GT ..));have e2:=hh _ (.inl (show _∈[_,_]from Hc _ (GT ..)));simp only[hc,e1,hid,e2,h2,hk,hr,gJ,and_self,if_true]};·cases he};·cases he};·cases he};·cases he};·cases he
theorem Rb{fv:U}{args:List U}(he:nC C f call S o fv args=some e)(hh:Agree S S' e):nC C f call S' o fv args=some e:=by
 unfold nC at he⊢
 split at he
 ·rename_i k first caps
  try simp only
  by_cases hlk:C.look k=true
  ·rw[AC hlk]at he⊢
   exact Ri he hh
  rw[Do hlk]at he⊢
  split at he
  ·rename_i as seen d B8 aY
   split at he
   ·rename_i r bx
    generalize hr':(if dS C f o.dst=true then cS r else r)=r' at he
    split at he
    ·cases he
    ·rename_i hm
     split at he
     ·rename_i hf
      simp only[GE]at he;subst he
      have hb:nB S'.h (first++args++caps)=some (as,seen):=vB (Be 9) B8 fun id hid=>hh id (.inl hid)
      have hfr:fresh S'.h (imp [d] r').2=fresh S.h (imp [d] r').2:=vF fun x hx=>hh x.1 (.inr ⟨x,hx,rfl⟩)
      rw[hb,aY]
      simp only[bx]
      rw[←aY,hr',Do hm,hfr,AC hf]
     ·cases he
   ·cases he
  ·cases he
 ·cases he
theorem K8:∀{c9:List U}{ms:List Nat}{as:List U}{seen tk cT:List Id},hO S.h ms c9=some (as,seen,tk,cT)→(∀id∈seen,S'.h id=S.h id)→(∀id∈tk++cT,S'.h id=S.h id)→hO S'.h ms c9=some (as,seen,tk,cT)|[],ms,as,seen,tk,cT,hx,_,_=>hx|c::cs,ms,as,seen,tk,cT,hx,h1,h2=>by simp only[hO,Hb]at hx⊢;obtain⟨⟨ys,s1,t1,bK⟩,hy,hx⟩:=hx;refine⟨(ys,s1,t1,bK), ?_, ?_⟩;·{split at hx<;>·obtain⟨x,hpk,hx⟩:=Option.map_eq_some_iff.1 hx;simp only[Hd]at hx;obtain⟨rfl,rfl,rfl,rfl⟩:=hx;exact K8 hy (fun id hid=>h1 id (by simp[hid])) (fun id hid=>h2 id (by rcases List.mem_append.1 hid with h|h<;>simp[h]))};·split at hx;·{rename_i hm;obtain⟨x,hpk,hx⟩:=Option.map_eq_some_iff.1 hx;simp only[Hd]at hx;obtain⟨rfl,rfl,rfl,rfl⟩:=hx;simp only[hm];rw[su 9 _ _ hpk fun id hid=>h2 id (by simp[hid])];rfl};·{rename_i hm;obtain⟨x,hpk,hx⟩:=Option.map_eq_some_iff.1 hx;simp only[Hd]at hx;obtain⟨rfl,rfl,rfl,rfl⟩:=hx;simp only[hm];rw[su 9 _ _ hpk fun id hid=>h2 id (by simp[hid])];rfl};·rename_i we hm2;obtain⟨x,hpk,hx⟩:=Option.map_eq_some_iff.1 hx;simp only[Hd]at hx;obtain⟨rfl,rfl,rfl,rfl⟩:=hx;rw[Be 9 _ _ hpk fun id hid=>h1 id (by simp[hid])];rfl
theorem Kr{a b:U}{l:List (Id×Option Rows)}(h:iC S.h a b=some l)(hh:∀x∈l,S'.h x.1=S.h x.1):iC S'.h a b=some l:=by unfold iC at h;split at h;·{rename_i id cs;split at h;·{rename_i old hid;split at h;·{rename_i hc;simp only[GE]at h;subst h;have:=hh _ (GT ..);simp only[iC,this,hid,hc,if_true]};·cases h};·cases h};·{rename_i id n rows;split at h;·{rename_i o1 os hid;split at h;·{rename_i hc;simp only[GE]at h;subst h;have:=hh _ (GT ..);simp only[iC,this,hid];rw[AC hc]};·cases h};·{rename_i hid;split at h;·{rename_i hc;simp only[GE]at h;subst h;have:=hh _ (GT ..);simp only[iC,this,hid];rw[AC hc]};·cases h};·cases h};·{rename_i id rows;split at h;·{rename_i qD hid;simp only[GE]at h;subst h;have:=hh _ (GT ..);simp only[iC,this,hid]};·cases h};·{cases h};·{cases h};·{cases h};·{cases h};·rename_i g1 g2 g3 g4 _ _ _;simp only[GE]at h;subst h;unfold iC;split<;>first|rfl|exact(g1 _ _ _ rfl).elim|exact(g2 _ _ _ rfl).elim|exact(g3 _ rfl).elim|exact(g4 _ rfl).elim
theorem Ku:∀{as bs:List U}{l:List (Id×Option Rows)},gR S.h as bs=some l→(∀x∈l,S'.h x.1=S.h x.1)→gR S'.h as bs=some l|[],[],l,h,_=>h|[],_::_,l,h,_=>by{simp[gR]at h}|_::_,[],l,h,_=>by{simp[gR]at h}|a::as,b::bs,l,h,hh=>by simp only[gR]at h⊢;split at h;·{rename_i x y h1 h2;simp only[GE]at h;subst h;rw[Kr h1 fun x hx=>hh x (List.mem_append.2 (.inl hx)),Ku h2 fun x hx=>hh x (List.mem_append.2 (.inr hx))]};·cases h
theorem XQ{a b:U}{l:List (Id×Option Rows)}(h:oW S.h a b=some l)(hh:∀x∈l,S'.h x.1=S.h x.1):oW S'.h a b=some l:=by unfold oW at h⊢;split at h;·{exact Ku h hh};·exact Kr h hh
theorem Kx{args:List U}:∀{bL:List Nat}{outs:List U}{l:List (Id×Option Rows)},fM S.h args bL outs=some l→(∀x∈l,S'.h x.1=S.h x.1)→fM S'.h args bL outs=some l|[],[],l,h,_=>h|[],_::_,l,h,_=>by{simp[fM]at h}|_::_,[],l,h,_=>by{simp[fM]at h}|j::bL,b::outs,l,h,hh=>by simp only[fM]at h⊢;split at h;·{rename_i a y h1 h2;split at h;·{rename_i x h3;simp only[GE]at h;subst h;rw[h1,Kx h2 fun x hx=>hh x (List.mem_append.2 (.inr hx))];simp only[XQ h3 fun x hx=>hh x (List.mem_append.2 (.inl hx))]};·cases h};·cases h
theorem Rd{k:FuncId}{args:List U}(he:nD C f call S o k args=some e)(hh:Agree S S' e):nD C f call S' o k args=some e:=by unfold nD at he⊢;split at he;·{rename_i as seen tk cT d htk aY;split at he;·{rename_i r outs bx;generalize hr':(if dS C f o.dst=true then cS r else r)=r' at he;split at he;·{rename_i back iq;split at he;·{rename_i zj;simp only[GE]at he;subst he;have hw:∀x,(x∈(imp [d] r').2∨x∈back∨x∈(tk++cT).map fun i=>((i,none):Id×Option Rows))→S'.h x.1=S.h x.1:=fun x hx=>hh x.1 (.inr ⟨x,by rw[Ea];rcases hx with hx|hx|hx;·{exact List.mem_append.2 (.inl hx)};·{exact List.mem_append.2 (.inr (List.mem_append.2 (.inl hx)))};·exact List.mem_append.2 (.inr (List.mem_append.2 (.inr hx))),rfl⟩);have e1:hO S'.h (C.ue k) args=some (as,seen,tk,cT):=K8 htk (fun id hid=>hh id (.inl hid)) fun id hid=>hw (id,none) (.inr (.inr (List.mem_map.2 ⟨id,hid,rfl⟩)));have e2:fM S'.h args (C.bL k) outs=some back:=Kx iq fun x hx=>hw x (.inr (.inl hx));have hfr:fresh S'.h (imp [d] r').2=fresh S.h (imp [d] r').2:=vF fun x hx=>hw x (.inl hx);rw[e1];simp only[aY];simp only[aY]at hr';simp only[bx,hr',e2,hfr,AC zj]};·cases he};·cases he};·cases he};·cases he
end
end Go.Ab
namespace Go.Ab
open Go
variable{L L':Id→Option (Option Rows)}
section
variable{C:aB}{f:FuncId}{call:FuncId→List U→Option (U×List U)}{S S':ah}{o:Oper}{e:aT}
def tmpsOf(o:Oper):List Nat:=o.op.operands.toList.filterMap fun| .tmp t=>some t|_=>none
theorem Pu{keep:Id→Bool}:nw (fz L keep) (fz L' keep) L L':=fun a x h hh=>by cases a with|rs i off len=>(simp only[fz]at h⊢;split at h;·{rename_i hk;rw[AC hk];exact h};·rename_i hk;rw[Do hk];exact su 8 _ _ h hh)|mp i off len=>(simp only[fz]at h⊢;split at h;·{rename_i hk;rw[AC hk];exact h};·rename_i hk;rw[Do hk];exact su 8 _ _ h hh)|mr i=>(simp only[fz]at h⊢;split at h;·{rename_i hk;rw[AC hk];exact h};·rename_i hk;rw[Do hk];exact su 8 _ _ h hh)|_=>exact h
theorem HI{q q':List U→Option (List U×List Id)}(hq:∀r x,q r=some x→(∀id∈x.2,L' id=L id)→q' r=some x):∀{rs:Rows}{x},ef q rs=some x→(∀id∈x.2,L' id=L id)→ef q' rs=some x|[],x,h,_=>h|c::cs,x,h,hh=>by simp only[ef,Hb,Ha]at h⊢;obtain⟨y,hy,z,hz,rfl⟩:=h;exact⟨y,hq _ _ hy fun id hid=>hh id (List.mem_append.2 (.inl hid)),z,HI hq hz fun id hid=>hh id (List.mem_append.2 (.inr hid)),rfl⟩
theorem Py{keep:Id→Bool}(r:List U)(x)(hy:iW L keep r=some x)(hh:∀id∈x.2,L' id=L id):iW L' keep r=some x:=by unfold iW at hy⊢;split at hy;·{rename_i hc;rw[AC hc];exact hy};·rename_i hc;rw[Do hc];exact vB Pu hy hh
theorem Pw{keep:Id→Bool}{rs:Rows}{x}(h:ef (iW L keep) rs=some x)(hh:∀id∈x.2,L' id=L id):ef (iW L' keep) rs=some x:=HI Py h hh
theorem JD{l:List (Id×Id)}:∀{r:List (Id×Id)}{x},fY L l r=some x→(∀i∈r.map (·.1),L' i=L i)→(∀i∈x.2,L' i=L i)→fY L' l r=some x|[],x,h,_,_=>h|(o,k)::r,x,h,h1,h2=>by simp only[fY]at h⊢;rw[h1 o (by simp)];split at h;·{simp only[Hb,Ha]at h⊢;obtain⟨y,hy,aV,hr,z,hz,rfl⟩:=h;refine⟨y, ?_,aV,hr,z,JD hz (fun i hi=>h1 i (by simp only[List.map_cons];exact Hc _ hi)) (fun i hi=>h2 i (List.mem_append.2 (.inr hi))),rfl⟩;unfold kA at hy⊢;split at hy;·{rename_i hc;rw[AC hc];exact hy};·rename_i hc;rw[Do hc];exact Pw hy fun i hi=>h2 i (List.mem_append.2 (.inl hi))};·cases h
theorem s5:∀(n:Nat)(b:Bool)(p:Id)(j:Nat)(acc:List (Id×Id))(as:List U),∀x∈acc,x∈c5 L n b p j acc as|0,_,_,_,_,_,x,hx=>hx|_+1,_,_,_,_,[],x,hx=>hx|n+1,b,p,j,acc,a::as,x,hx=>by unfold c5;apply s5 n b p (j+1);cases a with|rs i off len=>(dsimp only;split;exact hx;exact Hk _ hx)|mr i=>(dsimp only;split;exact hx;exact Hk _ hx)|mp i row off=>(dsimp only;split;·{exact hx};·split;·{exact s5 n _ _ _ _ _ x (Hk _ hx)};·exact Hk _ hx)|agg cs=>(exact s5 n _ _ _ _ _ x hx)|fn k xs cs=>(exact s5 n _ _ _ _ _ x hx)|_=>exact hx
theorem PU(n:Nat)(b:Bool)(p:Id)(j:Nat)(acc:List (Id×Id))(a:U)(as:List U):∃l:(Id→Option (Option Rows))→List (Id×Id),∀L,c5 L (n+1) b p j acc (a::as)=c5 L n b p (j+1) (l L) as∧l L=(match a with| .rs i _ _=>if !b||(eP acc i).isSome then acc else acc++[(i,j::p)]| .mr i=>if !b||(eP acc i).isSome then acc else acc++[(i,j::p)]| .mp i _ _=>if(eP acc i).isSome then acc else(match L i with|some (some [cs])=>c5 L n false (j::p) 0 (acc++[(i,j::p)]) cs|_=>acc++[(i,j::p)])| .agg cs=>c5 L n b (j::p) 0 acc cs| .fn _ as cs=>c5 L n true (j::p) 0 acc (as++cs)|_=>acc):=⟨_,fun L=>⟨by cases a<;>rw[c5]<;>first|rfl|(intros;contradiction)|(intros;rename_i h;cases h),rfl⟩⟩
theorem vj:∀(n:Nat)(b:Bool)(p:Id)(j:Nat)(acc:List (Id×Id))(as:List U),(∀i∈(c5 L n b p j acc as).map (·.1),L' i=L i)→c5 L' n b p j acc as=c5 L n b p j acc as|0,_,_,_,_,_,_=>rfl|_+1,_,_,_,_,[],_=>rfl|n+1,b,p,j,acc,a::as,h=>by obtain⟨l,hl⟩:=PU n b p j acc a as;rw[(hl L).1]at h⊢;rw[(hl L').1];have sub:∀i∈(l L).map (·.1),L' i=L i:=fun i hi=>by{obtain⟨x,hx,rfl⟩:=List.mem_map.1 hi;exact h _ (List.mem_map.2 ⟨x,s5 n b p (j+1) _ as x hx,rfl⟩)};have e:l L'=l L:=by{have h1:=(hl L).2;rw[h1]at sub;rw[(hl L').2,h1];clear h1 h hl l;cases a with|mp i row off=>(dsimp only at sub⊢;by_cases hs:(eP acc i).isSome=true;·{rw[AC hs,AC hs]};·rw[Do hs]at sub;rw[Do hs,Do hs];have hi:L' i=L i:=by{refine sub i ?_;split;·{exact List.mem_map.2 ⟨(i,j::p),s5 n _ _ _ _ _ _ (List.mem_append_right _ (List.mem_singleton.2 rfl)),rfl⟩};·exact List.mem_map.2 ⟨(i,j::p),List.mem_append_right _ (List.mem_singleton.2 rfl),rfl⟩};rw[hi];split;·{rename_i cs hcs;rw[hcs]at sub;exact vj n false (j::p) 0 _ cs sub};·rfl)|agg cs=>(exact vj n b (j::p) 0 _ cs sub)|fn k xs cs=>(exact vj n true (j::p) 0 _ (xs++cs) sub)|_=>rfl};rw[e];exact vj n b p (j+1) _ as h
theorem RM{k:FuncId}{args:List U}{x:sJ}(h:nJ call L k args=some x)(h1:∀i∈x.l.map (·.1),L' i=L i)(h2:∀i∈x.gone,L' i=L i):nJ call L' k args=some x:=by have hl:x.l=c5 L 60 true [fX] 0 [] args:=by{unfold nJ vI at h;split at h;·{split at h;·{split at h;·{obtain⟨back,_,rfl⟩:=Option.map_eq_some_iff.1 h;rfl};·cases h};·cases h};·cases h};obtain⟨obs,outs,ho,_⟩:=zb h;unfold nJ at h⊢;rw[vj 60 true [fX] 0 [] args (by rw[←hl];exact h1)];unfold vI at h⊢;rw[hl]at ho;rw[ho]at h;rw[JD ho (by rw[←hl];exact h1) h2];exact h
theorem Rc{k:FuncId}{args:List U}(he:mG C f call S o k args=some e)(hh:Agree S S' e):mG C f call S' o k args=some e:=by unfold mG at he⊢;simp only[Hb]at he⊢;obtain⟨x,hx,he⟩:=he;split at he;·{cases he};·rename_i hp;generalize oK:(if dS C f o.dst=true then(if flat x.r=true then cS x.r else .aU)else x.r)=rr at he;split at he;·{rename_i hf;simp only[GE]at he;subst he;have gr:gX S'.h x.back=gX S.h x.back:=by{obtain⟨_,_,_,_,hb,_⟩:=zb hx;have hbk:=(qW hb).1;unfold gX;refine List.filter_congr fun b hb=> ?_;have:S'.h b.1=S.h b.1:=hh b.1 (.inl (by show b.1∈x.l.map (·.1);rw[←hbk];exact List.mem_map.2 ⟨b,hb,rfl⟩));unfold n3;rw[this]};refine⟨x,RM hx (fun i hi=>hh i (.inl hi)) (fun i hi=>hh i (.inr ⟨(i,none), ?_,rfl⟩)), ?_⟩;·{simp only[Ea];exact List.mem_append_right _ (List.mem_append_right _ (List.mem_map.2 ⟨i,hi,rfl⟩))};·rw[Do hp];simp only[oK,gr];rw[vF (L':=S'.h) (L:=S.h) fun y hy=>hh y.1 (.inr ⟨y,by simp only[Ea];exact List.mem_append_left _ hy,rfl⟩),AC hf]};·cases he
theorem RG(hs:∀t∈tmpsOf o,S'.t t=S.t t){x:Operand}(hx:x∈o.op.operands.toList):S'.get C x=S.get C x:=by cases x with|tmp t=>(exact hs t (List.mem_filterMap.2 ⟨.tmp t,hx,rfl⟩))|_=>rfl
theorem QA(he:bn C f call S true o=some e)(hs:∀t∈tmpsOf o,S'.t t=S.t t)(hh:Agree S S' e):bn C f call S' true o=some e:=by have get:∀x∈o.op.operands.toList,S'.get C x=S.get C x:=fun x hx=>RG hs hx;have rq:∀xs:List Operand,(∀x∈xs,x∈o.op.operands.toList)→(xs.map fun x=>un true (S'.get C x))=xs.map fun x=>un true (S.get C x):=fun xs h=>H3 fun x hx=>by{rw[get x (h x hx)]};have tj:∀xs:List (Nat×Operand),(∀x∈xs,x.2∈o.op.operands.toList)→(xs.map fun p=>(p.1,un true (S'.get C p.2)))=xs.map fun p=>(p.1,un true (S.get C p.2)):=fun xs h=>H3 fun x hx=>by{rw[get x.2 (h x hx)]};unfold bn at he⊢;cases ho:o.op with|move x=>(rw[ho]at he get;simp only[Op.operands]at he get⊢;rw[get x (by simp)];exact he)|assign x=>(rw[ho]at he get;simp only[Op.operands]at he get⊢;rw[get x (by simp)];exact he)|pick c x y=>(rw[ho]at he get;simp only[Op.operands]at he get⊢;rw[get c (by simp),get x (by simp),get y (by simp)];exact he)|alloc t=>(rw[ho]at he;exact Q6 he hh)|box t x=>(rw[ho]at he get;simp only[Op.operands]at he get⊢;rw[get x (by simp)];exact Q8 he hh)|build t ps=>(rw[ho]at he tj;simp only[Op.operands]at he tj⊢;rw[tj ps.toList (fun x hx=>by simp;exact⟨x.1,by simpa using hx⟩)];exact he)|buildSlice t n ps=>(rw[ho]at he tj;simp only[Op.operands]at he tj⊢;rw[tj ps.toList (fun x hx=>by simp;exact⟨x.1,by simpa using hx⟩)];exact Q9 he hh)|load t x=>(rw[ho]at he get;simp only[Op.operands]at he get⊢;rw[get x (by simp)];exact Rh he hh)|store t x y=>(rw[ho]at he get;simp only[Op.operands]at he get⊢;rw[get x (by simp),get y (by simp)];exact Rn he hh)|nilCheck x=>(rw[ho]at he get;simp only[Op.operands]at he get⊢;rw[get x (by simp)];exact he)|binOp op t x y u=>(rw[ho]at he get;simp only[Op.operands]at he get⊢;rw[get x (by simp),get y (by simp)];exact he)|unOp op t x=>(rw[ho]at he get;simp only[Op.operands]at he get⊢;rw[get x (by simp)];exact he)|convert s t x=>(rw[ho]at he get;simp only[Op.operands]at he get⊢;rw[get x (by simp)];exact he)|makeInterface t x=>(rw[ho]at he get;simp only[Op.operands]at he get⊢;rw[get x (by simp)];exact he)|makeFunc k xs ys=>(rw[ho]at he rq;simp only[Op.operands]at he rq⊢;rw[rq xs.toList (fun x hx=>by simp;exact .inl (by simpa using hx)),rq ys.toList (fun x hx=>by simp;exact .inr (by simpa using hx))];exact he)|makeSlice t x y=>(rw[ho]at he get;simp only[Op.operands]at he get⊢;rw[get x (by simp),get y (by simp)];exact Rk he hh)|slice t x lo hi mx=>(rw[ho]at he get;simp only[Op.operands]at he get⊢;split at he;·{cases he};·rename_i hm;rw[Do hm,get x (by simp)];have e1:(lo.map fun y=>dA (un true (S'.get C y)))=lo.map fun y=>dA (un true (S.get C y)):=by{cases lo with|none=>(rfl)|some y=>simp only[Option.map_some];rw[get y (by simp)]};have e2:(hi.map fun y=>dA (un true (S'.get C y)))=hi.map fun y=>dA (un true (S.get C y)):=by{cases hi with|none=>(rfl)|some y=>simp only[Option.map_some];rw[get y (by simp)]};rw[e1,e2];exact Rm he hh)|fieldAddr s x i=>(rw[ho]at he get;simp only[Op.operands]at he get⊢;rw[get x (by simp)];exact he)|field s x i=>(rw[ho]at he get;simp only[Op.operands]at he get⊢;rw[get x (by simp)];exact he)|indexAddr t x y=>(rw[ho]at he get;simp only[Op.operands]at he get⊢;rw[get x (by simp),get y (by simp)];exact Rf he hh)|index t x y=>(rw[ho]at he get;simp only[Op.operands]at he get⊢;rw[get x (by simp),get y (by simp)];exact he)|extract x i=>(rw[ho]at he get;simp only[Op.operands]at he get⊢;rw[get x (by simp)];exact he)|makeMap t r=>(rw[ho]at he;exact Rl he hh)|lookup t x y ok=>(rw[ho]at he get;simp only[Op.operands]at he get⊢;rw[get x (by simp),get y (by simp)];exact Rj he hh)|mapUpdate t x y z=>(rw[ho]at he get;simp only[Op.operands]at he get⊢;rw[get x (by simp),get y (by simp),get z (by simp)];exact HL he hh)|insert t x y z=>(rw[ho]at he get;simp only[Op.operands]at he get⊢;rw[get x (by simp),get y (by simp),get z (by simp)];exact HL he hh)|call c=>(rw[ho]at he get rq;simp only[Op.operands]at he get rq⊢;have hargs:=rq c.args.toList (fun x hx=>by simp only[Call.operands];simp;exact .inr (by simpa using hx));cases hc:c.callee with|builtin b=>(rw[hc]at he;cases b with|len=>(simp only at he⊢;rw[hargs];exact he)|append=>(simp only[Hb]at he⊢;rw[hargs];obtain⟨e1,h1,h2⟩:=he;exact⟨e1,Q7 h1 (Rr h2 hh),h2⟩)|copy=>(simp only at he⊢;rw[hargs];exact Re he hh)|max=>(simp only at he⊢;rw[hargs];exact he)|min=>(simp only at he⊢;rw[hargs];exact he)|_=>cases he)|value cj=>(rw[hc]at he;simp only at he⊢;rw[get cj (by simp[Call.operands,hc])];split at he;·{rename_i x hx;rw[hargs];exact Rc he hh};rename_i hx;split at he;·{rename_i p hp;rw[hargs];exact Rg he hh};·rename_i hp;split at he;·{rename_i htk;rw[AC htk];cases cj with|func k=>(simp only at he⊢;rw[hargs];exact Rd he hh)|_=>cases he};·rename_i htk;rw[Do htk,hargs];exact Rb he hh)|invoke r n=>rw[hc]at he;cases he)|_=>rw[ho]at he;cases he
end
end Go.Ab
