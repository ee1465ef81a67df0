import Derived.Test.YtbbhbdlljfffdaaGreatDoorAbReg2
open List renaming mem_cons_self→Do,mem_cons_of_mem→Ha,mem_append_left→Hc,mem_cons→Hm,not_mem_nil→Hn,append_nil→H0,map_congr_left→H1
open Option renaming map_eq_some_iff→GE,bind_eq_some_iff→GT,map_some→Hd,bind_some→Hk
open Option.some renaming injEq→AC
open Prod.mk renaming injEq→Hb
set_option linter.all false
namespace Go.Ab
open Go
variable{L L':Id→Option (Option Rows)}
theorem Bc:∀{l:List (Id×Option Rows)},(∀x∈l,L' x.1=L x.1)→fresh L' l=fresh L l|[],_=>rfl|x::l,h=>by have ih:=Bc fun y hy=>h y (Ha _ hy);unfold fresh at ih⊢;simp only[List.all_cons,ih,h x (Do ..)]
theorem Gg{x:U}{r:Rows×List Id}(h:rowsOf L x=some r)(hh:∀id∈r.2,L' id=L id):rowsOf L' x=some r:=by
 cases x<;>simp only[rowsOf]at h⊢<;>try exact h
 rename_i id off len
 split at h
 ·rename_i rs hid
  split at h
  ·rename_i hc
   simp only[AC]at h;subst h
   rw[hh id (by simp),hid]
   simp only[hc,if_true]
  ·cases h
 ·cases h
def qw(p p':(U→Option (U×List Id)))(L L':Id→Option (Option Rows)):Prop:=∀a x,p a=some x→(∀id∈x.2,L' id=L id)→p' a=some x
theorem A8{p p':U→Option (U×List Id)}(hp:qw p p' L L'):∀{cs:List U}{x},dM p cs=some x→(∀id∈x.2,L' id=L id)→dM p' cs=some x|[],x,h,_=>h|c::cs,x,h,hh=>by simp only[dM,GT,GE]at h⊢;obtain⟨y,hy,z,hz,rfl⟩:=h;exact⟨y,hp _ _ hy fun id hid=>hh id (List.mem_append.2 (.inl hid)),z,A8 hp hz fun id hid=>hh id (List.mem_append.2 (.inr hid)),rfl⟩
theorem vv{p p':U→Option (U×List Id)}(hp:qw p p' L L'){cs:List U}{x}(h:ia p cs=some x)(hh:∀id∈x.2,L' id=L id):ia p' cs=some x:=by unfold ia at h⊢;split at h;·{rename_i hc;simpa[hc]using h};·rename_i hc;simp only[hc];exact A8 hp h hh
theorem O8{p p':U→Option (U×List Id)}(hp:qw p p' L L'):∀{rs:Rows}{x},dN (ia p) rs=some x→(∀id∈x.2,L' id=L id)→dN (ia p') rs=some x|[],x,h,_=>h|c::cs,x,h,hh=>by simp only[dN,GT,GE]at h⊢;obtain⟨y,hy,z,hz,rfl⟩:=h;exact⟨y,vv hp hy fun id hid=>hh id (List.mem_append.2 (.inl hid)),z,O8 hp hz fun id hid=>hh id (List.mem_append.2 (.inr hid)),rfl⟩
theorem NG{p p':U→Option (U×List Id)}(hp:qw p p' L L'){rs:Rows}{x}(h:kT p rs=some x)(hh:∀id∈x.2,L' id=L id):kT p' rs=some x:=by unfold kT at h⊢;split at h;·{rename_i hc;simpa[hc]using h};·rename_i hc;simp only[hc];exact O8 hp h hh
theorem Hy:∀n,qw (ck L n) (ck L' n) L L'|0=>fun a x h=>by{simp[ck]at h}|n+1=>fun a x h hh=>by have ih:=Hy n;cases a with|rs id off len=>(simp only[ck]at h⊢;split at h;·{rename_i rs hid;split at h;·{rename_i hc;simp only[GE]at h;obtain⟨y,hy,rfl⟩:=h;rw[hh id (Do ..),hid];simp only[hc,if_true,NG ih hy fun id hid=>hh id (Ha _ hid),Hd]};·cases h};·cases h)|mp id row off=>(simp only[ck]at h⊢;split at h;·{rename_i rs hid;split at h;·{rename_i r hrow;split at h;·{rename_i hoff;simp only[GE]at h;obtain⟨y,hy,rfl⟩:=h;rw[hh id (Do ..),hid];simp only[hrow,hoff,if_true,vv ih hy fun id hid=>hh id (Ha _ hid),Hd]};·cases h};·cases h};·cases h)|agg cs=>(simp only[ck,GE]at h⊢;obtain⟨y,hy,rfl⟩:=h;exact⟨y,vv ih hy hh,rfl⟩)|aS cs=>(simp only[ck,GE]at h⊢;obtain⟨y,hy,rfl⟩:=h;exact⟨y,vv ih hy hh,rfl⟩)|fn k a b=>(simp only[ck,GE,GT]at h⊢;obtain⟨y,hy,z,hz,rfl⟩:=h;exact⟨y,vv ih hy fun id hid=>hh id (List.mem_append.2 (.inl hid)),z,vv ih hz fun id hid=>hh id (List.mem_append.2 (.inr hid)),rfl⟩)|own rs=>(simp only[ck,GE]at h⊢;obtain⟨y,hy,rfl⟩:=h;exact⟨y,NG ih hy hh,rfl⟩)|aT cs=>(simp only[ck,GE]at h⊢;obtain⟨y,hy,rfl⟩:=h;exact⟨y,vv ih hy hh,rfl⟩)|cw=>(simpa only[ck]using h)|c8 g y=>(simpa only[ck]using h)|val u=>(simpa only[ck]using h)|nn=>(simpa only[ck]using h)|mr id=>(simp only[ck]at h⊢;split at h;·{rename_i rs hid;simp only[AC]at h;subst h;rw[hh id (Do ..),hid]};·cases h)|ey rs=>(simpa only[ck]using h)|im rs=>(simpa only[ck]using h)|sl rows=>(simpa only[ck]using h)|aD cells=>(simpa only[ck]using h)|bl i rs=>(simpa only[ck]using h)|zz u=>(simpa only[ck]using h)|br=>simpa only[ck]using h
theorem FZ{p p':U→Option (U×List Id)}(hp:qw p p' L L'){cs:List U}{x}(h:gR p cs=some x)(hh:∀id∈x.2,L' id=L id):gR p' cs=some x:=by unfold gR at h⊢;split at h;·{rename_i hc;simpa[hc]using h};·rename_i hc;simp only[hc];exact A8 hp h hh
theorem RW{p p':U→Option (U×List Id)}(hp:qw p p' L L'):∀{rs:Rows}{x},dN (gR p) rs=some x→(∀id∈x.2,L' id=L id)→dN (gR p') rs=some x|[],x,h,_=>h|c::cs,x,h,hh=>by simp only[dN,GT,GE]at h⊢;obtain⟨y,hy,z,hz,rfl⟩:=h;exact⟨y,FZ hp hy fun id hid=>hh id (List.mem_append.2 (.inl hid)),z,RW hp hz fun id hid=>hh id (List.mem_append.2 (.inr hid)),rfl⟩
theorem RX{p p':U→Option (U×List Id)}(hp:qw p p' L L'){rs:Rows}{x}(h:lz p rs=some x)(hh:∀id∈x.2,L' id=L id):lz p' rs=some x:=by unfold lz at h⊢;split at h;·{rename_i hc;simpa[hc]using h};·rename_i hc;simp only[hc];exact RW hp h hh
theorem w8:∀n,qw (pk L n) (pk L' n) L L'|0=>fun a x h=>by{simp[pk]at h}|n+1=>fun a x h hh=>by have ih:=w8 n;cases a with|rs id off len=>(simp only[pk]at h⊢;split at h;·{rename_i rs hid;split at h;·{rename_i hc;simp only[GE]at h;obtain⟨y,hy,rfl⟩:=h;rw[hh id (Do ..),hid];simp only[hc];rw[RX ih (by simpa using hy) fun id hid=>hh id (Ha _ hid)];rfl};·cases h};·cases h)|mp id row off=>(simp only[pk]at h⊢;split at h;·{rename_i cs hid;split at h;·{rename_i hc;simp only[GE]at h;obtain⟨y,hy,rfl⟩:=h;rw[hh id (Do ..),hid];simp only[hc];rw[FZ ih hy fun id hid=>hh id (Ha _ hid)];rfl};·cases h};·cases h)|agg cs=>(simp only[pk,GE]at h⊢;obtain⟨y,hy,rfl⟩:=h;exact⟨y,FZ ih hy hh,rfl⟩)|aS cs=>(simp only[pk,GE]at h⊢;obtain⟨y,hy,rfl⟩:=h;exact⟨y,FZ ih hy hh,rfl⟩)|fn k a b=>(simpa only[pk]using h)|own rs=>(simpa only[pk]using h)|aT cs=>(simpa only[pk]using h)|cw=>(simpa only[pk]using h)|c8 g y=>(simpa only[pk]using h)|val u=>(simpa only[pk]using h)|nn=>(simpa only[pk]using h)|mr id=>(simp only[pk]at h⊢;split at h;·{rename_i rs hid;simp only[AC]at h;subst h;rw[hh id (Do ..),hid]};·cases h)|ey rs=>(simpa only[pk]using h)|im rs=>(simpa only[pk]using h)|sl rows=>(simpa only[pk]using h)|aD cells=>(simpa only[pk]using h)|bl i rs=>(simpa only[pk]using h)|zz u=>(simpa only[pk]using h)|br=>simpa only[pk]using h
theorem Sh(o:Oper)(v:U)(rd:List Id)(wr:List (Id×Option Rows)):(put o v rd wr).rd=rd:=rfl
theorem Lf(o:Oper)(v:U)(rd:List Id)(wr:List (Id×Option Rows)):(put o v rd wr).wr=wr:=rfl
section
variable{C:aG}{f:FuncId}{call:FuncId→List U→Option (U×List U)}{S S':ah}{o:Oper}{e:bq}
def Agree(S S':ah)(e:bq):Prop:=∀id,(id∈e.rd∨∃x∈e.wr,x.1=id)→S'.h id=S.h id
theorem Z0{t:TypeId}(he:r3 C f S o t=some e)(hh:Agree S S' e):r3 C f S' o t=some e:=by
 unfold r3 at he⊢
 split at he
 ·rename_i cs d h1 h2
  split at he
  ·simp only[AC]at he;subst he
   rename_i hf
   try rw[h1,h2]
   simp only[hh [d] (.inr ⟨_,Do ..,rfl⟩),hf,if_true]
  ·cases he
 ·cases he
theorem Z2{t:TypeId}{x:U}(he:pK C f S o t x=some e)(hh:Agree S S' e):pK C f S' o t x=some e:=by unfold pK at he⊢;split at he;·{rename_i b d h1 h2;split at he;·{rename_i cs hcs;split at he;·{rename_i hz;rw[if_pos hz];exact he};·rename_i hz;rw[if_neg hz];split at he;·{rename_i hf;simp only[AC]at he;subst he;rw[hh [d] (.inr ⟨_,Do ..,rfl⟩),if_pos hf]};·cases he};·cases he};·cases he
theorem Z4{t:TypeId}{n:Nat}{ps:List (Nat×U)}(he:r5 C f S o t n ps=some e)(hh:Agree S S' e):r5 C f S' o t n ps=some e:=by
 unfold r5 at he⊢
 split at he
 ·rename_i el d h1 h2
  split at he
  ·rename_i z b k hz hb hk
   split at he
   ·rename_i hc
    try rw[if_pos hc]
    split at he
    ·rename_i rows hr
     try rw[hr]
     split at he
     ·rename_i hfz
      rw[if_pos hfz];exact he
     ·rename_i hfz
      rw[if_neg hfz]
      split at he
      ·rename_i hf
       simp only[AC]at he;subst he
       rw[hh [d] (.inr ⟨_,Do ..,rfl⟩),if_pos hf]
      ·cases he
    ·cases he
   ·cases he
  ·cases he
 ·cases he
theorem Z3{t:TypeId}{n:Nat}{ps:List (Nat×U)}(he:pL C f S o t n ps=some e)(hh:Agree S S' e):pL C f S' o t n ps=some e:=by unfold pL at he⊢;split at he;·{rename_i hc;rw[if_pos hc];unfold AY at he⊢;split at he;·{rename_i rows d h1 h2;split at he;·{rename_i bn ids hp;split at he;·{rename_i hn;simp only[AC]at he;subst he;have:lz (pk S'.h 8) rows=some (bn,ids):=RX (w8 8) hp fun id hid=>hh id (.inl hid);simp only[h1,h2,this,hn,if_true]};·cases he};·cases he};·cases he};·rename_i hc;rw[if_neg hc];exact Z4 he hh
theorem aae{t:TypeId}{x y:U}(he:r7 C S o t x y=some e)(hh:Agree S S' e):r7 C S' o t x y=some e:=by
 unfold r7 at he⊢
 split at he
 ·rename_i el d l c h1 h2 h3 h4
  split at he
  ·rename_i z i hz hi
   split at he
   ·rename_i hc
    simp only[AC]at he;subst he
    try rw[h1,h2,h3,h4]
    try simp only[hz,hi]
    rw[hh [d] (.inr ⟨_,Do ..,rfl⟩),if_pos hc]
   ·cases he
  ·cases he
 ·cases he
theorem aaf{t:TypeId}{r:Option Operand}(he:r8 C S o t r=some e)(hh:Agree S S' e):r8 C S' o t r=some e:=by
 unfold r8 at he⊢
 split at he
 ·rename_i d h1 h2
  split at he
  ·rename_i hc
   simp only[AC]at he;subst he
   try rw[h1,h2]
   try simp only
   rw[hh [d] (.inr ⟨_,Do ..,rfl⟩),if_pos hc]
  ·cases he
 ·cases he
theorem aad{t:TypeId}{x k:U}{ok:Bool}(he:pM C S o t x k ok=some e)(hh:Agree S S' e):pM C S' o t x k ok=some e:=by unfold pM at he⊢;split at he;·{rename_i kind z rows ids kv h1 h2;obtain⟨r,hf,rfl⟩:=Option.map_eq_some_iff.1 he;have e2:wV S'.h x=some (rows,ids):=by{unfold wV at h2⊢;split at h2;·{rename_i id;split at h2;·{rename_i bn hid;simp only[Option.some.injEq,Prod.mk.injEq]at h2;obtain⟨rfl,rfl⟩:=h2;rw[hh id (.inl (by rw[Sh];exact List.mem_cons_self ..)),hid]};·cases h2};·{exact h2};·{exact h2};·cases h2};rw[h1,e2];simp only[hf,Option.map_some]};·cases he
theorem Pg{t:TypeId}{x k v:U}(he:pN C S o t x k v=some e)(hh:Agree S S' e):pN C S' o t x k v=some e:=by
 unfold pN at he⊢
 split at he
 ·rename_i kind z id kv nr h1
  split at he
  ·rename_i rows hid
   split at he
   ·rename_i hc
    obtain⟨bn,hp,rfl⟩:=Option.map_eq_some_iff.1 he
    try rw[h1]
    try simp only
    rw[hh id (.inl (by rw[Sh];exact Do ..)),hid]
    simp only[if_pos hc,hp,Hd]
   ·cases he
  ·cases he
 ·cases he
theorem aag{t:TypeId}{x:U}{lo hi:Option (Option Int)}(he:nD C S o t x lo hi=some e)(hh:Agree S S' e):nD C S' o t x lo hi=some e:=by
 unfold nD at he⊢
 split at he
 ·rename_i el hu
  try rw[hu]
  try simp only
  split at he
  ·exact he
  ·rename_i id off len sz hs
   try rw[hs]
   try simp only
   split at he
   ·rename_i rows hid
    have hrd:id∈e.rd:=by
     simp only[GT]at he
     obtain⟨b,_,he⟩:=he
     split at he
     ·simp only[AC]at he;subst he;simp[put]
     ·cases he
    rw[hh id (.inl hrd),hid]
    exact he
   ·cases he
  ·cases he
 ·rename_i hu;try rw[hu]
  exact he
 ·cases he
theorem Z9{t:TypeId}{x:U}{i:Option Int}(he:mc C S o t x i=some e)(hh:Agree S S' e):mc C S' o t x i=some e:=by
 unfold mc at he⊢
 split at he
 ·rename_i el i' hu
  try rw[hu]
  try simp only
  split at he
  ·rename_i hs;try rw[hs]
   exact he
  ·rename_i n id off len hs
   try rw[hs]
   try simp only
   split at he
   ·rename_i hc
    rw[if_pos hc]
    split at he
    ·rename_i rows hid
     have hrd:id∈e.rd:=by
      simp only[GT]at he
      obtain⟨b,_,he⟩:=he
      split at he
      ·simp only[AC]at he;subst he;simp[put]
      ·cases he
     rw[hh id (.inl hrd),hid]
     exact he
    ·cases he
   ·cases he
  ·cases he
 ·rename_i hu;try rw[hu]
  exact he
 ·cases he
theorem aab{t:TypeId}{x:U}(he:kY C S o t x=some e)(hh:Agree S S' e):kY C S' o t x=some e:=by
 unfold kY at he⊢
 split at he
 ·rename_i b n h1 h2
  try rw[h1,h2]
  try simp only
  split at he
  ·exact he
  ·rename_i id row off
   split at he
   ·rename_i rows hid
    obtain⟨r,hr,he⟩:=Option.bind_eq_some_iff.1 he
    split at he
    ·rename_i hc
     split at he
     ·rename_i hem
      have hrd:id∈e.rd:=by
       obtain⟨v,_,he⟩:=Option.map_eq_some_iff.1 he
       subst he;simp[put]
      rw[hh id (.inl hrd),hid]
      simp only[hr,Hk,hc,if_true,hem]
      exact he
     ·rename_i hem
      split at he
      ·rename_i hf
       have ab5:=he
       obtain⟨v,_,he⟩:=Option.map_eq_some_iff.1 he
       have hrd:id∈e.rd:=by subst he;simp[put]
       have hwr:∀x∈(bU (iF o) 0 ((r.drop off).take n)).2,S'.h x.1=S.h x.1:=fun x hx=>hh x.1 (.inr ⟨x,by subst he;simp[put,hx],rfl⟩)
       rw[hh id (.inl hrd),hid]
       simp only[hr,Hk,hc,if_true,hem,Bc hwr,hf]
       exact ab5
      ·cases he
    ·cases he
   ·cases he
  ·cases he
 ·cases he
theorem aah{t:TypeId}{ao:Operand}{x y:U}(he:nE C f S true o t ao x y=some e)(hh:Agree S S' e):nE C f S' true o t ao x y=some e:=by
 unfold nE at he⊢
 split at he
 ·rename_i b n h1 h2
  try rw[h1,h2]
  try simp only
  split at he
  ·rename_i id row off cs hcs
   try rw[hcs]
   try simp only
   split at he
   ·cases he
   ·rename_i hl
    rw[if_neg hl]
    split at he
    ·rename_i rows hid
     have hrd:id∈e.rd:=by
      obtain⟨r,hr,he⟩:=Option.bind_eq_some_iff.1 he
      split at he
      ·split at he
       ·split at he
        ·simp only[AC]at he;subst he;simp
        ·cases he
       ·split at he
        ·simp only[AC]at he;subst he;simp[put]
        ·cases he
      ·cases he
     rw[hh id (.inl hrd),hid]
     exact he
    ·cases he
  ·cases he
 ·cases he
theorem aam{e1:bq}(h:pP C f o e1=some e)(hh:Agree S S' e):Agree S S' e1:=by unfold pP at h;split at h;·{split at h;·{rename_i hw;split at h;·{rename_i hc;obtain⟨rfl,_⟩:=hc;simp only[AC]at h;subst h;intro id hid;refine hh id (hid.imp (fun h=>h) fun⟨x,hx,e⟩=> ?_);rw[hw]at hx;simp only[Hm,Hn,or_false]at hx;rcases hx with rfl|rfl;·{exact⟨_,Do ..,e⟩};·exact⟨_,Ha _ (Do ..),e⟩};·cases h};·{rename_i hw;split at h;·{rename_i hc;obtain⟨rfl,_⟩:=hc;simp only[AC]at h;subst h;intro id hid;refine hh id (hid.imp (fun h=>h) fun⟨x,hx,e⟩=> ?_);rw[hw]at hx;simp only[Hm,Hn,or_false]at hx;obtain rfl:=hx;exact⟨_,Do ..,e⟩};·cases h};·cases h};·simp only[AC]at h;subst h;exact hh
theorem Z1{ts:Array TypeId}{xs:List U}(he:lH C S o ts xs=some e)(hh:Agree S S' e):lH C S' o ts xs=some e:=by
 unfold lH at he⊢
 split at he
 ·rename_i x y t el h1 h2
  try rw[h1,h2]
  try simp only
  unfold xZ at he⊢
  split at he
  ·rename_i Zj d hu hd
   try rw[hu,hd]
   try simp only
   split at he
   ·rename_i i ajr i1 aof i2 hi hx hy
    split at he
    ·rename_i hc
     unfold l8 at he
     have facts:(∀id∈i1++i2,id∈e.rd)∧(∃r,([d],r)∈e.wr):=by
      split at he
      ·split at he
       ·split at he
        ·simp only[AC]at he;subst he
         exact⟨fun id h=>h,_,Ha _ (Do ..)⟩
        ·cases he
       ·cases he
      ·simp only[AC]at he;subst he
       exact⟨fun id h=>h,_,Do ..⟩
      ·cases he
     obtain⟨hrd,r,hwr⟩:=facts
     have ex:=Gg (L':=S'.h) hx fun id hid=>hh id (.inl (hrd id (List.mem_append.2 (.inl hid))))
     have Ev:=Gg (L':=S'.h) hy fun id hid=>hh id (.inl (hrd id (List.mem_append.2 (.inr hid))))
     try rw[hi,ex,Ev]
     try simp only
     rw[hh [d] (.inr ⟨_,hwr,rfl⟩),if_pos hc]
     unfold l8
     split at he
     ·rename_i id off len
      have hid:id∈i1:=by
       simp only[rowsOf]at hx
       split at hx
       ·split at hx
        ·simp only[AC,Hb]at hx
         rw[←hx.2];simp
        ·cases hx
       ·cases hx
      try simp only
      rw[hh id (.inl (hrd id (List.mem_append.2 (.inl hid))))]
      exact he
     ·exact he
     ·cases he
    ·cases he
   ·cases he
  ·cases he
 ·rename_i x y t k h1 h2
  try rw[h1,h2]
  try simp only
  unfold x4 at he⊢
  split at he
  ·rename_i Zj d nn hu hd Jm
   try rw[hu,hd,Jm]
   try simp only
   split at he
   ·rename_i i z ajr i1 hi hz hx
    split at he
    ·rename_i hc
     unfold l8 at he
     have facts:(∀id∈i1,id∈e.rd)∧(∃r,([d],r)∈e.wr):=by
      split at he
      ·split at he
       ·split at he
        ·simp only[AC]at he;subst he
         exact⟨fun id h=>by simp only[put,H0];exact h,_,Ha _ (Do ..)⟩
        ·cases he
       ·cases he
      ·simp only[AC]at he;subst he
       exact⟨fun id h=>by simp only[put,H0];exact h,_,Do ..⟩
      ·cases he
     obtain⟨hrd,r,hwr⟩:=facts
     have ex:=Gg (L':=S'.h) hx fun id hid=>hh id (.inl (hrd id hid))
     try rw[hi,hz,ex]
     try simp only
     rw[hh [d] (.inr ⟨_,hwr,rfl⟩),if_pos hc]
     unfold l8
     split at he
     ·rename_i id off len
      have hid:id∈i1:=by
       simp only[rowsOf]at hx
       split at hx
       ·split at hx
        ·simp only[AC,Hb]at hx
         rw[←hx.2];simp
        ·cases hx
       ·cases hx
      try simp only
      rw[hh id (.inl (hrd id hid))]
      exact he
     ·exact he
     ·cases he
    ·cases he
   ·cases he
  ·cases he
 ·cases he
theorem aaa{p:Nat×Nat}{xs:List U}(he:tH S o p xs=some e)(hh:Agree S S' e):tH S' o p xs=some e:=by unfold tH at he⊢;split at he;·{rename_i id row off;split at he;·{rename_i rows hid;split at he;·{rename_i gw off2 len hcell;split at he;·{rename_i eV BG;split at he;·{rename_i hc;simp only[AC]at he;subst he;have e1:S'.h id=S.h id:=hh id (.inl (by simp[put]));have e2:S'.h gw=S.h gw:=hh gw (.inl (by simp[put]));simp only[e1,hid,hcell,e2,BG,hc,if_true]};·cases he};·cases he};·cases he};·cases he};·{exact he};·cases he
theorem Z8{ts:Array TypeId}{xs:List U}(he:vG C S o ts xs=some e)(hh:Agree S S' e):vG C S' o ts xs=some e:=by unfold vG at he⊢;split at he;·{rename_i x y el h1;split at he;·{rename_i id off len ys i2 hsz B4;split at he;·{rename_i rows hid;split at he;·{rename_i hc;simp only[AC]at he;subst he;have e1:S'.h id=S.h id:=hh id (.inl (by simp[put]));have e2:rowsOf S'.h y=some (ys,i2):=Gg B4 (fun i hi=>hh i (.inl (by simp[put];exact .inr hi)));simp only[hsz,e2,e1,hid,hc,if_true]};·cases he};·cases he};·cases he};·cases he
theorem aac{as:List U}(he:wT S o as=some e)(hh:Agree S S' e):wT S' o as=some e:=by unfold wT at he⊢;split at he;·{split at he;·{rename_i hc hid;split at he;·{rename_i h2 hk;split at he;·{rename_i hr;split at he;·{rename_i jx;simp only[AC]at he;subst he;have e1:=hh _ (.inl (show _∈[_,_]from Do ..));have e2:=hh _ (.inl (show _∈[_,_]from Ha _ (Do ..)));simp only[hc,e1,hid,e2,h2,hk,hr,jx,and_self,if_true]};·cases he};·cases he};·cases he};·cases he};·cases he
theorem Z5{fv:U}{args:List U}(he:qI C f call S o fv args=some e)(hh:Agree S S' e):qI C f call S' o fv args=some e:=by
 unfold qI at he⊢
 split at he
 ·rename_i k first caps
  try simp only
  by_cases hlk:C.look k=true
  ·rw[if_pos hlk]at he⊢
   exact aac he hh
  rw[if_neg hlk]at he⊢
  split at he
  ·rename_i as seen d IW bz
   split at he
   ·rename_i r b8
    generalize hr':(if eJ C f o.dst=true then dG r else r)=r' at he
    split at he
    ·cases he
    ·rename_i hm
     split at he
     ·rename_i hf
      simp only[AC]at he;subst he
      have hb:qE S'.h (first++args++caps)=some (as,seen):=A8 (Hy 9) IW fun id hid=>hh id (.inl hid)
      have hfr:fresh S'.h (imp [d] r').2=fresh S.h (imp [d] r').2:=Bc fun x hx=>hh x.1 (.inr ⟨x,hx,rfl⟩)
      rw[hb,bz]
      simp only[b8]
      rw[←bz,hr',if_neg hm,hfr,if_pos hf]
     ·cases he
   ·cases he
  ·cases he
 ·cases he
theorem Te:∀{ec:List U}{ms:List Nat}{as:List U}{seen tk di:List Id},jF S.h ms ec=some (as,seen,tk,di)→(∀id∈seen,S'.h id=S.h id)→(∀id∈tk++di,S'.h id=S.h id)→jF S'.h ms ec=some (as,seen,tk,di)|[],ms,as,seen,tk,di,hx,_,_=>hx|c::cs,ms,as,seen,tk,di,hx,h1,h2=>by simp only[jF,GT]at hx⊢;obtain⟨⟨ys,s1,t1,bP⟩,hy,hx⟩:=hx;refine⟨(ys,s1,t1,bP), ?_, ?_⟩;·{split at hx<;>·obtain⟨x,hpk,hx⟩:=Option.map_eq_some_iff.1 hx;simp only[Hb]at hx;obtain⟨rfl,rfl,rfl,rfl⟩:=hx;exact Te hy (fun id hid=>h1 id (by simp[hid])) (fun id hid=>h2 id (by rcases List.mem_append.1 hid with h|h<;>simp[h]))};·split at hx;·{rename_i hm;obtain⟨x,hpk,hx⟩:=Option.map_eq_some_iff.1 hx;simp only[Hb]at hx;obtain⟨rfl,rfl,rfl,rfl⟩:=hx;simp only[hm];rw[w8 9 _ _ hpk fun id hid=>h2 id (by simp[hid])];rfl};·{rename_i hm;obtain⟨x,hpk,hx⟩:=Option.map_eq_some_iff.1 hx;simp only[Hb]at hx;obtain⟨rfl,rfl,rfl,rfl⟩:=hx;simp only[hm];rw[w8 9 _ _ hpk fun id hid=>h2 id (by simp[hid])];rfl};·rename_i tZ hm2;obtain⟨x,hpk,hx⟩:=Option.map_eq_some_iff.1 hx;simp only[Hb]at hx;obtain⟨rfl,rfl,rfl,rfl⟩:=hx;rw[Hy 9 _ _ hpk fun id hid=>h1 id (by simp[hid])];rfl
theorem So{a b:U}{l:List (Id×Option Rows)}(h:jk S.h a b=some l)(hh:∀x∈l,S'.h x.1=S.h x.1):jk S'.h a b=some l:=by unfold jk at h;split at h;·{rename_i id cs;split at h;·{rename_i old hid;split at h;·{rename_i hc;simp only[AC]at h;subst h;have:=hh _ (Do ..);simp only[jk,this,hid,hc,if_true]};·cases h};·cases h};·{rename_i id n rows;split at h;·{rename_i o1 os hid;split at h;·{rename_i hc;simp only[AC]at h;subst h;have:=hh _ (Do ..);simp only[jk,this,hid];rw[if_pos hc]};·cases h};·{rename_i hid;split at h;·{rename_i hc;simp only[AC]at h;subst h;have:=hh _ (Do ..);simp only[jk,this,hid];rw[if_pos hc]};·cases h};·cases h};·{rename_i id rows;split at h;·{rename_i uJ hid;simp only[AC]at h;subst h;have:=hh _ (Do ..);simp only[jk,this,hid]};·cases h};·{cases h};·{cases h};·{cases h};·{cases h};·rename_i g1 g2 g3 g4 _ _ _;simp only[AC]at h;subst h;unfold jk;split<;>first|rfl|exact(g1 _ _ _ rfl).elim|exact(g2 _ _ _ rfl).elim|exact(g3 _ rfl).elim|exact(g4 _ rfl).elim
theorem Ss:∀{as bs:List U}{l:List (Id×Option Rows)},jE S.h as bs=some l→(∀x∈l,S'.h x.1=S.h x.1)→jE S'.h as bs=some l|[],[],l,h,_=>h|[],_::_,l,h,_=>by{simp[jE]at h}|_::_,[],l,h,_=>by{simp[jE]at h}|a::as,b::bs,l,h,hh=>by simp only[jE]at h⊢;split at h;·{rename_i x y h1 h2;simp only[AC]at h;subst h;rw[So h1 fun x hx=>hh x (List.mem_append.2 (.inl hx)),Ss h2 fun x hx=>hh x (List.mem_append.2 (.inr hx))]};·cases h
theorem ahG{a b:U}{l:List (Id×Option Rows)}(h:rA S.h a b=some l)(hh:∀x∈l,S'.h x.1=S.h x.1):rA S'.h a b=some l:=by unfold rA at h⊢;split at h;·{exact Ss h hh};·exact So h hh
theorem Sv{args:List U}:∀{cv:List Nat}{outs:List U}{l:List (Id×Option Rows)},gH S.h args cv outs=some l→(∀x∈l,S'.h x.1=S.h x.1)→gH S'.h args cv outs=some l|[],[],l,h,_=>h|[],_::_,l,h,_=>by{simp[gH]at h}|_::_,[],l,h,_=>by{simp[gH]at h}|j::cv,b::outs,l,h,hh=>by simp only[gH]at h⊢;split at h;·{rename_i a y h1 h2;split at h;·{rename_i x h3;simp only[AC]at h;subst h;rw[h1,Sv h2 fun x hx=>hh x (List.mem_append.2 (.inr hx))];simp only[ahG h3 fun x hx=>hh x (List.mem_append.2 (.inl hx))]};·cases h};·cases h
theorem Z7{k:FuncId}{args:List U}(he:qJ C f call S o k args=some e)(hh:Agree S S' e):qJ C f call S' o k args=some e:=by unfold qJ at he⊢;split at he;·{rename_i as seen tk di d htk bz;split at he;·{rename_i r outs b8;generalize hr':(if eJ C f o.dst=true then dG r else r)=r' at he;split at he;·{rename_i back kg;split at he;·{rename_i EW;simp only[AC]at he;subst he;have hw:∀x,(x∈(imp [d] r').2∨x∈back∨x∈(tk++di).map fun i=>((i,none):Id×Option Rows))→S'.h x.1=S.h x.1:=fun x hx=>hh x.1 (.inr ⟨x,by rw[Lf];rcases hx with hx|hx|hx;·{exact List.mem_append.2 (.inl hx)};·{exact List.mem_append.2 (.inr (List.mem_append.2 (.inl hx)))};·exact List.mem_append.2 (.inr (List.mem_append.2 (.inr hx))),rfl⟩);have e1:jF S'.h (C.wX k) args=some (as,seen,tk,di):=Te htk (fun id hid=>hh id (.inl hid)) fun id hid=>hw (id,none) (.inr (.inr (List.mem_map.2 ⟨id,hid,rfl⟩)));have e2:gH S'.h args (C.cv k) outs=some back:=Sv kg fun x hx=>hw x (.inr (.inl hx));have hfr:fresh S'.h (imp [d] r').2=fresh S.h (imp [d] r').2:=Bc fun x hx=>hw x (.inl hx);rw[e1];simp only[bz];simp only[bz]at hr';simp only[b8,hr',e2,hfr,if_pos EW]};·cases he};·cases he};·cases he};·cases he
end
end Go.Ab
namespace Go.Ab
open Go
variable{L L':Id→Option (Option Rows)}
section
variable{C:aG}{f:FuncId}{call:FuncId→List U→Option (U×List U)}{S S':ah}{o:Oper}{e:bq}
def tmpsOf(o:Oper):List Nat:=o.op.operands.toList.filterMap fun| .tmp t=>some t|_=>none
theorem Yl{keep:Id→Bool}:qw (gD L keep) (gD L' keep) L L':=fun a x h hh=>by cases a with|rs i off len=>(simp only[gD]at h⊢;split at h;·{rename_i hk;rw[if_pos hk];exact h};·rename_i hk;rw[if_neg hk];exact w8 8 _ _ h hh)|mp i off len=>(simp only[gD]at h⊢;split at h;·{rename_i hk;rw[if_pos hk];exact h};·rename_i hk;rw[if_neg hk];exact w8 8 _ _ h hh)|mr i=>(simp only[gD]at h⊢;split at h;·{rename_i hk;rw[if_pos hk];exact h};·rename_i hk;rw[if_neg hk];exact w8 8 _ _ h hh)|_=>exact h
theorem Pb{q q':List U→Option (List U×List Id)}(hq:∀r x,q r=some x→(∀id∈x.2,L' id=L id)→q' r=some x):∀{rs:Rows}{x},dN q rs=some x→(∀id∈x.2,L' id=L id)→dN q' rs=some x|[],x,h,_=>h|c::cs,x,h,hh=>by simp only[dN,GT,GE]at h⊢;obtain⟨y,hy,z,hz,rfl⟩:=h;exact⟨y,hq _ _ hy fun id hid=>hh id (List.mem_append.2 (.inl hid)),z,Pb hq hz fun id hid=>hh id (List.mem_append.2 (.inr hid)),rfl⟩
theorem Yp{keep:Id→Bool}(r:List U)(x)(hy:kV L keep r=some x)(hh:∀id∈x.2,L' id=L id):kV L' keep r=some x:=by unfold kV at hy⊢;split at hy;·{rename_i hc;rw[if_pos hc];exact hy};·rename_i hc;rw[if_neg hc];exact A8 Yl hy hh
theorem Yn{keep:Id→Bool}{rs:Rows}{x}(h:dN (kV L keep) rs=some x)(hh:∀id∈x.2,L' id=L id):dN (kV L' keep) rs=some x:=Pb Yp h hh
theorem Ru{l:List (Id×Id)}:∀{r:List (Id×Id)}{x},ir L l r=some x→(∀i∈r.map (·.1),L' i=L i)→(∀i∈x.2,L' i=L i)→ir L' l r=some x|[],x,h,_,_=>h|(o,k)::r,x,h,h1,h2=>by simp only[ir]at h⊢;rw[h1 o (by simp)];split at h;·{simp only[GT,GE]at h⊢;obtain⟨y,hy,bn,hr,z,hz,rfl⟩:=h;refine⟨y, ?_,bn,hr,z,Ru hz (fun i hi=>h1 i (by simp only[List.map_cons];exact Ha _ hi)) (fun i hi=>h2 i (List.mem_append.2 (.inr hi))),rfl⟩;unfold mN at hy⊢;split at hy;·{rename_i hc;rw[if_pos hc];exact hy};·rename_i hc;rw[if_neg hc];exact Yn hy fun i hi=>h2 i (List.mem_append.2 (.inl hi))};·cases h
theorem yc:∀(n:Nat)(b:Bool)(p:Id)(j:Nat)(acc:List (Id×Id))(as:List U),∀x∈acc,x∈dV L n b p j acc as|0,_,_,_,_,_,x,hx=>hx|_+1,_,_,_,_,[],x,hx=>hx|n+1,b,p,j,acc,a::as,x,hx=>by unfold dV;apply yc n b p (j+1);cases a with|rs i off len=>(dsimp only;split;exact hx;exact Hc _ hx)|mr i=>(dsimp only;split;exact hx;exact Hc _ hx)|mp i row off=>(dsimp only;split;·{exact hx};·split;·{exact yc n _ _ _ _ _ x (Hc _ hx)};·exact Hc _ hx)|agg cs=>(exact yc n _ _ _ _ _ x hx)|fn k xs cs=>(exact yc n _ _ _ _ _ x hx)|_=>exact hx
theorem YL(n:Nat)(b:Bool)(p:Id)(j:Nat)(acc:List (Id×Id))(a:U)(as:List U):∃l:(Id→Option (Option Rows))→List (Id×Id),∀L,dV L (n+1) b p j acc (a::as)=dV L n b p (j+1) (l L) as∧l L=(match a with| .rs i _ _=>if !b||(fR acc i).isSome then acc else acc++[(i,j::p)]| .mr i=>if !b||(fR acc i).isSome then acc else acc++[(i,j::p)]| .mp i _ _=>if(fR acc i).isSome then acc else(match L i with|some (some [cs])=>dV L n false (j::p) 0 (acc++[(i,j::p)]) cs|_=>acc++[(i,j::p)])| .agg cs=>dV L n b (j::p) 0 acc cs| .fn _ as cs=>dV L n true (j::p) 0 acc (as++cs)|_=>acc):=⟨_,fun L=>⟨by cases a<;>rw[dV]<;>first|rfl|(intros;contradiction)|(intros;rename_i h;cases h),rfl⟩⟩
theorem AP:∀(n:Nat)(b:Bool)(p:Id)(j:Nat)(acc:List (Id×Id))(as:List U),(∀i∈(dV L n b p j acc as).map (·.1),L' i=L i)→dV L' n b p j acc as=dV L n b p j acc as|0,_,_,_,_,_,_=>rfl|_+1,_,_,_,_,[],_=>rfl|n+1,b,p,j,acc,a::as,h=>by obtain⟨l,hl⟩:=YL n b p j acc a as;rw[(hl L).1]at h⊢;rw[(hl L').1];have sub:∀i∈(l L).map (·.1),L' i=L i:=fun i hi=>by{obtain⟨x,hx,rfl⟩:=List.mem_map.1 hi;exact h _ (List.mem_map.2 ⟨x,yc n b p (j+1) _ as x hx,rfl⟩)};have e:l L'=l L:=by{have h1:=(hl L).2;rw[h1]at sub;rw[(hl L').2,h1];clear h1 h hl l;cases a with|mp i row off=>(dsimp only at sub⊢;by_cases hs:(fR acc i).isSome=true;·{rw[if_pos hs,if_pos hs]};·rw[if_neg hs]at sub;rw[if_neg hs,if_neg hs];have hi:L' i=L i:=by{refine sub i ?_;split;·{exact List.mem_map.2 ⟨(i,j::p),yc n _ _ _ _ _ _ (List.mem_append_right _ (List.mem_singleton.2 rfl)),rfl⟩};·exact List.mem_map.2 ⟨(i,j::p),List.mem_append_right _ (List.mem_singleton.2 rfl),rfl⟩};rw[hi];split;·{rename_i cs hcs;rw[hcs]at sub;exact AP n false (j::p) 0 _ cs sub};·rfl)|agg cs=>(exact AP n b (j::p) 0 _ cs sub)|fn k xs cs=>(exact AP n true (j::p) 0 _ (xs++cs) sub)|_=>rfl};rw[e];exact AP n b p (j+1) _ as h
theorem aaH{k:FuncId}{args:List U}{x:xJ}(h:qR call L k args=some x)(h1:∀i∈x.l.map (·.1),L' i=L i)(h2:∀i∈x.gone,L' i=L i):qR call L' k args=some x:=by have hl:x.l=dV L 60 true [iq] 0 [] args:=by{unfold qR Bf at h;split at h;·{split at h;·{split at h;·{obtain⟨back,_,rfl⟩:=Option.map_eq_some_iff.1 h;rfl};·cases h};·cases h};·cases h};obtain⟨obs,outs,ho,_⟩:=EJ h;unfold qR at h⊢;rw[AP 60 true [iq] 0 [] args (by rw[←hl];exact h1)];unfold Bf at h⊢;rw[hl]at ho;rw[ho]at h;rw[Ru ho (by rw[←hl];exact h1) h2];exact h
theorem Z6{k:FuncId}{args:List U}(he:pG C f call S o k args=some e)(hh:Agree S S' e):pG C f call S' o k args=some e:=by unfold pG at he⊢;simp only[GT]at he⊢;obtain⟨x,hx,he⟩:=he;split at he;·{cases he};·rename_i hp;generalize sw:(if eJ C f o.dst=true then(if flat x.r=true then dG x.r else .br)else x.r)=rr at he;split at he;·{rename_i hf;simp only[AC]at he;subst he;have jf:jQ S'.h x.back=jQ S.h x.back:=by{obtain⟨_,_,_,_,hb,_⟩:=EJ hx;have hbk:=(vr hb).1;unfold jQ;refine List.filter_congr fun b hb=> ?_;have:S'.h b.1=S.h b.1:=hh b.1 (.inl (by show b.1∈x.l.map (·.1);rw[←hbk];exact List.mem_map.2 ⟨b,hb,rfl⟩));unfold rB;rw[this]};refine⟨x,aaH hx (fun i hi=>hh i (.inl hi)) (fun i hi=>hh i (.inr ⟨(i,none), ?_,rfl⟩)), ?_⟩;·{simp only[Lf];exact List.mem_append_right _ (List.mem_append_right _ (List.mem_map.2 ⟨i,hi,rfl⟩))};·rw[if_neg hp];simp only[sw,jf];rw[Bc (L':=S'.h) (L:=S.h) fun y hy=>hh y.1 (.inr ⟨y,by simp only[Lf];exact List.mem_append_left _ hy,rfl⟩),if_pos hf]};·cases he
theorem aaE(hs:∀t∈tmpsOf o,S'.t t=S.t t){x:Operand}(hx:x∈o.op.operands.toList):S'.get C x=S.get C x:=by cases x with|tmp t=>(exact hs t (List.mem_filterMap.2 ⟨.tmp t,hx,rfl⟩))|_=>rfl
theorem Zx(he:bA C f call S true o=some e)(hs:∀t∈tmpsOf o,S'.t t=S.t t)(hh:Agree S S' e):bA C f call S' true o=some e:=by have get:∀x∈o.op.operands.toList,S'.get C x=S.get C x:=fun x hx=>aaE hs hx;have vN:∀xs:List Operand,(∀x∈xs,x∈o.op.operands.toList)→(xs.map fun x=>un true (S'.get C x))=xs.map fun x=>un true (S.get C x):=fun xs h=>H1 fun x hx=>by{rw[get x (h x hx)]};have yz:∀xs:List (Nat×Operand),(∀x∈xs,x.2∈o.op.operands.toList)→(xs.map fun p=>(p.1,un true (S'.get C p.2)))=xs.map fun p=>(p.1,un true (S.get C p.2)):=fun xs h=>H1 fun x hx=>by{rw[get x.2 (h x hx)]};unfold bA at he⊢;cases ho:o.op with|move x=>(rw[ho]at he get;simp only[Op.operands]at he get⊢;rw[get x (by simp)];exact he)|assign x=>(rw[ho]at he get;simp only[Op.operands]at he get⊢;rw[get x (by simp)];exact he)|pick c x y=>(rw[ho]at he get;simp only[Op.operands]at he get⊢;rw[get c (by simp),get x (by simp),get y (by simp)];exact he)|alloc t=>(rw[ho]at he;exact Z0 he hh)|box t x=>(rw[ho]at he get;simp only[Op.operands]at he get⊢;rw[get x (by simp)];exact Z2 he hh)|build t ps=>(rw[ho]at he yz;simp only[Op.operands]at he yz⊢;rw[yz ps.toList (fun x hx=>by simp;exact⟨x.1,by simpa using hx⟩)];exact he)|buildSlice t n ps=>(rw[ho]at he yz;simp only[Op.operands]at he yz⊢;rw[yz ps.toList (fun x hx=>by simp;exact⟨x.1,by simpa using hx⟩)];exact Z3 he hh)|load t x=>(rw[ho]at he get;simp only[Op.operands]at he get⊢;rw[get x (by simp)];exact aab he hh)|store t x y=>(rw[ho]at he get;simp only[Op.operands]at he get⊢;rw[get x (by simp),get y (by simp)];exact aah he hh)|nilCheck x=>(rw[ho]at he get;simp only[Op.operands]at he get⊢;rw[get x (by simp)];exact he)|binOp op t x y u=>(rw[ho]at he get;simp only[Op.operands]at he get⊢;rw[get x (by simp),get y (by simp)];exact he)|unOp op t x=>(rw[ho]at he get;simp only[Op.operands]at he get⊢;rw[get x (by simp)];exact he)|convert s t x=>(rw[ho]at he get;simp only[Op.operands]at he get⊢;rw[get x (by simp)];exact he)|makeInterface t x=>(rw[ho]at he get;simp only[Op.operands]at he get⊢;rw[get x (by simp)];exact he)|makeFunc k xs ys=>(rw[ho]at he vN;simp only[Op.operands]at he vN⊢;rw[vN xs.toList (fun x hx=>by simp;exact .inl (by simpa using hx)),vN ys.toList (fun x hx=>by simp;exact .inr (by simpa using hx))];exact he)|makeSlice t x y=>(rw[ho]at he get;simp only[Op.operands]at he get⊢;rw[get x (by simp),get y (by simp)];exact aae he hh)|slice t x lo hi mx=>(rw[ho]at he get;simp only[Op.operands]at he get⊢;split at he;·{cases he};·rename_i hm;rw[if_neg hm,get x (by simp)];have e1:(lo.map fun y=>eo (un true (S'.get C y)))=lo.map fun y=>eo (un true (S.get C y)):=by{cases lo with|none=>(rfl)|some y=>simp only[Option.map_some];rw[get y (by simp)]};have e2:(hi.map fun y=>eo (un true (S'.get C y)))=hi.map fun y=>eo (un true (S.get C y)):=by{cases hi with|none=>(rfl)|some y=>simp only[Option.map_some];rw[get y (by simp)]};rw[e1,e2];exact aag he hh)|fieldAddr s x i=>(rw[ho]at he get;simp only[Op.operands]at he get⊢;rw[get x (by simp)];exact he)|field s x i=>(rw[ho]at he get;simp only[Op.operands]at he get⊢;rw[get x (by simp)];exact he)|indexAddr t x y=>(rw[ho]at he get;simp only[Op.operands]at he get⊢;rw[get x (by simp),get y (by simp)];exact Z9 he hh)|index t x y=>(rw[ho]at he get;simp only[Op.operands]at he get⊢;rw[get x (by simp),get y (by simp)];exact he)|extract x i=>(rw[ho]at he get;simp only[Op.operands]at he get⊢;rw[get x (by simp)];exact he)|makeMap t r=>(rw[ho]at he;exact aaf he hh)|lookup t x y ok=>(rw[ho]at he get;simp only[Op.operands]at he get⊢;rw[get x (by simp),get y (by simp)];exact aad he hh)|mapUpdate t x y z=>(rw[ho]at he get;simp only[Op.operands]at he get⊢;rw[get x (by simp),get y (by simp),get z (by simp)];exact Pg he hh)|insert t x y z=>(rw[ho]at he get;simp only[Op.operands]at he get⊢;rw[get x (by simp),get y (by simp),get z (by simp)];exact Pg he hh)|call c=>(rw[ho]at he get vN;simp only[Op.operands]at he get vN⊢;have hargs:=vN c.args.toList (fun x hx=>by simp only[Call.operands];simp;exact .inr (by simpa using hx));cases hc:c.callee with|builtin b=>(rw[hc]at he;cases b with|len=>(simp only at he⊢;rw[hargs];exact he)|append=>(simp only[GT]at he⊢;rw[hargs];obtain⟨e1,h1,h2⟩:=he;exact⟨e1,Z1 h1 (aam h2 hh),h2⟩)|copy=>(simp only at he⊢;rw[hargs];exact Z8 he hh)|max=>(simp only at he⊢;rw[hargs];exact he)|min=>(simp only at he⊢;rw[hargs];exact he)|_=>cases he)|value cQ=>(rw[hc]at he;simp only at he⊢;rw[get cQ (by simp[Call.operands,hc])];split at he;·{rename_i x hx;rw[hargs];exact Z6 he hh};rename_i hx;split at he;·{rename_i p hp;rw[hargs];exact aaa he hh};·rename_i hp;split at he;·{rename_i htk;rw[if_pos htk];cases cQ with|func k=>(simp only at he⊢;rw[hargs];exact Z7 he hh)|_=>cases he};·rename_i htk;rw[if_neg htk,hargs];exact Z5 he hh)|invoke r n=>rw[hc]at he;cases he)|_=>rw[ho]at he;cases he
end
end Go.Ab
