import Derived.Test.YtbbhbdlljfffdaaGreatDoorAbReg2
open List renaming mem_cons_self→GT,mem_cons_of_mem→Hc,mem_append_left→Hk,mem_cons→H0,not_mem_nil→H1,append_nil→H2,map_congr_left→H3
open Option renaming map_eq_some_iff→Ha,bind_eq_some_iff→Hb,map_some→Hm,bind_some→Hn
open Option.some renaming injEq→GE
open Prod.mk renaming injEq→Hd
set_option linter.all false
namespace Go.Ab
open Go
variable{L L':Id→Option (Option Rows)}
theorem xM:∀{l:List (Id×Option Rows)},(∀x∈l,L' x.1=L x.1)→fresh L' l=fresh L l|[],_=>rfl|x::l,h=>by have ih:=xM fun y hy=>h y (Hc _ hy);unfold fresh at ih⊢;simp only[List.all_cons,ih,h x (GT ..)]
theorem Cl{x:U}{r:Rows×List Id}(h:rowsOf L x=some r)(hh:∀id∈r.2,L' id=L id):rowsOf L' x=some r:=by
 cases x<;>simp only[rowsOf]at h⊢<;>try exact h
 rename_i id off len
 split at h
 ·rename_i rs hid
  split at h
  ·rename_i hc
   simp only[GE]at h;subst h
   rw[hh id (by simp),hid]
   simp only[hc,if_true]
  ·cases h
 ·cases h
def nJ(p p':(U→Option (U×List Id)))(L L':Id→Option (Option Rows)):Prop:=∀a x,p a=some x→(∀id∈x.2,L' id=L id)→p' a=some x
theorem xI{p p':U→Option (U×List Id)}(hp:nJ p p' L L'):∀{cs:List U}{x},dm p cs=some x→(∀id∈x.2,L' id=L id)→dm p' cs=some x|[],x,h,_=>h|c::cs,x,h,hh=>by simp only[dm,Hb,Ha]at h⊢;obtain⟨y,hy,z,hz,rfl⟩:=h;exact⟨y,hp _ _ hy fun id hid=>hh id (List.mem_append.2 (.inl hid)),z,xI hp hz fun id hid=>hh id (List.mem_append.2 (.inr hid)),rfl⟩
theorem r0{p p':U→Option (U×List Id)}(hp:nJ p p' L L'){cs:List U}{x}(h:fq p cs=some x)(hh:∀id∈x.2,L' id=L id):fq p' cs=some x:=by unfold fq at h⊢;split at h;·{rename_i hc;simpa[hc]using h};·rename_i hc;simp only[hc];exact xI hp h hh
theorem JV{p p':U→Option (U×List Id)}(hp:nJ p p' L L'):∀{rs:Rows}{x},dU (fq p) rs=some x→(∀id∈x.2,L' id=L id)→dU (fq p') rs=some x|[],x,h,_=>h|c::cs,x,h,hh=>by simp only[dU,Hb,Ha]at h⊢;obtain⟨y,hy,z,hz,rfl⟩:=h;exact⟨y,r0 hp hy fun id hid=>hh id (List.mem_append.2 (.inl hid)),z,JV hp hz fun id hid=>hh id (List.mem_append.2 (.inr hid)),rfl⟩
theorem IB{p p':U→Option (U×List Id)}(hp:nJ p p' L L'){rs:Rows}{x}(h:lR p rs=some x)(hh:∀id∈x.2,L' id=L id):lR p' rs=some x:=by unfold lR at h⊢;split at h;·{rename_i hc;simpa[hc]using h};·rename_i hc;simp only[hc];exact JV hp h hh
theorem Dl:∀n,nJ (bK L n) (bK L' n) L L'|0=>fun a x h=>by{simp[bK]at h}|n+1=>fun a x h hh=>by have ih:=Dl n;cases a with|rs id off len=>(simp only[bK]at h⊢;split at h;·{rename_i rs hid;split at h;·{rename_i hc;simp only[Ha]at h;obtain⟨y,hy,rfl⟩:=h;rw[hh id (GT ..),hid];simp only[hc,if_true,IB ih hy fun id hid=>hh id (Hc _ hid),Hm]};·cases h};·cases h)|mp id row off=>(simp only[bK]at h⊢;split at h;·{rename_i rs hid;split at h;·{rename_i r hrow;split at h;·{rename_i hoff;simp only[Ha]at h;obtain⟨y,hy,rfl⟩:=h;rw[hh id (GT ..),hid];simp only[hrow,hoff,if_true,r0 ih hy fun id hid=>hh id (Hc _ hid),Hm]};·cases h};·cases h};·cases h)|agg cs=>(simp only[bK,Ha]at h⊢;obtain⟨y,hy,rfl⟩:=h;exact⟨y,r0 ih hy hh,rfl⟩)|aG cs=>(simp only[bK,Ha]at h⊢;obtain⟨y,hy,rfl⟩:=h;exact⟨y,r0 ih hy hh,rfl⟩)|fn k a b=>(simp only[bK,Ha,Hb]at h⊢;obtain⟨y,hy,z,hz,rfl⟩:=h;exact⟨y,r0 ih hy fun id hid=>hh id (List.mem_append.2 (.inl hid)),z,r0 ih hz fun id hid=>hh id (List.mem_append.2 (.inr hid)),rfl⟩)|own rs=>(simp only[bK,Ha]at h⊢;obtain⟨y,hy,rfl⟩:=h;exact⟨y,IB ih hy hh,rfl⟩)|b7 cs=>(simp only[bK,Ha]at h⊢;obtain⟨y,hy,rfl⟩:=h;exact⟨y,r0 ih hy hh,rfl⟩)|bU=>(simpa only[bK]using h)|cv g y=>(simpa only[bK]using h)|val u=>(simpa only[bK]using h)|nn=>(simpa only[bK]using h)|mr id=>(simp only[bK]at h⊢;split at h;·{rename_i rs hid;simp only[GE]at h;subst h;rw[hh id (GT ..),hid]};·cases h)|dy rs=>(simpa only[bK]using h)|im rs=>(simpa only[bK]using h)|sl rows=>(simpa only[bK]using h)|ay cells=>(simpa only[bK]using h)|bf i rs=>(simpa only[bK]using h)|vM u=>(simpa only[bK]using h)|aK=>simpa only[bK]using h
theorem B7{p p':U→Option (U×List Id)}(hp:nJ p p' L L'){cs:List U}{x}(h:gm p cs=some x)(hh:∀id∈x.2,L' id=L id):gm p' cs=some x:=by unfold gm at h⊢;split at h;·{rename_i hc;simpa[hc]using h};·rename_i hc;simp only[hc];exact xI hp h hh
theorem Ms{p p':U→Option (U×List Id)}(hp:nJ p p' L L'):∀{rs:Rows}{x},dU (gm p) rs=some x→(∀id∈x.2,L' id=L id)→dU (gm p') rs=some x|[],x,h,_=>h|c::cs,x,h,hh=>by simp only[dU,Hb,Ha]at h⊢;obtain⟨y,hy,z,hz,rfl⟩:=h;exact⟨y,B7 hp hy fun id hid=>hh id (List.mem_append.2 (.inl hid)),z,Ms hp hz fun id hid=>hh id (List.mem_append.2 (.inr hid)),rfl⟩
theorem Mu{p p':U→Option (U×List Id)}(hp:nJ p p' L L'){rs:Rows}{x}(h:mA p rs=some x)(hh:∀id∈x.2,L' id=L id):mA p' rs=some x:=by unfold mA at h⊢;split at h;·{rename_i hc;simpa[hc]using h};·rename_i hc;simp only[hc];exact Ms hp h hh
theorem tC:∀n,nJ (pk L n) (pk L' n) L L'|0=>fun a x h=>by{simp[pk]at h}|n+1=>fun a x h hh=>by have ih:=tC n;cases a with|rs id off len=>(simp only[pk]at h⊢;split at h;·{rename_i rs hid;split at h;·{rename_i hc;simp only[Ha]at h;obtain⟨y,hy,rfl⟩:=h;rw[hh id (GT ..),hid];simp only[hc];rw[Mu ih (by simpa using hy) fun id hid=>hh id (Hc _ hid)];rfl};·cases h};·cases h)|mp id row off=>(simp only[pk]at h⊢;split at h;·{rename_i cs hid;split at h;·{rename_i hc;simp only[Ha]at h;obtain⟨y,hy,rfl⟩:=h;rw[hh id (GT ..),hid];simp only[hc];rw[B7 ih hy fun id hid=>hh id (Hc _ hid)];rfl};·cases h};·cases h)|agg cs=>(simp only[pk,Ha]at h⊢;obtain⟨y,hy,rfl⟩:=h;exact⟨y,B7 ih hy hh,rfl⟩)|aG cs=>(simp only[pk,Ha]at h⊢;obtain⟨y,hy,rfl⟩:=h;exact⟨y,B7 ih hy hh,rfl⟩)|fn k a b=>(simpa only[pk]using h)|own rs=>(simpa only[pk]using h)|b7 cs=>(simpa only[pk]using h)|bU=>(simpa only[pk]using h)|cv g y=>(simpa only[pk]using h)|val u=>(simpa only[pk]using h)|nn=>(simpa only[pk]using h)|mr id=>(simp only[pk]at h⊢;split at h;·{rename_i rs hid;simp only[GE]at h;subst h;rw[hh id (GT ..),hid]};·cases h)|dy rs=>(simpa only[pk]using h)|im rs=>(simpa only[pk]using h)|sl rows=>(simpa only[pk]using h)|ay cells=>(simpa only[pk]using h)|bf i rs=>(simpa only[pk]using h)|vM u=>(simpa only[pk]using h)|aK=>simpa only[pk]using h
theorem MG(o:Oper)(v:U)(rd:List Id)(wr:List (Id×Option Rows)):(put o v rd wr).rd=rd:=rfl
theorem Gq(o:Oper)(v:U)(rd:List Id)(wr:List (Id×Option Rows)):(put o v rd wr).wr=wr:=rfl
section
variable{C:av}{f:FuncId}{call:FuncId→List U→Option (U×List U)}{S S':ah}{o:Oper}{e:aJ}
def Agree(S S':ah)(e:aJ):Prop:=∀id,(id∈e.rd∨∃x∈e.wr,x.1=id)→S'.h id=S.h id
theorem Ur{t:TypeId}(he:oQ C f S o t=some e)(hh:Agree S S' e):oQ C f S' o t=some e:=by
 unfold oQ at he⊢
 split at he
 ·rename_i cs d h1 h2
  split at he
  ·simp only[GE]at he;subst he
   rename_i hf
   try rw[h1,h2]
   simp only[hh [d] (.inr ⟨_,GT ..,rfl⟩),hf,if_true]
  ·cases he
 ·cases he
theorem Ut{t:TypeId}{x:U}(he:mV C f S o t x=some e)(hh:Agree S S' e):mV C f S' o t x=some e:=by unfold mV at he⊢;split at he;·{rename_i b d h1 h2;split at he;·{rename_i cs hcs;split at he;·{rename_i hz;rw[AC hz];exact he};·rename_i hz;rw[Do hz];split at he;·{rename_i hf;simp only[GE]at he;subst he;rw[hh [d] (.inr ⟨_,GT ..,rfl⟩),AC hf]};·cases he};·cases he};·cases he
theorem Uv{t:TypeId}{n:Nat}{ps:List (Nat×U)}(he:oR C f S o t n ps=some e)(hh:Agree S S' e):oR C f S' o t n ps=some e:=by
 unfold oR at he⊢
 split at he
 ·rename_i el d h1 h2
  split at he
  ·rename_i z b k hz hb hk
   split at he
   ·rename_i hc
    try rw[AC hc]
    split at he
    ·rename_i rows hr
     try rw[hr]
     split at he
     ·rename_i hfz
      rw[AC hfz];exact he
     ·rename_i hfz
      rw[Do hfz]
      split at he
      ·rename_i hf
       simp only[GE]at he;subst he
       rw[hh [d] (.inr ⟨_,GT ..,rfl⟩),AC hf]
      ·cases he
    ·cases he
   ·cases he
  ·cases he
 ·cases he
theorem Uu{t:TypeId}{n:Nat}{ps:List (Nat×U)}(he:mW C f S o t n ps=some e)(hh:Agree S S' e):mW C f S' o t n ps=some e:=by unfold mW at he⊢;split at he;·{rename_i hc;rw[AC hc];unfold xz at he⊢;split at he;·{rename_i rows d h1 h2;split at he;·{rename_i aL ids hp;split at he;·{rename_i hn;simp only[GE]at he;subst he;have:mA (pk S'.h 8) rows=some (aL,ids):=Mu (tC 8) hp fun id hid=>hh id (.inl hid);simp only[h1,h2,this,hn,if_true]};·cases he};·cases he};·cases he};·rename_i hc;rw[Do hc];exact Uv he hh
theorem UF{t:TypeId}{x y:U}(he:oT C S o t x y=some e)(hh:Agree S S' e):oT C S' o t x y=some e:=by
 unfold oT at he⊢
 split at he
 ·rename_i el d l c h1 h2 h3 h4
  split at he
  ·rename_i z i hz hi
   split at he
   ·rename_i hc
    simp only[GE]at he;subst he
    try rw[h1,h2,h3,h4]
    try simp only[hz,hi]
    rw[hh [d] (.inr ⟨_,GT ..,rfl⟩),AC hc]
   ·cases he
  ·cases he
 ·cases he
theorem UG{t:TypeId}{r:Option Operand}(he:sr C S o t r=some e)(hh:Agree S S' e):sr C S' o t r=some e:=by
 unfold sr at he⊢
 split at he
 ·rename_i d h1 h2
  split at he
  ·rename_i hc
   simp only[GE]at he;subst he
   try rw[h1,h2]
   try simp only
   rw[hh [d] (.inr ⟨_,GT ..,rfl⟩),AC hc]
  ·cases he
 ·cases he
theorem UE{t:TypeId}{x k:U}{ok:Bool}(he:so C S o t x k ok=some e)(hh:Agree S S' e):so C S' o t x k ok=some e:=by unfold so at he⊢;split at he;·{rename_i kind z rows ids kv h1 h2;obtain⟨r,hf,rfl⟩:=Option.map_eq_some_iff.1 he;have e2:yZ S'.h x=some (rows,ids):=by{unfold yZ at h2⊢;split at h2;·{rename_i id;split at h2;·{rename_i aL hid;simp only[Option.some.injEq,Prod.mk.injEq]at h2;obtain⟨rfl,rfl⟩:=h2;rw[hh id (.inl (by rw[MG];exact List.mem_cons_self ..)),hid]};·cases h2};·{exact h2};·{exact h2};·cases h2};rw[h1,e2];simp only[hf,Option.map_some]};·cases he
theorem J2{t:TypeId}{x k v:U}(he:oU C S o t x k v=some e)(hh:Agree S S' e):oU C S' o t x k v=some e:=by
 unfold oU at he⊢
 split at he
 ·rename_i kind z id kv kS h1
  split at he
  ·rename_i rows hid
   split at he
   ·rename_i hc
    obtain⟨aL,hp,rfl⟩:=Option.map_eq_some_iff.1 he
    try rw[h1]
    try simp only
    rw[hh id (.inl (by rw[MG];exact GT ..)),hid]
    simp only[AC hc,hp,Hm]
   ·cases he
  ·cases he
 ·cases he
theorem UH{t:TypeId}{x:U}{lo hi:Option (Option Int)}(he:mX C S o t x lo hi=some e)(hh:Agree S S' e):mX C S' o t x lo hi=some e:=by
 unfold mX at he⊢
 split at he
 ·rename_i el hu
  try rw[hu]
  try simp only
  split at he
  ·exact he
  ·rename_i id off len sz hs
   try rw[hs]
   try simp only
   split at he
   ·rename_i rows hid
    have hrd:id∈e.rd:=by
     simp only[Hb]at he
     obtain⟨b,_,he⟩:=he
     split at he
     ·simp only[GE]at he;subst he;simp[put]
     ·cases he
    rw[hh id (.inl hrd),hid]
    exact he
   ·cases he
  ·cases he
 ·rename_i hu;try rw[hu]
  exact he
 ·cases he
theorem UA{t:TypeId}{x:U}{i:Option Int}(he:k6 C S o t x i=some e)(hh:Agree S S' e):k6 C S' o t x i=some e:=by
 unfold k6 at he⊢
 split at he
 ·rename_i el i' hu
  try rw[hu]
  try simp only
  split at he
  ·rename_i hs;try rw[hs]
   exact he
  ·rename_i n id off len hs
   try rw[hs]
   try simp only
   split at he
   ·rename_i hc
    rw[AC hc]
    split at he
    ·rename_i rows hid
     have hrd:id∈e.rd:=by
      simp only[Hb]at he
      obtain⟨b,_,he⟩:=he
      split at he
      ·simp only[GE]at he;subst he;simp[put]
      ·cases he
     rw[hh id (.inl hrd),hid]
     exact he
    ·cases he
   ·cases he
  ·cases he
 ·rename_i hu;try rw[hu]
  exact he
 ·cases he
theorem UC{t:TypeId}{x:U}(he:jU C S o t x=some e)(hh:Agree S S' e):jU C S' o t x=some e:=by
 unfold jU at he⊢
 split at he
 ·rename_i b n h1 h2
  try rw[h1,h2]
  try simp only
  split at he
  ·exact he
  ·rename_i id row off
   split at he
   ·rename_i rows hid
    obtain⟨r,hr,he⟩:=Option.bind_eq_some_iff.1 he
    split at he
    ·rename_i hc
     split at he
     ·rename_i hem
      have hrd:id∈e.rd:=by
       obtain⟨v,_,he⟩:=Option.map_eq_some_iff.1 he
       subst he;simp[put]
      rw[hh id (.inl hrd),hid]
      simp only[hr,Hn,hc,if_true,hem]
      exact he
     ·rename_i hem
      split at he
      ·rename_i hf
       have Wm:=he
       obtain⟨v,_,he⟩:=Option.map_eq_some_iff.1 he
       have hrd:id∈e.rd:=by subst he;simp[put]
       have hwr:∀x∈(bl (gv o) 0 ((r.drop off).take n)).2,S'.h x.1=S.h x.1:=fun x hx=>hh x.1 (.inr ⟨x,by subst he;simp[put,hx],rfl⟩)
       rw[hh id (.inl hrd),hid]
       simp only[hr,Hn,hc,if_true,hem,xM hwr,hf]
       exact Wm
      ·cases he
    ·cases he
   ·cases he
  ·cases he
 ·cases he
theorem UI{t:TypeId}{ao:Operand}{x y:U}(he:k7 C f S true o t ao x y=some e)(hh:Agree S S' e):k7 C f S' true o t ao x y=some e:=by
 unfold k7 at he⊢
 split at he
 ·rename_i b n h1 h2
  try rw[h1,h2]
  try simp only
  split at he
  ·rename_i id row off cs hcs
   try rw[hcs]
   try simp only
   split at he
   ·cases he
   ·rename_i hl
    rw[Do hl]
    split at he
    ·rename_i rows hid
     have hrd:id∈e.rd:=by
      obtain⟨r,hr,he⟩:=Option.bind_eq_some_iff.1 he
      split at he
      ·split at he
       ·split at he
        ·simp only[GE]at he;subst he;simp
        ·cases he
       ·split at he
        ·simp only[GE]at he;subst he;simp[put]
        ·cases he
      ·cases he
     rw[hh id (.inl hrd),hid]
     exact he
    ·cases he
  ·cases he
 ·cases he
theorem UM{e1:aJ}(h:oY C f o e1=some e)(hh:Agree S S' e):Agree S S' e1:=by unfold oY at h;split at h;·{split at h;·{rename_i hw;split at h;·{rename_i hc;obtain⟨rfl,_⟩:=hc;simp only[GE]at h;subst h;intro id hid;refine hh id (hid.imp (fun h=>h) fun⟨x,hx,e⟩=> ?_);rw[hw]at hx;simp only[H0,H1,or_false]at hx;rcases hx with rfl|rfl;·{exact⟨_,GT ..,e⟩};·exact⟨_,Hc _ (GT ..),e⟩};·cases h};·{rename_i hw;split at h;·{rename_i hc;obtain⟨rfl,_⟩:=hc;simp only[GE]at h;subst h;intro id hid;refine hh id (hid.imp (fun h=>h) fun⟨x,hx,e⟩=> ?_);rw[hw]at hx;simp only[H0,H1,or_false]at hx;obtain rfl:=hx;exact⟨_,GT ..,e⟩};·cases h};·cases h};·simp only[GE]at h;subst h;exact hh
theorem Us{ts:Array TypeId}{xs:List U}(he:kB C S o ts xs=some e)(hh:Agree S S' e):kB C S' o ts xs=some e:=by
 unfold kB at he⊢
 split at he
 ·rename_i x y t el h1 h2
  try rw[h1,h2]
  try simp only
  unfold ur at he⊢
  split at he
  ·rename_i TB d hu hd
   try rw[hu,hd]
   try simp only
   split at he
   ·rename_i i adt i1 aid i2 hi hx hy
    split at he
    ·rename_i hc
     unfold k3 at he
     have facts:(∀id∈i1++i2,id∈e.rd)∧(∃r,([d],r)∈e.wr):=by
      split at he
      ·split at he
       ·split at he
        ·simp only[GE]at he;subst he
         exact⟨fun id h=>h,_,Hc _ (GT ..)⟩
        ·cases he
       ·cases he
      ·simp only[GE]at he;subst he
       exact⟨fun id h=>h,_,GT ..⟩
      ·cases he
     obtain⟨hrd,r,hwr⟩:=facts
     have ex:=Cl (L':=S'.h) hx fun id hid=>hh id (.inl (hrd id (List.mem_append.2 (.inl hid))))
     have A3:=Cl (L':=S'.h) hy fun id hid=>hh id (.inl (hrd id (List.mem_append.2 (.inr hid))))
     try rw[hi,ex,A3]
     try simp only
     rw[hh [d] (.inr ⟨_,hwr,rfl⟩),AC hc]
     unfold k3
     split at he
     ·rename_i id off len
      have hid:id∈i1:=by
       simp only[rowsOf]at hx
       split at hx
       ·split at hx
        ·simp only[GE,Hd]at hx
         rw[←hx.2];simp
        ·cases hx
       ·cases hx
      try simp only
      rw[hh id (.inl (hrd id (List.mem_append.2 (.inl hid))))]
      exact he
     ·exact he
     ·cases he
    ·cases he
   ·cases he
  ·cases he
 ·rename_i x y t k h1 h2
  try rw[h1,h2]
  try simp only
  unfold uu at he⊢
  split at he
  ·rename_i TB d nn hu hd EP
   try rw[hu,hd,EP]
   try simp only
   split at he
   ·rename_i i z adt i1 hi hz hx
    split at he
    ·rename_i hc
     unfold k3 at he
     have facts:(∀id∈i1,id∈e.rd)∧(∃r,([d],r)∈e.wr):=by
      split at he
      ·split at he
       ·split at he
        ·simp only[GE]at he;subst he
         exact⟨fun id h=>by simp only[put,H2];exact h,_,Hc _ (GT ..)⟩
        ·cases he
       ·cases he
      ·simp only[GE]at he;subst he
       exact⟨fun id h=>by simp only[put,H2];exact h,_,GT ..⟩
      ·cases he
     obtain⟨hrd,r,hwr⟩:=facts
     have ex:=Cl (L':=S'.h) hx fun id hid=>hh id (.inl (hrd id hid))
     try rw[hi,hz,ex]
     try simp only
     rw[hh [d] (.inr ⟨_,hwr,rfl⟩),AC hc]
     unfold k3
     split at he
     ·rename_i id off len
      have hid:id∈i1:=by
       simp only[rowsOf]at hx
       split at hx
       ·split at hx
        ·simp only[GE,Hd]at hx
         rw[←hx.2];simp
        ·cases hx
       ·cases hx
      try simp only
      rw[hh id (.inl (hrd id hid))]
      exact he
     ·exact he
     ·cases he
    ·cases he
   ·cases he
  ·cases he
 ·cases he
theorem UB{p:Nat×Nat}{xs:List U}(he:qp S o p xs=some e)(hh:Agree S S' e):qp S' o p xs=some e:=by unfold qp at he⊢;split at he;·{rename_i id row off;split at he;·{rename_i rows hid;split at he;·{rename_i fE off2 len hcell;split at he;·{rename_i dR sN;split at he;·{rename_i hc;simp only[GE]at he;subst he;have e1:S'.h id=S.h id:=hh id (.inl (by simp[put]));have e2:S'.h fE=S.h fE:=hh fE (.inl (by simp[put]));simp only[e1,hid,hcell,e2,sN,hc,if_true]};·cases he};·cases he};·cases he};·cases he};·{exact he};·cases he
theorem Uz{ts:Array TypeId}{xs:List U}(he:sn C S o ts xs=some e)(hh:Agree S S' e):sn C S' o ts xs=some e:=by unfold sn at he⊢;split at he;·{rename_i x y el h1;split at he;·{rename_i id off len ys i2 hsz yA;split at he;·{rename_i rows hid;split at he;·{rename_i hc;simp only[GE]at he;subst he;have e1:S'.h id=S.h id:=hh id (.inl (by simp[put]));have e2:rowsOf S'.h y=some (ys,i2):=Cl yA (fun i hi=>hh i (.inl (by simp[put];exact .inr hi)));simp only[hsz,e2,e1,hid,hc,if_true]};·cases he};·cases he};·cases he};·cases he
theorem UD{as:List U}(he:qS S o as=some e)(hh:Agree S S' e):qS S' o as=some e:=by unfold qS at he⊢;split at he;·{split at he;·{rename_i hc hid;split at he;·{rename_i h2 hk;split at he;·{rename_i hr;split at he;·{rename_i gJ;simp only[GE]at he;subst he;have e1:=hh _ (.inl (show _∈[_,_]from GT ..));have e2:=hh _ (.inl (show _∈[_,_]from Hc _ (GT ..)));simp only[hc,e1,hid,e2,h2,hk,hr,gJ,and_self,if_true]};·cases he};·cases he};·cases he};·cases he};·cases he
theorem Uw{fv:U}{args:List U}(he:mP C f call S o fv args=some e)(hh:Agree S S' e):mP C f call S' o fv args=some e:=by
 unfold mP at he⊢
 split at he
 ·rename_i k first caps
  try simp only
  by_cases hlk:C.look k=true
  ·rw[AC hlk]at he⊢
   exact UD he hh
  rw[Do hlk]at he⊢
  split at he
  ·rename_i as seen d Es aP
   split at he
   ·rename_i r bh
    generalize hr':(if dI C f o.dst=true then cI r else r)=r' at he
    split at he
    ·cases he
    ·rename_i hm
     split at he
     ·rename_i hf
      simp only[GE]at he;subst he
      have hb:nP S'.h (first++args++caps)=some (as,seen):=xI (Dl 9) Es fun id hid=>hh id (.inl hid)
      have hfr:fresh S'.h (imp [d] r').2=fresh S.h (imp [d] r').2:=xM fun x hx=>hh x.1 (.inr ⟨x,hx,rfl⟩)
      rw[hb,aP]
      simp only[bh]
      rw[←aP,hr',Do hm,hfr,AC hf]
     ·cases he
   ·cases he
  ·cases he
 ·cases he
theorem NF:∀{c5:List U}{ms:List Nat}{as:List U}{seen tk cJ:List Id},ie S.h ms c5=some (as,seen,tk,cJ)→(∀id∈seen,S'.h id=S.h id)→(∀id∈tk++cJ,S'.h id=S.h id)→ie S'.h ms c5=some (as,seen,tk,cJ)|[],ms,as,seen,tk,cJ,hx,_,_=>hx|c::cs,ms,as,seen,tk,cJ,hx,h1,h2=>by simp only[ie,Hb]at hx⊢;obtain⟨⟨ys,s1,t1,bO⟩,hy,hx⟩:=hx;refine⟨(ys,s1,t1,bO), ?_, ?_⟩;·{split at hx<;>·obtain⟨x,hpk,hx⟩:=Option.map_eq_some_iff.1 hx;simp only[Hd]at hx;obtain⟨rfl,rfl,rfl,rfl⟩:=hx;exact NF hy (fun id hid=>h1 id (by simp[hid])) (fun id hid=>h2 id (by rcases List.mem_append.1 hid with h|h<;>simp[h]))};·split at hx;·{rename_i hm;obtain⟨x,hpk,hx⟩:=Option.map_eq_some_iff.1 hx;simp only[Hd]at hx;obtain⟨rfl,rfl,rfl,rfl⟩:=hx;simp only[hm];rw[tC 9 _ _ hpk fun id hid=>h2 id (by simp[hid])];rfl};·{rename_i hm;obtain⟨x,hpk,hx⟩:=Option.map_eq_some_iff.1 hx;simp only[Hd]at hx;obtain⟨rfl,rfl,rfl,rfl⟩:=hx;simp only[hm];rw[tC 9 _ _ hpk fun id hid=>h2 id (by simp[hid])];rfl};·rename_i ya hm2;obtain⟨x,hpk,hx⟩:=Option.map_eq_some_iff.1 hx;simp only[Hd]at hx;obtain⟨rfl,rfl,rfl,rfl⟩:=hx;rw[Dl 9 _ _ hpk fun id hid=>h1 id (by simp[hid])];rfl
theorem MQ{a b:U}{l:List (Id×Option Rows)}(h:iG S.h a b=some l)(hh:∀x∈l,S'.h x.1=S.h x.1):iG S'.h a b=some l:=by unfold iG at h;split at h;·{rename_i id cs;split at h;·{rename_i old hid;split at h;·{rename_i hc;simp only[GE]at h;subst h;have:=hh _ (GT ..);simp only[iG,this,hid,hc,if_true]};·cases h};·cases h};·{rename_i id n rows;split at h;·{rename_i o1 os hid;split at h;·{rename_i hc;simp only[GE]at h;subst h;have:=hh _ (GT ..);simp only[iG,this,hid];rw[AC hc]};·cases h};·{rename_i hid;split at h;·{rename_i hc;simp only[GE]at h;subst h;have:=hh _ (GT ..);simp only[iG,this,hid];rw[AC hc]};·cases h};·cases h};·{rename_i id rows;split at h;·{rename_i rm hid;simp only[GE]at h;subst h;have:=hh _ (GT ..);simp only[iG,this,hid]};·cases h};·{cases h};·{cases h};·{cases h};·{cases h};·rename_i g1 g2 g3 g4 _ _ _;simp only[GE]at h;subst h;unfold iG;split<;>first|rfl|exact(g1 _ _ _ rfl).elim|exact(g2 _ _ _ rfl).elim|exact(g3 _ rfl).elim|exact(g4 _ rfl).elim
theorem MT:∀{as bs:List U}{l:List (Id×Option Rows)},gS S.h as bs=some l→(∀x∈l,S'.h x.1=S.h x.1)→gS S'.h as bs=some l|[],[],l,h,_=>h|[],_::_,l,h,_=>by{simp[gS]at h}|_::_,[],l,h,_=>by{simp[gS]at h}|a::as,b::bs,l,h,hh=>by simp only[gS]at h⊢;split at h;·{rename_i x y h1 h2;simp only[GE]at h;subst h;rw[MQ h1 fun x hx=>hh x (List.mem_append.2 (.inl hx)),MT h2 fun x hx=>hh x (List.mem_append.2 (.inr hx))]};·cases h
theorem abu{a b:U}{l:List (Id×Option Rows)}(h:pR S.h a b=some l)(hh:∀x∈l,S'.h x.1=S.h x.1):pR S'.h a b=some l:=by unfold pR at h⊢;split at h;·{exact MT h hh};·exact MQ h hh
theorem MW{args:List U}:∀{bR:List Nat}{outs:List U}{l:List (Id×Option Rows)},fJ S.h args bR outs=some l→(∀x∈l,S'.h x.1=S.h x.1)→fJ S'.h args bR outs=some l|[],[],l,h,_=>h|[],_::_,l,h,_=>by{simp[fJ]at h}|_::_,[],l,h,_=>by{simp[fJ]at h}|j::bR,b::outs,l,h,hh=>by simp only[fJ]at h⊢;split at h;·{rename_i a y h1 h2;split at h;·{rename_i x h3;simp only[GE]at h;subst h;rw[h1,MW h2 fun x hx=>hh x (List.mem_append.2 (.inr hx))];simp only[abu h3 fun x hx=>hh x (List.mem_append.2 (.inl hx))]};·cases h};·cases h
theorem Uy{k:FuncId}{args:List U}(he:nQ C f call S o k args=some e)(hh:Agree S S' e):nQ C f call S' o k args=some e:=by unfold nQ at he⊢;split at he;·{rename_i as seen tk cJ d htk aP;split at he;·{rename_i r outs bh;generalize hr':(if dI C f o.dst=true then cI r else r)=r' at he;split at he;·{rename_i back iw;split at he;·{rename_i Bk;simp only[GE]at he;subst he;have hw:∀x,(x∈(imp [d] r').2∨x∈back∨x∈(tk++cJ).map fun i=>((i,none):Id×Option Rows))→S'.h x.1=S.h x.1:=fun x hx=>hh x.1 (.inr ⟨x,by rw[Gq];rcases hx with hx|hx|hx;·{exact List.mem_append.2 (.inl hx)};·{exact List.mem_append.2 (.inr (List.mem_append.2 (.inl hx)))};·exact List.mem_append.2 (.inr (List.mem_append.2 (.inr hx))),rfl⟩);have e1:ie S'.h (C.vC k) args=some (as,seen,tk,cJ):=NF htk (fun id hid=>hh id (.inl hid)) fun id hid=>hw (id,none) (.inr (.inr (List.mem_map.2 ⟨id,hid,rfl⟩)));have e2:fJ S'.h args (C.bR k) outs=some back:=MW iw fun x hx=>hw x (.inr (.inl hx));have hfr:fresh S'.h (imp [d] r').2=fresh S.h (imp [d] r').2:=xM fun x hx=>hw x (.inl hx);rw[e1];simp only[aP];simp only[aP]at hr';simp only[bh,hr',e2,hfr,AC Bk]};·cases he};·cases he};·cases he};·cases he
end
end Go.Ab
namespace Go.Ab
open Go
variable{L L':Id→Option (Option Rows)}
section
variable{C:av}{f:FuncId}{call:FuncId→List U→Option (U×List U)}{S S':ah}{o:Oper}{e:aJ}
def tmpsOf(o:Oper):List Nat:=o.op.operands.toList.filterMap fun| .tmp t=>some t|_=>none
theorem Sy{keep:Id→Bool}:nJ (e5 L keep) (e5 L' keep) L L':=fun a x h hh=>by cases a with|rs i off len=>(simp only[e5]at h⊢;split at h;·{rename_i hk;rw[AC hk];exact h};·rename_i hk;rw[Do hk];exact tC 8 _ _ h hh)|mp i off len=>(simp only[e5]at h⊢;split at h;·{rename_i hk;rw[AC hk];exact h};·rename_i hk;rw[Do hk];exact tC 8 _ _ h hh)|mr i=>(simp only[e5]at h⊢;split at h;·{rename_i hk;rw[AC hk];exact h};·rename_i hk;rw[Do hk];exact tC 8 _ _ h hh)|_=>exact h
theorem JX{q q':List U→Option (List U×List Id)}(hq:∀r x,q r=some x→(∀id∈x.2,L' id=L id)→q' r=some x):∀{rs:Rows}{x},dU q rs=some x→(∀id∈x.2,L' id=L id)→dU q' rs=some x|[],x,h,_=>h|c::cs,x,h,hh=>by simp only[dU,Hb,Ha]at h⊢;obtain⟨y,hy,z,hz,rfl⟩:=h;exact⟨y,hq _ _ hy fun id hid=>hh id (List.mem_append.2 (.inl hid)),z,JX hq hz fun id hid=>hh id (List.mem_append.2 (.inr hid)),rfl⟩
theorem SC{keep:Id→Bool}(r:List U)(x)(hy:jc L keep r=some x)(hh:∀id∈x.2,L' id=L id):jc L' keep r=some x:=by unfold jc at hy⊢;split at hy;·{rename_i hc;rw[AC hc];exact hy};·rename_i hc;rw[Do hc];exact xI Sy hy hh
theorem SA{keep:Id→Bool}{rs:Rows}{x}(h:dU (jc L keep) rs=some x)(hh:∀id∈x.2,L' id=L id):dU (jc L' keep) rs=some x:=JX SC h hh
theorem L4{l:List (Id×Id)}:∀{r:List (Id×Id)}{x},fZ L l r=some x→(∀i∈r.map (·.1),L' i=L i)→(∀i∈x.2,L' i=L i)→fZ L' l r=some x|[],x,h,_,_=>h|(o,k)::r,x,h,h1,h2=>by simp only[fZ]at h⊢;rw[h1 o (by simp)];split at h;·{simp only[Hb,Ha]at h⊢;obtain⟨y,hy,aL,hr,z,hz,rfl⟩:=h;refine⟨y, ?_,aL,hr,z,L4 hz (fun i hi=>h1 i (by simp only[List.map_cons];exact Hc _ hi)) (fun i hi=>h2 i (List.mem_append.2 (.inr hi))),rfl⟩;unfold kA at hy⊢;split at hy;·{rename_i hc;rw[AC hc];exact hy};·rename_i hc;rw[Do hc];exact SA hy fun i hi=>h2 i (List.mem_append.2 (.inl hi))};·cases h
theorem uD:∀(n:Nat)(b:Bool)(p:Id)(j:Nat)(acc:List (Id×Id))(as:List U),∀x∈acc,x∈c6 L n b p j acc as|0,_,_,_,_,_,x,hx=>hx|_+1,_,_,_,_,[],x,hx=>hx|n+1,b,p,j,acc,a::as,x,hx=>by unfold c6;apply uD n b p (j+1);cases a with|rs i off len=>(dsimp only;split;exact hx;exact Hk _ hx)|mr i=>(dsimp only;split;exact hx;exact Hk _ hx)|mp i row off=>(dsimp only;split;·{exact hx};·split;·{exact uD n _ _ _ _ _ x (Hk _ hx)};·exact Hk _ hx)|agg cs=>(exact uD n _ _ _ _ _ x hx)|fn k xs cs=>(exact uD n _ _ _ _ _ x hx)|_=>exact hx
theorem SZ(n:Nat)(b:Bool)(p:Id)(j:Nat)(acc:List (Id×Id))(a:U)(as:List U):∃l:(Id→Option (Option Rows))→List (Id×Id),∀L,c6 L (n+1) b p j acc (a::as)=c6 L n b p (j+1) (l L) as∧l L=(match a with| .rs i _ _=>if !b||(eN acc i).isSome then acc else acc++[(i,j::p)]| .mr i=>if !b||(eN acc i).isSome then acc else acc++[(i,j::p)]| .mp i _ _=>if(eN acc i).isSome then acc else(match L i with|some (some [cs])=>c6 L n false (j::p) 0 (acc++[(i,j::p)]) cs|_=>acc++[(i,j::p)])| .agg cs=>c6 L n b (j::p) 0 acc cs| .fn _ as cs=>c6 L n true (j::p) 0 acc (as++cs)|_=>acc):=⟨_,fun L=>⟨by cases a<;>rw[c6]<;>first|rfl|(intros;contradiction)|(intros;rename_i h;cases h),rfl⟩⟩
theorem xk:∀(n:Nat)(b:Bool)(p:Id)(j:Nat)(acc:List (Id×Id))(as:List U),(∀i∈(c6 L n b p j acc as).map (·.1),L' i=L i)→c6 L' n b p j acc as=c6 L n b p j acc as|0,_,_,_,_,_,_=>rfl|_+1,_,_,_,_,[],_=>rfl|n+1,b,p,j,acc,a::as,h=>by obtain⟨l,hl⟩:=SZ n b p j acc a as;rw[(hl L).1]at h⊢;rw[(hl L').1];have sub:∀i∈(l L).map (·.1),L' i=L i:=fun i hi=>by{obtain⟨x,hx,rfl⟩:=List.mem_map.1 hi;exact h _ (List.mem_map.2 ⟨x,uD n b p (j+1) _ as x hx,rfl⟩)};have e:l L'=l L:=by{have h1:=(hl L).2;rw[h1]at sub;rw[(hl L').2,h1];clear h1 h hl l;cases a with|mp i row off=>(dsimp only at sub⊢;by_cases hs:(eN acc i).isSome=true;·{rw[AC hs,AC hs]};·rw[Do hs]at sub;rw[Do hs,Do hs];have hi:L' i=L i:=by{refine sub i ?_;split;·{exact List.mem_map.2 ⟨(i,j::p),uD n _ _ _ _ _ _ (List.mem_append_right _ (List.mem_singleton.2 rfl)),rfl⟩};·exact List.mem_map.2 ⟨(i,j::p),List.mem_append_right _ (List.mem_singleton.2 rfl),rfl⟩};rw[hi];split;·{rename_i cs hcs;rw[hcs]at sub;exact xk n false (j::p) 0 _ cs sub};·rfl)|agg cs=>(exact xk n b (j::p) 0 _ cs sub)|fn k xs cs=>(exact xk n true (j::p) 0 _ (xs++cs) sub)|_=>rfl};rw[e];exact xk n b p (j+1) _ as h
theorem U9{k:FuncId}{args:List U}{x:tX}(h:nY call L k args=some x)(h1:∀i∈x.l.map (·.1),L' i=L i)(h2:∀i∈x.gone,L' i=L i):nY call L' k args=some x:=by have hl:x.l=c6 L 60 true [fY] 0 [] args:=by{unfold nY xO at h;split at h;·{split at h;·{split at h;·{obtain⟨back,_,rfl⟩:=Option.map_eq_some_iff.1 h;rfl};·cases h};·cases h};·cases h};obtain⟨obs,outs,ho,_⟩:=Ba h;unfold nY at h⊢;rw[xk 60 true [fY] 0 [] args (by rw[←hl];exact h1)];unfold xO at h⊢;rw[hl]at ho;rw[ho]at h;rw[L4 ho (by rw[←hl];exact h1) h2];exact h
theorem Ux{k:FuncId}{args:List U}(he:mQ C f call S o k args=some e)(hh:Agree S S' e):mQ C f call S' o k args=some e:=by unfold mQ at he⊢;simp only[Hb]at he⊢;obtain⟨x,hx,he⟩:=he;split at he;·{cases he};·rename_i hp;generalize pn:(if dI C f o.dst=true then(if flat x.r=true then cI x.r else .aK)else x.r)=rr at he;split at he;·{rename_i hf;simp only[GE]at he;subst he;have gx:gY S'.h x.back=gY S.h x.back:=by{obtain⟨_,_,_,_,hb,_⟩:=Ba hx;have hbk:=(rX hb).1;unfold gY;refine List.filter_congr fun b hb=> ?_;have:S'.h b.1=S.h b.1:=hh b.1 (.inl (by show b.1∈x.l.map (·.1);rw[←hbk];exact List.mem_map.2 ⟨b,hb,rfl⟩));unfold tI;rw[this]};refine⟨x,U9 hx (fun i hi=>hh i (.inl hi)) (fun i hi=>hh i (.inr ⟨(i,none), ?_,rfl⟩)), ?_⟩;·{simp only[Gq];exact List.mem_append_right _ (List.mem_append_right _ (List.mem_map.2 ⟨i,hi,rfl⟩))};·rw[Do hp];simp only[pn,gx];rw[xM (L':=S'.h) (L:=S.h) fun y hy=>hh y.1 (.inr ⟨y,by simp only[Gq];exact List.mem_append_left _ hy,rfl⟩),AC hf]};·cases he
theorem U4(hs:∀t∈tmpsOf o,S'.t t=S.t t){x:Operand}(hx:x∈o.op.operands.toList):S'.get C x=S.get C x:=by cases x with|tmp t=>(exact hs t (List.mem_filterMap.2 ⟨.tmp t,hx,rfl⟩))|_=>rfl
theorem TQ(he:aR C f call S true o=some e)(hs:∀t∈tmpsOf o,S'.t t=S.t t)(hh:Agree S S' e):aR C f call S' true o=some e:=by have get:∀x∈o.op.operands.toList,S'.get C x=S.get C x:=fun x hx=>U4 hs hx;have sA:∀xs:List Operand,(∀x∈xs,x∈o.op.operands.toList)→(xs.map fun x=>un true (S'.get C x))=xs.map fun x=>un true (S.get C x):=fun xs h=>H3 fun x hx=>by{rw[get x (h x hx)]};have uQ:∀xs:List (Nat×Operand),(∀x∈xs,x.2∈o.op.operands.toList)→(xs.map fun p=>(p.1,un true (S'.get C p.2)))=xs.map fun p=>(p.1,un true (S.get C p.2)):=fun xs h=>H3 fun x hx=>by{rw[get x.2 (h x hx)]};unfold aR at he⊢;cases ho:o.op with|move x=>(rw[ho]at he get;simp only[Op.operands]at he get⊢;rw[get x (by simp)];exact he)|assign x=>(rw[ho]at he get;simp only[Op.operands]at he get⊢;rw[get x (by simp)];exact he)|pick c x y=>(rw[ho]at he get;simp only[Op.operands]at he get⊢;rw[get c (by simp),get x (by simp),get y (by simp)];exact he)|alloc t=>(rw[ho]at he;exact Ur he hh)|box t x=>(rw[ho]at he get;simp only[Op.operands]at he get⊢;rw[get x (by simp)];exact Ut he hh)|build t ps=>(rw[ho]at he uQ;simp only[Op.operands]at he uQ⊢;rw[uQ ps.toList (fun x hx=>by simp;exact⟨x.1,by simpa using hx⟩)];exact he)|buildSlice t n ps=>(rw[ho]at he uQ;simp only[Op.operands]at he uQ⊢;rw[uQ ps.toList (fun x hx=>by simp;exact⟨x.1,by simpa using hx⟩)];exact Uu he hh)|load t x=>(rw[ho]at he get;simp only[Op.operands]at he get⊢;rw[get x (by simp)];exact UC he hh)|store t x y=>(rw[ho]at he get;simp only[Op.operands]at he get⊢;rw[get x (by simp),get y (by simp)];exact UI he hh)|nilCheck x=>(rw[ho]at he get;simp only[Op.operands]at he get⊢;rw[get x (by simp)];exact he)|binOp op t x y u=>(rw[ho]at he get;simp only[Op.operands]at he get⊢;rw[get x (by simp),get y (by simp)];exact he)|unOp op t x=>(rw[ho]at he get;simp only[Op.operands]at he get⊢;rw[get x (by simp)];exact he)|convert s t x=>(rw[ho]at he get;simp only[Op.operands]at he get⊢;rw[get x (by simp)];exact he)|makeInterface t x=>(rw[ho]at he get;simp only[Op.operands]at he get⊢;rw[get x (by simp)];exact he)|makeFunc k xs ys=>(rw[ho]at he sA;simp only[Op.operands]at he sA⊢;rw[sA xs.toList (fun x hx=>by simp;exact .inl (by simpa using hx)),sA ys.toList (fun x hx=>by simp;exact .inr (by simpa using hx))];exact he)|makeSlice t x y=>(rw[ho]at he get;simp only[Op.operands]at he get⊢;rw[get x (by simp),get y (by simp)];exact UF he hh)|slice t x lo hi mx=>(rw[ho]at he get;simp only[Op.operands]at he get⊢;split at he;·{cases he};·rename_i hm;rw[Do hm,get x (by simp)];have e1:(lo.map fun y=>dr (un true (S'.get C y)))=lo.map fun y=>dr (un true (S.get C y)):=by{cases lo with|none=>(rfl)|some y=>simp only[Option.map_some];rw[get y (by simp)]};have e2:(hi.map fun y=>dr (un true (S'.get C y)))=hi.map fun y=>dr (un true (S.get C y)):=by{cases hi with|none=>(rfl)|some y=>simp only[Option.map_some];rw[get y (by simp)]};rw[e1,e2];exact UH he hh)|fieldAddr s x i=>(rw[ho]at he get;simp only[Op.operands]at he get⊢;rw[get x (by simp)];exact he)|field s x i=>(rw[ho]at he get;simp only[Op.operands]at he get⊢;rw[get x (by simp)];exact he)|indexAddr t x y=>(rw[ho]at he get;simp only[Op.operands]at he get⊢;rw[get x (by simp),get y (by simp)];exact UA he hh)|index t x y=>(rw[ho]at he get;simp only[Op.operands]at he get⊢;rw[get x (by simp),get y (by simp)];exact he)|extract x i=>(rw[ho]at he get;simp only[Op.operands]at he get⊢;rw[get x (by simp)];exact he)|makeMap t r=>(rw[ho]at he;exact UG he hh)|lookup t x y ok=>(rw[ho]at he get;simp only[Op.operands]at he get⊢;rw[get x (by simp),get y (by simp)];exact UE he hh)|mapUpdate t x y z=>(rw[ho]at he get;simp only[Op.operands]at he get⊢;rw[get x (by simp),get y (by simp),get z (by simp)];exact J2 he hh)|insert t x y z=>(rw[ho]at he get;simp only[Op.operands]at he get⊢;rw[get x (by simp),get y (by simp),get z (by simp)];exact J2 he hh)|call c=>(rw[ho]at he get sA;simp only[Op.operands]at he get sA⊢;have hargs:=sA c.args.toList (fun x hx=>by simp only[Call.operands];simp;exact .inr (by simpa using hx));cases hc:c.callee with|builtin b=>(rw[hc]at he;cases b with|len=>(simp only at he⊢;rw[hargs];exact he)|append=>(simp only[Hb]at he⊢;rw[hargs];obtain⟨e1,h1,h2⟩:=he;exact⟨e1,Us h1 (UM h2 hh),h2⟩)|copy=>(simp only at he⊢;rw[hargs];exact Uz he hh)|max=>(simp only at he⊢;rw[hargs];exact he)|min=>(simp only at he⊢;rw[hargs];exact he)|_=>cases he)|value bW=>(rw[hc]at he;simp only at he⊢;rw[get bW (by simp[Call.operands,hc])];split at he;·{rename_i x hx;rw[hargs];exact Ux he hh};rename_i hx;split at he;·{rename_i p hp;rw[hargs];exact UB he hh};·rename_i hp;split at he;·{rename_i htk;rw[AC htk];cases bW with|func k=>(simp only at he⊢;rw[hargs];exact Uy he hh)|_=>cases he};·rename_i htk;rw[Do htk,hargs];exact Uw he hh)|invoke r n=>rw[hc]at he;cases he)|_=>rw[ho]at he;cases he
end
end Go.Ab
