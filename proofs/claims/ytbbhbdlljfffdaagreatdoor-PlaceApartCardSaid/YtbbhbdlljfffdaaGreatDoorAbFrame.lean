import Derived.Test.YtbbhbdlljfffdaaGreatDoorAbReg2
open List renaming mem_cons_self→GT,mem_cons_of_mem→Hc,mem_append_left→Hk,mem_cons→H0,not_mem_nil→H1,append_nil→H2,map_congr_left→H3
open Option renaming map_eq_some_iff→Ha,bind_eq_some_iff→Hb,map_some→Hm,bind_some→Hn
open Option.some renaming injEq→GE
open Prod.mk renaming injEq→Hd
set_option linter.all false
namespace Go.Ab
open Go
variable{L L':Id→Option (Option Rows)}
theorem Ci:∀{l:List (Id×Option Rows)},(∀x∈l,L' x.1=L x.1)→fresh L' l=fresh L l|[],_=>rfl|x::l,h=>by have ih:=Ci fun y hy=>h y (Hc _ hy);unfold fresh at ih⊢;simp only[List.all_cons,ih,h x (GT ..)]
theorem Hu{x:U}{r:Rows×List Id}(h:rowsOf L x=some r)(hh:∀id∈r.2,L' id=L id):rowsOf L' x=some r:=by
 cases x<;>simp only[rowsOf]at h⊢<;>try exact h
 rename_i id off len
 split at h
 ·rename_i rs hid
  split at h
  ·rename_i hc
   simp only[GE]at h;subst h
   rw[hh id (by simp),hid]
   simp only[hc,if_true]
  ·cases h
 ·cases h
def q8(p p':(U→Option (U×List Id)))(L L':Id→Option (Option Rows)):Prop:=∀a x,p a=some x→(∀id∈x.2,L' id=L id)→p' a=some x
theorem Ce{p p':U→Option (U×List Id)}(hp:q8 p p' L L'):∀{cs:List U}{x},dQ p cs=some x→(∀id∈x.2,L' id=L id)→dQ p' cs=some x|[],x,h,_=>h|c::cs,x,h,hh=>by simp only[dQ,Hb,Ha]at h⊢;obtain⟨y,hy,z,hz,rfl⟩:=h;exact⟨y,hp _ _ hy fun id hid=>hh id (List.mem_append.2 (.inl hid)),z,Ce hp hz fun id hid=>hh id (List.mem_append.2 (.inr hid)),rfl⟩
theorem wv{p p':U→Option (U×List Id)}(hp:q8 p p' L L'){cs:List U}{x}(h:gx p cs=some x)(hh:∀id∈x.2,L' id=L id):gx p' cs=some x:=by unfold gx at h⊢;split at h;·{rename_i hc;simpa[hc]using h};·rename_i hc;simp only[hc];exact Ce hp h hh
theorem Qb{p p':U→Option (U×List Id)}(hp:q8 p p' L L'):∀{rs:Rows}{x},dr (gx p) rs=some x→(∀id∈x.2,L' id=L id)→dr (gx p') rs=some x|[],x,h,_=>h|c::cs,x,h,hh=>by simp only[dr,Hb,Ha]at h⊢;obtain⟨y,hy,z,hz,rfl⟩:=h;exact⟨y,wv hp hy fun id hid=>hh id (List.mem_append.2 (.inl hid)),z,Qb hp hz fun id hid=>hh id (List.mem_append.2 (.inr hid)),rfl⟩
theorem Oz{p p':U→Option (U×List Id)}(hp:q8 p p' L L'){rs:Rows}{x}(h:lu p rs=some x)(hh:∀id∈x.2,L' id=L id):lu p' rs=some x:=by unfold lu at h⊢;split at h;·{rename_i hc;simpa[hc]using h};·rename_i hc;simp only[hc];exact Qb hp h hh
theorem IF:∀n,q8 (cj L n) (cj L' n) L L'|0=>fun a x h=>by{simp[cj]at h}|n+1=>fun a x h hh=>by have ih:=IF n;cases a with|rs id off len=>(simp only[cj]at h⊢;split at h;·{rename_i rs hid;split at h;·{rename_i hc;simp only[Ha]at h;obtain⟨y,hy,rfl⟩:=h;rw[hh id (GT ..),hid];simp only[hc,if_true,Oz ih hy fun id hid=>hh id (Hc _ hid),Hm]};·cases h};·cases h)|mp id row off=>(simp only[cj]at h⊢;split at h;·{rename_i rs hid;split at h;·{rename_i r hrow;split at h;·{rename_i hoff;simp only[Ha]at h;obtain⟨y,hy,rfl⟩:=h;rw[hh id (GT ..),hid];simp only[hrow,hoff,if_true,wv ih hy fun id hid=>hh id (Hc _ hid),Hm]};·cases h};·cases h};·cases h)|agg cs=>(simp only[cj,Ha]at h⊢;obtain⟨y,hy,rfl⟩:=h;exact⟨y,wv ih hy hh,rfl⟩)|aY cs=>(simp only[cj,Ha]at h⊢;obtain⟨y,hy,rfl⟩:=h;exact⟨y,wv ih hy hh,rfl⟩)|fn k a b=>(simp only[cj,Ha,Hb]at h⊢;obtain⟨y,hy,z,hz,rfl⟩:=h;exact⟨y,wv ih hy fun id hid=>hh id (List.mem_append.2 (.inl hid)),z,wv ih hz fun id hid=>hh id (List.mem_append.2 (.inr hid)),rfl⟩)|own rs=>(simp only[cj,Ha]at h⊢;obtain⟨y,hy,rfl⟩:=h;exact⟨y,Oz ih hy hh,rfl⟩)|aS cs=>(simp only[cj,Ha]at h⊢;obtain⟨y,hy,rfl⟩:=h;exact⟨y,wv ih hy hh,rfl⟩)|cz=>(simpa only[cj]using h)|dw g y=>(simpa only[cj]using h)|val u=>(simpa only[cj]using h)|nn=>(simpa only[cj]using h)|mr id=>(simp only[cj]at h⊢;split at h;·{rename_i rs hid;simp only[GE]at h;subst h;rw[hh id (GT ..),hid]};·cases h)|ey rs=>(simpa only[cj]using h)|im rs=>(simpa only[cj]using h)|sl rows=>(simpa only[cj]using h)|aA cells=>(simpa only[cj]using h)|bt i rs=>(simpa only[cj]using h)|AE u=>(simpa only[cj]using h)|bB=>simpa only[cj]using h
theorem He{p p':U→Option (U×List Id)}(hp:q8 p p' L L'){cs:List U}{x}(h:fI p cs=some x)(hh:∀id∈x.2,L' id=L id):fI p' cs=some x:=by unfold fI at h⊢;split at h;·{rename_i hc;simpa[hc]using h};·rename_i hc;simp only[hc];exact Ce hp h hh
theorem Tc{p p':U→Option (U×List Id)}(hp:q8 p p' L L'):∀{rs:Rows}{x},dr (fI p) rs=some x→(∀id∈x.2,L' id=L id)→dr (fI p') rs=some x|[],x,h,_=>h|c::cs,x,h,hh=>by simp only[dr,Hb,Ha]at h⊢;obtain⟨y,hy,z,hz,rfl⟩:=h;exact⟨y,He hp hy fun id hid=>hh id (List.mem_append.2 (.inl hid)),z,Tc hp hz fun id hid=>hh id (List.mem_append.2 (.inr hid)),rfl⟩
theorem Tn{p p':U→Option (U×List Id)}(hp:q8 p p' L L'){rs:Rows}{x}(h:jj p rs=some x)(hh:∀id∈x.2,L' id=L id):jj p' rs=some x:=by unfold jj at h⊢;split at h;·{rename_i hc;simpa[hc]using h};·rename_i hc;simp only[hc];exact Tc hp h hh
theorem x5:∀n,q8 (pk L n) (pk L' n) L L'|0=>fun a x h=>by{simp[pk]at h}|n+1=>fun a x h hh=>by have ih:=x5 n;cases a with|rs id off len=>(simp only[pk]at h⊢;split at h;·{rename_i rs hid;split at h;·{rename_i hc;simp only[Ha]at h;obtain⟨y,hy,rfl⟩:=h;rw[hh id (GT ..),hid];simp only[hc];rw[Tn ih (by simpa using hy) fun id hid=>hh id (Hc _ hid)];rfl};·cases h};·cases h)|mp id row off=>(simp only[pk]at h⊢;split at h;·{rename_i cs hid;split at h;·{rename_i hc;simp only[Ha]at h;obtain⟨y,hy,rfl⟩:=h;rw[hh id (GT ..),hid];simp only[hc];rw[He ih hy fun id hid=>hh id (Hc _ hid)];rfl};·cases h};·cases h)|agg cs=>(simp only[pk,Ha]at h⊢;obtain⟨y,hy,rfl⟩:=h;exact⟨y,He ih hy hh,rfl⟩)|aY cs=>(simp only[pk,Ha]at h⊢;obtain⟨y,hy,rfl⟩:=h;exact⟨y,He ih hy hh,rfl⟩)|fn k a b=>(simpa only[pk]using h)|own rs=>(simpa only[pk]using h)|aS cs=>(simpa only[pk]using h)|cz=>(simpa only[pk]using h)|dw g y=>(simpa only[pk]using h)|val u=>(simpa only[pk]using h)|nn=>(simpa only[pk]using h)|mr id=>(simp only[pk]at h⊢;split at h;·{rename_i rs hid;simp only[GE]at h;subst h;rw[hh id (GT ..),hid]};·cases h)|ey rs=>(simpa only[pk]using h)|im rs=>(simpa only[pk]using h)|sl rows=>(simpa only[pk]using h)|aA cells=>(simpa only[pk]using h)|bt i rs=>(simpa only[pk]using h)|AE u=>(simpa only[pk]using h)|bB=>simpa only[pk]using h
theorem TK(o:Oper)(v:U)(rd:List Id)(wr:List (Id×Option Rows)):(put o v rd wr).rd=rd:=rfl
theorem L6(o:Oper)(v:U)(rd:List Id)(wr:List (Id×Option Rows)):(put o v rd wr).wr=wr:=rfl
section
variable{C:aL}{f:FuncId}{call:FuncId→List U→Option (U×List U)}{S S':ah}{o:Oper}{e:bz}
def Agree(S S':ah)(e:bz):Prop:=∀id,(id∈e.rd∨∃x∈e.wr,x.1=id)→S'.h id=S.h id
theorem abP{t:TypeId}(he:sQ C f S o t=some e)(hh:Agree S S' e):sQ C f S' o t=some e:=by
 unfold sQ at he⊢
 split at he
 ·rename_i cs d h1 h2
  split at he
  ·simp only[GE]at he;subst he
   rename_i hf
   try rw[h1,h2]
   simp only[hh [d] (.inr ⟨_,GT ..,rfl⟩),hf,if_true]
  ·cases he
 ·cases he
theorem abR{t:TypeId}{x:U}(he:qo C f S o t x=some e)(hh:Agree S S' e):qo C f S' o t x=some e:=by unfold qo at he⊢;split at he;·{rename_i b d h1 h2;split at he;·{rename_i cs hcs;split at he;·{rename_i hz;rw[AC hz];exact he};·rename_i hz;rw[Do hz];split at he;·{rename_i hf;simp only[GE]at he;subst he;rw[hh [d] (.inr ⟨_,GT ..,rfl⟩),AC hf]};·cases he};·cases he};·cases he
theorem abT{t:TypeId}{n:Nat}{ps:List (Nat×U)}(he:sR C f S o t n ps=some e)(hh:Agree S S' e):sR C f S' o t n ps=some e:=by
 unfold sR at he⊢
 split at he
 ·rename_i el d h1 h2
  split at he
  ·rename_i z b k hz hb hk
   split at he
   ·rename_i hc
    try rw[AC hc]
    split at he
    ·rename_i rows hr
     try rw[hr]
     split at he
     ·rename_i hfz
      rw[AC hfz];exact he
     ·rename_i hfz
      rw[Do hfz]
      split at he
      ·rename_i hf
       simp only[GE]at he;subst he
       rw[hh [d] (.inr ⟨_,GT ..,rfl⟩),AC hf]
      ·cases he
    ·cases he
   ·cases he
  ·cases he
 ·cases he
theorem abS{t:TypeId}{n:Nat}{ps:List (Nat×U)}(he:oo C f S o t n ps=some e)(hh:Agree S S' e):oo C f S' o t n ps=some e:=by unfold oo at he⊢;split at he;·{rename_i hc;rw[AC hc];unfold zy at he⊢;split at he;·{rename_i rows d h1 h2;split at he;·{rename_i br ids hp;split at he;·{rename_i hn;simp only[GE]at he;subst he;have:jj (pk S'.h 8) rows=some (br,ids):=Tn (x5 8) hp fun id hid=>hh id (.inl hid);simp only[h1,h2,this,hn,if_true]};·cases he};·cases he};·cases he};·rename_i hc;rw[Do hc];exact abT he hh
theorem ab3{t:TypeId}{x y:U}(he:sU C S o t x y=some e)(hh:Agree S S' e):sU C S' o t x y=some e:=by
 unfold sU at he⊢
 split at he
 ·rename_i el d l c h1 h2 h3 h4
  split at he
  ·rename_i z i hz hi
   split at he
   ·rename_i hc
    simp only[GE]at he;subst he
    try rw[h1,h2,h3,h4]
    try simp only[hz,hi]
    rw[hh [d] (.inr ⟨_,GT ..,rfl⟩),AC hc]
   ·cases he
  ·cases he
 ·cases he
theorem ab4{t:TypeId}{r:Option Operand}(he:sV C S o t r=some e)(hh:Agree S S' e):sV C S' o t r=some e:=by
 unfold sV at he⊢
 split at he
 ·rename_i d h1 h2
  split at he
  ·rename_i hc
   simp only[GE]at he;subst he
   try rw[h1,h2]
   try simp only
   rw[hh [d] (.inr ⟨_,GT ..,rfl⟩),AC hc]
  ·cases he
 ·cases he
theorem ab2{t:TypeId}{x k:U}{ok:Bool}(he:oq C S o t x k ok=some e)(hh:Agree S S' e):oq C S' o t x k ok=some e:=by unfold oq at he⊢;split at he;·{rename_i kind z rows ids kv h1 h2;obtain⟨r,hf,rfl⟩:=Option.map_eq_some_iff.1 he;have e2:uZ S'.h x=some (rows,ids):=by{unfold uZ at h2⊢;split at h2;·{rename_i id;split at h2;·{rename_i br hid;simp only[Option.some.injEq,Prod.mk.injEq]at h2;obtain⟨rfl,rfl⟩:=h2;rw[hh id (.inl (by rw[TK];exact List.mem_cons_self ..)),hid]};·cases h2};·{exact h2};·{exact h2};·cases h2};rw[h1,e2];simp only[hf,Option.map_some]};·cases he
theorem Qj{t:TypeId}{x k v:U}(he:qp C S o t x k v=some e)(hh:Agree S S' e):qp C S' o t x k v=some e:=by
 unfold qp at he⊢
 split at he
 ·rename_i kind z id kv n5 h1
  split at he
  ·rename_i rows hid
   split at he
   ·rename_i hc
    obtain⟨br,hp,rfl⟩:=Option.map_eq_some_iff.1 he
    try rw[h1]
    try simp only
    rw[hh id (.inl (by rw[TK];exact GT ..)),hid]
    simp only[AC hc,hp,Hm]
   ·cases he
  ·cases he
 ·cases he
theorem ab5{t:TypeId}{x:U}{lo hi:Option (Option Int)}(he:ot C S o t x lo hi=some e)(hh:Agree S S' e):ot C S' o t x lo hi=some e:=by
 unfold ot at he⊢
 split at he
 ·rename_i el hu
  try rw[hu]
  try simp only
  split at he
  ·exact he
  ·rename_i id off len sz hs
   try rw[hs]
   try simp only
   split at he
   ·rename_i rows hid
    have hrd:id∈e.rd:=by
     simp only[Hb]at he
     obtain⟨b,_,he⟩:=he
     split at he
     ·simp only[GE]at he;subst he;simp[put]
     ·cases he
    rw[hh id (.inl hrd),hid]
    exact he
   ·cases he
  ·cases he
 ·rename_i hu;try rw[hu]
  exact he
 ·cases he
theorem abY{t:TypeId}{x:U}{i:Option Int}(he:mQ C S o t x i=some e)(hh:Agree S S' e):mQ C S' o t x i=some e:=by
 unfold mQ at he⊢
 split at he
 ·rename_i el i' hu
  try rw[hu]
  try simp only
  split at he
  ·rename_i hs;try rw[hs]
   exact he
  ·rename_i n id off len hs
   try rw[hs]
   try simp only
   split at he
   ·rename_i hc
    rw[AC hc]
    split at he
    ·rename_i rows hid
     have hrd:id∈e.rd:=by
      simp only[Hb]at he
      obtain⟨b,_,he⟩:=he
      split at he
      ·simp only[GE]at he;subst he;simp[put]
      ·cases he
     rw[hh id (.inl hrd),hid]
     exact he
    ·cases he
   ·cases he
  ·cases he
 ·rename_i hu;try rw[hu]
  exact he
 ·cases he
theorem ab0{t:TypeId}{x:U}(he:lD C S o t x=some e)(hh:Agree S S' e):lD C S' o t x=some e:=by
 unfold lD at he⊢
 split at he
 ·rename_i b n h1 h2
  try rw[h1,h2]
  try simp only
  split at he
  ·exact he
  ·rename_i id row off
   split at he
   ·rename_i rows hid
    obtain⟨r,hr,he⟩:=Option.bind_eq_some_iff.1 he
    split at he
    ·rename_i hc
     split at he
     ·rename_i hem
      have hrd:id∈e.rd:=by
       obtain⟨v,_,he⟩:=Option.map_eq_some_iff.1 he
       subst he;simp[put]
      rw[hh id (.inl hrd),hid]
      simp only[hr,Hn,hc,if_true,hem]
      exact he
     ·rename_i hem
      split at he
      ·rename_i hf
       have adZ:=he
       obtain⟨v,_,he⟩:=Option.map_eq_some_iff.1 he
       have hrd:id∈e.rd:=by subst he;simp[put]
       have hwr:∀x∈(bT (iY o) 0 ((r.drop off).take n)).2,S'.h x.1=S.h x.1:=fun x hx=>hh x.1 (.inr ⟨x,by subst he;simp[put,hx],rfl⟩)
       rw[hh id (.inl hrd),hid]
       simp only[hr,Hn,hc,if_true,hem,Ci hwr,hf]
       exact adZ
      ·cases he
    ·cases he
   ·cases he
  ·cases he
 ·cases he
theorem ab6{t:TypeId}{ao:Operand}{x y:U}(he:ou C f S true o t ao x y=some e)(hh:Agree S S' e):ou C f S' true o t ao x y=some e:=by
 unfold ou at he⊢
 split at he
 ·rename_i b n h1 h2
  try rw[h1,h2]
  try simp only
  split at he
  ·rename_i id row off cs hcs
   try rw[hcs]
   try simp only
   split at he
   ·cases he
   ·rename_i hl
    rw[Do hl]
    split at he
    ·rename_i rows hid
     have hrd:id∈e.rd:=by
      obtain⟨r,hr,he⟩:=Option.bind_eq_some_iff.1 he
      split at he
      ·split at he
       ·split at he
        ·simp only[GE]at he;subst he;simp
        ·cases he
       ·split at he
        ·simp only[GE]at he;subst he;simp[put]
        ·cases he
      ·cases he
     rw[hh id (.inl hrd),hid]
     exact he
    ·cases he
  ·cases he
 ·cases he
theorem acd{e1:bz}(h:qs C f o e1=some e)(hh:Agree S S' e):Agree S S' e1:=by unfold qs at h;split at h;·{split at h;·{rename_i hw;split at h;·{rename_i hc;obtain⟨rfl,_⟩:=hc;simp only[GE]at h;subst h;intro id hid;refine hh id (hid.imp (fun h=>h) fun⟨x,hx,e⟩=> ?_);rw[hw]at hx;simp only[H0,H1,or_false]at hx;rcases hx with rfl|rfl;·{exact⟨_,GT ..,e⟩};·exact⟨_,Hc _ (GT ..),e⟩};·cases h};·{rename_i hw;split at h;·{rename_i hc;obtain⟨rfl,_⟩:=hc;simp only[GE]at h;subst h;intro id hid;refine hh id (hid.imp (fun h=>h) fun⟨x,hx,e⟩=> ?_);rw[hw]at hx;simp only[H0,H1,or_false]at hx;obtain rfl:=hx;exact⟨_,GT ..,e⟩};·cases h};·cases h};·simp only[GE]at h;subst h;exact hh
theorem abQ{ts:Array TypeId}{xs:List U}(he:l8 C S o ts xs=some e)(hh:Agree S S' e):l8 C S' o ts xs=some e:=by
 unfold l8 at he⊢
 split at he
 ·rename_i x y t el h1 h2
  try rw[h1,h2]
  try simp only
  unfold y9 at he⊢
  split at he
  ·rename_i aa5 d hu hd
   try rw[hu,hd]
   try simp only
   split at he
   ·rename_i i alg i1 ap0 i2 hi hx hy
    split at he
    ·rename_i hc
     unfold mL at he
     have facts:(∀id∈i1++i2,id∈e.rd)∧(∃r,([d],r)∈e.wr):=by
      split at he
      ·split at he
       ·split at he
        ·simp only[GE]at he;subst he
         exact⟨fun id h=>h,_,Hc _ (GT ..)⟩
        ·cases he
       ·cases he
      ·simp only[GE]at he;subst he
       exact⟨fun id h=>h,_,GT ..⟩
      ·cases he
     obtain⟨hrd,r,hwr⟩:=facts
     have ex:=Hu (L':=S'.h) hx fun id hid=>hh id (.inl (hrd id (List.mem_append.2 (.inl hid))))
     have FF:=Hu (L':=S'.h) hy fun id hid=>hh id (.inl (hrd id (List.mem_append.2 (.inr hid))))
     try rw[hi,ex,FF]
     try simp only
     rw[hh [d] (.inr ⟨_,hwr,rfl⟩),AC hc]
     unfold mL
     split at he
     ·rename_i id off len
      have hid:id∈i1:=by
       simp only[rowsOf]at hx
       split at hx
       ·split at hx
        ·simp only[GE,Hd]at hx
         rw[←hx.2];simp
        ·cases hx
       ·cases hx
      try simp only
      rw[hh id (.inl (hrd id (List.mem_append.2 (.inl hid))))]
      exact he
     ·exact he
     ·cases he
    ·cases he
   ·cases he
  ·cases he
 ·rename_i x y t k h1 h2
  try rw[h1,h2]
  try simp only
  unfold za at he⊢
  split at he
  ·rename_i aa5 d nn hu hd Gn
   try rw[hu,hd,Gn]
   try simp only
   split at he
   ·rename_i i z alg i1 hi hz hx
    split at he
    ·rename_i hc
     unfold mL at he
     have facts:(∀id∈i1,id∈e.rd)∧(∃r,([d],r)∈e.wr):=by
      split at he
      ·split at he
       ·split at he
        ·simp only[GE]at he;subst he
         exact⟨fun id h=>by simp only[put,H2];exact h,_,Hc _ (GT ..)⟩
        ·cases he
       ·cases he
      ·simp only[GE]at he;subst he
       exact⟨fun id h=>by simp only[put,H2];exact h,_,GT ..⟩
      ·cases he
     obtain⟨hrd,r,hwr⟩:=facts
     have ex:=Hu (L':=S'.h) hx fun id hid=>hh id (.inl (hrd id hid))
     try rw[hi,hz,ex]
     try simp only
     rw[hh [d] (.inr ⟨_,hwr,rfl⟩),AC hc]
     unfold mL
     split at he
     ·rename_i id off len
      have hid:id∈i1:=by
       simp only[rowsOf]at hx
       split at hx
       ·split at hx
        ·simp only[GE,Hd]at hx
         rw[←hx.2];simp
        ·cases hx
       ·cases hx
      try simp only
      rw[hh id (.inl (hrd id hid))]
      exact he
     ·exact he
     ·cases he
    ·cases he
   ·cases he
  ·cases he
 ·cases he
theorem abZ{p:Nat×Nat}{xs:List U}(he:uy S o p xs=some e)(hh:Agree S S' e):uy S' o p xs=some e:=by unfold uy at he⊢;split at he;·{rename_i id row off;split at he;·{rename_i rows hid;split at he;·{rename_i fX off2 len hcell;split at he;·{rename_i ff xg;split at he;·{rename_i hc;simp only[GE]at he;subst he;have e1:S'.h id=S.h id:=hh id (.inl (by simp[put]));have e2:S'.h fX=S.h fX:=hh fX (.inl (by simp[put]));simp only[e1,hid,hcell,e2,xg,hc,if_true]};·cases he};·cases he};·cases he};·cases he};·{exact he};·cases he
theorem abX{ts:Array TypeId}{xs:List U}(he:wO C S o ts xs=some e)(hh:Agree S S' e):wO C S' o ts xs=some e:=by unfold wO at he⊢;split at he;·{rename_i x y el h1;split at he;·{rename_i id off len ys i2 hsz C2;split at he;·{rename_i rows hid;split at he;·{rename_i hc;simp only[GE]at he;subst he;have e1:S'.h id=S.h id:=hh id (.inl (by simp[put]));have e2:rowsOf S'.h y=some (ys,i2):=Hu C2 (fun i hi=>hh i (.inl (by simp[put];exact .inr hi)));simp only[hsz,e2,e1,hid,hc,if_true]};·cases he};·cases he};·cases he};·cases he
theorem ab1{as:List U}(he:uY S o as=some e)(hh:Agree S S' e):uY S' o as=some e:=by unfold uY at he⊢;split at he;·{split at he;·{rename_i hc hid;split at he;·{rename_i h2 hk;split at he;·{rename_i hr;split at he;·{rename_i jT;simp only[GE]at he;subst he;have e1:=hh _ (.inl (show _∈[_,_]from GT ..));have e2:=hh _ (.inl (show _∈[_,_]from Hc _ (GT ..)));simp only[hc,e1,hid,e2,h2,hk,hr,jT,and_self,if_true]};·cases he};·cases he};·cases he};·cases he};·cases he
theorem abU{fv:U}{args:List U}(he:qj C f call S o fv args=some e)(hh:Agree S S' e):qj C f call S' o fv args=some e:=by
 unfold qj at he⊢
 split at he
 ·rename_i k first caps
  try simp only
  by_cases hlk:C.look k=true
  ·rw[AC hlk]at he⊢
   exact ab1 he hh
  rw[Do hlk]at he⊢
  split at he
  ·rename_i as seen d JP bG
   split at he
   ·rename_i r ck
    generalize hr':(if eL C f o.dst=true then dF r else r)=r' at he
    split at he
    ·cases he
    ·rename_i hm
     split at he
     ·rename_i hf
      simp only[GE]at he;subst he
      have hb:rz S'.h (first++args++caps)=some (as,seen):=Ce (IF 9) JP fun id hid=>hh id (.inl hid)
      have hfr:fresh S'.h (imp [d] r').2=fresh S.h (imp [d] r').2:=Ci fun x hx=>hh x.1 (.inr ⟨x,hx,rfl⟩)
      rw[hb,bG]
      simp only[ck]
      rw[←bG,hr',Do hm,hfr,AC hf]
     ·cases he
   ·cases he
  ·cases he
 ·cases he
theorem UG:∀{eo:List U}{ms:List Nat}{as:List U}{seen tk dz:List Id},j4 S.h ms eo=some (as,seen,tk,dz)→(∀id∈seen,S'.h id=S.h id)→(∀id∈tk++dz,S'.h id=S.h id)→j4 S'.h ms eo=some (as,seen,tk,dz)|[],ms,as,seen,tk,dz,hx,_,_=>hx|c::cs,ms,as,seen,tk,dz,hx,h1,h2=>by simp only[j4,Hb]at hx⊢;obtain⟨⟨ys,s1,t1,bC⟩,hy,hx⟩:=hx;refine⟨(ys,s1,t1,bC), ?_, ?_⟩;·{split at hx<;>·obtain⟨x,hpk,hx⟩:=Option.map_eq_some_iff.1 hx;simp only[Hd]at hx;obtain⟨rfl,rfl,rfl,rfl⟩:=hx;exact UG hy (fun id hid=>h1 id (by simp[hid])) (fun id hid=>h2 id (by rcases List.mem_append.1 hid with h|h<;>simp[h]))};·split at hx;·{rename_i hm;obtain⟨x,hpk,hx⟩:=Option.map_eq_some_iff.1 hx;simp only[Hd]at hx;obtain⟨rfl,rfl,rfl,rfl⟩:=hx;simp only[hm];rw[x5 9 _ _ hpk fun id hid=>h2 id (by simp[hid])];rfl};·{rename_i hm;obtain⟨x,hpk,hx⟩:=Option.map_eq_some_iff.1 hx;simp only[Hd]at hx;obtain⟨rfl,rfl,rfl,rfl⟩:=hx;simp only[hm];rw[x5 9 _ _ hpk fun id hid=>h2 id (by simp[hid])];rfl};·rename_i uL hm2;obtain⟨x,hpk,hx⟩:=Option.map_eq_some_iff.1 hx;simp only[Hd]at hx;obtain⟨rfl,rfl,rfl,rfl⟩:=hx;rw[IF 9 _ _ hpk fun id hid=>h1 id (by simp[hid])];rfl
theorem TR{a b:U}{l:List (Id×Option Rows)}(h:jE S.h a b=some l)(hh:∀x∈l,S'.h x.1=S.h x.1):jE S'.h a b=some l:=by unfold jE at h;split at h;·{rename_i id cs;split at h;·{rename_i old hid;split at h;·{rename_i hc;simp only[GE]at h;subst h;have:=hh _ (GT ..);simp only[jE,this,hid,hc,if_true]};·cases h};·cases h};·{rename_i id n rows;split at h;·{rename_i o1 os hid;split at h;·{rename_i hc;simp only[GE]at h;subst h;have:=hh _ (GT ..);simp only[jE,this,hid];rw[AC hc]};·cases h};·{rename_i hid;split at h;·{rename_i hc;simp only[GE]at h;subst h;have:=hh _ (GT ..);simp only[jE,this,hid];rw[AC hc]};·cases h};·cases h};·{rename_i id rows;split at h;·{rename_i vp hid;simp only[GE]at h;subst h;have:=hh _ (GT ..);simp only[jE,this,hid]};·cases h};·{cases h};·{cases h};·{cases h};·{cases h};·rename_i g1 g2 g3 g4 _ _ _;simp only[GE]at h;subst h;unfold jE;split<;>first|rfl|exact(g1 _ _ _ rfl).elim|exact(g2 _ _ _ rfl).elim|exact(g3 _ rfl).elim|exact(g4 _ rfl).elim
theorem TU:∀{as bs:List U}{l:List (Id×Option Rows)},j0 S.h as bs=some l→(∀x∈l,S'.h x.1=S.h x.1)→j0 S'.h as bs=some l|[],[],l,h,_=>h|[],_::_,l,h,_=>by{simp[j0]at h}|_::_,[],l,h,_=>by{simp[j0]at h}|a::as,b::bs,l,h,hh=>by simp only[j0]at h⊢;split at h;·{rename_i x y h1 h2;simp only[GE]at h;subst h;rw[TR h1 fun x hx=>hh x (List.mem_append.2 (.inl hx)),TU h2 fun x hx=>hh x (List.mem_append.2 (.inr hx))]};·cases h
theorem aju{a b:U}{l:List (Id×Option Rows)}(h:se S.h a b=some l)(hh:∀x∈l,S'.h x.1=S.h x.1):se S'.h a b=some l:=by unfold se at h⊢;split at h;·{exact TU h hh};·exact TR h hh
theorem TX{args:List U}:∀{cA:List Nat}{outs:List U}{l:List (Id×Option Rows)},hJ S.h args cA outs=some l→(∀x∈l,S'.h x.1=S.h x.1)→hJ S'.h args cA outs=some l|[],[],l,h,_=>h|[],_::_,l,h,_=>by{simp[hJ]at h}|_::_,[],l,h,_=>by{simp[hJ]at h}|j::cA,b::outs,l,h,hh=>by simp only[hJ]at h⊢;split at h;·{rename_i a y h1 h2;split at h;·{rename_i x h3;simp only[GE]at h;subst h;rw[h1,TX h2 fun x hx=>hh x (List.mem_append.2 (.inr hx))];simp only[aju h3 fun x hx=>hh x (List.mem_append.2 (.inl hx))]};·cases h};·cases h
theorem abW{k:FuncId}{args:List U}(he:rC C f call S o k args=some e)(hh:Agree S S' e):rC C f call S' o k args=some e:=by unfold rC at he⊢;split at he;·{rename_i as seen tk dz d htk bG;split at he;·{rename_i r outs ck;generalize hr':(if eL C f o.dst=true then dF r else r)=r' at he;split at he;·{rename_i back kA;split at he;·{rename_i Gb;simp only[GE]at he;subst he;have hw:∀x,(x∈(imp [d] r').2∨x∈back∨x∈(tk++dz).map fun i=>((i,none):Id×Option Rows))→S'.h x.1=S.h x.1:=fun x hx=>hh x.1 (.inr ⟨x,by rw[L6];rcases hx with hx|hx|hx;·{exact List.mem_append.2 (.inl hx)};·{exact List.mem_append.2 (.inr (List.mem_append.2 (.inl hx)))};·exact List.mem_append.2 (.inr (List.mem_append.2 (.inr hx))),rfl⟩);have e1:j4 S'.h (C.xR k) args=some (as,seen,tk,dz):=UG htk (fun id hid=>hh id (.inl hid)) fun id hid=>hw (id,none) (.inr (.inr (List.mem_map.2 ⟨id,hid,rfl⟩)));have e2:hJ S'.h args (C.cA k) outs=some back:=TX kA fun x hx=>hw x (.inr (.inl hx));have hfr:fresh S'.h (imp [d] r').2=fresh S.h (imp [d] r').2:=Ci fun x hx=>hw x (.inl hx);rw[e1];simp only[bG];simp only[bG]at hr';simp only[ck,hr',e2,hfr,AC Gb]};·cases he};·cases he};·cases he};·cases he
end
end Go.Ab
namespace Go.Ab
open Go
variable{L L':Id→Option (Option Rows)}
section
variable{C:aL}{f:FuncId}{call:FuncId→List U→Option (U×List U)}{S S':ah}{o:Oper}{e:bz}
def tmpsOf(o:Oper):List Nat:=o.op.operands.toList.filterMap fun| .tmp t=>some t|_=>none
theorem ZX{keep:Id→Bool}:q8 (gU L keep) (gU L' keep) L L':=fun a x h hh=>by cases a with|rs i off len=>(simp only[gU]at h⊢;split at h;·{rename_i hk;rw[AC hk];exact h};·rename_i hk;rw[Do hk];exact x5 8 _ _ h hh)|mp i off len=>(simp only[gU]at h⊢;split at h;·{rename_i hk;rw[AC hk];exact h};·rename_i hk;rw[Do hk];exact x5 8 _ _ h hh)|mr i=>(simp only[gU]at h⊢;split at h;·{rename_i hk;rw[AC hk];exact h};·rename_i hk;rw[Do hk];exact x5 8 _ _ h hh)|_=>exact h
theorem Qe{q q':List U→Option (List U×List Id)}(hq:∀r x,q r=some x→(∀id∈x.2,L' id=L id)→q' r=some x):∀{rs:Rows}{x},dr q rs=some x→(∀id∈x.2,L' id=L id)→dr q' rs=some x|[],x,h,_=>h|c::cs,x,h,hh=>by simp only[dr,Hb,Ha]at h⊢;obtain⟨y,hy,z,hz,rfl⟩:=h;exact⟨y,hq _ _ hy fun id hid=>hh id (List.mem_append.2 (.inl hid)),z,Qe hq hz fun id hid=>hh id (List.mem_append.2 (.inr hid)),rfl⟩
theorem Z1{keep:Id→Bool}(r:List U)(x)(hy:lA L keep r=some x)(hh:∀id∈x.2,L' id=L id):lA L' keep r=some x:=by unfold lA at hy⊢;split at hy;·{rename_i hc;rw[AC hc];exact hy};·rename_i hc;rw[Do hc];exact Ce ZX hy hh
theorem ZZ{keep:Id→Bool}{rs:Rows}{x}(h:dr (lA L keep) rs=some x)(hh:∀id∈x.2,L' id=L id):dr (lA L' keep) rs=some x:=Qe Z1 h hh
theorem SK{l:List (Id×Id)}:∀{r:List (Id×Id)}{x},iO L l r=some x→(∀i∈r.map (·.1),L' i=L i)→(∀i∈x.2,L' i=L i)→iO L' l r=some x|[],x,h,_,_=>h|(o,k)::r,x,h,h1,h2=>by simp only[iO]at h⊢;rw[h1 o (by simp)];split at h;·{simp only[Hb,Ha]at h⊢;obtain⟨y,hy,br,hr,z,hz,rfl⟩:=h;refine⟨y, ?_,br,hr,z,SK hz (fun i hi=>h1 i (by simp only[List.map_cons];exact Hc _ hi)) (fun i hi=>h2 i (List.mem_append.2 (.inr hi))),rfl⟩;unfold nE at hy⊢;split at hy;·{rename_i hc;rw[AC hc];exact hy};·rename_i hc;rw[Do hc];exact ZZ hy fun i hi=>h2 i (List.mem_append.2 (.inl hi))};·cases h
theorem zi:∀(n:Nat)(b:Bool)(p:Id)(j:Nat)(acc:List (Id×Id))(as:List U),∀x∈acc,x∈ef L n b p j acc as|0,_,_,_,_,_,x,hx=>hx|_+1,_,_,_,_,[],x,hx=>hx|n+1,b,p,j,acc,a::as,x,hx=>by unfold ef;apply zi n b p (j+1);cases a with|rs i off len=>(dsimp only;split;exact hx;exact Hk _ hx)|mr i=>(dsimp only;split;exact hx;exact Hk _ hx)|mp i row off=>(dsimp only;split;·{exact hx};·split;·{exact zi n _ _ _ _ _ x (Hk _ hx)};·exact Hk _ hx)|agg cs=>(exact zi n _ _ _ _ _ x hx)|fn k xs cs=>(exact zi n _ _ _ _ _ x hx)|_=>exact hx
theorem aao(n:Nat)(b:Bool)(p:Id)(j:Nat)(acc:List (Id×Id))(a:U)(as:List U):∃l:(Id→Option (Option Rows))→List (Id×Id),∀L,ef L (n+1) b p j acc (a::as)=ef L n b p (j+1) (l L) as∧l L=(match a with| .rs i _ _=>if !b||(ga acc i).isSome then acc else acc++[(i,j::p)]| .mr i=>if !b||(ga acc i).isSome then acc else acc++[(i,j::p)]| .mp i _ _=>if(ga acc i).isSome then acc else(match L i with|some (some [cs])=>ef L n false (j::p) 0 (acc++[(i,j::p)]) cs|_=>acc++[(i,j::p)])| .agg cs=>ef L n b (j::p) 0 acc cs| .fn _ as cs=>ef L n true (j::p) 0 acc (as++cs)|_=>acc):=⟨_,fun L=>⟨by cases a<;>rw[ef]<;>first|rfl|(intros;contradiction)|(intros;rename_i h;cases h),rfl⟩⟩
theorem BV:∀(n:Nat)(b:Bool)(p:Id)(j:Nat)(acc:List (Id×Id))(as:List U),(∀i∈(ef L n b p j acc as).map (·.1),L' i=L i)→ef L' n b p j acc as=ef L n b p j acc as|0,_,_,_,_,_,_=>rfl|_+1,_,_,_,_,[],_=>rfl|n+1,b,p,j,acc,a::as,h=>by obtain⟨l,hl⟩:=aao n b p j acc a as;rw[(hl L).1]at h⊢;rw[(hl L').1];have sub:∀i∈(l L).map (·.1),L' i=L i:=fun i hi=>by{obtain⟨x,hx,rfl⟩:=List.mem_map.1 hi;exact h _ (List.mem_map.2 ⟨x,zi n b p (j+1) _ as x hx,rfl⟩)};have e:l L'=l L:=by{have h1:=(hl L).2;rw[h1]at sub;rw[(hl L').2,h1];clear h1 h hl l;cases a with|mp i row off=>(dsimp only at sub⊢;by_cases hs:(ga acc i).isSome=true;·{rw[AC hs,AC hs]};·rw[Do hs]at sub;rw[Do hs,Do hs];have hi:L' i=L i:=by{refine sub i ?_;split;·{exact List.mem_map.2 ⟨(i,j::p),zi n _ _ _ _ _ _ (List.mem_append_right _ (List.mem_singleton.2 rfl)),rfl⟩};·exact List.mem_map.2 ⟨(i,j::p),List.mem_append_right _ (List.mem_singleton.2 rfl),rfl⟩};rw[hi];split;·{rename_i cs hcs;rw[hcs]at sub;exact BV n false (j::p) 0 _ cs sub};·rfl)|agg cs=>(exact BV n b (j::p) 0 _ cs sub)|fn k xs cs=>(exact BV n true (j::p) 0 _ (xs++cs) sub)|_=>rfl};rw[e];exact BV n b p (j+1) _ as h
theorem acC{k:FuncId}{args:List U}{x:yS}(h:rM call L k args=some x)(h1:∀i∈x.l.map (·.1),L' i=L i)(h2:∀i∈x.gone,L' i=L i):rM call L' k args=some x:=by have hl:x.l=ef L 60 true [iL] 0 [] args:=by{unfold rM Cl at h;split at h;·{split at h;·{split at h;·{obtain⟨back,_,rfl⟩:=Option.map_eq_some_iff.1 h;rfl};·cases h};·cases h};·cases h};obtain⟨obs,outs,ho,_⟩:=FX h;unfold rM at h⊢;rw[BV 60 true [iL] 0 [] args (by rw[←hl];exact h1)];unfold Cl at h⊢;rw[hl]at ho;rw[ho]at h;rw[SK ho (by rw[←hl];exact h1) h2];exact h
theorem abV{k:FuncId}{args:List U}(he:qk C f call S o k args=some e)(hh:Agree S S' e):qk C f call S' o k args=some e:=by unfold qk at he⊢;simp only[Hb]at he⊢;obtain⟨x,hx,he⟩:=he;split at he;·{cases he};·rename_i hp;generalize s9:(if eL C f o.dst=true then(if flat x.r=true then dF x.r else .bB)else x.r)=rr at he;split at he;·{rename_i hf;simp only[GE]at he;subst he;have jz:kf S'.h x.back=kf S.h x.back:=by{obtain⟨_,_,_,_,hb,_⟩:=FX hx;have hbk:=(wo hb).1;unfold kf;refine List.filter_congr fun b hb=> ?_;have:S'.h b.1=S.h b.1:=hh b.1 (.inl (by show b.1∈x.l.map (·.1);rw[←hbk];exact List.mem_map.2 ⟨b,hb,rfl⟩));unfold sg;rw[this]};refine⟨x,acC hx (fun i hi=>hh i (.inl hi)) (fun i hi=>hh i (.inr ⟨(i,none), ?_,rfl⟩)), ?_⟩;·{simp only[L6];exact List.mem_append_right _ (List.mem_append_right _ (List.mem_map.2 ⟨i,hi,rfl⟩))};·rw[Do hp];simp only[s9,jz];rw[Ci (L':=S'.h) (L:=S.h) fun y hy=>hh y.1 (.inr ⟨y,by simp only[L6];exact List.mem_append_left _ hy,rfl⟩),AC hf]};·cases he
theorem acw(hs:∀t∈tmpsOf o,S'.t t=S.t t){x:Operand}(hx:x∈o.op.operands.toList):S'.get C x=S.get C x:=by cases x with|tmp t=>(exact hs t (List.mem_filterMap.2 ⟨.tmp t,hx,rfl⟩))|_=>rfl
theorem abj(he:bw C f call S true o=some e)(hs:∀t∈tmpsOf o,S'.t t=S.t t)(hh:Agree S S' e):bw C f call S' true o=some e:=by have get:∀x∈o.op.operands.toList,S'.get C x=S.get C x:=fun x hx=>acw hs hx;have wV:∀xs:List Operand,(∀x∈xs,x∈o.op.operands.toList)→(xs.map fun x=>un true (S'.get C x))=xs.map fun x=>un true (S.get C x):=fun xs h=>H3 fun x hx=>by{rw[get x (h x hx)]};have zH:∀xs:List (Nat×Operand),(∀x∈xs,x.2∈o.op.operands.toList)→(xs.map fun p=>(p.1,un true (S'.get C p.2)))=xs.map fun p=>(p.1,un true (S.get C p.2)):=fun xs h=>H3 fun x hx=>by{rw[get x.2 (h x hx)]};unfold bw at he⊢;cases ho:o.op with|move x=>(rw[ho]at he get;simp only[Op.operands]at he get⊢;rw[get x (by simp)];exact he)|assign x=>(rw[ho]at he get;simp only[Op.operands]at he get⊢;rw[get x (by simp)];exact he)|pick c x y=>(rw[ho]at he get;simp only[Op.operands]at he get⊢;rw[get c (by simp),get x (by simp),get y (by simp)];exact he)|alloc t=>(rw[ho]at he;exact abP he hh)|box t x=>(rw[ho]at he get;simp only[Op.operands]at he get⊢;rw[get x (by simp)];exact abR he hh)|build t ps=>(rw[ho]at he zH;simp only[Op.operands]at he zH⊢;rw[zH ps.toList (fun x hx=>by simp;exact⟨x.1,by simpa using hx⟩)];exact he)|buildSlice t n ps=>(rw[ho]at he zH;simp only[Op.operands]at he zH⊢;rw[zH ps.toList (fun x hx=>by simp;exact⟨x.1,by simpa using hx⟩)];exact abS he hh)|load t x=>(rw[ho]at he get;simp only[Op.operands]at he get⊢;rw[get x (by simp)];exact ab0 he hh)|store t x y=>(rw[ho]at he get;simp only[Op.operands]at he get⊢;rw[get x (by simp),get y (by simp)];exact ab6 he hh)|nilCheck x=>(rw[ho]at he get;simp only[Op.operands]at he get⊢;rw[get x (by simp)];exact he)|binOp op t x y u=>(rw[ho]at he get;simp only[Op.operands]at he get⊢;rw[get x (by simp),get y (by simp)];exact he)|unOp op t x=>(rw[ho]at he get;simp only[Op.operands]at he get⊢;rw[get x (by simp)];exact he)|convert s t x=>(rw[ho]at he get;simp only[Op.operands]at he get⊢;rw[get x (by simp)];exact he)|makeInterface t x=>(rw[ho]at he get;simp only[Op.operands]at he get⊢;rw[get x (by simp)];exact he)|makeFunc k xs ys=>(rw[ho]at he wV;simp only[Op.operands]at he wV⊢;rw[wV xs.toList (fun x hx=>by simp;exact .inl (by simpa using hx)),wV ys.toList (fun x hx=>by simp;exact .inr (by simpa using hx))];exact he)|makeSlice t x y=>(rw[ho]at he get;simp only[Op.operands]at he get⊢;rw[get x (by simp),get y (by simp)];exact ab3 he hh)|slice t x lo hi mx=>(rw[ho]at he get;simp only[Op.operands]at he get⊢;split at he;·{cases he};·rename_i hm;rw[Do hm,get x (by simp)];have e1:(lo.map fun y=>eB (un true (S'.get C y)))=lo.map fun y=>eB (un true (S.get C y)):=by{cases lo with|none=>(rfl)|some y=>simp only[Option.map_some];rw[get y (by simp)]};have e2:(hi.map fun y=>eB (un true (S'.get C y)))=hi.map fun y=>eB (un true (S.get C y)):=by{cases hi with|none=>(rfl)|some y=>simp only[Option.map_some];rw[get y (by simp)]};rw[e1,e2];exact ab5 he hh)|fieldAddr s x i=>(rw[ho]at he get;simp only[Op.operands]at he get⊢;rw[get x (by simp)];exact he)|field s x i=>(rw[ho]at he get;simp only[Op.operands]at he get⊢;rw[get x (by simp)];exact he)|indexAddr t x y=>(rw[ho]at he get;simp only[Op.operands]at he get⊢;rw[get x (by simp),get y (by simp)];exact abY he hh)|index t x y=>(rw[ho]at he get;simp only[Op.operands]at he get⊢;rw[get x (by simp),get y (by simp)];exact he)|extract x i=>(rw[ho]at he get;simp only[Op.operands]at he get⊢;rw[get x (by simp)];exact he)|makeMap t r=>(rw[ho]at he;exact ab4 he hh)|lookup t x y ok=>(rw[ho]at he get;simp only[Op.operands]at he get⊢;rw[get x (by simp),get y (by simp)];exact ab2 he hh)|mapUpdate t x y z=>(rw[ho]at he get;simp only[Op.operands]at he get⊢;rw[get x (by simp),get y (by simp),get z (by simp)];exact Qj he hh)|insert t x y z=>(rw[ho]at he get;simp only[Op.operands]at he get⊢;rw[get x (by simp),get y (by simp),get z (by simp)];exact Qj he hh)|call c=>(rw[ho]at he get wV;simp only[Op.operands]at he get wV⊢;have hargs:=wV c.args.toList (fun x hx=>by simp only[Call.operands];simp;exact .inr (by simpa using hx));cases hc:c.callee with|builtin b=>(rw[hc]at he;cases b with|len=>(simp only at he⊢;rw[hargs];exact he)|append=>(simp only[Hb]at he⊢;rw[hargs];obtain⟨e1,h1,h2⟩:=he;exact⟨e1,abQ h1 (acd h2 hh),h2⟩)|copy=>(simp only at he⊢;rw[hargs];exact abX he hh)|max=>(simp only at he⊢;rw[hargs];exact he)|min=>(simp only at he⊢;rw[hargs];exact he)|_=>cases he)|value cN=>(rw[hc]at he;simp only at he⊢;rw[get cN (by simp[Call.operands,hc])];split at he;·{rename_i x hx;rw[hargs];exact abV he hh};rename_i hx;split at he;·{rename_i p hp;rw[hargs];exact abZ he hh};·rename_i hp;split at he;·{rename_i htk;rw[AC htk];cases cN with|func k=>(simp only at he⊢;rw[hargs];exact abW he hh)|_=>cases he};·rename_i htk;rw[Do htk,hargs];exact abU he hh)|invoke r n=>rw[hc]at he;cases he)|_=>rw[ho]at he;cases he
end
end Go.Ab
