import Derived.Test.YtbbhbdlljfffdaaGreatDoorAbReg2
open List renaming mem_cons_self->Do,mem_cons_of_mem->Ha,mem_append_left->Hc,mem_cons->Hm,not_mem_nil->Hn,append_nil->H0,map_congr_left->H1
open Option renaming map_eq_some_iff->GE,bind_eq_some_iff->GT,map_some->Hd,bind_some->Hk
open Option.some renaming injEq->AC
open Prod.mk renaming injEq->Hb
set_option linter.all false
namespace Go.Ab
open Go
variable{L L':Id->Option (Option Rows)}
theorem EW:∀{l:List (Id×Option Rows)},(∀x∈l,L' x.1=L x.1)->fresh L' l=fresh L l|[],_=>rfl|x::l,h=>by have ih:=EW fun y hy=>h y (Ha _ hy);unfold fresh at ih|-;simp only[List.all_cons,ih,h x (Do ..)]
theorem Ku{x:U}{r:Rows×List Id}(h:rowsOf L x=some r)(hh:∀id∈r.2,L' id=L id):rowsOf L' x=some r:=by
 cases x<;>simp only[rowsOf]at h|-<;>try exact h
 rename_i id off len
 split at h
 ·rename_i rs hid
  split at h
  ·rename_i hc
   simp only[AC]at h;subst h
   rw[hh id (by simp),hid]
   simp only[hc,if_true]
  ·cases h
 ·cases h
def tC(p p':(U->Option (U×List Id)))(L L':Id->Option (Option Rows)):Prop:=∀a x,p a=some x->(∀id∈x.2,L' id=L id)->p' a=some x
theorem ER{p p':U->Option (U×List Id)}(hp:tC p p' L L'):∀{cs:List U}{x},fc p cs=some x->(∀id∈x.2,L' id=L id)->fc p' cs=some x|[],x,h,_=>h|c::cs,x,h,hh=>by simp only[fc,GT,GE]at h|-;obtain⟨y,hy,z,hz,rfl⟩:=h;exact⟨y,hp _ _ hy fun id hid=>hh id (List.mem_append.2 (.inl hid)),z,ER hp hz fun id hid=>hh id (List.mem_append.2 (.inr hid)),rfl⟩
theorem zf{p p':U->Option (U×List Id)}(hp:tC p p' L L'){cs:List U}{x}(h:lO p cs=some x)(hh:∀id∈x.2,L' id=L id):lO p' cs=some x:=by unfold lO at h|-;split at h;·{rename_i hc;simpa[hc]using h};·rename_i hc;simp only[hc];exact ER hp h hh
theorem Tp{p p':U->Option (U×List Id)}(hp:tC p p' L L'):∀{rs:Rows}{x},fR (lO p) rs=some x->(∀id∈x.2,L' id=L id)->fR (lO p') rs=some x|[],x,h,_=>h|c::cs,x,h,hh=>by simp only[fR,GT,GE]at h|-;obtain⟨y,hy,z,hz,rfl⟩:=h;exact⟨y,zf hp hy fun id hid=>hh id (List.mem_append.2 (.inl hid)),z,Tp hp hz fun id hid=>hh id (List.mem_append.2 (.inr hid)),rfl⟩
theorem Sb{p p':U->Option (U×List Id)}(hp:tC p p' L L'){rs:Rows}{x}(h:qW p rs=some x)(hh:∀id∈x.2,L' id=L id):qW p' rs=some x:=by unfold qW at h|-;split at h;·{rename_i hc;simpa[hc]using h};·rename_i hc;simp only[hc];exact Tp hp h hh
theorem LD:∀n,tC (cV L n) (cV L' n) L L'|0=>fun a x h=>by{simp[cV]at h}|n+1=>fun a x h hh=>by have ih:=LD n;cases a with|rs id off len=>(simp only[cV]at h|-;split at h;·{rename_i rs hid;split at h;·{rename_i hc;simp only[GE]at h;obtain⟨y,hy,rfl⟩:=h;rw[hh id (Do ..),hid];simp only[hc,if_true,Sb ih hy fun id hid=>hh id (Ha _ hid),Hd]};·cases h};·cases h)|mp id row off=>(simp only[cV]at h|-;split at h;·{rename_i rs hid;split at h;·{rename_i r hrow;split at h;·{rename_i hoff;simp only[GE]at h;obtain⟨y,hy,rfl⟩:=h;rw[hh id (Do ..),hid];simp only[hrow,hoff,if_true,zf ih hy fun id hid=>hh id (Ha _ hid),Hd]};·cases h};·cases h};·cases h)|agg cs=>(simp only[cV,GE]at h|-;obtain⟨y,hy,rfl⟩:=h;exact⟨y,zf ih hy hh,rfl⟩)|aI cs=>(simp only[cV,GE]at h|-;obtain⟨y,hy,rfl⟩:=h;exact⟨y,zf ih hy hh,rfl⟩)|fn k a b=>(simp only[cV,GE,GT]at h|-;obtain⟨y,hy,z,hz,rfl⟩:=h;exact⟨y,zf ih hy fun id hid=>hh id (List.mem_append.2 (.inl hid)),z,zf ih hz fun id hid=>hh id (List.mem_append.2 (.inr hid)),rfl⟩)|own rs=>(simp only[cV,GE]at h|-;obtain⟨y,hy,rfl⟩:=h;exact⟨y,Sb ih hy hh,rfl⟩)|c7 cs=>(simp only[cV,GE]at h|-;obtain⟨y,hy,rfl⟩:=h;exact⟨y,zf ih hy hh,rfl⟩)|cB=>(simpa only[cV]using h)|dR g y=>(simpa only[cV]using h)|val u=>(simpa only[cV]using h)|nn=>(simpa only[cV]using h)|mr id=>(simp only[cV]at h|-;split at h;·{rename_i rs hid;simp only[AC]at h;subst h;rw[hh id (Do ..),hid]};·cases h)|fh rs=>(simpa only[cV]using h)|im rs=>(simpa only[cV]using h)|sl rows=>(simpa only[cV]using h)|bx cells=>(simpa only[cV]using h)|aP i rs=>(simpa only[cV]using h)|av u=>(simpa only[cV]using h)|aU=>simpa only[cV]using h
theorem Kc{p p':U->Option (U×List Id)}(hp:tC p p' L L'){cs:List U}{x}(h:jV p cs=some x)(hh:∀id∈x.2,L' id=L id):jV p' cs=some x:=by unfold jV at h|-;split at h;·{rename_i hc;simpa[hc]using h};·rename_i hc;simp only[hc];exact ER hp h hh
theorem Wa{p p':U->Option (U×List Id)}(hp:tC p p' L L'):∀{rs:Rows}{x},fR (jV p) rs=some x->(∀id∈x.2,L' id=L id)->fR (jV p') rs=some x|[],x,h,_=>h|c::cs,x,h,hh=>by simp only[fR,GT,GE]at h|-;obtain⟨y,hy,z,hz,rfl⟩:=h;exact⟨y,Kc hp hy fun id hid=>hh id (List.mem_append.2 (.inl hid)),z,Wa hp hz fun id hid=>hh id (List.mem_append.2 (.inr hid)),rfl⟩
theorem Wc{p p':U->Option (U×List Id)}(hp:tC p p' L L'){rs:Rows}{x}(h:rM p rs=some x)(hh:∀id∈x.2,L' id=L id):rM p' rs=some x:=by unfold rM at h|-;split at h;·{rename_i hc;simpa[hc]using h};·rename_i hc;simp only[hc];exact Wa hp h hh
theorem AQ:∀n,tC (pk L n) (pk L' n) L L'|0=>fun a x h=>by{simp[pk]at h}|n+1=>fun a x h hh=>by have ih:=AQ n;cases a with|rs id off len=>(simp only[pk]at h|-;split at h;·{rename_i rs hid;split at h;·{rename_i hc;simp only[GE]at h;obtain⟨y,hy,rfl⟩:=h;rw[hh id (Do ..),hid];simp only[hc];rw[Wc ih (by simpa using hy) fun id hid=>hh id (Ha _ hid)];rfl};·cases h};·cases h)|mp id row off=>(simp only[pk]at h|-;split at h;·{rename_i cs hid;split at h;·{rename_i hc;simp only[GE]at h;obtain⟨y,hy,rfl⟩:=h;rw[hh id (Do ..),hid];simp only[hc];rw[Kc ih hy fun id hid=>hh id (Ha _ hid)];rfl};·cases h};·cases h)|agg cs=>(simp only[pk,GE]at h|-;obtain⟨y,hy,rfl⟩:=h;exact⟨y,Kc ih hy hh,rfl⟩)|aI cs=>(simp only[pk,GE]at h|-;obtain⟨y,hy,rfl⟩:=h;exact⟨y,Kc ih hy hh,rfl⟩)|fn k a b=>(simpa only[pk]using h)|own rs=>(simpa only[pk]using h)|c7 cs=>(simpa only[pk]using h)|cB=>(simpa only[pk]using h)|dR g y=>(simpa only[pk]using h)|val u=>(simpa only[pk]using h)|nn=>(simpa only[pk]using h)|mr id=>(simp only[pk]at h|-;split at h;·{rename_i rs hid;simp only[AC]at h;subst h;rw[hh id (Do ..),hid]};·cases h)|fh rs=>(simpa only[pk]using h)|im rs=>(simpa only[pk]using h)|sl rows=>(simpa only[pk]using h)|bx cells=>(simpa only[pk]using h)|aP i rs=>(simpa only[pk]using h)|av u=>(simpa only[pk]using h)|aU=>simpa only[pk]using h
theorem Wq(o:Oper)(v:U)(rd:List Id)(wr:List (Id×Option Rows)):(put o v rd wr).rd=rd:=rfl
theorem O9(o:Oper)(v:U)(rd:List Id)(wr:List (Id×Option Rows)):(put o v rd wr).wr=wr:=rfl
section
variable{C:aE}{f:FuncId}{call:FuncId->List U->Option (U×List U)}{S S':ai}{o:Oper}{e:aZ}
def Agree(S S':ai)(e:aZ):Prop:=∀id,(id∈e.rd∨∃x∈e.wr,x.1=id)->S'.h id=S.h id
theorem afb{t:TypeId}(he:vk C f S o t=some e)(hh:Agree S S' e):vk C f S' o t=some e:=by
 unfold vk at he|-
 split at he
 ·rename_i cs d h1 h2
  split at he
  ·simp only[AC]at he;subst he
   rename_i hf
   try rw[h1,h2]
   simp only[hh [d] (.inr ⟨_,Do ..,rfl⟩),hf,if_true]
  ·cases he
 ·cases he
theorem afd{t:TypeId}{x:U}(he:sn C f S o t x=some e)(hh:Agree S S' e):sn C f S' o t x=some e:=by unfold sn at he|-;split at he;·{rename_i b d h1 h2;split at he;·{rename_i cs hcs;split at he;·{rename_i hz;rw[if_pos hz];exact he};·rename_i hz;rw[if_neg hz];split at he;·{rename_i hf;simp only[AC]at he;subst he;rw[hh [d] (.inr ⟨_,Do ..,rfl⟩),if_pos hf]};·cases he};·cases he};·cases he
theorem aff{t:TypeId}{n:Nat}{ps:List (Nat×U)}(he:vm C f S o t n ps=some e)(hh:Agree S S' e):vm C f S' o t n ps=some e:=by
 unfold vm at he|-
 split at he
 ·rename_i el d h1 h2
  split at he
  ·rename_i z b k hz hb hk
   split at he
   ·rename_i hc
    try rw[if_pos hc]
    split at he
    ·rename_i rows hr
     try rw[hr]
     split at he
     ·rename_i hfz
      rw[if_pos hfz];exact he
     ·rename_i hfz
      rw[if_neg hfz]
      split at he
      ·rename_i hf
       simp only[AC]at he;subst he
       rw[hh [d] (.inr ⟨_,Do ..,rfl⟩),if_pos hf]
      ·cases he
    ·cases he
   ·cases he
  ·cases he
 ·cases he
theorem afe{t:TypeId}{n:Nat}{ps:List (Nat×U)}(he:so C f S o t n ps=some e)(hh:Agree S S' e):so C f S' o t n ps=some e:=by unfold so at he|-;split at he;·{rename_i hc;rw[if_pos hc];unfold EC at he|-;split at he;·{rename_i rows d h1 h2;split at he;·{rename_i bA ids hp;split at he;·{rename_i hn;simp only[AC]at he;subst he;have:rM (pk S'.h 8) rows=some (bA,ids):=Wc (AQ 8) hp fun id hid=>hh id (.inl hid);simp only[h1,h2,this,hn,if_true]};·cases he};·cases he};·cases he};·rename_i hc;rw[if_neg hc];exact aff he hh
theorem afp{t:TypeId}{x y:U}(he:vo C S o t x y=some e)(hh:Agree S S' e):vo C S' o t x y=some e:=by
 unfold vo at he|-
 split at he
 ·rename_i el d l c h1 h2 h3 h4
  split at he
  ·rename_i z i hz hi
   split at he
   ·rename_i hc
    simp only[AC]at he;subst he
    try rw[h1,h2,h3,h4]
    try simp only[hz,hi]
    rw[hh [d] (.inr ⟨_,Do ..,rfl⟩),if_pos hc]
   ·cases he
  ·cases he
 ·cases he
theorem afq{t:TypeId}{r:Option Operand}(he:zq C S o t r=some e)(hh:Agree S S' e):zq C S' o t r=some e:=by
 unfold zq at he|-
 split at he
 ·rename_i d h1 h2
  split at he
  ·rename_i hc
   simp only[AC]at he;subst he
   try rw[h1,h2]
   try simp only
   rw[hh [d] (.inr ⟨_,Do ..,rfl⟩),if_pos hc]
  ·cases he
 ·cases he
theorem afo{t:TypeId}{x k:U}{ok:Bool}(he:zo C S o t x k ok=some e)(hh:Agree S S' e):zo C S' o t x k ok=some e:=by unfold zo at he|-;split at he;·{rename_i kind z rows ids kv h1 h2;obtain⟨r,hf,rfl⟩:=Option.map_eq_some_iff.1 he;have e2:FY S'.h x=some (rows,ids):=by{unfold FY at h2|-;split at h2;·{rename_i id;split at h2;·{rename_i bA hid;simp only[Option.some.injEq,Prod.mk.injEq]at h2;obtain⟨rfl,rfl⟩:=h2;rw[hh id (.inl (by rw[Wq];exact List.mem_cons_self ..)),hid]};·cases h2};·{exact h2};·{exact h2};·cases h2};rw[h1,e2];simp only[hf,Option.map_some]};·cases he
theorem Tv{t:TypeId}{x k v:U}(he:vp C S o t x k v=some e)(hh:Agree S S' e):vp C S' o t x k v=some e:=by
 unfold vp at he|-
 split at he
 ·rename_i kind z id kv pZ h1
  split at he
  ·rename_i rows hid
   split at he
   ·rename_i hc
    obtain⟨bA,hp,rfl⟩:=Option.map_eq_some_iff.1 he
    try rw[h1]
    try simp only
    rw[hh id (.inl (by rw[Wq];exact Do ..)),hid]
    simp only[if_pos hc,hp,Hd]
   ·cases he
  ·cases he
 ·cases he
theorem afr{t:TypeId}{x:U}{lo hi:Option (Option Int)}(he:su C S o t x lo hi=some e)(hh:Agree S S' e):su C S' o t x lo hi=some e:=by
 unfold su at he|-
 split at he
 ·rename_i el hu
  try rw[hu]
  try simp only
  split at he
  ·exact he
  ·rename_i id off len sz hs
   try rw[hs]
   try simp only
   split at he
   ·rename_i rows hid
    have hrd:id∈e.rd:=by
     simp only[GT]at he
     obtain⟨b,_,he⟩:=he
     split at he
     ·simp only[AC]at he;subst he;simp[put]
     ·cases he
    rw[hh id (.inl hrd),hid]
    exact he
   ·cases he
  ·cases he
 ·rename_i hu;try rw[hu]
  exact he
 ·cases he
theorem afk{t:TypeId}{x:U}{i:Option Int}(he:qg C S o t x i=some e)(hh:Agree S S' e):qg C S' o t x i=some e:=by
 unfold qg at he|-
 split at he
 ·rename_i el i' hu
  try rw[hu]
  try simp only
  split at he
  ·rename_i hs;try rw[hs]
   exact he
  ·rename_i n id off len hs
   try rw[hs]
   try simp only
   split at he
   ·rename_i hc
    rw[if_pos hc]
    split at he
    ·rename_i rows hid
     have hrd:id∈e.rd:=by
      simp only[GT]at he
      obtain⟨b,_,he⟩:=he
      split at he
      ·simp only[AC]at he;subst he;simp[put]
      ·cases he
     rw[hh id (.inl hrd),hid]
     exact he
    ·cases he
   ·cases he
  ·cases he
 ·rename_i hu;try rw[hu]
  exact he
 ·cases he
theorem afm{t:TypeId}{x:U}(he:mV C S o t x=some e)(hh:Agree S S' e):mV C S' o t x=some e:=by
 unfold mV at he|-
 split at he
 ·rename_i b n h1 h2
  try rw[h1,h2]
  try simp only
  split at he
  ·exact he
  ·rename_i id row off
   split at he
   ·rename_i rows hid
    obtain⟨r,hr,he⟩:=Option.bind_eq_some_iff.1 he
    split at he
    ·rename_i hc
     split at he
     ·rename_i hem
      have hrd:id∈e.rd:=by
       obtain⟨v,_,he⟩:=Option.map_eq_some_iff.1 he
       subst he;simp[put]
      rw[hh id (.inl hrd),hid]
      simp only[hr,Hk,hc,if_true,hem]
      exact he
     ·rename_i hem
      split at he
      ·rename_i hf
       have agU:=he
       obtain⟨v,_,he⟩:=Option.map_eq_some_iff.1 he
       have hrd:id∈e.rd:=by subst he;simp[put]
       have hwr:∀x∈(bV (jQ o) 0 ((r.drop off).take n)).2,S'.h x.1=S.h x.1:=fun x hx=>hh x.1 (.inr ⟨x,by subst he;simp[put,hx],rfl⟩)
       rw[hh id (.inl hrd),hid]
       simp only[hr,Hk,hc,if_true,hem,EW hwr,hf]
       exact agU
      ·cases he
    ·cases he
   ·cases he
  ·cases he
 ·cases he
theorem afs{t:TypeId}{ao:Operand}{x y:U}(he:qi C f S true o t ao x y=some e)(hh:Agree S S' e):qi C f S' true o t ao x y=some e:=by
 unfold qi at he|-
 split at he
 ·rename_i b n h1 h2
  try rw[h1,h2]
  try simp only
  split at he
  ·rename_i id row off cs hcs
   try rw[hcs]
   try simp only
   split at he
   ·cases he
   ·rename_i hl
    rw[if_neg hl]
    split at he
    ·rename_i rows hid
     have hrd:id∈e.rd:=by
      obtain⟨r,hr,he⟩:=Option.bind_eq_some_iff.1 he
      split at he
      ·split at he
       ·split at he
        ·simp only[AC]at he;subst he;simp
        ·cases he
       ·split at he
        ·simp only[AC]at he;subst he;simp[put]
        ·cases he
      ·cases he
     rw[hh id (.inl hrd),hid]
     exact he
    ·cases he
  ·cases he
 ·cases he
theorem afw{e1:aZ}(h:sx C f o e1=some e)(hh:Agree S S' e):Agree S S' e1:=by unfold sx at h;split at h;·{split at h;·{rename_i hw;split at h;·{rename_i hc;obtain⟨rfl,_⟩:=hc;simp only[AC]at h;subst h;intro id hid;refine hh id (hid.imp (fun h=>h) fun⟨x,hx,e⟩=> ?_);rw[hw]at hx;simp only[Hm,Hn,or_false]at hx;rcases hx with rfl|rfl;·{exact⟨_,Do ..,e⟩};·exact⟨_,Ha _ (Do ..),e⟩};·cases h};·{rename_i hw;split at h;·{rename_i hc;obtain⟨rfl,_⟩:=hc;simp only[AC]at h;subst h;intro id hid;refine hh id (hid.imp (fun h=>h) fun⟨x,hx,e⟩=> ?_);rw[hw]at hx;simp only[Hm,Hn,or_false]at hx;obtain rfl:=hx;exact⟨_,Do ..,e⟩};·cases h};·cases h};·simp only[AC]at h;subst h;exact hh
theorem afc{ts:Array TypeId}{xs:List U}(he:nK C S o ts xs=some e)(hh:Agree S S' e):nK C S' o ts xs=some e:=by
 unfold nK at he|-
 split at he
 ·rename_i x y t el h1 h2
  try rw[h1,h2]
  try simp only
  unfold By at he|-
  split at he
  ·rename_i ad8 d hu hd
   try rw[hu,hd]
   try simp only
   split at he
   ·rename_i i apb i1 auI i2 hi hx hy
    split at he
    ·rename_i hc
     unfold o4 at he
     have facts:(∀id∈i1++i2,id∈e.rd)∧(∃r,([d],r)∈e.wr):=by
      split at he
      ·split at he
       ·split at he
        ·simp only[AC]at he;subst he
         exact⟨fun id h=>h,_,Ha _ (Do ..)⟩
        ·cases he
       ·cases he
      ·simp only[AC]at he;subst he
       exact⟨fun id h=>h,_,Do ..⟩
      ·cases he
     obtain⟨hrd,r,hwr⟩:=facts
     have ex:=Ku (L':=S'.h) hx fun id hid=>hh id (.inl (hrd id (List.mem_append.2 (.inl hid))))
     have IT:=Ku (L':=S'.h) hy fun id hid=>hh id (.inl (hrd id (List.mem_append.2 (.inr hid))))
     try rw[hi,ex,IT]
     try simp only
     rw[hh [d] (.inr ⟨_,hwr,rfl⟩),if_pos hc]
     unfold o4
     split at he
     ·rename_i id off len
      have hid:id∈i1:=by
       simp only[rowsOf]at hx
       split at hx
       ·split at hx
        ·simp only[AC,Hb]at hx
         rw[<-hx.2];simp
        ·cases hx
       ·cases hx
      try simp only
      rw[hh id (.inl (hrd id (List.mem_append.2 (.inl hid))))]
      exact he
     ·exact he
     ·cases he
    ·cases he
   ·cases he
  ·cases he
 ·rename_i x y t k h1 h2
  try rw[h1,h2]
  try simp only
  unfold Bz at he|-
  split at he
  ·rename_i ad8 d nn hu hd vI
   try rw[hu,hd,vI]
   try simp only
   split at he
   ·rename_i i z apb i1 hi hz hx
    split at he
    ·rename_i hc
     unfold o4 at he
     have facts:(∀id∈i1,id∈e.rd)∧(∃r,([d],r)∈e.wr):=by
      split at he
      ·split at he
       ·split at he
        ·simp only[AC]at he;subst he
         exact⟨fun id h=>by simp only[put,H0];exact h,_,Ha _ (Do ..)⟩
        ·cases he
       ·cases he
      ·simp only[AC]at he;subst he
       exact⟨fun id h=>by simp only[put,H0];exact h,_,Do ..⟩
      ·cases he
     obtain⟨hrd,r,hwr⟩:=facts
     have ex:=Ku (L':=S'.h) hx fun id hid=>hh id (.inl (hrd id hid))
     try rw[hi,hz,ex]
     try simp only
     rw[hh [d] (.inr ⟨_,hwr,rfl⟩),if_pos hc]
     unfold o4
     split at he
     ·rename_i id off len
      have hid:id∈i1:=by
       simp only[rowsOf]at hx
       split at hx
       ·split at hx
        ·simp only[AC,Hb]at hx
         rw[<-hx.2];simp
        ·cases hx
       ·cases hx
      try simp only
      rw[hh id (.inl (hrd id hid))]
      exact he
     ·exact he
     ·cases he
    ·cases he
   ·cases he
  ·cases he
 ·cases he
theorem afl{p:Nat×Nat}{xs:List U}(he:xl S o p xs=some e)(hh:Agree S S' e):xl S' o p xs=some e:=by unfold xl at he|-;split at he;·{rename_i id row off;split at he;·{rename_i rows hid;split at he;·{rename_i kf off2 len hcell;split at he;·{rename_i fN Fp;split at he;·{rename_i hc;simp only[AC]at he;subst he;have e1:S'.h id=S.h id:=hh id (.inl (by simp[put]));have e2:S'.h kf=S.h kf:=hh kf (.inl (by simp[put]));simp only[e1,hid,hcell,e2,Fp,hc,if_true]};·cases he};·cases he};·cases he};·cases he};·{exact he};·cases he
theorem afj{ts:Array TypeId}{xs:List U}(he:zn C S o ts xs=some e)(hh:Agree S S' e):zn C S' o ts xs=some e:=by unfold zn at he|-;split at he;·{rename_i x y el h1;split at he;·{rename_i id off len ys i2 hsz FI;split at he;·{rename_i rows hid;split at he;·{rename_i hc;simp only[AC]at he;subst he;have e1:S'.h id=S.h id:=hh id (.inl (by simp[put]));have e2:rowsOf S'.h y=some (ys,i2):=Ku FI (fun i hi=>hh i (.inl (by simp[put];exact .inr hi)));simp only[hsz,e2,e1,hid,hc,if_true]};·cases he};·cases he};·cases he};·cases he
theorem afn{as:List U}(he:Ar S o as=some e)(hh:Agree S S' e):Ar S' o as=some e:=by unfold Ar at he|-;split at he;·{split at he;·{rename_i hc hid;split at he;·{rename_i h2 hk;split at he;·{rename_i hr;split at he;·{rename_i iK;simp only[AC]at he;subst he;have e1:=hh _ (.inl (show _∈[_,_]from Do ..));have e2:=hh _ (.inl (show _∈[_,_]from Ha _ (Do ..)));simp only[hc,e1,hid,e2,h2,hk,hr,iK,and_self,if_true]};·cases he};·cases he};·cases he};·cases he};·cases he
theorem afg{fv:U}{args:List U}(he:tI C f call S o fv args=some e)(hh:Agree S S' e):tI C f call S' o fv args=some e:=by
 unfold tI at he|-
 split at he
 ·rename_i k first caps
  try simp only
  by_cases hlk:C.look k=true
  ·rw[if_pos hlk]at he|-
   exact afn he hh
  rw[if_neg hlk]at he|-
  split at he
  ·rename_i as seen d MX bB
   split at he
   ·rename_i r bU
    generalize hr':(if fA C f o.dst=true then ey r else r)=r' at he
    split at he
    ·cases he
    ·rename_i hm
     split at he
     ·rename_i hf
      simp only[AC]at he;subst he
      have hb:tH S'.h (first++args++caps)=some (as,seen):=ER (LD 9) MX fun id hid=>hh id (.inl hid)
      have hfr:fresh S'.h (imp [d] r').2=fresh S.h (imp [d] r').2:=EW fun x hx=>hh x.1 (.inr ⟨x,hx,rfl⟩)
      rw[hb,bB]
      simp only[bU]
      rw[<-bB,hr',if_neg hm,hfr,if_pos hf]
     ·cases he
   ·cases he
  ·cases he
 ·cases he
theorem XL:∀{eO:List U}{ms:List Nat}{as:List U}{seen tk ez:List Id},lI S.h ms eO=some (as,seen,tk,ez)->(∀id∈seen,S'.h id=S.h id)->(∀id∈tk++ez,S'.h id=S.h id)->lI S'.h ms eO=some (as,seen,tk,ez)|[],ms,as,seen,tk,ez,hx,_,_=>hx|c::cs,ms,as,seen,tk,ez,hx,h1,h2=>by simp only[lI,GT]at hx|-;obtain⟨⟨ys,s1,t1,cn⟩,hy,hx⟩:=hx;refine⟨(ys,s1,t1,cn), ?_, ?_⟩;·{split at hx<;>·obtain⟨x,hpk,hx⟩:=Option.map_eq_some_iff.1 hx;simp only[Hb]at hx;obtain⟨rfl,rfl,rfl,rfl⟩:=hx;exact XL hy (fun id hid=>h1 id (by simp[hid])) (fun id hid=>h2 id (by rcases List.mem_append.1 hid with h|h<;>simp[h]))};·split at hx;·{rename_i hm;obtain⟨x,hpk,hx⟩:=Option.map_eq_some_iff.1 hx;simp only[Hb]at hx;obtain⟨rfl,rfl,rfl,rfl⟩:=hx;simp only[hm];rw[AQ 9 _ _ hpk fun id hid=>h2 id (by simp[hid])];rfl};·{rename_i hm;obtain⟨x,hpk,hx⟩:=Option.map_eq_some_iff.1 hx;simp only[Hb]at hx;obtain⟨rfl,rfl,rfl,rfl⟩:=hx;simp only[hm];rw[AQ 9 _ _ hpk fun id hid=>h2 id (by simp[hid])];rfl};·rename_i pE hm2;obtain⟨x,hpk,hx⟩:=Option.map_eq_some_iff.1 hx;simp only[Hb]at hx;obtain⟨rfl,rfl,rfl,rfl⟩:=hx;rw[LD 9 _ _ hpk fun id hid=>h1 id (by simp[hid])];rfl
theorem WG{a b:U}{l:List (Id×Option Rows)}(h:mb S.h a b=some l)(hh:∀x∈l,S'.h x.1=S.h x.1):mb S'.h a b=some l:=by unfold mb at h;split at h;·{rename_i id cs;split at h;·{rename_i old hid;split at h;·{rename_i hc;simp only[AC]at h;subst h;have:=hh _ (Do ..);simp only[mb,this,hid,hc,if_true]};·cases h};·cases h};·{rename_i id n rows;split at h;·{rename_i o1 os hid;split at h;·{rename_i hc;simp only[AC]at h;subst h;have:=hh _ (Do ..);simp only[mb,this,hid];rw[if_pos hc]};·cases h};·{rename_i hid;split at h;·{rename_i hc;simp only[AC]at h;subst h;have:=hh _ (Do ..);simp only[mb,this,hid];rw[if_pos hc]};·cases h};·cases h};·{rename_i id rows;split at h;·{rename_i yB hid;simp only[AC]at h;subst h;have:=hh _ (Do ..);simp only[mb,this,hid]};·cases h};·{cases h};·{cases h};·{cases h};·{cases h};·rename_i g1 g2 g3 g4 _ _ _;simp only[AC]at h;subst h;unfold mb;split<;>first|rfl|exact(g1 _ _ _ rfl).elim|exact(g2 _ _ _ rfl).elim|exact(g3 _ rfl).elim|exact(g4 _ rfl).elim
theorem WJ:∀{as bs:List U}{l:List (Id×Option Rows)},k4 S.h as bs=some l->(∀x∈l,S'.h x.1=S.h x.1)->k4 S'.h as bs=some l|[],[],l,h,_=>h|[],_::_,l,h,_=>by{simp[k4]at h}|_::_,[],l,h,_=>by{simp[k4]at h}|a::as,b::bs,l,h,hh=>by simp only[k4]at h|-;split at h;·{rename_i x y h1 h2;simp only[AC]at h;subst h;rw[WG h1 fun x hx=>hh x (List.mem_append.2 (.inl hx)),WJ h2 fun x hx=>hh x (List.mem_append.2 (.inr hx))]};·cases h
theorem amA{a b:U}{l:List (Id×Option Rows)}(h:wE S.h a b=some l)(hh:∀x∈l,S'.h x.1=S.h x.1):wE S'.h a b=some l:=by unfold wE at h|-;split at h;·{exact WJ h hh};·exact WG h hh
theorem WM{args:List U}:∀{cM:List Nat}{outs:List U}{l:List (Id×Option Rows)},js S.h args cM outs=some l->(∀x∈l,S'.h x.1=S.h x.1)->js S'.h args cM outs=some l|[],[],l,h,_=>h|[],_::_,l,h,_=>by{simp[js]at h}|_::_,[],l,h,_=>by{simp[js]at h}|j::cM,b::outs,l,h,hh=>by simp only[js]at h|-;split at h;·{rename_i a y h1 h2;split at h;·{rename_i x h3;simp only[AC]at h;subst h;rw[h1,WM h2 fun x hx=>hh x (List.mem_append.2 (.inr hx))];simp only[amA h3 fun x hx=>hh x (List.mem_append.2 (.inl hx))]};·cases h};·cases h
theorem afi{k:FuncId}{args:List U}(he:tJ C f call S o k args=some e)(hh:Agree S S' e):tJ C f call S' o k args=some e:=by unfold tJ at he|-;split at he;·{rename_i as seen tk ez d htk bB;split at he;·{rename_i r outs bU;generalize hr':(if fA C f o.dst=true then ey r else r)=r' at he;split at he;·{rename_i back gH;split at he;·{rename_i Jc;simp only[AC]at he;subst he;have hw:∀x,(x∈(imp [d] r').2∨x∈back∨x∈(tk++ez).map fun i=>((i,none):Id×Option Rows))->S'.h x.1=S.h x.1:=fun x hx=>hh x.1 (.inr ⟨x,by rw[O9];rcases hx with hx|hx|hx;·{exact List.mem_append.2 (.inl hx)};·{exact List.mem_append.2 (.inr (List.mem_append.2 (.inl hx)))};·exact List.mem_append.2 (.inr (List.mem_append.2 (.inr hx))),rfl⟩);have e1:lI S'.h (C.CH k) args=some (as,seen,tk,ez):=XL htk (fun id hid=>hh id (.inl hid)) fun id hid=>hw (id,none) (.inr (.inr (List.mem_map.2 ⟨id,hid,rfl⟩)));have e2:js S'.h args (C.cM k) outs=some back:=WM gH fun x hx=>hw x (.inr (.inl hx));have hfr:fresh S'.h (imp [d] r').2=fresh S.h (imp [d] r').2:=EW fun x hx=>hw x (.inl hx);rw[e1];simp only[bB];simp only[bB]at hr';simp only[bU,hr',e2,hfr,if_pos Jc]};·cases he};·cases he};·cases he};·cases he
end
open Go
variable{L L':Id->Option (Option Rows)}
section
variable{C:aE}{f:FuncId}{call:FuncId->List U->Option (U×List U)}{S S':ai}{o:Oper}{e:aZ}
def tmpsOf(o:Oper):List Nat:=o.op.operands.toList.filterMap fun| .tmp t=>some t|_=>none
theorem ac9{keep:Id->Bool}:tC (iV L keep) (iV L' keep) L L':=fun a x h hh=>by cases a with|rs i off len=>(simp only[iV]at h|-;split at h;·{rename_i hk;rw[if_pos hk];exact h};·rename_i hk;rw[if_neg hk];exact AQ 8 _ _ h hh)|mp i off len=>(simp only[iV]at h|-;split at h;·{rename_i hk;rw[if_pos hk];exact h};·rename_i hk;rw[if_neg hk];exact AQ 8 _ _ h hh)|mr i=>(simp only[iV]at h|-;split at h;·{rename_i hk;rw[if_pos hk];exact h};·rename_i hk;rw[if_neg hk];exact AQ 8 _ _ h hh)|_=>exact h
theorem Tr{q q':List U->Option (List U×List Id)}(hq:∀r x,q r=some x->(∀id∈x.2,L' id=L id)->q' r=some x):∀{rs:Rows}{x},fR q rs=some x->(∀id∈x.2,L' id=L id)->fR q' rs=some x|[],x,h,_=>h|c::cs,x,h,hh=>by simp only[fR,GT,GE]at h|-;obtain⟨y,hy,z,hz,rfl⟩:=h;exact⟨y,hq _ _ hy fun id hid=>hh id (List.mem_append.2 (.inl hid)),z,Tr hq hz fun id hid=>hh id (List.mem_append.2 (.inr hid)),rfl⟩
theorem adf{keep:Id->Bool}(r:List U)(x)(hy:mS L keep r=some x)(hh:∀id∈x.2,L' id=L id):mS L' keep r=some x:=by unfold mS at hy|-;split at hy;·{rename_i hc;rw[if_pos hc];exact hy};·rename_i hc;rw[if_neg hc];exact ER ac9 hy hh
theorem adb{keep:Id->Bool}{rs:Rows}{x}(h:fR (mS L keep) rs=some x)(hh:∀id∈x.2,L' id=L id):fR (mS L' keep) rs=some x:=Tr adf h hh
theorem VM{l:List (Id×Id)}:∀{r:List (Id×Id)}{x},jm L l r=some x->(∀i∈r.map (·.1),L' i=L i)->(∀i∈x.2,L' i=L i)->jm L' l r=some x|[],x,h,_,_=>h|(o,k)::r,x,h,h1,h2=>by simp only[jm]at h|-;rw[h1 o (by simp)];split at h;·{simp only[GT,GE]at h|-;obtain⟨y,hy,bA,hr,z,hz,rfl⟩:=h;refine⟨y, ?_,bA,hr,z,VM hz (fun i hi=>h1 i (by simp only[List.map_cons];exact Ha _ hi)) (fun i hi=>h2 i (List.mem_append.2 (.inr hi))),rfl⟩;unfold o6 at hy|-;split at hy;·{rename_i hc;rw[if_pos hc];exact hy};·rename_i hc;rw[if_neg hc];exact adb hy fun i hi=>h2 i (List.mem_append.2 (.inl hi))};·cases h
theorem BI:∀(n:Nat)(b:Bool)(p:Id)(j:Nat)(acc:List (Id×Id))(as:List U),∀x∈acc,x∈eE L n b p j acc as|0,_,_,_,_,_,x,hx=>hx|_+1,_,_,_,_,[],x,hx=>hx|n+1,b,p,j,acc,a::as,x,hx=>by unfold eE;apply BI n b p (j+1);cases a with|rs i off len=>(dsimp only;split;exact hx;exact Hc _ hx)|mr i=>(dsimp only;split;exact hx;exact Hc _ hx)|mp i row off=>(dsimp only;split;·{exact hx};·split;·{exact BI n _ _ _ _ _ x (Hc _ hx)};·exact Hc _ hx)|agg cs=>(exact BI n _ _ _ _ _ x hx)|fn k xs cs=>(exact BI n _ _ _ _ _ x hx)|_=>exact hx
theorem adA(n:Nat)(b:Bool)(p:Id)(j:Nat)(acc:List (Id×Id))(a:U)(as:List U):∃l:(Id->Option (Option Rows))->List (Id×Id),∀L,eE L (n+1) b p j acc (a::as)=eE L n b p (j+1) (l L) as∧l L=(match a with| .rs i _ _=>if !b||(hG acc i).isSome then acc else acc++[(i,j::p)]| .mr i=>if !b||(hG acc i).isSome then acc else acc++[(i,j::p)]| .mp i _ _=>if(hG acc i).isSome then acc else(match L i with|some (some [cs])=>eE L n false (j::p) 0 (acc++[(i,j::p)]) cs|_=>acc++[(i,j::p)])| .agg cs=>eE L n b (j::p) 0 acc cs| .fn _ as cs=>eE L n true (j::p) 0 acc (as++cs)|_=>acc):=⟨_,fun L=>⟨by cases a<;>rw[eE]<;>first|rfl|(intros;contradiction)|(intros;rename_i h;cases h),rfl⟩⟩
theorem Es:∀(n:Nat)(b:Bool)(p:Id)(j:Nat)(acc:List (Id×Id))(as:List U),(∀i∈(eE L n b p j acc as).map (·.1),L' i=L i)->eE L' n b p j acc as=eE L n b p j acc as|0,_,_,_,_,_,_=>rfl|_+1,_,_,_,_,[],_=>rfl|n+1,b,p,j,acc,a::as,h=>by obtain⟨l,hl⟩:=adA n b p j acc a as;rw[(hl L).1]at h|-;rw[(hl L').1];have sub:∀i∈(l L).map (·.1),L' i=L i:=fun i hi=>by{obtain⟨x,hx,rfl⟩:=List.mem_map.1 hi;exact h _ (List.mem_map.2 ⟨x,BI n b p (j+1) _ as x hx,rfl⟩)};have e:l L'=l L:=by{have h1:=(hl L).2;rw[h1]at sub;rw[(hl L').2,h1];clear h1 h hl l;cases a with|mp i row off=>(dsimp only at sub|-;by_cases hs:(hG acc i).isSome=true;·{rw[if_pos hs,if_pos hs]};·rw[if_neg hs]at sub;rw[if_neg hs,if_neg hs];have hi:L' i=L i:=by{refine sub i ?_;split;·{exact List.mem_map.2 ⟨(i,j::p),BI n _ _ _ _ _ _ (List.mem_append_right _ (List.mem_singleton.2 rfl)),rfl⟩};·exact List.mem_map.2 ⟨(i,j::p),List.mem_append_right _ (List.mem_singleton.2 rfl),rfl⟩};rw[hi];split;·{rename_i cs hcs;rw[hcs]at sub;exact Es n false (j::p) 0 _ cs sub};·rfl)|agg cs=>(exact Es n b (j::p) 0 _ cs sub)|fn k xs cs=>(exact Es n true (j::p) 0 _ (xs++cs) sub)|_=>rfl};rw[e];exact Es n b p (j+1) _ as h
theorem TB{k:FuncId}{args:List U}{x:Bi}(h:pe call L k args=some x)(h1:∀i∈x.l.map (·.1),L' i=L i)(h2:∀i∈x.gone,L' i=L i):pe call L' k args=some x:=by have hl:x.l=eE L 60 true [jj] 0 [] args:=by{unfold pe BZ at h;split at h;·{split at h;·{split at h;·{obtain⟨back,_,rfl⟩:=Option.map_eq_some_iff.1 h;rfl};·cases h};·cases h};·cases h};obtain⟨obs,outs,ho,_⟩:=B0 h;unfold pe at h|-;rw[Es 60 true [jj] 0 [] args (by rw[<-hl];exact h1)];unfold BZ at h|-;rw[hl]at ho;rw[ho]at h;rw[VM ho (by rw[<-hl];exact h1) h2];exact h
theorem afh{k:FuncId}{args:List U}(he:qX C f call S o k args=some e)(hh:Agree S S' e):qX C f call S' o k args=some e:=by unfold qX at he|-;simp only[GT]at he|-;obtain⟨x,hx,he⟩:=he;split at he;·{cases he};·rename_i hp;generalize vL:(if fA C f o.dst=true then(if flat x.r=true then ey x.r else .aU)else x.r)=rr at he;split at he;·{rename_i hf;simp only[AC]at he;subst he;have iJ:iU S'.h x.back=iU S.h x.back:=by{obtain⟨_,_,_,_,hb,_⟩:=B0 hx;have hbk:=(r9 hb).1;unfold iU;refine List.filter_congr fun b hb=> ?_;have:S'.h b.1=S.h b.1:=hh b.1 (.inl (by show b.1∈x.l.map (·.1);rw[<-hbk];exact List.mem_map.2 ⟨b,hb,rfl⟩));unfold tg;rw[this]};refine⟨x,TB hx (fun i hi=>hh i (.inl hi)) (fun i hi=>hh i (.inr ⟨(i,none), ?_,rfl⟩)), ?_⟩;·{simp only[O9];exact List.mem_append_right _ (List.mem_append_right _ (List.mem_map.2 ⟨i,hi,rfl⟩))};·rw[if_neg hp];simp only[vL,iJ];rw[EW (L':=S'.h) (L:=S.h) fun y hy=>hh y.1 (.inr ⟨y,by simp only[O9];exact List.mem_append_left _ hy,rfl⟩),if_pos hf]};·cases he
theorem Ty(hs:∀t∈tmpsOf o,S'.t t=S.t t){x:Operand}(hx:x∈o.op.operands.toList):S'.get C x=S.get C x:=by cases x with|tmp t=>(exact hs t (List.mem_filterMap.2 ⟨.tmp t,hx,rfl⟩))|_=>rfl
theorem aes(he:bP C f call S true o=some e)(hs:∀t∈tmpsOf o,S'.t t=S.t t)(hh:Agree S S' e):bP C f call S' true o=some e:=by have get:∀x∈o.op.operands.toList,S'.get C x=S.get C x:=fun x hx=>Ty hs hx;have zA:∀xs:List Operand,(∀x∈xs,x∈o.op.operands.toList)->(xs.map fun x=>un true (S'.get C x))=xs.map fun x=>un true (S.get C x):=fun xs h=>H1 fun x hx=>by{rw[get x (h x hx)]};have BY:∀xs:List (Nat×Operand),(∀x∈xs,x.2∈o.op.operands.toList)->(xs.map fun p=>(p.1,un true (S'.get C p.2)))=xs.map fun p=>(p.1,un true (S.get C p.2)):=fun xs h=>H1 fun x hx=>by{rw[get x.2 (h x hx)]};unfold bP at he|-;cases ho:o.op with|move x=>(rw[ho]at he get;simp only[Op.operands]at he get|-;rw[get x (by simp)];exact he)|assign x=>(rw[ho]at he get;simp only[Op.operands]at he get|-;rw[get x (by simp)];exact he)|pick c x y=>(rw[ho]at he get;simp only[Op.operands]at he get|-;rw[get c (by simp),get x (by simp),get y (by simp)];exact he)|alloc t=>(rw[ho]at he;exact afb he hh)|box t x=>(rw[ho]at he get;simp only[Op.operands]at he get|-;rw[get x (by simp)];exact afd he hh)|build t ps=>(rw[ho]at he BY;simp only[Op.operands]at he BY|-;rw[BY ps.toList (fun x hx=>by simp;exact⟨x.1,by simpa using hx⟩)];exact he)|buildSlice t n ps=>(rw[ho]at he BY;simp only[Op.operands]at he BY|-;rw[BY ps.toList (fun x hx=>by simp;exact⟨x.1,by simpa using hx⟩)];exact afe he hh)|load t x=>(rw[ho]at he get;simp only[Op.operands]at he get|-;rw[get x (by simp)];exact afm he hh)|store t x y=>(rw[ho]at he get;simp only[Op.operands]at he get|-;rw[get x (by simp),get y (by simp)];exact afs he hh)|nilCheck x=>(rw[ho]at he get;simp only[Op.operands]at he get|-;rw[get x (by simp)];exact he)|binOp op t x y u=>(rw[ho]at he get;simp only[Op.operands]at he get|-;rw[get x (by simp),get y (by simp)];exact he)|unOp op t x=>(rw[ho]at he get;simp only[Op.operands]at he get|-;rw[get x (by simp)];exact he)|convert s t x=>(rw[ho]at he get;simp only[Op.operands]at he get|-;rw[get x (by simp)];exact he)|makeInterface t x=>(rw[ho]at he get;simp only[Op.operands]at he get|-;rw[get x (by simp)];exact he)|makeFunc k xs ys=>(rw[ho]at he zA;simp only[Op.operands]at he zA|-;rw[zA xs.toList (fun x hx=>by simp;exact .inl (by simpa using hx)),zA ys.toList (fun x hx=>by simp;exact .inr (by simpa using hx))];exact he)|makeSlice t x y=>(rw[ho]at he get;simp only[Op.operands]at he get|-;rw[get x (by simp),get y (by simp)];exact afp he hh)|slice t x lo hi mx=>(rw[ho]at he get;simp only[Op.operands]at he get|-;split at he;·{cases he};·rename_i hm;rw[if_neg hm,get x (by simp)];have e1:(lo.map fun y=>e5 (un true (S'.get C y)))=lo.map fun y=>e5 (un true (S.get C y)):=by{cases lo with|none=>(rfl)|some y=>simp only[Option.map_some];rw[get y (by simp)]};have e2:(hi.map fun y=>e5 (un true (S'.get C y)))=hi.map fun y=>e5 (un true (S.get C y)):=by{cases hi with|none=>(rfl)|some y=>simp only[Option.map_some];rw[get y (by simp)]};rw[e1,e2];exact afr he hh)|fieldAddr s x i=>(rw[ho]at he get;simp only[Op.operands]at he get|-;rw[get x (by simp)];exact he)|field s x i=>(rw[ho]at he get;simp only[Op.operands]at he get|-;rw[get x (by simp)];exact he)|indexAddr t x y=>(rw[ho]at he get;simp only[Op.operands]at he get|-;rw[get x (by simp),get y (by simp)];exact afk he hh)|index t x y=>(rw[ho]at he get;simp only[Op.operands]at he get|-;rw[get x (by simp),get y (by simp)];exact he)|extract x i=>(rw[ho]at he get;simp only[Op.operands]at he get|-;rw[get x (by simp)];exact he)|typeAssert x xt at_ ok=>(rw[ho]at he get;simp only[Op.operands]at he get|-;rw[get x (by simp)];exact he)|makeMap t r=>(rw[ho]at he;exact afq he hh)|lookup t x y ok=>(rw[ho]at he get;simp only[Op.operands]at he get|-;rw[get x (by simp),get y (by simp)];exact afo he hh)|mapUpdate t x y z=>(rw[ho]at he get;simp only[Op.operands]at he get|-;rw[get x (by simp),get y (by simp),get z (by simp)];exact Tv he hh)|insert t x y z=>(rw[ho]at he get;simp only[Op.operands]at he get|-;rw[get x (by simp),get y (by simp),get z (by simp)];exact Tv he hh)|call c=>(rw[ho]at he get zA;simp only[Op.operands]at he get zA|-;have hargs:=zA c.args.toList (fun x hx=>by simp only[Call.operands];simp;exact .inr (by simpa using hx));cases hc:c.callee with|builtin b=>(rw[hc]at he;cases b with|len=>(simp only at he|-;rw[hargs];exact he)|append=>(simp only[GT]at he|-;rw[hargs];obtain⟨e1,h1,h2⟩:=he;exact⟨e1,afc h1 (afw h2 hh),h2⟩)|copy=>(simp only at he|-;rw[hargs];exact afj he hh)|max=>(simp only at he|-;rw[hargs];exact he)|min=>(simp only at he|-;rw[hargs];exact he)|_=>cases he)|value cD=>(rw[hc]at he;simp only at he|-;rw[get cD (by simp[Call.operands,hc])];split at he;·{rename_i x hx;rw[hargs];exact afh he hh};rename_i hx;split at he;·{rename_i p hp;rw[hargs];exact afl he hh};·rename_i hp;split at he;·{rename_i htk;rw[if_pos htk];cases cD with|func k=>(simp only at he|-;rw[hargs];exact afi he hh)|_=>cases he};·rename_i htk;rw[if_neg htk,hargs];exact afg he hh)|invoke r n=>rw[hc]at he;cases he)|_=>rw[ho]at he;cases he
end
end Go.Ab
