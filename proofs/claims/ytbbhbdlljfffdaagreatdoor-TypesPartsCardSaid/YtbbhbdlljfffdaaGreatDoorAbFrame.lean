import Derived.Test.YtbbhbdlljfffdaaGreatDoorAbReg2
open List renaming mem_cons_self→Do,mem_cons_of_mem→Ha,mem_append_left→Hc,mem_cons→Hm,not_mem_nil→Hn,append_nil→H0,map_congr_left→H1
open Option renaming map_eq_some_iff→GE,bind_eq_some_iff→GT,map_some→Hd,bind_some→Hk
open Option.some renaming injEq→AC
open Prod.mk renaming injEq→Hb
set_option linter.all false
namespace Go.Ab
open Go
variable{L L':Id→Option (Option Rows)}
theorem Bq:∀{l:List (Id×Option Rows)},(∀x∈l,L' x.1=L x.1)→fresh L' l=fresh L l|[],_=>rfl|x::l,h=>by have ih:=Bq fun y hy=>h y (Ha _ hy);unfold fresh at ih⊢;simp only[List.all_cons,ih,h x (Do ..)]
theorem Gm{x:U}{r:Rows×List Id}(h:rowsOf L x=some r)(hh:∀id∈r.2,L' id=L id):rowsOf L' x=some r:=by
 cases x<;>simp only[rowsOf]at h⊢<;>try exact h
 rename_i id off len
 split at h
 ·rename_i rs hid
  split at h
  ·rename_i hc
   simp only[AC]at h;subst h
   rw[hh id (by simp),hid]
   simp only[hc,if_true]
  ·cases h
 ·cases h
def qL(p p':(U→Option (U×List Id)))(L L':Id→Option (Option Rows)):Prop:=∀a x,p a=some x→(∀id∈x.2,L' id=L id)→p' a=some x
theorem Bm{p p':U→Option (U×List Id)}(hp:qL p p' L L'):∀{cs:List U}{x},dN p cs=some x→(∀id∈x.2,L' id=L id)→dN p' cs=some x|[],x,h,_=>h|c::cs,x,h,hh=>by simp only[dN,GT,GE]at h⊢;obtain⟨y,hy,z,hz,rfl⟩:=h;exact⟨y,hp _ _ hy fun id hid=>hh id (List.mem_append.2 (.inl hid)),z,Bm hp hz fun id hid=>hh id (List.mem_append.2 (.inr hid)),rfl⟩
theorem vT{p p':U→Option (U×List Id)}(hp:qL p p' L L'){cs:List U}{x}(h:iy p cs=some x)(hh:∀id∈x.2,L' id=L id):iy p' cs=some x:=by unfold iy at h⊢;split at h;·{rename_i hc;simpa[hc]using h};·rename_i hc;simp only[hc];exact Bm hp h hh
theorem Pa{p p':U→Option (U×List Id)}(hp:qL p p' L L'):∀{rs:Rows}{x},dO (iy p) rs=some x→(∀id∈x.2,L' id=L id)→dO (iy p') rs=some x|[],x,h,_=>h|c::cs,x,h,hh=>by simp only[dO,GT,GE]at h⊢;obtain⟨y,hy,z,hz,rfl⟩:=h;exact⟨y,vT hp hy fun id hid=>hh id (List.mem_append.2 (.inl hid)),z,Pa hp hz fun id hid=>hh id (List.mem_append.2 (.inr hid)),rfl⟩
theorem NG{p p':U→Option (U×List Id)}(hp:qL p p' L L'){rs:Rows}{x}(h:lp p rs=some x)(hh:∀id∈x.2,L' id=L id):lp p' rs=some x:=by unfold lp at h⊢;split at h;·{rename_i hc;simpa[hc]using h};·rename_i hc;simp only[hc];exact Pa hp h hh
theorem Hw:∀n,qL (b9 L n) (b9 L' n) L L'|0=>fun a x h=>by{simp[b9]at h}|n+1=>fun a x h hh=>by have ih:=Hw n;cases a with|rs id off len=>(simp only[b9]at h⊢;split at h;·{rename_i rs hid;split at h;·{rename_i hc;simp only[GE]at h;obtain⟨y,hy,rfl⟩:=h;rw[hh id (Do ..),hid];simp only[hc,if_true,NG ih hy fun id hid=>hh id (Ha _ hid),Hd]};·cases h};·cases h)|mp id row off=>(simp only[b9]at h⊢;split at h;·{rename_i rs hid;split at h;·{rename_i r hrow;split at h;·{rename_i hoff;simp only[GE]at h;obtain⟨y,hy,rfl⟩:=h;rw[hh id (Do ..),hid];simp only[hrow,hoff,if_true,vT ih hy fun id hid=>hh id (Ha _ hid),Hd]};·cases h};·cases h};·cases h)|agg cs=>(simp only[b9,GE]at h⊢;obtain⟨y,hy,rfl⟩:=h;exact⟨y,vT ih hy hh,rfl⟩)|aT cs=>(simp only[b9,GE]at h⊢;obtain⟨y,hy,rfl⟩:=h;exact⟨y,vT ih hy hh,rfl⟩)|fn k a b=>(simp only[b9,GE,GT]at h⊢;obtain⟨y,hy,z,hz,rfl⟩:=h;exact⟨y,vT ih hy fun id hid=>hh id (List.mem_append.2 (.inl hid)),z,vT ih hz fun id hid=>hh id (List.mem_append.2 (.inr hid)),rfl⟩)|own rs=>(simp only[b9,GE]at h⊢;obtain⟨y,hy,rfl⟩:=h;exact⟨y,NG ih hy hh,rfl⟩)|aU cs=>(simp only[b9,GE]at h⊢;obtain⟨y,hy,rfl⟩:=h;exact⟨y,vT ih hy hh,rfl⟩)|cu=>(simpa only[b9]using h)|c8 g y=>(simpa only[b9]using h)|val u=>(simpa only[b9]using h)|nn=>(simpa only[b9]using h)|mr id=>(simp only[b9]at h⊢;split at h;·{rename_i rs hid;simp only[AC]at h;subst h;rw[hh id (Do ..),hid]};·cases h)|ep rs=>(simpa only[b9]using h)|im rs=>(simpa only[b9]using h)|sl rows=>(simpa only[b9]using h)|aI cells=>(simpa only[b9]using h)|bf i rs=>(simpa only[b9]using h)|zR u=>(simpa only[b9]using h)|bp=>simpa only[b9]using h
theorem F7{p p':U→Option (U×List Id)}(hp:qL p p' L L'){cs:List U}{x}(h:gY p cs=some x)(hh:∀id∈x.2,L' id=L id):gY p' cs=some x:=by unfold gY at h⊢;split at h;·{rename_i hc;simpa[hc]using h};·rename_i hc;simp only[hc];exact Bm hp h hh
theorem R5{p p':U→Option (U×List Id)}(hp:qL p p' L L'):∀{rs:Rows}{x},dO (gY p) rs=some x→(∀id∈x.2,L' id=L id)→dO (gY p') rs=some x|[],x,h,_=>h|c::cs,x,h,hh=>by simp only[dO,GT,GE]at h⊢;obtain⟨y,hy,z,hz,rfl⟩:=h;exact⟨y,F7 hp hy fun id hid=>hh id (List.mem_append.2 (.inl hid)),z,R5 hp hz fun id hid=>hh id (List.mem_append.2 (.inr hid)),rfl⟩
theorem R6{p p':U→Option (U×List Id)}(hp:qL p p' L L'){rs:Rows}{x}(h:lO p rs=some x)(hh:∀id∈x.2,L' id=L id):lO p' rs=some x:=by unfold lO at h⊢;split at h;·{rename_i hc;simpa[hc]using h};·rename_i hc;simp only[hc];exact R5 hp h hh
theorem xx:∀n,qL (pk L n) (pk L' n) L L'|0=>fun a x h=>by{simp[pk]at h}|n+1=>fun a x h hh=>by have ih:=xx n;cases a with|rs id off len=>(simp only[pk]at h⊢;split at h;·{rename_i rs hid;split at h;·{rename_i hc;simp only[GE]at h;obtain⟨y,hy,rfl⟩:=h;rw[hh id (Do ..),hid];simp only[hc];rw[R6 ih (by simpa using hy) fun id hid=>hh id (Ha _ hid)];rfl};·cases h};·cases h)|mp id row off=>(simp only[pk]at h⊢;split at h;·{rename_i cs hid;split at h;·{rename_i hc;simp only[GE]at h;obtain⟨y,hy,rfl⟩:=h;rw[hh id (Do ..),hid];simp only[hc];rw[F7 ih hy fun id hid=>hh id (Ha _ hid)];rfl};·cases h};·cases h)|agg cs=>(simp only[pk,GE]at h⊢;obtain⟨y,hy,rfl⟩:=h;exact⟨y,F7 ih hy hh,rfl⟩)|aT cs=>(simp only[pk,GE]at h⊢;obtain⟨y,hy,rfl⟩:=h;exact⟨y,F7 ih hy hh,rfl⟩)|fn k a b=>(simpa only[pk]using h)|own rs=>(simpa only[pk]using h)|aU cs=>(simpa only[pk]using h)|cu=>(simpa only[pk]using h)|c8 g y=>(simpa only[pk]using h)|val u=>(simpa only[pk]using h)|nn=>(simpa only[pk]using h)|mr id=>(simp only[pk]at h⊢;split at h;·{rename_i rs hid;simp only[AC]at h;subst h;rw[hh id (Do ..),hid]};·cases h)|ep rs=>(simpa only[pk]using h)|im rs=>(simpa only[pk]using h)|sl rows=>(simpa only[pk]using h)|aI cells=>(simpa only[pk]using h)|bf i rs=>(simpa only[pk]using h)|zR u=>(simpa only[pk]using h)|bp=>simpa only[pk]using h
theorem Sr(o:Oper)(v:U)(rd:List Id)(wr:List (Id×Option Rows)):(put o v rd wr).rd=rd:=rfl
theorem Li(o:Oper)(v:U)(rd:List Id)(wr:List (Id×Option Rows)):(put o v rd wr).wr=wr:=rfl
section
variable{C:aF}{f:FuncId}{call:FuncId→List U→Option (U×List U)}{S S':ah}{o:Oper}{e:bn}
def Agree(S S':ah)(e:bn):Prop:=∀id,(id∈e.rd∨∃x∈e.wr,x.1=id)→S'.h id=S.h id
theorem Z6{t:TypeId}(he:sy C f S o t=some e)(hh:Agree S S' e):sy C f S' o t=some e:=by
 unfold sy at he⊢
 split at he
 ·rename_i cs d h1 h2
  split at he
  ·simp only[AC]at he;subst he
   rename_i hf
   try rw[h1,h2]
   simp only[hh [d] (.inr ⟨_,Do ..,rfl⟩),hf,if_true]
  ·cases he
 ·cases he
theorem Z8{t:TypeId}{x:U}(he:p6 C f S o t x=some e)(hh:Agree S S' e):p6 C f S' o t x=some e:=by unfold p6 at he⊢;split at he;·{rename_i b d h1 h2;split at he;·{rename_i cs hcs;split at he;·{rename_i hz;rw[if_pos hz];exact he};·rename_i hz;rw[if_neg hz];split at he;·{rename_i hf;simp only[AC]at he;subst he;rw[hh [d] (.inr ⟨_,Do ..,rfl⟩),if_pos hf]};·cases he};·cases he};·cases he
theorem aaa{t:TypeId}{n:Nat}{ps:List (Nat×U)}(he:sB C f S o t n ps=some e)(hh:Agree S S' e):sB C f S' o t n ps=some e:=by
 unfold sB at he⊢
 split at he
 ·rename_i el d h1 h2
  split at he
  ·rename_i z b k hz hb hk
   split at he
   ·rename_i hc
    try rw[if_pos hc]
    split at he
    ·rename_i rows hr
     try rw[hr]
     split at he
     ·rename_i hfz
      rw[if_pos hfz];exact he
     ·rename_i hfz
      rw[if_neg hfz]
      split at he
      ·rename_i hf
       simp only[AC]at he;subst he
       rw[hh [d] (.inr ⟨_,Do ..,rfl⟩),if_pos hf]
      ·cases he
    ·cases he
   ·cases he
  ·cases he
 ·cases he
theorem Z9{t:TypeId}{n:Nat}{ps:List (Nat×U)}(he:p7 C f S o t n ps=some e)(hh:Agree S S' e):p7 C f S' o t n ps=some e:=by unfold p7 at he⊢;split at he;·{rename_i hc;rw[if_pos hc];unfold Bd at he⊢;split at he;·{rename_i rows d h1 h2;split at he;·{rename_i bh ids hp;split at he;·{rename_i hn;simp only[AC]at he;subst he;have:lO (pk S'.h 8) rows=some (bh,ids):=R6 (xx 8) hp fun id hid=>hh id (.inl hid);simp only[h1,h2,this,hn,if_true]};·cases he};·cases he};·cases he};·rename_i hc;rw[if_neg hc];exact aaa he hh
theorem aak{t:TypeId}{x y:U}(he:sD C S o t x y=some e)(hh:Agree S S' e):sD C S' o t x y=some e:=by
 unfold sD at he⊢
 split at he
 ·rename_i el d l c h1 h2 h3 h4
  split at he
  ·rename_i z i hz hi
   split at he
   ·rename_i hc
    simp only[AC]at he;subst he
    try rw[h1,h2,h3,h4]
    try simp only[hz,hi]
    rw[hh [d] (.inr ⟨_,Do ..,rfl⟩),if_pos hc]
   ·cases he
  ·cases he
 ·cases he
theorem aal{t:TypeId}{r:Option Operand}(he:sE C S o t r=some e)(hh:Agree S S' e):sE C S' o t r=some e:=by
 unfold sE at he⊢
 split at he
 ·rename_i d h1 h2
  split at he
  ·rename_i hc
   simp only[AC]at he;subst he
   try rw[h1,h2]
   try simp only
   rw[hh [d] (.inr ⟨_,Do ..,rfl⟩),if_pos hc]
  ·cases he
 ·cases he
theorem aaj{t:TypeId}{x k:U}{ok:Bool}(he:p8 C S o t x k ok=some e)(hh:Agree S S' e):p8 C S' o t x k ok=some e:=by unfold p8 at he⊢;split at he;·{rename_i kind z rows ids kv h1 h2;obtain⟨r,hf,rfl⟩:=Option.map_eq_some_iff.1 he;have e2:xh S'.h x=some (rows,ids):=by{unfold xh at h2⊢;split at h2;·{rename_i id;split at h2;·{rename_i bh hid;simp only[Option.some.injEq,Prod.mk.injEq]at h2;obtain⟨rfl,rfl⟩:=h2;rw[hh id (.inl (by rw[Sr];exact List.mem_cons_self ..)),hid]};·cases h2};·{exact h2};·{exact h2};·cases h2};rw[h1,e2];simp only[hf,Option.map_some]};·cases he
theorem Pj{t:TypeId}{x k v:U}(he:p9 C S o t x k v=some e)(hh:Agree S S' e):p9 C S' o t x k v=some e:=by
 unfold p9 at he⊢
 split at he
 ·rename_i kind z id kv nH h1
  split at he
  ·rename_i rows hid
   split at he
   ·rename_i hc
    obtain⟨bh,hp,rfl⟩:=Option.map_eq_some_iff.1 he
    try rw[h1]
    try simp only
    rw[hh id (.inl (by rw[Sr];exact Do ..)),hid]
    simp only[if_pos hc,hp,Hd]
   ·cases he
  ·cases he
 ·cases he
theorem aam{t:TypeId}{x:U}{lo hi:Option (Option Int)}(he:nQ C S o t x lo hi=some e)(hh:Agree S S' e):nQ C S' o t x lo hi=some e:=by
 unfold nQ at he⊢
 split at he
 ·rename_i el hu
  try rw[hu]
  try simp only
  split at he
  ·exact he
  ·rename_i id off len sz hs
   try rw[hs]
   try simp only
   split at he
   ·rename_i rows hid
    have hrd:id∈e.rd:=by
     simp only[GT]at he
     obtain⟨b,_,he⟩:=he
     split at he
     ·simp only[AC]at he;subst he;simp[put]
     ·cases he
    rw[hh id (.inl hrd),hid]
    exact he
   ·cases he
  ·cases he
 ·rename_i hu;try rw[hu]
  exact he
 ·cases he
theorem aaf{t:TypeId}{x:U}{i:Option Int}(he:mD C S o t x i=some e)(hh:Agree S S' e):mD C S' o t x i=some e:=by
 unfold mD at he⊢
 split at he
 ·rename_i el i' hu
  try rw[hu]
  try simp only
  split at he
  ·rename_i hs;try rw[hs]
   exact he
  ·rename_i n id off len hs
   try rw[hs]
   try simp only
   split at he
   ·rename_i hc
    rw[if_pos hc]
    split at he
    ·rename_i rows hid
     have hrd:id∈e.rd:=by
      simp only[GT]at he
      obtain⟨b,_,he⟩:=he
      split at he
      ·simp only[AC]at he;subst he;simp[put]
      ·cases he
     rw[hh id (.inl hrd),hid]
     exact he
    ·cases he
   ·cases he
  ·cases he
 ·rename_i hu;try rw[hu]
  exact he
 ·cases he
theorem aah{t:TypeId}{x:U}(he:lB C S o t x=some e)(hh:Agree S S' e):lB C S' o t x=some e:=by
 unfold lB at he⊢
 split at he
 ·rename_i b n h1 h2
  try rw[h1,h2]
  try simp only
  split at he
  ·exact he
  ·rename_i id row off
   split at he
   ·rename_i rows hid
    obtain⟨r,hr,he⟩:=Option.bind_eq_some_iff.1 he
    split at he
    ·rename_i hc
     split at he
     ·rename_i hem
      have hrd:id∈e.rd:=by
       obtain⟨v,_,he⟩:=Option.map_eq_some_iff.1 he
       subst he;simp[put]
      rw[hh id (.inl hrd),hid]
      simp only[hr,Hk,hc,if_true,hem]
      exact he
     ·rename_i hem
      split at he
      ·rename_i hf
       have acm:=he
       obtain⟨v,_,he⟩:=Option.map_eq_some_iff.1 he
       have hrd:id∈e.rd:=by subst he;simp[put]
       have hwr:∀x∈(bM (iL o) 0 ((r.drop off).take n)).2,S'.h x.1=S.h x.1:=fun x hx=>hh x.1 (.inr ⟨x,by subst he;simp[put,hx],rfl⟩)
       rw[hh id (.inl hrd),hid]
       simp only[hr,Hk,hc,if_true,hem,Bq hwr,hf]
       exact acm
      ·cases he
    ·cases he
   ·cases he
  ·cases he
 ·cases he
theorem aan{t:TypeId}{ao:Operand}{x y:U}(he:nR C f S true o t ao x y=some e)(hh:Agree S S' e):nR C f S' true o t ao x y=some e:=by
 unfold nR at he⊢
 split at he
 ·rename_i b n h1 h2
  try rw[h1,h2]
  try simp only
  split at he
  ·rename_i id row off cs hcs
   try rw[hcs]
   try simp only
   split at he
   ·cases he
   ·rename_i hl
    rw[if_neg hl]
    split at he
    ·rename_i rows hid
     have hrd:id∈e.rd:=by
      obtain⟨r,hr,he⟩:=Option.bind_eq_some_iff.1 he
      split at he
      ·split at he
       ·split at he
        ·simp only[AC]at he;subst he;simp
        ·cases he
       ·split at he
        ·simp only[AC]at he;subst he;simp[put]
        ·cases he
      ·cases he
     rw[hh id (.inl hrd),hid]
     exact he
    ·cases he
  ·cases he
 ·cases he
theorem aar{e1:bn}(h:qb C f o e1=some e)(hh:Agree S S' e):Agree S S' e1:=by unfold qb at h;split at h;·{split at h;·{rename_i hw;split at h;·{rename_i hc;obtain⟨rfl,_⟩:=hc;simp only[AC]at h;subst h;intro id hid;refine hh id (hid.imp (fun h=>h) fun⟨x,hx,e⟩=> ?_);rw[hw]at hx;simp only[Hm,Hn,or_false]at hx;rcases hx with rfl|rfl;·{exact⟨_,Do ..,e⟩};·exact⟨_,Ha _ (Do ..),e⟩};·cases h};·{rename_i hw;split at h;·{rename_i hc;obtain⟨rfl,_⟩:=hc;simp only[AC]at h;subst h;intro id hid;refine hh id (hid.imp (fun h=>h) fun⟨x,hx,e⟩=> ?_);rw[hw]at hx;simp only[Hm,Hn,or_false]at hx;obtain rfl:=hx;exact⟨_,Do ..,e⟩};·cases h};·cases h};·simp only[AC]at h;subst h;exact hh
theorem Z7{ts:Array TypeId}{xs:List U}(he:lV C S o ts xs=some e)(hh:Agree S S' e):lV C S' o ts xs=some e:=by
 unfold lV at he⊢
 split at he
 ·rename_i x y t el h1 h2
  try rw[h1,h2]
  try simp only
  unfold yl at he⊢
  split at he
  ·rename_i Zo d hu hd
   try rw[hu,hd]
   try simp only
   split at he
   ·rename_i i ajJ i1 aor i2 hi hx hy
    split at he
    ·rename_i hc
     unfold mA at he
     have facts:(∀id∈i1++i2,id∈e.rd)∧(∃r,([d],r)∈e.wr):=by
      split at he
      ·split at he
       ·split at he
        ·simp only[AC]at he;subst he
         exact⟨fun id h=>h,_,Ha _ (Do ..)⟩
        ·cases he
       ·cases he
      ·simp only[AC]at he;subst he
       exact⟨fun id h=>h,_,Do ..⟩
      ·cases he
     obtain⟨hrd,r,hwr⟩:=facts
     have ex:=Gm (L':=S'.h) hx fun id hid=>hh id (.inl (hrd id (List.mem_append.2 (.inl hid))))
     have EB:=Gm (L':=S'.h) hy fun id hid=>hh id (.inl (hrd id (List.mem_append.2 (.inr hid))))
     try rw[hi,ex,EB]
     try simp only
     rw[hh [d] (.inr ⟨_,hwr,rfl⟩),if_pos hc]
     unfold mA
     split at he
     ·rename_i id off len
      have hid:id∈i1:=by
       simp only[rowsOf]at hx
       split at hx
       ·split at hx
        ·simp only[AC,Hb]at hx
         rw[←hx.2];simp
        ·cases hx
       ·cases hx
      try simp only
      rw[hh id (.inl (hrd id (List.mem_append.2 (.inl hid))))]
      exact he
     ·exact he
     ·cases he
    ·cases he
   ·cases he
  ·cases he
 ·rename_i x y t k h1 h2
  try rw[h1,h2]
  try simp only
  unfold ym at he⊢
  split at he
  ·rename_i Zo d nn hu hd Jv
   try rw[hu,hd,Jv]
   try simp only
   split at he
   ·rename_i i z ajJ i1 hi hz hx
    split at he
    ·rename_i hc
     unfold mA at he
     have facts:(∀id∈i1,id∈e.rd)∧(∃r,([d],r)∈e.wr):=by
      split at he
      ·split at he
       ·split at he
        ·simp only[AC]at he;subst he
         exact⟨fun id h=>by simp only[put,H0];exact h,_,Ha _ (Do ..)⟩
        ·cases he
       ·cases he
      ·simp only[AC]at he;subst he
       exact⟨fun id h=>by simp only[put,H0];exact h,_,Do ..⟩
      ·cases he
     obtain⟨hrd,r,hwr⟩:=facts
     have ex:=Gm (L':=S'.h) hx fun id hid=>hh id (.inl (hrd id hid))
     try rw[hi,hz,ex]
     try simp only
     rw[hh [d] (.inr ⟨_,hwr,rfl⟩),if_pos hc]
     unfold mA
     split at he
     ·rename_i id off len
      have hid:id∈i1:=by
       simp only[rowsOf]at hx
       split at hx
       ·split at hx
        ·simp only[AC,Hb]at hx
         rw[←hx.2];simp
        ·cases hx
       ·cases hx
      try simp only
      rw[hh id (.inl (hrd id hid))]
      exact he
     ·exact he
     ·cases he
    ·cases he
   ·cases he
  ·cases he
 ·cases he
theorem aag{p:Nat×Nat}{xs:List U}(he:tX S o p xs=some e)(hh:Agree S S' e):tX S' o p xs=some e:=by unfold tX at he⊢;split at he;·{rename_i id row off;split at he;·{rename_i rows hid;split at he;·{rename_i gE off2 len hcell;split at he;·{rename_i eU BP;split at he;·{rename_i hc;simp only[AC]at he;subst he;have e1:S'.h id=S.h id:=hh id (.inl (by simp[put]));have e2:S'.h gE=S.h gE:=hh gE (.inl (by simp[put]));simp only[e1,hid,hcell,e2,BP,hc,if_true]};·cases he};·cases he};·cases he};·cases he};·{exact he};·cases he
theorem aae{ts:Array TypeId}{xs:List U}(he:v8 C S o ts xs=some e)(hh:Agree S S' e):v8 C S' o ts xs=some e:=by unfold v8 at he⊢;split at he;·{rename_i x y el h1;split at he;·{rename_i id off len ys i2 hsz Cg;split at he;·{rename_i rows hid;split at he;·{rename_i hc;simp only[AC]at he;subst he;have e1:S'.h id=S.h id:=hh id (.inl (by simp[put]));have e2:rowsOf S'.h y=some (ys,i2):=Gm Cg (fun i hi=>hh i (.inl (by simp[put];exact .inr hi)));simp only[hsz,e2,e1,hid,hc,if_true]};·cases he};·cases he};·cases he};·cases he
theorem aai{as:List U}(he:xe S o as=some e)(hh:Agree S S' e):xe S' o as=some e:=by unfold xe at he⊢;split at he;·{split at he;·{rename_i hc hid;split at he;·{rename_i h2 hk;split at he;·{rename_i hr;split at he;·{rename_i jH;simp only[AC]at he;subst he;have e1:=hh _ (.inl (show _∈[_,_]from Do ..));have e2:=hh _ (.inl (show _∈[_,_]from Ha _ (Do ..)));simp only[hc,e1,hid,e2,h2,hk,hr,jH,and_self,if_true]};·cases he};·cases he};·cases he};·cases he};·cases he
theorem aab{fv:U}{args:List U}(he:qX C f call S o fv args=some e)(hh:Agree S S' e):qX C f call S' o fv args=some e:=by
 unfold qX at he⊢
 split at he
 ·rename_i k first caps
  try simp only
  by_cases hlk:C.look k=true
  ·rw[if_pos hlk]at he⊢
   exact aai he hh
  rw[if_neg hlk]at he⊢
  split at he
  ·rename_i as seen d IX bA
   split at he
   ·rename_i r bZ
    generalize hr':(if eK C f o.dst=true then dJ r else r)=r' at he
    split at he
    ·cases he
    ·rename_i hm
     split at he
     ·rename_i hf
      simp only[AC]at he;subst he
      have hb:qT S'.h (first++args++caps)=some (as,seen):=Bm (Hw 9) IX fun id hid=>hh id (.inl hid)
      have hfr:fresh S'.h (imp [d] r').2=fresh S.h (imp [d] r').2:=Bq fun x hx=>hh x.1 (.inr ⟨x,hx,rfl⟩)
      rw[hb,bA]
      simp only[bZ]
      rw[←bA,hr',if_neg hm,hfr,if_pos hf]
     ·cases he
   ·cases he
  ·cases he
 ·cases he
theorem To:∀{dX:List U}{ms:List Nat}{as:List U}{seen tk dj:List Id},jP S.h ms dX=some (as,seen,tk,dj)→(∀id∈seen,S'.h id=S.h id)→(∀id∈tk++dj,S'.h id=S.h id)→jP S'.h ms dX=some (as,seen,tk,dj)|[],ms,as,seen,tk,dj,hx,_,_=>hx|c::cs,ms,as,seen,tk,dj,hx,h1,h2=>by simp only[jP,GT]at hx⊢;obtain⟨⟨ys,s1,t1,b5⟩,hy,hx⟩:=hx;refine⟨(ys,s1,t1,b5), ?_, ?_⟩;·{split at hx<;>·obtain⟨x,hpk,hx⟩:=Option.map_eq_some_iff.1 hx;simp only[Hb]at hx;obtain⟨rfl,rfl,rfl,rfl⟩:=hx;exact To hy (fun id hid=>h1 id (by simp[hid])) (fun id hid=>h2 id (by rcases List.mem_append.1 hid with h|h<;>simp[h]))};·split at hx;·{rename_i hm;obtain⟨x,hpk,hx⟩:=Option.map_eq_some_iff.1 hx;simp only[Hb]at hx;obtain⟨rfl,rfl,rfl,rfl⟩:=hx;simp only[hm];rw[xx 9 _ _ hpk fun id hid=>h2 id (by simp[hid])];rfl};·{rename_i hm;obtain⟨x,hpk,hx⟩:=Option.map_eq_some_iff.1 hx;simp only[Hb]at hx;obtain⟨rfl,rfl,rfl,rfl⟩:=hx;simp only[hm];rw[xx 9 _ _ hpk fun id hid=>h2 id (by simp[hid])];rfl};·rename_i ur hm2;obtain⟨x,hpk,hx⟩:=Option.map_eq_some_iff.1 hx;simp only[Hb]at hx;obtain⟨rfl,rfl,rfl,rfl⟩:=hx;rw[Hw 9 _ _ hpk fun id hid=>h1 id (by simp[hid])];rfl
theorem Sy{a b:U}{l:List (Id×Option Rows)}(h:ju S.h a b=some l)(hh:∀x∈l,S'.h x.1=S.h x.1):ju S'.h a b=some l:=by unfold ju at h;split at h;·{rename_i id cs;split at h;·{rename_i old hid;split at h;·{rename_i hc;simp only[AC]at h;subst h;have:=hh _ (Do ..);simp only[ju,this,hid,hc,if_true]};·cases h};·cases h};·{rename_i id n rows;split at h;·{rename_i o1 os hid;split at h;·{rename_i hc;simp only[AC]at h;subst h;have:=hh _ (Do ..);simp only[ju,this,hid];rw[if_pos hc]};·cases h};·{rename_i hid;split at h;·{rename_i hc;simp only[AC]at h;subst h;have:=hh _ (Do ..);simp only[ju,this,hid];rw[if_pos hc]};·cases h};·cases h};·{rename_i id rows;split at h;·{rename_i u5 hid;simp only[AC]at h;subst h;have:=hh _ (Do ..);simp only[ju,this,hid]};·cases h};·{cases h};·{cases h};·{cases h};·{cases h};·rename_i g1 g2 g3 g4 _ _ _;simp only[AC]at h;subst h;unfold ju;split<;>first|rfl|exact(g1 _ _ _ rfl).elim|exact(g2 _ _ _ rfl).elim|exact(g3 _ rfl).elim|exact(g4 _ rfl).elim
theorem SB:∀{as bs:List U}{l:List (Id×Option Rows)},jO S.h as bs=some l→(∀x∈l,S'.h x.1=S.h x.1)→jO S'.h as bs=some l|[],[],l,h,_=>h|[],_::_,l,h,_=>by{simp[jO]at h}|_::_,[],l,h,_=>by{simp[jO]at h}|a::as,b::bs,l,h,hh=>by simp only[jO]at h⊢;split at h;·{rename_i x y h1 h2;simp only[AC]at h;subst h;rw[Sy h1 fun x hx=>hh x (List.mem_append.2 (.inl hx)),SB h2 fun x hx=>hh x (List.mem_append.2 (.inr hx))]};·cases h
theorem ahR{a b:U}{l:List (Id×Option Rows)}(h:rO S.h a b=some l)(hh:∀x∈l,S'.h x.1=S.h x.1):rO S'.h a b=some l:=by unfold rO at h⊢;split at h;·{exact SB h hh};·exact Sy h hh
theorem SE{args:List U}:∀{ct:List Nat}{outs:List U}{l:List (Id×Option Rows)},gO S.h args ct outs=some l→(∀x∈l,S'.h x.1=S.h x.1)→gO S'.h args ct outs=some l|[],[],l,h,_=>h|[],_::_,l,h,_=>by{simp[gO]at h}|_::_,[],l,h,_=>by{simp[gO]at h}|j::ct,b::outs,l,h,hh=>by simp only[gO]at h⊢;split at h;·{rename_i a y h1 h2;split at h;·{rename_i x h3;simp only[AC]at h;subst h;rw[h1,SE h2 fun x hx=>hh x (List.mem_append.2 (.inr hx))];simp only[ahR h3 fun x hx=>hh x (List.mem_append.2 (.inl hx))]};·cases h};·cases h
theorem aad{k:FuncId}{args:List U}(he:qY C f call S o k args=some e)(hh:Agree S S' e):qY C f call S' o k args=some e:=by unfold qY at he⊢;split at he;·{rename_i as seen tk dj d htk bA;split at he;·{rename_i r outs bZ;generalize hr':(if eK C f o.dst=true then dJ r else r)=r' at he;split at he;·{rename_i back kA;split at he;·{rename_i E0;simp only[AC]at he;subst he;have hw:∀x,(x∈(imp [d] r').2∨x∈back∨x∈(tk++dj).map fun i=>((i,none):Id×Option Rows))→S'.h x.1=S.h x.1:=fun x hx=>hh x.1 (.inr ⟨x,by rw[Li];rcases hx with hx|hx|hx;·{exact List.mem_append.2 (.inl hx)};·{exact List.mem_append.2 (.inr (List.mem_append.2 (.inl hx)))};·exact List.mem_append.2 (.inr (List.mem_append.2 (.inr hx))),rfl⟩);have e1:jP S'.h (C.xk k) args=some (as,seen,tk,dj):=To htk (fun id hid=>hh id (.inl hid)) fun id hid=>hw (id,none) (.inr (.inr (List.mem_map.2 ⟨id,hid,rfl⟩)));have e2:gO S'.h args (C.ct k) outs=some back:=SE kA fun x hx=>hw x (.inr (.inl hx));have hfr:fresh S'.h (imp [d] r').2=fresh S.h (imp [d] r').2:=Bq fun x hx=>hw x (.inl hx);rw[e1];simp only[bA];simp only[bA]at hr';simp only[bZ,hr',e2,hfr,if_pos E0]};·cases he};·cases he};·cases he};·cases he
end
end Go.Ab
namespace Go.Ab
open Go
variable{L L':Id→Option (Option Rows)}
section
variable{C:aF}{f:FuncId}{call:FuncId→List U→Option (U×List U)}{S S':ah}{o:Oper}{e:bn}
def tmpsOf(o:Oper):List Nat:=o.op.operands.toList.filterMap fun| .tmp t=>some t|_=>none
theorem Yl{keep:Id→Bool}:qL (gL L keep) (gL L' keep) L L':=fun a x h hh=>by cases a with|rs i off len=>(simp only[gL]at h⊢;split at h;·{rename_i hk;rw[if_pos hk];exact h};·rename_i hk;rw[if_neg hk];exact xx 8 _ _ h hh)|mp i off len=>(simp only[gL]at h⊢;split at h;·{rename_i hk;rw[if_pos hk];exact h};·rename_i hk;rw[if_neg hk];exact xx 8 _ _ h hh)|mr i=>(simp only[gL]at h⊢;split at h;·{rename_i hk;rw[if_pos hk];exact h};·rename_i hk;rw[if_neg hk];exact xx 8 _ _ h hh)|_=>exact h
theorem Pd{q q':List U→Option (List U×List Id)}(hq:∀r x,q r=some x→(∀id∈x.2,L' id=L id)→q' r=some x):∀{rs:Rows}{x},dO q rs=some x→(∀id∈x.2,L' id=L id)→dO q' rs=some x|[],x,h,_=>h|c::cs,x,h,hh=>by simp only[dO,GT,GE]at h⊢;obtain⟨y,hy,z,hz,rfl⟩:=h;exact⟨y,hq _ _ hy fun id hid=>hh id (List.mem_append.2 (.inl hid)),z,Pd hq hz fun id hid=>hh id (List.mem_append.2 (.inr hid)),rfl⟩
theorem Yp{keep:Id→Bool}(r:List U)(x)(hy:lz L keep r=some x)(hh:∀id∈x.2,L' id=L id):lz L' keep r=some x:=by unfold lz at hy⊢;split at hy;·{rename_i hc;rw[if_pos hc];exact hy};·rename_i hc;rw[if_neg hc];exact Bm Yl hy hh
theorem Yn{keep:Id→Bool}{rs:Rows}{x}(h:dO (lz L keep) rs=some x)(hh:∀id∈x.2,L' id=L id):dO (lz L' keep) rs=some x:=Pd Yp h hh
theorem RD{l:List (Id×Id)}:∀{r:List (Id×Id)}{x},iE L l r=some x→(∀i∈r.map (·.1),L' i=L i)→(∀i∈x.2,L' i=L i)→iE L' l r=some x|[],x,h,_,_=>h|(o,k)::r,x,h,h1,h2=>by simp only[iE]at h⊢;rw[h1 o (by simp)];split at h;·{simp only[GT,GE]at h⊢;obtain⟨y,hy,bh,hr,z,hz,rfl⟩:=h;refine⟨y, ?_,bh,hr,z,RD hz (fun i hi=>h1 i (by simp only[List.map_cons];exact Ha _ hi)) (fun i hi=>h2 i (List.mem_append.2 (.inr hi))),rfl⟩;unfold nh at hy⊢;split at hy;·{rename_i hc;rw[if_pos hc];exact hy};·rename_i hc;rw[if_neg hc];exact Yn hy fun i hi=>h2 i (List.mem_append.2 (.inl hi))};·cases h
theorem yz:∀(n:Nat)(b:Bool)(p:Id)(j:Nat)(acc:List (Id×Id))(as:List U),∀x∈acc,x∈dU L n b p j acc as|0,_,_,_,_,_,x,hx=>hx|_+1,_,_,_,_,[],x,hx=>hx|n+1,b,p,j,acc,a::as,x,hx=>by unfold dU;apply yz n b p (j+1);cases a with|rs i off len=>(dsimp only;split;exact hx;exact Hc _ hx)|mr i=>(dsimp only;split;exact hx;exact Hc _ hx)|mp i row off=>(dsimp only;split;·{exact hx};·split;·{exact yz n _ _ _ _ _ x (Hc _ hx)};·exact Hc _ hx)|agg cs=>(exact yz n _ _ _ _ _ x hx)|fn k xs cs=>(exact yz n _ _ _ _ _ x hx)|_=>exact hx
theorem YL(n:Nat)(b:Bool)(p:Id)(j:Nat)(acc:List (Id×Id))(a:U)(as:List U):∃l:(Id→Option (Option Rows))→List (Id×Id),∀L,dU L (n+1) b p j acc (a::as)=dU L n b p (j+1) (l L) as∧l L=(match a with| .rs i _ _=>if !b||(fU acc i).isSome then acc else acc++[(i,j::p)]| .mr i=>if !b||(fU acc i).isSome then acc else acc++[(i,j::p)]| .mp i _ _=>if(fU acc i).isSome then acc else(match L i with|some (some [cs])=>dU L n false (j::p) 0 (acc++[(i,j::p)]) cs|_=>acc++[(i,j::p)])| .agg cs=>dU L n b (j::p) 0 acc cs| .fn _ as cs=>dU L n true (j::p) 0 acc (as++cs)|_=>acc):=⟨_,fun L=>⟨by cases a<;>rw[dU]<;>first|rfl|(intros;contradiction)|(intros;rename_i h;cases h),rfl⟩⟩
theorem A4:∀(n:Nat)(b:Bool)(p:Id)(j:Nat)(acc:List (Id×Id))(as:List U),(∀i∈(dU L n b p j acc as).map (·.1),L' i=L i)→dU L' n b p j acc as=dU L n b p j acc as|0,_,_,_,_,_,_=>rfl|_+1,_,_,_,_,[],_=>rfl|n+1,b,p,j,acc,a::as,h=>by obtain⟨l,hl⟩:=YL n b p j acc a as;rw[(hl L).1]at h⊢;rw[(hl L').1];have sub:∀i∈(l L).map (·.1),L' i=L i:=fun i hi=>by{obtain⟨x,hx,rfl⟩:=List.mem_map.1 hi;exact h _ (List.mem_map.2 ⟨x,yz n b p (j+1) _ as x hx,rfl⟩)};have e:l L'=l L:=by{have h1:=(hl L).2;rw[h1]at sub;rw[(hl L').2,h1];clear h1 h hl l;cases a with|mp i row off=>(dsimp only at sub⊢;by_cases hs:(fU acc i).isSome=true;·{rw[if_pos hs,if_pos hs]};·rw[if_neg hs]at sub;rw[if_neg hs,if_neg hs];have hi:L' i=L i:=by{refine sub i ?_;split;·{exact List.mem_map.2 ⟨(i,j::p),yz n _ _ _ _ _ _ (List.mem_append_right _ (List.mem_singleton.2 rfl)),rfl⟩};·exact List.mem_map.2 ⟨(i,j::p),List.mem_append_right _ (List.mem_singleton.2 rfl),rfl⟩};rw[hi];split;·{rename_i cs hcs;rw[hcs]at sub;exact A4 n false (j::p) 0 _ cs sub};·rfl)|agg cs=>(exact A4 n b (j::p) 0 _ cs sub)|fn k xs cs=>(exact A4 n true (j::p) 0 _ (xs++cs) sub)|_=>rfl};rw[e];exact A4 n b p (j+1) _ as h
theorem aaP{k:FuncId}{args:List U}{x:xY}(h:q8 call L k args=some x)(h1:∀i∈x.l.map (·.1),L' i=L i)(h2:∀i∈x.gone,L' i=L i):q8 call L' k args=some x:=by have hl:x.l=dU L 60 true [iD] 0 [] args:=by{unfold q8 Bu at h;split at h;·{split at h;·{split at h;·{obtain⟨back,_,rfl⟩:=Option.map_eq_some_iff.1 h;rfl};·cases h};·cases h};·cases h};obtain⟨obs,outs,ho,_⟩:=EP h;unfold q8 at h⊢;rw[A4 60 true [iD] 0 [] args (by rw[←hl];exact h1)];unfold Bu at h⊢;rw[hl]at ho;rw[ho]at h;rw[RD ho (by rw[←hl];exact h1) h2];exact h
theorem aac{k:FuncId}{args:List U}(he:pZ C f call S o k args=some e)(hh:Agree S S' e):pZ C f call S' o k args=some e:=by unfold pZ at he⊢;simp only[GT]at he⊢;obtain⟨x,hx,he⟩:=he;split at he;·{cases he};·rename_i hp;generalize sS:(if eK C f o.dst=true then(if flat x.r=true then dJ x.r else .bp)else x.r)=rr at he;split at he;·{rename_i hf;simp only[AC]at he;subst he;have jm:j3 S'.h x.back=j3 S.h x.back:=by{obtain⟨_,_,_,_,hb,_⟩:=EP hx;have hbk:=(vQ hb).1;unfold j3;refine List.filter_congr fun b hb=> ?_;have:S'.h b.1=S.h b.1:=hh b.1 (.inl (by show b.1∈x.l.map (·.1);rw[←hbk];exact List.mem_map.2 ⟨b,hb,rfl⟩));unfold rP;rw[this]};refine⟨x,aaP hx (fun i hi=>hh i (.inl hi)) (fun i hi=>hh i (.inr ⟨(i,none), ?_,rfl⟩)), ?_⟩;·{simp only[Li];exact List.mem_append_right _ (List.mem_append_right _ (List.mem_map.2 ⟨i,hi,rfl⟩))};·rw[if_neg hp];simp only[sS,jm];rw[Bq (L':=S'.h) (L:=S.h) fun y hy=>hh y.1 (.inr ⟨y,by simp only[Li];exact List.mem_append_left _ hy,rfl⟩),if_pos hf]};·cases he
theorem aaL(hs:∀t∈tmpsOf o,S'.t t=S.t t){x:Operand}(hx:x∈o.op.operands.toList):S'.get C x=S.get C x:=by cases x with|tmp t=>(exact hs t (List.mem_filterMap.2 ⟨.tmp t,hx,rfl⟩))|_=>rfl
theorem ZB(he:bC C f call S true o=some e)(hs:∀t∈tmpsOf o,S'.t t=S.t t)(hh:Agree S S' e):bC C f call S' true o=some e:=by have get:∀x∈o.op.operands.toList,S'.get C x=S.get C x:=fun x hx=>aaL hs hx;have wo:∀xs:List Operand,(∀x∈xs,x∈o.op.operands.toList)→(xs.map fun x=>un true (S'.get C x))=xs.map fun x=>un true (S.get C x):=fun xs h=>H1 fun x hx=>by{rw[get x (h x hx)]};have yP:∀xs:List (Nat×Operand),(∀x∈xs,x.2∈o.op.operands.toList)→(xs.map fun p=>(p.1,un true (S'.get C p.2)))=xs.map fun p=>(p.1,un true (S.get C p.2)):=fun xs h=>H1 fun x hx=>by{rw[get x.2 (h x hx)]};unfold bC at he⊢;cases ho:o.op with|move x=>(rw[ho]at he get;simp only[Op.operands]at he get⊢;rw[get x (by simp)];exact he)|assign x=>(rw[ho]at he get;simp only[Op.operands]at he get⊢;rw[get x (by simp)];exact he)|pick c x y=>(rw[ho]at he get;simp only[Op.operands]at he get⊢;rw[get c (by simp),get x (by simp),get y (by simp)];exact he)|alloc t=>(rw[ho]at he;exact Z6 he hh)|box t x=>(rw[ho]at he get;simp only[Op.operands]at he get⊢;rw[get x (by simp)];exact Z8 he hh)|build t ps=>(rw[ho]at he yP;simp only[Op.operands]at he yP⊢;rw[yP ps.toList (fun x hx=>by simp;exact⟨x.1,by simpa using hx⟩)];exact he)|buildSlice t n ps=>(rw[ho]at he yP;simp only[Op.operands]at he yP⊢;rw[yP ps.toList (fun x hx=>by simp;exact⟨x.1,by simpa using hx⟩)];exact Z9 he hh)|load t x=>(rw[ho]at he get;simp only[Op.operands]at he get⊢;rw[get x (by simp)];exact aah he hh)|store t x y=>(rw[ho]at he get;simp only[Op.operands]at he get⊢;rw[get x (by simp),get y (by simp)];exact aan he hh)|nilCheck x=>(rw[ho]at he get;simp only[Op.operands]at he get⊢;rw[get x (by simp)];exact he)|binOp op t x y u=>(rw[ho]at he get;simp only[Op.operands]at he get⊢;rw[get x (by simp),get y (by simp)];exact he)|unOp op t x=>(rw[ho]at he get;simp only[Op.operands]at he get⊢;rw[get x (by simp)];exact he)|convert s t x=>(rw[ho]at he get;simp only[Op.operands]at he get⊢;rw[get x (by simp)];exact he)|makeInterface t x=>(rw[ho]at he get;simp only[Op.operands]at he get⊢;rw[get x (by simp)];exact he)|makeFunc k xs ys=>(rw[ho]at he wo;simp only[Op.operands]at he wo⊢;rw[wo xs.toList (fun x hx=>by simp;exact .inl (by simpa using hx)),wo ys.toList (fun x hx=>by simp;exact .inr (by simpa using hx))];exact he)|makeSlice t x y=>(rw[ho]at he get;simp only[Op.operands]at he get⊢;rw[get x (by simp),get y (by simp)];exact aak he hh)|slice t x lo hi mx=>(rw[ho]at he get;simp only[Op.operands]at he get⊢;split at he;·{cases he};·rename_i hm;rw[if_neg hm,get x (by simp)];have e1:(lo.map fun y=>ei (un true (S'.get C y)))=lo.map fun y=>ei (un true (S.get C y)):=by{cases lo with|none=>(rfl)|some y=>simp only[Option.map_some];rw[get y (by simp)]};have e2:(hi.map fun y=>ei (un true (S'.get C y)))=hi.map fun y=>ei (un true (S.get C y)):=by{cases hi with|none=>(rfl)|some y=>simp only[Option.map_some];rw[get y (by simp)]};rw[e1,e2];exact aam he hh)|fieldAddr s x i=>(rw[ho]at he get;simp only[Op.operands]at he get⊢;rw[get x (by simp)];exact he)|field s x i=>(rw[ho]at he get;simp only[Op.operands]at he get⊢;rw[get x (by simp)];exact he)|indexAddr t x y=>(rw[ho]at he get;simp only[Op.operands]at he get⊢;rw[get x (by simp),get y (by simp)];exact aaf he hh)|index t x y=>(rw[ho]at he get;simp only[Op.operands]at he get⊢;rw[get x (by simp),get y (by simp)];exact he)|extract x i=>(rw[ho]at he get;simp only[Op.operands]at he get⊢;rw[get x (by simp)];exact he)|makeMap t r=>(rw[ho]at he;exact aal he hh)|lookup t x y ok=>(rw[ho]at he get;simp only[Op.operands]at he get⊢;rw[get x (by simp),get y (by simp)];exact aaj he hh)|mapUpdate t x y z=>(rw[ho]at he get;simp only[Op.operands]at he get⊢;rw[get x (by simp),get y (by simp),get z (by simp)];exact Pj he hh)|insert t x y z=>(rw[ho]at he get;simp only[Op.operands]at he get⊢;rw[get x (by simp),get y (by simp),get z (by simp)];exact Pj he hh)|call c=>(rw[ho]at he get wo;simp only[Op.operands]at he get wo⊢;have hargs:=wo c.args.toList (fun x hx=>by simp only[Call.operands];simp;exact .inr (by simpa using hx));cases hc:c.callee with|builtin b=>(rw[hc]at he;cases b with|len=>(simp only at he⊢;rw[hargs];exact he)|append=>(simp only[GT]at he⊢;rw[hargs];obtain⟨e1,h1,h2⟩:=he;exact⟨e1,Z7 h1 (aar h2 hh),h2⟩)|copy=>(simp only at he⊢;rw[hargs];exact aae he hh)|max=>(simp only at he⊢;rw[hargs];exact he)|min=>(simp only at he⊢;rw[hargs];exact he)|_=>cases he)|value cN=>(rw[hc]at he;simp only at he⊢;rw[get cN (by simp[Call.operands,hc])];split at he;·{rename_i x hx;rw[hargs];exact aac he hh};rename_i hx;split at he;·{rename_i p hp;rw[hargs];exact aag he hh};·rename_i hp;split at he;·{rename_i htk;rw[if_pos htk];cases cN with|func k=>(simp only at he⊢;rw[hargs];exact aad he hh)|_=>cases he};·rename_i htk;rw[if_neg htk,hargs];exact aab he hh)|invoke r n=>rw[hc]at he;cases he)|_=>rw[ho]at he;cases he
end
end Go.Ab
