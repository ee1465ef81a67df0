import Derived.Test.YtmboghefgckkpaaGreatAbReg2
namespace Go.Ab
open Go
variable{L L':Id→Option (Option Rows)}
theorem Fs:∀{l:List (Id×Option Rows)},(∀x∈l,L' x.1=L x.1)→fresh L' l=fresh L l|[],_=>rfl|x::l,h=>by have ih:=Fs fun y hy=>h y (List.mem_cons_of_mem _ hy);unfold fresh at ih⊢;simp only[List.all_cons,ih,h x (List.mem_cons_self ..)]
theorem KU{x:aa}{r:Rows×List Id}(h:rowsOf L x=some r)(hh:∀id∈r.2,L' id=L id):rowsOf L' x=some r:=by
 cases x<;>simp only[rowsOf]at h⊢<;>try exact h
 rename_i id off len
 split at h
 ·rename_i rs hid
  split at h
  ·rename_i hc
   simp only[Option.some.injEq]at h;subst h
   rw[hh id (by simp),hid]
   simp only[hc,if_true]
  ·cases h
 ·cases h
def s9(p p':(aa→Option (aa×List Id)))(L L':Id→Option (Option Rows)):Prop:=∀a x,p a=some x→(∀id∈x.2,L' id=L id)→p' a=some x
theorem Fm{p p':aa→Option (aa×List Id)}(hp:s9 p p' L L'):∀{cs:List aa}{x},ew p cs=some x→(∀id∈x.2,L' id=L id)→ew p' cs=some x|[],x,h,_=>h|c::cs,x,h,hh=>by simp only[ew,Option.bind_eq_some_iff,Option.map_eq_some_iff]at h⊢;obtain⟨y,hy,z,hz,rfl⟩:=h;exact⟨y,hp _ _ hy fun id hid=>hh id (List.mem_append.2 (.inl hid)),z,Fm hp hz fun id hid=>hh id (List.mem_append.2 (.inr hid)),rfl⟩
theorem yE{p p':aa→Option (aa×List Id)}(hp:s9 p p' L L'){cs:List aa}{x}(h:gk p cs=some x)(hh:∀id∈x.2,L' id=L id):gk p' cs=some x:=by unfold gk at h⊢;split at h;·{rename_i hc;simpa[hc]using h};·rename_i hc;simp only[hc];exact Fm hp h hh
theorem SS{p p':aa→Option (aa×List Id)}(hp:s9 p p' L L'):∀{rs:Rows}{x},eB (gk p) rs=some x→(∀id∈x.2,L' id=L id)→eB (gk p') rs=some x|[],x,h,_=>h|c::cs,x,h,hh=>by simp only[eB,Option.bind_eq_some_iff,Option.map_eq_some_iff]at h⊢;obtain⟨y,hy,z,hz,rfl⟩:=h;exact⟨y,yE hp hy fun id hid=>hh id (List.mem_append.2 (.inl hid)),z,SS hp hz fun id hid=>hh id (List.mem_append.2 (.inr hid)),rfl⟩
theorem Rl{p p':aa→Option (aa×List Id)}(hp:s9 p p' L L'){rs:Rows}{x}(h:mc p rs=some x)(hh:∀id∈x.2,L' id=L id):mc p' rs=some x:=by unfold mc at h⊢;split at h;·{rename_i hc;simpa[hc]using h};·rename_i hc;simp only[hc];exact SS hp h hh
theorem LQ:∀n,s9 (b8 L n) (b8 L' n) L L'|0=>fun a x h=>by{simp[b8]at h}|n+1=>fun a x h hh=>by have ih:=LQ n;cases a with|rs id off len=>(simp only[b8]at h⊢;split at h;·{rename_i rs hid;split at h;·{rename_i hc;simp only[Option.map_eq_some_iff]at h;obtain⟨y,hy,rfl⟩:=h;rw[hh id (List.mem_cons_self ..),hid];simp only[hc,if_true,Rl ih hy fun id hid=>hh id (List.mem_cons_of_mem _ hid),Option.map_some]};·cases h};·cases h)|mp id row off=>(simp only[b8]at h⊢;split at h;·{rename_i rs hid;split at h;·{rename_i r hrow;split at h;·{rename_i hoff;simp only[Option.map_eq_some_iff]at h;obtain⟨y,hy,rfl⟩:=h;rw[hh id (List.mem_cons_self ..),hid];simp only[hrow,hoff,if_true,yE ih hy fun id hid=>hh id (List.mem_cons_of_mem _ hid),Option.map_some]};·cases h};·cases h};·cases h)|agg cs=>(simp only[b8,Option.map_eq_some_iff]at h⊢;obtain⟨y,hy,rfl⟩:=h;exact⟨y,yE ih hy hh,rfl⟩)|bG cs=>(simp only[b8,Option.map_eq_some_iff]at h⊢;obtain⟨y,hy,rfl⟩:=h;exact⟨y,yE ih hy hh,rfl⟩)|fn k a b=>(simp only[b8,Option.map_eq_some_iff,Option.bind_eq_some_iff]at h⊢;obtain⟨y,hy,z,hz,rfl⟩:=h;exact⟨y,yE ih hy fun id hid=>hh id (List.mem_append.2 (.inl hid)),z,yE ih hz fun id hid=>hh id (List.mem_append.2 (.inr hid)),rfl⟩)|own rs=>(simp only[b8,Option.map_eq_some_iff]at h⊢;obtain⟨y,hy,rfl⟩:=h;exact⟨y,Rl ih hy hh,rfl⟩)|aL cs=>(simp only[b8,Option.map_eq_some_iff]at h⊢;obtain⟨y,hy,rfl⟩:=h;exact⟨y,yE ih hy hh,rfl⟩)|cE=>(simpa only[b8]using h)|dM g y=>(simpa only[b8]using h)|val u=>(simpa only[b8]using h)|nn=>(simpa only[b8]using h)|mr id=>(simp only[b8]at h⊢;split at h;·{rename_i rs hid;simp only[Option.some.injEq]at h;subst h;rw[hh id (List.mem_cons_self ..),hid]};·cases h)|eO rs=>(simpa only[b8]using h)|im rs=>(simpa only[b8]using h)|sl rows=>(simpa only[b8]using h)|ax cells=>(simpa only[b8]using h)|cz i rs=>(simpa only[b8]using h)|Cz u=>(simpa only[b8]using h)|bH=>simpa only[b8]using h
theorem KD{p p':aa→Option (aa×List Id)}(hp:s9 p p' L L'){cs:List aa}{x}(h:iF p cs=some x)(hh:∀id∈x.2,L' id=L id):iF p' cs=some x:=by unfold iF at h⊢;split at h;·{rename_i hc;simpa[hc]using h};·rename_i hc;simp only[hc];exact Fm hp h hh
theorem VO{p p':aa→Option (aa×List Id)}(hp:s9 p p' L L'):∀{rs:Rows}{x},eB (iF p) rs=some x→(∀id∈x.2,L' id=L id)→eB (iF p') rs=some x|[],x,h,_=>h|c::cs,x,h,hh=>by simp only[eB,Option.bind_eq_some_iff,Option.map_eq_some_iff]at h⊢;obtain⟨y,hy,z,hz,rfl⟩:=h;exact⟨y,KD hp hy fun id hid=>hh id (List.mem_append.2 (.inl hid)),z,VO hp hz fun id hid=>hh id (List.mem_append.2 (.inr hid)),rfl⟩
theorem VP{p p':aa→Option (aa×List Id)}(hp:s9 p p' L L'){rs:Rows}{x}(h:mP p rs=some x)(hh:∀id∈x.2,L' id=L id):mP p' rs=some x:=by unfold mP at h⊢;split at h;·{rename_i hc;simpa[hc]using h};·rename_i hc;simp only[hc];exact VO hp h hh
theorem z8:∀n,s9 (pk L n) (pk L' n) L L'|0=>fun a x h=>by{simp[pk]at h}|n+1=>fun a x h hh=>by have ih:=z8 n;cases a with|rs id off len=>(simp only[pk]at h⊢;split at h;·{rename_i rs hid;split at h;·{rename_i hc;simp only[Option.map_eq_some_iff]at h;obtain⟨y,hy,rfl⟩:=h;rw[hh id (List.mem_cons_self ..),hid];simp only[hc];rw[VP ih (by simpa using hy) fun id hid=>hh id (List.mem_cons_of_mem _ hid)];rfl};·cases h};·cases h)|mp id row off=>(simp only[pk]at h⊢;split at h;·{rename_i cs hid;split at h;·{rename_i hc;simp only[Option.map_eq_some_iff]at h;obtain⟨y,hy,rfl⟩:=h;rw[hh id (List.mem_cons_self ..),hid];simp only[hc];rw[KD ih hy fun id hid=>hh id (List.mem_cons_of_mem _ hid)];rfl};·cases h};·cases h)|agg cs=>(simp only[pk,Option.map_eq_some_iff]at h⊢;obtain⟨y,hy,rfl⟩:=h;exact⟨y,KD ih hy hh,rfl⟩)|bG cs=>(simp only[pk,Option.map_eq_some_iff]at h⊢;obtain⟨y,hy,rfl⟩:=h;exact⟨y,KD ih hy hh,rfl⟩)|fn k a b=>(simpa only[pk]using h)|own rs=>(simpa only[pk]using h)|aL cs=>(simpa only[pk]using h)|cE=>(simpa only[pk]using h)|dM g y=>(simpa only[pk]using h)|val u=>(simpa only[pk]using h)|nn=>(simpa only[pk]using h)|mr id=>(simp only[pk]at h⊢;split at h;·{rename_i rs hid;simp only[Option.some.injEq]at h;subst h;rw[hh id (List.mem_cons_self ..),hid]};·cases h)|eO rs=>(simpa only[pk]using h)|im rs=>(simpa only[pk]using h)|sl rows=>(simpa only[pk]using h)|ax cells=>(simpa only[pk]using h)|cz i rs=>(simpa only[pk]using h)|Cz u=>(simpa only[pk]using h)|bH=>simpa only[pk]using h
theorem V0(o:Oper)(v:aa)(rd:List Id)(wr:List (Id×Option Rows)):(put o v rd wr).rd=rd:=rfl
theorem OS(o:Oper)(v:aa)(rd:List Id)(wr:List (Id×Option Rows)):(put o v rd wr).wr=wr:=rfl
section
variable{C:aU}{f:FuncId}{call:FuncId→List aa→Option (aa×List aa)}{S S':an}{o:Oper}{e:bE}
def jm(S S':an)(e:bE):Prop:=∀id,(id∈e.rd∨∃x∈e.wr,x.1=id)→S'.h id=S.h id
theorem aeC{t:TypeId}(he:sg C f S o t=some e)(hh:jm S S' e):sg C f S' o t=some e:=by
 unfold sg at he⊢
 split at he
 ·rename_i cs d h1 h2
  split at he
  ·simp only[Option.some.injEq]at he;subst he
   rename_i hf
   try rw[h1,h2]
   simp only[hh [d] (.inr ⟨_,List.mem_cons_self ..,rfl⟩),hf,if_true]
  ·cases he
 ·cases he
theorem aeE{t:TypeId}{x:aa}(he:si C f S o t x=some e)(hh:jm S S' e):si C f S' o t x=some e:=by unfold si at he⊢;split at he;·{rename_i b d h1 h2;split at he;·{rename_i cs hcs;split at he;·{rename_i hz;rw[if_pos hz];exact he};·rename_i hz;rw[if_neg hz];split at he;·{rename_i hf;simp only[Option.some.injEq]at he;subst he;rw[hh [d] (.inr ⟨_,List.mem_cons_self ..,rfl⟩),if_pos hf]};·cases he};·cases he};·cases he
theorem aeG{t:TypeId}{n:Nat}{ps:List (Nat×aa)}(he:vj C f S o t n ps=some e)(hh:jm S S' e):vj C f S' o t n ps=some e:=by
 unfold vj at he⊢
 split at he
 ·rename_i el d h1 h2
  split at he
  ·rename_i z b k hz hb hk
   split at he
   ·rename_i hc
    try rw[if_pos hc]
    split at he
    ·rename_i rows hr
     try rw[hr]
     split at he
     ·rename_i hfz
      rw[if_pos hfz];exact he
     ·rename_i hfz
      rw[if_neg hfz]
      split at he
      ·rename_i hf
       simp only[Option.some.injEq]at he;subst he
       rw[hh [d] (.inr ⟨_,List.mem_cons_self ..,rfl⟩),if_pos hf]
      ·cases he
    ·cases he
   ·cases he
  ·cases he
 ·cases he
theorem aeF{t:TypeId}{n:Nat}{ps:List (Nat×aa)}(he:sj C f S o t n ps=some e)(hh:jm S S' e):sj C f S' o t n ps=some e:=by unfold sj at he⊢;split at he;·{rename_i hc;rw[if_pos hc];unfold Fg at he⊢;split at he;·{rename_i rows d h1 h2;split at he;·{rename_i bB ids hp;split at he;·{rename_i hn;simp only[Option.some.injEq]at he;subst he;have:mP (pk S'.h 8) rows=some (bB,ids):=VP (z8 8) hp fun id hid=>hh id (.inl hid);simp only[h1,h2,this,hn,if_true]};·cases he};·cases he};·cases he};·rename_i hc;rw[if_neg hc];exact aeG he hh
theorem aeQ{t:TypeId}{x y:aa}(he:vk C S o t x y=some e)(hh:jm S S' e):vk C S' o t x y=some e:=by
 unfold vk at he⊢
 split at he
 ·rename_i el d l c h1 h2 h3 h4
  split at he
  ·rename_i z i hz hi
   split at he
   ·rename_i hc
    simp only[Option.some.injEq]at he;subst he
    try rw[h1,h2,h3,h4]
    try simp only[hz,hi]
    rw[hh [d] (.inr ⟨_,List.mem_cons_self ..,rfl⟩),if_pos hc]
   ·cases he
  ·cases he
 ·cases he
theorem aeR{t:TypeId}{r:Option Operand}(he:vl C S o t r=some e)(hh:jm S S' e):vl C S' o t r=some e:=by
 unfold vl at he⊢
 split at he
 ·rename_i d h1 h2
  split at he
  ·rename_i hc
   simp only[Option.some.injEq]at he;subst he
   try rw[h1,h2]
   try simp only
   rw[hh [d] (.inr ⟨_,List.mem_cons_self ..,rfl⟩),if_pos hc]
  ·cases he
 ·cases he
theorem aeP{t:TypeId}{x k:aa}{ok:Bool}(he:pX C S o t x k ok=some e)(hh:jm S S' e):pX C S' o t x k ok=some e:=by unfold pX at he⊢;split at he;·{rename_i kind z rows ids kv h1 h2;obtain⟨r,hf,rfl⟩:=Option.map_eq_some_iff.1 he;have e2:xz S'.h x=some (rows,ids):=by{unfold xz at h2⊢;split at h2;·{rename_i id;split at h2;·{rename_i bB hid;simp only[Option.some.injEq,Prod.mk.injEq]at h2;obtain⟨rfl,rfl⟩:=h2;rw[hh id (.inl (by rw[V0];exact List.mem_cons_self ..)),hid]};·cases h2};·{exact h2};·{exact h2};·cases h2};rw[h1,e2];simp only[hf,Option.map_some]};·cases he
theorem SZ{t:TypeId}{x k v:aa}(he:pY C S o t x k v=some e)(hh:jm S S' e):pY C S' o t x k v=some e:=by
 unfold pY at he⊢
 split at he
 ·rename_i kind z id kv pF h1
  split at he
  ·rename_i rows hid
   split at he
   ·rename_i hc
    obtain⟨bB,hp,rfl⟩:=Option.map_eq_some_iff.1 he
    try rw[h1]
    try simp only
    rw[hh id (.inl (by rw[V0];exact List.mem_cons_self ..)),hid]
    simp only[if_pos hc,hp,Option.map_some]
   ·cases he
  ·cases he
 ·cases he
theorem aeS{t:TypeId}{x:aa}{lo hi:Option (Option Int)}(he:sn C S o t x lo hi=some e)(hh:jm S S' e):sn C S' o t x lo hi=some e:=by
 unfold sn at he⊢
 split at he
 ·rename_i el hu
  try rw[hu]
  try simp only
  split at he
  ·exact he
  ·rename_i id off len sz hs
   try rw[hs]
   try simp only
   split at he
   ·rename_i rows hid
    have hrd:id∈e.rd:=by
     simp only[Option.bind_eq_some_iff]at he
     obtain⟨b,_,he⟩:=he
     split at he
     ·simp only[Option.some.injEq]at he;subst he;simp[put]
     ·cases he
    rw[hh id (.inl hrd),hid]
    exact he
   ·cases he
  ·cases he
 ·rename_i hu;try rw[hu]
  exact he
 ·cases he
theorem aeL{t:TypeId}{x:aa}{i:Option Int}(he:pW C S o t x i=some e)(hh:jm S S' e):pW C S' o t x i=some e:=by
 unfold pW at he⊢
 split at he
 ·rename_i el i' hu
  try rw[hu]
  try simp only
  split at he
  ·rename_i hs;try rw[hs]
   exact he
  ·rename_i n id off len hs
   try rw[hs]
   try simp only
   split at he
   ·rename_i hc
    rw[if_pos hc]
    split at he
    ·rename_i rows hid
     have hrd:id∈e.rd:=by
      simp only[Option.bind_eq_some_iff]at he
      obtain⟨b,_,he⟩:=he
      split at he
      ·simp only[Option.some.injEq]at he;subst he;simp[put]
      ·cases he
     rw[hh id (.inl hrd),hid]
     exact he
    ·cases he
   ·cases he
  ·cases he
 ·rename_i hu;try rw[hu]
  exact he
 ·cases he
theorem aeN{t:TypeId}{x:aa}(he:nN C S o t x=some e)(hh:jm S S' e):nN C S' o t x=some e:=by
 unfold nN at he⊢
 split at he
 ·rename_i b n h1 h2
  try rw[h1,h2]
  try simp only
  split at he
  ·exact he
  ·rename_i id row off
   split at he
   ·rename_i rows hid
    obtain⟨r,hr,he⟩:=Option.bind_eq_some_iff.1 he
    split at he
    ·rename_i hc
     split at he
     ·rename_i hem
      have hrd:id∈e.rd:=by
       obtain⟨v,_,he⟩:=Option.map_eq_some_iff.1 he
       subst he;simp[put]
      rw[hh id (.inl hrd),hid]
      simp only[hr,Option.bind_some,hc,if_true,hem]
      exact he
     ·rename_i hem
      split at he
      ·rename_i hf
       have agQ:=he
       obtain⟨v,_,he⟩:=Option.map_eq_some_iff.1 he
       have hrd:id∈e.rd:=by subst he;simp[put]
       have mI:∀x∈(bZ (js o) 0 ((r.drop off).take n)).2,S'.h x.1=S.h x.1:=fun x hx=>hh x.1 (.inr ⟨x,by subst he;simp[put,hx],rfl⟩)
       rw[hh id (.inl hrd),hid]
       simp only[hr,Option.bind_some,hc,if_true,hem,Fs mI,hf]
       exact agQ
      ·cases he
    ·cases he
   ·cases he
  ·cases he
 ·cases he
theorem aeT{t:TypeId}{ao:Operand}{x y:aa}(he:p0 C f S true o t ao x y=some e)(hh:jm S S' e):p0 C f S' true o t ao x y=some e:=by
 unfold p0 at he⊢
 split at he
 ·rename_i b n h1 h2
  try rw[h1,h2]
  try simp only
  split at he
  ·rename_i id row off cs hcs
   try rw[hcs]
   try simp only
   split at he
   ·cases he
   ·rename_i hl
    rw[if_neg hl]
    split at he
    ·rename_i rows hid
     have hrd:id∈e.rd:=by
      obtain⟨r,hr,he⟩:=Option.bind_eq_some_iff.1 he
      split at he
      ·split at he
       ·split at he
        ·simp only[Option.some.injEq]at he;subst he;simp
        ·cases he
       ·split at he
        ·simp only[Option.some.injEq]at he;subst he;simp[put]
        ·cases he
      ·cases he
     rw[hh id (.inl hrd),hid]
     exact he
    ·cases he
  ·cases he
 ·cases he
theorem aeX{e1:bE}(h:sq C f o e1=some e)(hh:jm S S' e):jm S S' e1:=by unfold sq at h;split at h;·{split at h;·{rename_i hw;split at h;·{rename_i hc;obtain⟨rfl,_⟩:=hc;simp only[Option.some.injEq]at h;subst h;intro id hid;refine hh id (hid.imp (fun h=>h) fun⟨x,hx,e⟩=> ?_);rw[hw]at hx;simp only[List.mem_cons,List.not_mem_nil,or_false]at hx;rcases hx with rfl|rfl;·{exact⟨_,List.mem_cons_self ..,e⟩};·exact⟨_,List.mem_cons_of_mem _ (List.mem_cons_self ..),e⟩};·cases h};·{rename_i hw;split at h;·{rename_i hc;obtain⟨rfl,_⟩:=hc;simp only[Option.some.injEq]at h;subst h;intro id hid;refine hh id (hid.imp (fun h=>h) fun⟨x,hx,e⟩=> ?_);rw[hw]at hx;simp only[List.mem_cons,List.not_mem_nil,or_false]at hx;obtain rfl:=hx;exact⟨_,List.mem_cons_self ..,e⟩};·cases h};·cases h};·simp only[Option.some.injEq]at h;subst h;exact hh
theorem aeD{ts:Array TypeId}{xs:List aa}(he:m7 C S o ts xs=some e)(hh:jm S S' e):m7 C S' o ts xs=some e:=by
 unfold m7 at he⊢
 split at he
 ·rename_i x y t el h1 h2
  try rw[h1,h2]
  try simp only
  unfold Bj at he⊢
  split at he
  ·rename_i adZ d hu hd
   try rw[hu,hd]
   try simp only
   split at he
   ·rename_i i aol i1 atu i2 hi hx hy
    split at he
    ·rename_i hc
     unfold m3 at he
     have facts:(∀id∈i1++i2,id∈e.rd)∧(∃r,([d],r)∈e.wr):=by
      split at he
      ·split at he
       ·split at he
        ·simp only[Option.some.injEq]at he;subst he
         exact⟨fun id h=>h,_,List.mem_cons_of_mem _ (List.mem_cons_self ..)⟩
        ·cases he
       ·cases he
      ·simp only[Option.some.injEq]at he;subst he
       exact⟨fun id h=>h,_,List.mem_cons_self ..⟩
      ·cases he
     obtain⟨hrd,r,mI⟩:=facts
     have ex:=KU (L':=S'.h) hx fun id hid=>hh id (.inl (hrd id (List.mem_append.2 (.inl hid))))
     have Ji:=KU (L':=S'.h) hy fun id hid=>hh id (.inl (hrd id (List.mem_append.2 (.inr hid))))
     try rw[hi,ex,Ji]
     try simp only
     rw[hh [d] (.inr ⟨_,mI,rfl⟩),if_pos hc]
     unfold m3
     split at he
     ·rename_i id off len
      have hid:id∈i1:=by
       simp only[rowsOf]at hx
       split at hx
       ·split at hx
        ·simp only[Option.some.injEq,Prod.mk.injEq]at hx
         rw[←hx.2];simp
        ·cases hx
       ·cases hx
      try simp only
      rw[hh id (.inl (hrd id (List.mem_append.2 (.inl hid))))]
      exact he
     ·exact he
     ·cases he
    ·cases he
   ·cases he
  ·cases he
 ·rename_i x y t k h1 h2
  try rw[h1,h2]
  try simp only
  unfold Bk at he⊢
  split at he
  ·rename_i adZ d nn hu hd Nv
   try rw[hu,hd,Nv]
   try simp only
   split at he
   ·rename_i i z aol i1 hi hz hx
    split at he
    ·rename_i hc
     unfold m3 at he
     have facts:(∀id∈i1,id∈e.rd)∧(∃r,([d],r)∈e.wr):=by
      split at he
      ·split at he
       ·split at he
        ·simp only[Option.some.injEq]at he;subst he
         exact⟨fun id h=>by simp only[put,List.append_nil];exact h,_,List.mem_cons_of_mem _ (List.mem_cons_self ..)⟩
        ·cases he
       ·cases he
      ·simp only[Option.some.injEq]at he;subst he
       exact⟨fun id h=>by simp only[put,List.append_nil];exact h,_,List.mem_cons_self ..⟩
      ·cases he
     obtain⟨hrd,r,mI⟩:=facts
     have ex:=KU (L':=S'.h) hx fun id hid=>hh id (.inl (hrd id hid))
     try rw[hi,hz,ex]
     try simp only
     rw[hh [d] (.inr ⟨_,mI,rfl⟩),if_pos hc]
     unfold m3
     split at he
     ·rename_i id off len
      have hid:id∈i1:=by
       simp only[rowsOf]at hx
       split at hx
       ·split at hx
        ·simp only[Option.some.injEq,Prod.mk.injEq]at hx
         rw[←hx.2];simp
        ·cases hx
       ·cases hx
      try simp only
      rw[hh id (.inl (hrd id hid))]
      exact he
     ·exact he
     ·cases he
    ·cases he
   ·cases he
  ·cases he
 ·cases he
theorem aeM{p:Nat×Nat}{xs:List aa}(he:wP S o p xs=some e)(hh:jm S S' e):wP S' o p xs=some e:=by unfold wP at he⊢;split at he;·{rename_i id row off;split at he;·{rename_i rows hid;split at he;·{rename_i g7 off2 len hcell;split at he;·{rename_i fD zc;split at he;·{rename_i hc;simp only[Option.some.injEq]at he;subst he;have e1:S'.h id=S.h id:=hh id (.inl (by simp[put]));have e2:S'.h g7=S.h g7:=hh g7 (.inl (by simp[put]));simp only[e1,hid,hcell,e2,zc,hc,if_true]};·cases he};·cases he};·cases he};·cases he};·{exact he};·cases he
theorem aeK{ts:Array TypeId}{xs:List aa}(he:yO C S o ts xs=some e)(hh:jm S S' e):yO C S' o ts xs=some e:=by unfold yO at he⊢;split at he;·{rename_i x y el h1;split at he;·{rename_i id off len ys i2 hsz Gd;split at he;·{rename_i rows hid;split at he;·{rename_i hc;simp only[Option.some.injEq]at he;subst he;have e1:S'.h id=S.h id:=hh id (.inl (by simp[put]));have e2:rowsOf S'.h y=some (ys,i2):=KU Gd (fun i hi=>hh i (.inl (by simp[put];exact .inr hi)));simp only[hsz,e2,e1,hid,hc,if_true]};·cases he};·cases he};·cases he};·cases he
theorem aeO{as:List aa}(he:xy S o as=some e)(hh:jm S S' e):xy S' o as=some e:=by unfold xy at he⊢;split at he;·{split at he;·{rename_i hc hid;split at he;·{rename_i h2 hk;split at he;·{rename_i hr;split at he;·{rename_i ke;simp only[Option.some.injEq]at he;subst he;have e1:=hh _ (.inl (show _∈[_,_]from List.mem_cons_self ..));have e2:=hh _ (.inl (show _∈[_,_]from List.mem_cons_of_mem _ (List.mem_cons_self ..)));simp only[hc,e1,hid,e2,h2,hk,hr,ke,and_self,if_true]};·cases he};·cases he};·cases he};·cases he};·cases he
theorem aeH{fv:aa}{args:List aa}(he:r7 C f call S o fv args=some e)(hh:jm S S' e):r7 C f call S' o fv args=some e:=by
 unfold r7 at he⊢
 split at he
 ·rename_i k first caps
  try simp only
  by_cases hlk:C.look k=true
  ·rw[if_pos hlk]at he⊢
   exact aeO he hh
  rw[if_neg hlk]at he⊢
  split at he
  ·rename_i as seen d MR bT
   split at he
   ·rename_i r cc
    generalize hr':(if fc C f o.dst=true then eC r else r)=r' at he
    split at he
    ·cases he
    ·rename_i hm
     split at he
     ·rename_i hf
      simp only[Option.some.injEq]at he;subst he
      have hb:tn S'.h (first++args++caps)=some (as,seen):=Fm (LQ 9) MR fun id hid=>hh id (.inl hid)
      have hfr:fresh S'.h (imp [d] r').2=fresh S.h (imp [d] r').2:=Fs fun x hx=>hh x.1 (.inr ⟨x,hx,rfl⟩)
      rw[hb,bT]
      simp only[cc]
      rw[←bT,hr',if_neg hm,hfr,if_pos hf]
     ·cases he
   ·cases he
  ·cases he
 ·cases he
theorem WW:∀{eT:List aa}{ms:List Nat}{as:List aa}{seen tk dS:List Id},ji S.h ms eT=some (as,seen,tk,dS)→(∀id∈seen,S'.h id=S.h id)→(∀id∈tk++dS,S'.h id=S.h id)→ji S'.h ms eT=some (as,seen,tk,dS)|[],ms,as,seen,tk,dS,hx,_,_=>hx|c::cs,ms,as,seen,tk,dS,hx,h1,h2=>by simp only[ji,Option.bind_eq_some_iff]at hx⊢;obtain⟨⟨ys,s1,t1,bC⟩,hy,hx⟩:=hx;refine⟨(ys,s1,t1,bC), ?_, ?_⟩;·{split at hx<;>·obtain⟨x,hpk,hx⟩:=Option.map_eq_some_iff.1 hx;simp only[Prod.mk.injEq]at hx;obtain⟨rfl,rfl,rfl,rfl⟩:=hx;exact WW hy (fun id hid=>h1 id (by simp[hid])) (fun id hid=>h2 id (by rcases List.mem_append.1 hid with h|h<;>simp[h]))};·split at hx;·{rename_i hm;obtain⟨x,hpk,hx⟩:=Option.map_eq_some_iff.1 hx;simp only[Prod.mk.injEq]at hx;obtain⟨rfl,rfl,rfl,rfl⟩:=hx;simp only[hm];rw[z8 9 _ _ hpk fun id hid=>h2 id (by simp[hid])];rfl};·{rename_i hm;obtain⟨x,hpk,hx⟩:=Option.map_eq_some_iff.1 hx;simp only[Prod.mk.injEq]at hx;obtain⟨rfl,rfl,rfl,rfl⟩:=hx;simp only[hm];rw[z8 9 _ _ hpk fun id hid=>h2 id (by simp[hid])];rfl};·rename_i xg hm2;obtain⟨x,hpk,hx⟩:=Option.map_eq_some_iff.1 hx;simp only[Prod.mk.injEq]at hx;obtain⟨rfl,rfl,rfl,rfl⟩:=hx;rw[LQ 9 _ _ hpk fun id hid=>h1 id (by simp[hid])];rfl
theorem V8{a b:aa}{l:List (Id×Option Rows)}(h:jT S.h a b=some l)(hh:∀x∈l,S'.h x.1=S.h x.1):jT S'.h a b=some l:=by unfold jT at h;split at h;·{rename_i id cs;split at h;·{rename_i old hid;split at h;·{rename_i hc;simp only[Option.some.injEq]at h;subst h;have:=hh _ (List.mem_cons_self ..);simp only[jT,this,hid,hc,if_true]};·cases h};·cases h};·{rename_i id n rows;split at h;·{rename_i o1 os hid;split at h;·{rename_i hc;simp only[Option.some.injEq]at h;subst h;have:=hh _ (List.mem_cons_self ..);simp only[jT,this,hid];rw[if_pos hc]};·cases h};·{rename_i hid;split at h;·{rename_i hc;simp only[Option.some.injEq]at h;subst h;have:=hh _ (List.mem_cons_self ..);simp only[jT,this,hid];rw[if_pos hc]};·cases h};·cases h};·{rename_i id rows;split at h;·{rename_i xT hid;simp only[Option.some.injEq]at h;subst h;have:=hh _ (List.mem_cons_self ..);simp only[jT,this,hid]};·cases h};·{cases h};·{cases h};·{cases h};·{cases h};·rename_i g1 g2 g3 g4 _ _ _;simp only[Option.some.injEq]at h;subst h;unfold jT;split<;>first|rfl|exact(g1 _ _ _ rfl).elim|exact(g2 _ _ _ rfl).elim|exact(g3 _ rfl).elim|exact(g4 _ rfl).elim
theorem Wb:∀{as bs:List aa}{l:List (Id×Option Rows)},ku S.h as bs=some l→(∀x∈l,S'.h x.1=S.h x.1)→ku S'.h as bs=some l|[],[],l,h,_=>h|[],_::_,l,h,_=>by{simp[ku]at h}|_::_,[],l,h,_=>by{simp[ku]at h}|a::as,b::bs,l,h,hh=>by simp only[ku]at h⊢;split at h;·{rename_i x y h1 h2;simp only[Option.some.injEq]at h;subst h;rw[V8 h1 fun x hx=>hh x (List.mem_append.2 (.inl hx)),Wb h2 fun x hx=>hh x (List.mem_append.2 (.inr hx))]};·cases h
theorem al4{a b:aa}{l:List (Id×Option Rows)}(h:uA S.h a b=some l)(hh:∀x∈l,S'.h x.1=S.h x.1):uA S'.h a b=some l:=by unfold uA at h⊢;split at h;·{exact Wb h hh};·exact V8 h hh
theorem We{args:List aa}:∀{cK:List Nat}{outs:List aa}{l:List (Id×Option Rows)},ir S.h args cK outs=some l→(∀x∈l,S'.h x.1=S.h x.1)→ir S'.h args cK outs=some l|[],[],l,h,_=>h|[],_::_,l,h,_=>by{simp[ir]at h}|_::_,[],l,h,_=>by{simp[ir]at h}|j::cK,b::outs,l,h,hh=>by simp only[ir]at h⊢;split at h;·{rename_i a y h1 h2;split at h;·{rename_i x h3;simp only[Option.some.injEq]at h;subst h;rw[h1,We h2 fun x hx=>hh x (List.mem_append.2 (.inr hx))];simp only[al4 h3 fun x hx=>hh x (List.mem_append.2 (.inl hx))]};·cases h};·cases h
theorem aeJ{k:FuncId}{args:List aa}(he:tr C f call S o k args=some e)(hh:jm S S' e):tr C f call S' o k args=some e:=by unfold tr at he⊢;split at he;·{rename_i as seen tk dS d lO bT;split at he;·{rename_i r outs cc;generalize hr':(if fc C f o.dst=true then eC r else r)=r' at he;split at he;·{rename_i back j9;split at he;·{rename_i JL;simp only[Option.some.injEq]at he;subst he;have hw:∀x,(x∈(imp [d] r').2∨x∈back∨x∈(tk++dS).map fun i=>((i,none):Id×Option Rows))→S'.h x.1=S.h x.1:=fun x hx=>hh x.1 (.inr ⟨x,by rw[OS];rcases hx with hx|hx|hx;·{exact List.mem_append.2 (.inl hx)};·{exact List.mem_append.2 (.inr (List.mem_append.2 (.inl hx)))};·exact List.mem_append.2 (.inr (List.mem_append.2 (.inr hx))),rfl⟩);have e1:ji S'.h (C.zZ k) args=some (as,seen,tk,dS):=WW lO (fun id hid=>hh id (.inl hid)) fun id hid=>hw (id,none) (.inr (.inr (List.mem_map.2 ⟨id,hid,rfl⟩)));have e2:ir S'.h args (C.cK k) outs=some back:=We j9 fun x hx=>hw x (.inr (.inl hx));have hfr:fresh S'.h (imp [d] r').2=fresh S.h (imp [d] r').2:=Fs fun x hx=>hw x (.inl hx);rw[e1];simp only[bT];simp only[bT]at hr';simp only[cc,hr',e2,hfr,if_pos JL]};·cases he};·cases he};·cases he};·cases he
end
end Go.Ab
namespace Go.Ab
open Go
variable{L L':Id→Option (Option Rows)}
section
variable{C:aU}{f:FuncId}{call:FuncId→List aa→Option (aa×List aa)}{S S':an}{o:Oper}{e:bE}
def tmpsOf(o:Oper):List Nat:=o.op.operands.toList.filterMap fun| .tmp t=>some t|_=>none
theorem acS{keep:Id→Bool}:s9 (hY L keep) (hY L' keep) L L':=fun a x h hh=>by cases a with|rs i off len=>(simp only[hY]at h⊢;split at h;·{rename_i hk;rw[if_pos hk];exact h};·rename_i hk;rw[if_neg hk];exact z8 8 _ _ h hh)|mp i off len=>(simp only[hY]at h⊢;split at h;·{rename_i hk;rw[if_pos hk];exact h};·rename_i hk;rw[if_neg hk];exact z8 8 _ _ h hh)|mr i=>(simp only[hY]at h⊢;split at h;·{rename_i hk;rw[if_pos hk];exact h};·rename_i hk;rw[if_neg hk];exact z8 8 _ _ h hh)|_=>exact h
theorem SW{q q':List aa→Option (List aa×List Id)}(hq:∀r x,q r=some x→(∀id∈x.2,L' id=L id)→q' r=some x):∀{rs:Rows}{x},eB q rs=some x→(∀id∈x.2,L' id=L id)→eB q' rs=some x|[],x,h,_=>h|c::cs,x,h,hh=>by simp only[eB,Option.bind_eq_some_iff,Option.map_eq_some_iff]at h⊢;obtain⟨y,hy,z,hz,rfl⟩:=h;exact⟨y,hq _ _ hy fun id hid=>hh id (List.mem_append.2 (.inl hid)),z,SW hq hz fun id hid=>hh id (List.mem_append.2 (.inr hid)),rfl⟩
theorem acW{keep:Id→Bool}(r:List aa)(x)(hy:mg L keep r=some x)(hh:∀id∈x.2,L' id=L id):mg L' keep r=some x:=by unfold mg at hy⊢;split at hy;·{rename_i hc;rw[if_pos hc];exact hy};·rename_i hc;rw[if_neg hc];exact Fm acS hy hh
theorem acU{keep:Id→Bool}{rs:Rows}{x}(h:eB (mg L keep) rs=some x)(hh:∀id∈x.2,L' id=L id):eB (mg L' keep) rs=some x:=SW acW h hh
theorem Vs{l:List (Id×Id)}:∀{r:List (Id×Id)}{x},je L l r=some x→(∀i∈r.map (·.1),L' i=L i)→(∀i∈x.2,L' i=L i)→je L' l r=some x|[],x,h,_,_=>h|(o,k)::r,x,h,h1,h2=>by simp only[je]at h⊢;rw[h1 o (by simp)];split at h;·{simp only[Option.bind_eq_some_iff,Option.map_eq_some_iff]at h⊢;obtain⟨y,hy,bB,hr,z,hz,rfl⟩:=h;refine⟨y, ?_,bB,hr,z,Vs hz (fun i hi=>h1 i (by simp only[List.map_cons];exact List.mem_cons_of_mem _ hi)) (fun i hi=>h2 i (List.mem_append.2 (.inr hi))),rfl⟩;unfold oE at hy⊢;split at hy;·{rename_i hc;rw[if_pos hc];exact hy};·rename_i hc;rw[if_neg hc];exact acU hy fun i hi=>h2 i (List.mem_append.2 (.inl hi))};·cases h
theorem Bs:∀(n:Nat)(b:Bool)(p:Id)(j:Nat)(acc:List (Id×Id))(as:List aa),∀x∈acc,x∈eU L n b p j acc as|0,_,_,_,_,_,x,hx=>hx|_+1,_,_,_,_,[],x,hx=>hx|n+1,b,p,j,acc,a::as,x,hx=>by unfold eU;apply Bs n b p (j+1);cases a with|rs i off len=>(dsimp only;split;exact hx;exact List.mem_append_left _ hx)|mr i=>(dsimp only;split;exact hx;exact List.mem_append_left _ hx)|mp i row off=>(dsimp only;split;·{exact hx};·split;·{exact Bs n _ _ _ _ _ x (List.mem_append_left _ hx)};·exact List.mem_append_left _ hx)|agg cs=>(exact Bs n _ _ _ _ _ x hx)|fn k xs cs=>(exact Bs n _ _ _ _ _ x hx)|_=>exact hx
theorem ade(n:Nat)(b:Bool)(p:Id)(j:Nat)(acc:List (Id×Id))(a:aa)(as:List aa):∃l:(Id→Option (Option Rows))→List (Id×Id),∀L,eU L (n+1) b p j acc (a::as)=eU L n b p (j+1) (l L) as∧l L=(match a with| .rs i _ _=>if !b||(gx acc i).isSome then acc else acc++[(i,j::p)]| .mr i=>if !b||(gx acc i).isSome then acc else acc++[(i,j::p)]| .mp i _ _=>if(gx acc i).isSome then acc else(match L i with|some (some [cs])=>eU L n false (j::p) 0 (acc++[(i,j::p)]) cs|_=>acc++[(i,j::p)])| .agg cs=>eU L n b (j::p) 0 acc cs| .fn _ as cs=>eU L n true (j::p) 0 acc (as++cs)|_=>acc):=⟨_,fun L=>⟨by cases a<;>rw[eU]<;>first|rfl|(intros;contradiction)|(intros;rename_i h;cases h),rfl⟩⟩
theorem E2:∀(n:Nat)(b:Bool)(p:Id)(j:Nat)(acc:List (Id×Id))(as:List aa),(∀i∈(eU L n b p j acc as).map (·.1),L' i=L i)→eU L' n b p j acc as=eU L n b p j acc as|0,_,_,_,_,_,_=>rfl|_+1,_,_,_,_,[],_=>rfl|n+1,b,p,j,acc,a::as,h=>by obtain⟨l,hl⟩:=ade n b p j acc a as;rw[(hl L).1]at h⊢;rw[(hl L').1];have sub:∀i∈(l L).map (·.1),L' i=L i:=fun i hi=>by{obtain⟨x,hx,rfl⟩:=List.mem_map.1 hi;exact h _ (List.mem_map.2 ⟨x,Bs n b p (j+1) _ as x hx,rfl⟩)};have e:l L'=l L:=by{have h1:=(hl L).2;rw[h1]at sub;rw[(hl L').2,h1];clear h1 h hl l;cases a with|mp i row off=>(dsimp only at sub⊢;by_cases hs:(gx acc i).isSome=true;·{rw[if_pos hs,if_pos hs]};·rw[if_neg hs]at sub;rw[if_neg hs,if_neg hs];have hi:L' i=L i:=by{refine sub i ?_;split;·{exact List.mem_map.2 ⟨(i,j::p),Bs n _ _ _ _ _ _ (List.mem_append_right _ (List.mem_singleton.2 rfl)),rfl⟩};·exact List.mem_map.2 ⟨(i,j::p),List.mem_append_right _ (List.mem_singleton.2 rfl),rfl⟩};rw[hi];split;·{rename_i cs hcs;rw[hcs]at sub;exact E2 n false (j::p) 0 _ cs sub};·rfl)|agg cs=>(exact E2 n b (j::p) 0 _ cs sub)|fn k xs cs=>(exact E2 n true (j::p) 0 _ (xs++cs) sub)|_=>rfl};rw[e];exact E2 n b p (j+1) _ as h
theorem afe{k:FuncId}{args:List aa}{x:A4}(h:tF call L k args=some x)(h1:∀i∈x.l.map (·.1),L' i=L i)(h2:∀i∈x.gone,L' i=L i):tF call L' k args=some x:=by have hl:x.l=eU L 60 true [kj] 0 [] args:=by{unfold tF Fu at h;split at h;·{split at h;·{split at h;·{obtain⟨back,_,rfl⟩:=Option.map_eq_some_iff.1 h;rfl};·cases h};·cases h};·cases h};obtain⟨obs,outs,ho,_⟩:=Jz h;unfold tF at h⊢;rw[E2 60 true [kj] 0 [] args (by rw[←hl];exact h1)];unfold Fu at h⊢;rw[hl]at ho;rw[ho]at h;rw[Vs ho (by rw[←hl];exact h1) h2];exact h
theorem aeI{k:FuncId}{args:List aa}(he:r8 C f call S o k args=some e)(hh:jm S S' e):r8 C f call S' o k args=some e:=by unfold r8 at he⊢;simp only[Option.bind_eq_some_iff]at he⊢;obtain⟨x,hx,he⟩:=he;split at he;·{cases he};·rename_i hp;generalize vB:(if fc C f o.dst=true then(if flat x.r=true then eC x.r else .bH)else x.r)=rr at he;split at he;·{rename_i hf;simp only[Option.some.injEq]at he;subst he;have gZ:kK S'.h x.back=kK S.h x.back:=by{obtain⟨_,_,_,_,hb,_⟩:=Jz hx;have MQ:=(yB hb).1;unfold kK;refine List.filter_congr fun b hb=> ?_;have:S'.h b.1=S.h b.1:=hh b.1 (.inl (by show b.1∈x.l.map (·.1);rw[←MQ];exact List.mem_map.2 ⟨b,hb,rfl⟩));unfold Aw;rw[this]};refine⟨x,afe hx (fun i hi=>hh i (.inl hi)) (fun i hi=>hh i (.inr ⟨(i,none), ?_,rfl⟩)), ?_⟩;·{simp only[OS];exact List.mem_append_right _ (List.mem_append_right _ (List.mem_map.2 ⟨i,hi,rfl⟩))};·rw[if_neg hp];simp only[vB,gZ];rw[Fs (L':=S'.h) (L:=S.h) fun y hy=>hh y.1 (.inr ⟨y,by simp only[OS];exact List.mem_append_left _ hy,rfl⟩),if_pos hf]};·cases he
theorem afb(hs:∀t∈tmpsOf o,S'.t t=S.t t){x:Operand}(hx:x∈o.op.operands.toList):S'.get C x=S.get C x:=by cases x with|tmp t=>(exact hs t (List.mem_filterMap.2 ⟨.tmp t,hx,rfl⟩))|_=>rfl
theorem ad9(he:bN C f call S true o=some e)(hs:∀t∈tmpsOf o,S'.t t=S.t t)(hh:jm S S' e):bN C f call S' true o=some e:=by have get:∀x∈o.op.operands.toList,S'.get C x=S.get C x:=fun x hx=>afb hs hx;have yU:∀xs:List Operand,(∀x∈xs,x∈o.op.operands.toList)→(xs.map fun x=>un true (S'.get C x))=xs.map fun x=>un true (S.get C x):=fun xs h=>List.map_congr_left fun x hx=>by{rw[get x (h x hx)]};have BH:∀xs:List (Nat×Operand),(∀x∈xs,x.2∈o.op.operands.toList)→(xs.map fun p=>(p.1,un true (S'.get C p.2)))=xs.map fun p=>(p.1,un true (S.get C p.2)):=fun xs h=>List.map_congr_left fun x hx=>by{rw[get x.2 (h x hx)]};unfold bN at he⊢;cases ho:o.op with|move x=>(rw[ho]at he get;simp only[Op.operands]at he get⊢;rw[get x (by simp)];exact he)|assign x=>(rw[ho]at he get;simp only[Op.operands]at he get⊢;rw[get x (by simp)];exact he)|pick c x y=>(rw[ho]at he get;simp only[Op.operands]at he get⊢;rw[get c (by simp),get x (by simp),get y (by simp)];exact he)|alloc t=>(rw[ho]at he;exact aeC he hh)|box t x=>(rw[ho]at he get;simp only[Op.operands]at he get⊢;rw[get x (by simp)];exact aeE he hh)|build t ps=>(rw[ho]at he BH;simp only[Op.operands]at he BH⊢;rw[BH ps.toList (fun x hx=>by simp;exact⟨x.1,by simpa using hx⟩)];exact he)|buildSlice t n ps=>(rw[ho]at he BH;simp only[Op.operands]at he BH⊢;rw[BH ps.toList (fun x hx=>by simp;exact⟨x.1,by simpa using hx⟩)];exact aeF he hh)|load t x=>(rw[ho]at he get;simp only[Op.operands]at he get⊢;rw[get x (by simp)];exact aeN he hh)|store t x y=>(rw[ho]at he get;simp only[Op.operands]at he get⊢;rw[get x (by simp),get y (by simp)];exact aeT he hh)|nilCheck x=>(rw[ho]at he get;simp only[Op.operands]at he get⊢;rw[get x (by simp)];exact he)|binOp op t x y u=>(rw[ho]at he get;simp only[Op.operands]at he get⊢;rw[get x (by simp),get y (by simp)];exact he)|unOp op t x=>(rw[ho]at he get;simp only[Op.operands]at he get⊢;rw[get x (by simp)];exact he)|convert s t x=>(rw[ho]at he get;simp only[Op.operands]at he get⊢;rw[get x (by simp)];exact he)|makeInterface t x=>(rw[ho]at he get;simp only[Op.operands]at he get⊢;rw[get x (by simp)];exact he)|makeFunc k xs ys=>(rw[ho]at he yU;simp only[Op.operands]at he yU⊢;rw[yU xs.toList (fun x hx=>by simp;exact .inl (by simpa using hx)),yU ys.toList (fun x hx=>by simp;exact .inr (by simpa using hx))];exact he)|makeSlice t x y=>(rw[ho]at he get;simp only[Op.operands]at he get⊢;rw[get x (by simp),get y (by simp)];exact aeQ he hh)|slice t x lo hi mx=>(rw[ho]at he get;simp only[Op.operands]at he get⊢;split at he;·{cases he};·rename_i hm;rw[if_neg hm,get x (by simp)];have e1:(lo.map fun y=>fl (un true (S'.get C y)))=lo.map fun y=>fl (un true (S.get C y)):=by{cases lo with|none=>(rfl)|some y=>simp only[Option.map_some];rw[get y (by simp)]};have e2:(hi.map fun y=>fl (un true (S'.get C y)))=hi.map fun y=>fl (un true (S.get C y)):=by{cases hi with|none=>(rfl)|some y=>simp only[Option.map_some];rw[get y (by simp)]};rw[e1,e2];exact aeS he hh)|fieldAddr s x i=>(rw[ho]at he get;simp only[Op.operands]at he get⊢;rw[get x (by simp)];exact he)|field s x i=>(rw[ho]at he get;simp only[Op.operands]at he get⊢;rw[get x (by simp)];exact he)|indexAddr t x y=>(rw[ho]at he get;simp only[Op.operands]at he get⊢;rw[get x (by simp),get y (by simp)];exact aeL he hh)|index t x y=>(rw[ho]at he get;simp only[Op.operands]at he get⊢;rw[get x (by simp),get y (by simp)];exact he)|extract x i=>(rw[ho]at he get;simp only[Op.operands]at he get⊢;rw[get x (by simp)];exact he)|makeMap t r=>(rw[ho]at he;exact aeR he hh)|lookup t x y ok=>(rw[ho]at he get;simp only[Op.operands]at he get⊢;rw[get x (by simp),get y (by simp)];exact aeP he hh)|mapUpdate t x y z=>(rw[ho]at he get;simp only[Op.operands]at he get⊢;rw[get x (by simp),get y (by simp),get z (by simp)];exact SZ he hh)|insert t x y z=>(rw[ho]at he get;simp only[Op.operands]at he get⊢;rw[get x (by simp),get y (by simp),get z (by simp)];exact SZ he hh)|call c=>(rw[ho]at he get yU;simp only[Op.operands]at he get yU⊢;have hargs:=yU c.args.toList (fun x hx=>by simp only[Call.operands];simp;exact .inr (by simpa using hx));cases hc:c.callee with|builtin b=>(rw[hc]at he;cases b with|len=>(simp only at he⊢;rw[hargs];exact he)|append=>(simp only[Option.bind_eq_some_iff]at he⊢;rw[hargs];obtain⟨e1,h1,h2⟩:=he;exact⟨e1,aeD h1 (aeX h2 hh),h2⟩)|copy=>(simp only at he⊢;rw[hargs];exact aeK he hh)|max=>(simp only at he⊢;rw[hargs];exact he)|min=>(simp only at he⊢;rw[hargs];exact he)|_=>cases he)|value cS=>(rw[hc]at he;simp only at he⊢;rw[get cS (by simp[Call.operands,hc])];split at he;·{rename_i x hx;rw[hargs];exact aeI he hh};rename_i hx;split at he;·{rename_i p hp;rw[hargs];exact aeM he hh};·rename_i hp;split at he;·{rename_i lO;rw[if_pos lO];cases cS with|func k=>(simp only at he⊢;rw[hargs];exact aeJ he hh)|_=>cases he};·rename_i lO;rw[if_neg lO,hargs];exact aeH he hh)|invoke r n=>rw[hc]at he;cases he)|_=>rw[ho]at he;cases he
end
end Go.Ab
