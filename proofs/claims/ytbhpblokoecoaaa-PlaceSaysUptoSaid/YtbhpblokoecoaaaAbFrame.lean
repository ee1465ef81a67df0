import Derived.Test.YtbhpblokoecoaaaAbReg2
namespace Go.Ab
open Go
variable{L L':Id→Option (Option Rows)}
theorem Fv:∀{l:List (Id×Option Rows)},(∀x∈l,L' x.1=L x.1)→fresh L' l=fresh L l|[],_=>rfl|x::l,h=>by have ih:=Fv fun y hy=>h y (List.mem_cons_of_mem _ hy);unfold fresh at ih⊢;simp only[List.all_cons,ih,h x (List.mem_cons_self ..)]
theorem GR {x : aa} {r : Rows × List Id} (h : rowsOf L x = some r) (hh : ∀ id ∈ r.2, L' id = L id) : rowsOf L' x = some r := by
  cases x <;> simp only [rowsOf] at h ⊢ <;> try exact h
  rename_i id off len
  split at h
  · rename_i rs hid
    split at h
    · rename_i hc
      simp only [Option.some.injEq] at h; subst h
      rw [hh id (by simp), hid]
      simp only [hc, if_true]
    · cases h
  · cases h
def r6(p p':(aa→Option (aa×List Id)))(L L':Id→Option (Option Rows)):Prop:=∀a x,p a=some x→(∀id∈x.2,L' id=L id)→p' a=some x
theorem Fu{p p':aa→Option (aa×List Id)}(hp:r6 p p' L L'):∀{cs:List aa}{x},eD p cs=some x→(∀id∈x.2,L' id=L id)→eD p' cs=some x|[],x,h,_=>h|c::cs,x,h,hh=>by simp only[eD,Option.bind_eq_some_iff,Option.map_eq_some_iff]at h⊢;obtain⟨y,hy,z,hz,rfl⟩:=h;exact⟨y,hp _ _ hy fun id hid=>hh id (List.mem_append.2 (.inl hid)),z,Fu hp hz fun id hid=>hh id (List.mem_append.2 (.inr hid)),rfl⟩
theorem vL{p p':aa→Option (aa×List Id)}(hp:r6 p p' L L'){cs:List aa}{x}(h:fz p cs=some x)(hh:∀id∈x.2,L' id=L id):fz p' cs=some x:=by unfold fz at h⊢;split at h;·{rename_i hc;simpa[hc]using h};·rename_i hc;simp only[hc];exact Fu hp h hh
theorem NJ{p p':aa→Option (aa×List Id)}(hp:r6 p p' L L'):∀{rs:Rows}{x},ek (fz p) rs=some x→(∀id∈x.2,L' id=L id)→ek (fz p') rs=some x|[],x,h,_=>h|c::cs,x,h,hh=>by simp only[ek,Option.bind_eq_some_iff,Option.map_eq_some_iff]at h⊢;obtain⟨y,hy,z,hz,rfl⟩:=h;exact⟨y,vL hp hy fun id hid=>hh id (List.mem_append.2 (.inl hid)),z,NJ hp hz fun id hid=>hh id (List.mem_append.2 (.inr hid)),rfl⟩
theorem MA{p p':aa→Option (aa×List Id)}(hp:r6 p p' L L'){rs:Rows}{x}(h:kf p rs=some x)(hh:∀id∈x.2,L' id=L id):kf p' rs=some x:=by unfold kf at h⊢;split at h;·{rename_i hc;simpa[hc]using h};·rename_i hc;simp only[hc];exact NJ hp h hh
theorem HS:∀n,r6 (bQ L n) (bQ L' n) L L'|0=>fun a x h=>by{simp[bQ]at h}|n+1=>fun a x h hh=>by have ih:=HS n;cases a with|rs id off len=>(simp only[bQ]at h⊢;split at h;·{rename_i rs hid;split at h;·{rename_i hc;simp only[Option.map_eq_some_iff]at h;obtain⟨y,hy,rfl⟩:=h;rw[hh id (List.mem_cons_self ..),hid];simp only[hc,if_true,MA ih hy fun id hid=>hh id (List.mem_cons_of_mem _ hid),Option.map_some]};·cases h};·cases h)|mp id row off=>(simp only[bQ]at h⊢;split at h;·{rename_i rs hid;split at h;·{rename_i r hrow;split at h;·{rename_i hoff;simp only[Option.map_eq_some_iff]at h;obtain⟨y,hy,rfl⟩:=h;rw[hh id (List.mem_cons_self ..),hid];simp only[hrow,hoff,if_true,vL ih hy fun id hid=>hh id (List.mem_cons_of_mem _ hid),Option.map_some]};·cases h};·cases h};·cases h)|agg cs=>(simp only[bQ,Option.map_eq_some_iff]at h⊢;obtain⟨y,hy,rfl⟩:=h;exact⟨y,vL ih hy hh,rfl⟩)|b9 cs=>(simp only[bQ,Option.map_eq_some_iff]at h⊢;obtain⟨y,hy,rfl⟩:=h;exact⟨y,vL ih hy hh,rfl⟩)|fn k a b=>(simp only[bQ,Option.map_eq_some_iff,Option.bind_eq_some_iff]at h⊢;obtain⟨y,hy,z,hz,rfl⟩:=h;exact⟨y,vL ih hy fun id hid=>hh id (List.mem_append.2 (.inl hid)),z,vL ih hz fun id hid=>hh id (List.mem_append.2 (.inr hid)),rfl⟩)|own rs=>(simp only[bQ,Option.map_eq_some_iff]at h⊢;obtain⟨y,hy,rfl⟩:=h;exact⟨y,MA ih hy hh,rfl⟩)|aH cs=>(simp only[bQ,Option.map_eq_some_iff]at h⊢;obtain⟨y,hy,rfl⟩:=h;exact⟨y,vL ih hy hh,rfl⟩)|cN=>(simpa only[bQ]using h)|dj g y=>(simpa only[bQ]using h)|val u=>(simpa only[bQ]using h)|nn=>(simpa only[bQ]using h)|mr id=>(simp only[bQ]at h⊢;split at h;·{rename_i rs hid;simp only[Option.some.injEq]at h;subst h;rw[hh id (List.mem_cons_self ..),hid]};·cases h)|dW rs=>(simpa only[bQ]using h)|im rs=>(simpa only[bQ]using h)|sl rows=>(simpa only[bQ]using h)|au cells=>(simpa only[bQ]using h)|bX=>simpa only[bQ]using h
theorem GB{p p':aa→Option (aa×List Id)}(hp:r6 p p' L L'){cs:List aa}{x}(h:fA p cs=some x)(hh:∀id∈x.2,L' id=L id):fA p' cs=some x:=by unfold fA at h⊢;split at h;·{rename_i hc;simpa[hc]using h};·rename_i hc;simp only[hc];exact Fu hp h hh
theorem QG{p p':aa→Option (aa×List Id)}(hp:r6 p p' L L'):∀{rs:Rows}{x},ek (fA p) rs=some x→(∀id∈x.2,L' id=L id)→ek (fA p') rs=some x|[],x,h,_=>h|c::cs,x,h,hh=>by simp only[ek,Option.bind_eq_some_iff,Option.map_eq_some_iff]at h⊢;obtain⟨y,hy,z,hz,rfl⟩:=h;exact⟨y,GB hp hy fun id hid=>hh id (List.mem_append.2 (.inl hid)),z,QG hp hz fun id hid=>hh id (List.mem_append.2 (.inr hid)),rfl⟩
theorem QU{p p':aa→Option (aa×List Id)}(hp:r6 p p' L L'){rs:Rows}{x}(h:iW p rs=some x)(hh:∀id∈x.2,L' id=L id):iW p' rs=some x:=by unfold iW at h⊢;split at h;·{rename_i hc;simpa[hc]using h};·rename_i hc;simp only[hc];exact QG hp h hh
theorem GF:∀n,r6 (pk L n) (pk L' n) L L'|0=>fun a x h=>by{simp[pk]at h}|n+1=>fun a x h hh=>by have ih:=GF n;cases a with|rs id off len=>(simp only[pk]at h⊢;split at h;·{rename_i rs hid;split at h;·{rename_i hc;simp only[Option.map_eq_some_iff]at h;obtain⟨y,hy,rfl⟩:=h;rw[hh id (List.mem_cons_self ..),hid];simp only[hc];rw[QU ih (by simpa using hy) fun id hid=>hh id (List.mem_cons_of_mem _ hid)];rfl};·cases h};·cases h)|mp id row off=>(simp only[pk]at h⊢;split at h;·{rename_i cs hid;split at h;·{rename_i hc;simp only[Option.map_eq_some_iff]at h;obtain⟨y,hy,rfl⟩:=h;rw[hh id (List.mem_cons_self ..),hid];simp only[hc];rw[GB ih hy fun id hid=>hh id (List.mem_cons_of_mem _ hid)];rfl};·cases h};·cases h)|agg cs=>(simp only[pk,Option.map_eq_some_iff]at h⊢;obtain⟨y,hy,rfl⟩:=h;exact⟨y,GB ih hy hh,rfl⟩)|b9 cs=>(simp only[pk,Option.map_eq_some_iff]at h⊢;obtain⟨y,hy,rfl⟩:=h;exact⟨y,GB ih hy hh,rfl⟩)|fn k a b=>(simpa only[pk]using h)|own rs=>(simpa only[pk]using h)|aH cs=>(simpa only[pk]using h)|cN=>(simpa only[pk]using h)|dj g y=>(simpa only[pk]using h)|val u=>(simpa only[pk]using h)|nn=>(simpa only[pk]using h)|mr id=>(simp only[pk]at h⊢;split at h;·{rename_i rs hid;simp only[Option.some.injEq]at h;subst h;rw[hh id (List.mem_cons_self ..),hid]};·cases h)|dW rs=>(simpa only[pk]using h)|im rs=>(simpa only[pk]using h)|sl rows=>(simpa only[pk]using h)|au cells=>(simpa only[pk]using h)|bX=>simpa only[pk]using h
theorem Ra(o:Oper)(v:aa)(rd:List Id)(wr:List (Id×Option Rows)):(put o v rd wr).rd=rd:=rfl
theorem aek(o:Oper)(v:aa)(rd:List Id)(wr:List (Id×Option Rows)):(put o v rd wr).wr=wr:=rfl
section
variable{C:aV}{f:FuncId}{call:FuncId→List aa→Option (aa×List aa)}{S S':an}{o:Oper}{e:bx}
def ic(S S':an)(e:bx):Prop:=∀id,(id∈e.rd∨∃x∈e.wr,x.1=id)→S'.h id=S.h id
theorem XW {t : TypeId} (he : pN C f S o t = some e) (hh : ic S S' e) : pN C f S' o t = some e := by
  unfold pN at he ⊢
  split at he
  · rename_i cs d h1 h2
    split at he
    · simp only [Option.some.injEq] at he; subst he
      rename_i hf
      try rw [h1, h2]
      simp only [hh [d] (.inr ⟨_, List.mem_cons_self .., rfl⟩), hf, if_true]
    · cases he
  · cases he
theorem XY{t:TypeId}{x:aa}(he:pO C f S o t x=some e)(hh:ic S S' e):pO C f S' o t x=some e:=by unfold pO at he⊢;split at he;·{rename_i b d h1 h2;split at he;·{rename_i cs hcs;split at he;·{rename_i hz;rw[if_pos hz];exact he};·rename_i hz;rw[if_neg hz];split at he;·{rename_i hf;simp only[Option.some.injEq]at he;subst he;rw[hh [d] (.inr ⟨_,List.mem_cons_self ..,rfl⟩),if_pos hf]};·cases he};·cases he};·cases he
theorem X0 {t : TypeId} {n : Nat} {ps : List (Nat × aa)} (he : sv C f S o t n ps = some e) (hh : ic S S' e) : sv C f S' o t n ps = some e := by
  unfold sv at he ⊢
  split at he
  · rename_i el d h1 h2
    split at he
    · rename_i z b k hz hb hk
      split at he
      · rename_i hc
        try rw [if_pos hc]
        split at he
        · rename_i rows hr
          try rw [hr]
          split at he
          · rename_i hfz
            rw [if_pos hfz]; exact he
          · rename_i hfz
            rw [if_neg hfz]
            split at he
            · rename_i hf
              simp only [Option.some.injEq] at he; subst he
              rw [hh [d] (.inr ⟨_, List.mem_cons_self .., rfl⟩), if_pos hf]
            · cases he
        · cases he
      · cases he
    · cases he
  · cases he
theorem XZ{t:TypeId}{n:Nat}{ps:List (Nat×aa)}(he:nF C f S o t n ps=some e)(hh:ic S S' e):nF C f S' o t n ps=some e:=by unfold nF at he⊢;split at he;·{rename_i hc;rw[if_pos hc];unfold yZ at he⊢;split at he;·{rename_i rows d h1 h2;split at he;·{rename_i bZ ids hp;split at he;·{rename_i hn;simp only[Option.some.injEq]at he;subst he;have:iW (pk S'.h 8) rows=some (bZ,ids):=QU (GF 8) hp fun id hid=>hh id (.inl hid);simp only[h1,h2,this,hn,if_true]};·cases he};·cases he};·cases he};·rename_i hc;rw[if_neg hc];exact X0 he hh
theorem X9 {t : TypeId} {x y : aa} (he : sw C S o t x y = some e) (hh : ic S S' e) : sw C S' o t x y = some e := by
  unfold sw at he ⊢
  split at he
  · rename_i el d l c h1 h2 h3 h4
    split at he
    · rename_i z i hz hi
      split at he
      · rename_i hc
        simp only [Option.some.injEq] at he; subst he
        try rw [h1, h2, h3, h4]
        try simp only [hz, hi]
        rw [hh [d] (.inr ⟨_, List.mem_cons_self .., rfl⟩), if_pos hc]
      · cases he
    · cases he
  · cases he
theorem Ya {t : TypeId} {r : Option Operand} (he : sx C S o t r = some e) (hh : ic S S' e) : sx C S' o t r = some e := by
  unfold sx at he ⊢
  split at he
  · rename_i d h1 h2
    split at he
    · rename_i hc
      simp only [Option.some.injEq] at he; subst he
      try rw [h1, h2]
      try simp only
      rw [hh [d] (.inr ⟨_, List.mem_cons_self .., rfl⟩), if_pos hc]
    · cases he
  · cases he
theorem X8{t:TypeId}{x k:aa}{ok:Bool}(he:nH C S o t x k ok=some e)(hh:ic S S' e):nH C S' o t x k ok=some e:=by unfold nH at he⊢;split at he;·{rename_i kind z rows ids kv h1 h2;obtain⟨r,hf,rfl⟩:=Option.map_eq_some_iff.1 he;have e2:uQ S'.h x=some (rows,ids):=by{unfold uQ at h2⊢;split at h2;·{rename_i id;split at h2;·{rename_i bZ hid;simp only[Option.some.injEq,Prod.mk.injEq]at h2;obtain⟨rfl,rfl⟩:=h2;rw[hh id (.inl (by rw[Ra];exact List.mem_cons_self ..)),hid]};·cases h2};·{exact h2};·{exact h2};·cases h2};rw[h1,e2];simp only[hf,Option.map_some]};·cases he
theorem NO {t : TypeId} {x k v : aa} (he : pQ C S o t x k v = some e) (hh : ic S S' e) : pQ C S' o t x k v = some e := by
  unfold pQ at he ⊢
  split at he
  · rename_i kind z id kv ng h1
    split at he
    · rename_i rows hid
      split at he
      · rename_i hc
        obtain ⟨bZ, hp, rfl⟩ := Option.map_eq_some_iff.1 he
        try rw [h1]
        try simp only
        rw [hh id (.inl (by rw [Ra]; exact List.mem_cons_self ..)), hid]
        simp only [if_pos hc, hp, Option.map_some]
      · cases he
    · cases he
  · cases he
theorem Yb {t : TypeId} {x : aa} {lo hi : Option (Option Int)} (he : pS C S o t x lo hi = some e) (hh : ic S S' e) : pS C S' o t x lo hi = some e := by
  unfold pS at he ⊢
  split at he
  · rename_i el hu
    try rw [hu]
    try simp only
    split at he
    · exact he
    · rename_i id off len sz hs
      try rw [hs]
      try simp only
      split at he
      · rename_i rows hid
        have hrd : id ∈ e.rd := by
          simp only [Option.bind_eq_some_iff] at he
          obtain ⟨b, _, he⟩ := he
          split at he
          · simp only [Option.some.injEq] at he; subst he; simp [put]
          · cases he
        rw [hh id (.inl hrd), hid]
        exact he
      · cases he
    · cases he
  · rename_i hu; try rw [hu]
    exact he
  · cases he
theorem X4 {t : TypeId} {x : aa} {i : Option Int} (he : nG C S o t x i = some e) (hh : ic S S' e) : nG C S' o t x i = some e := by
  unfold nG at he ⊢
  split at he
  · rename_i el i' hu
    try rw [hu]
    try simp only
    split at he
    · rename_i hs; try rw [hs]
      exact he
    · rename_i n id off len hs
      try rw [hs]
      try simp only
      split at he
      · rename_i hc
        rw [if_pos hc]
        split at he
        · rename_i rows hid
          have hrd : id ∈ e.rd := by
            simp only [Option.bind_eq_some_iff] at he
            obtain ⟨b, _, he⟩ := he
            split at he
            · simp only [Option.some.injEq] at he; subst he; simp [put]
            · cases he
          rw [hh id (.inl hrd), hid]
          exact he
        · cases he
      · cases he
    · cases he
  · rename_i hu; try rw [hu]
    exact he
  · cases he
theorem X6 {t : TypeId} {x : aa} (he : lT C S o t x = some e) (hh : ic S S' e) : lT C S' o t x = some e := by
  unfold lT at he ⊢
  split at he
  · rename_i b n h1 h2
    try rw [h1, h2]
    try simp only
    split at he
    · exact he
    · rename_i id row off
      split at he
      · rename_i rows hid
        obtain ⟨r, hr, he⟩ := Option.bind_eq_some_iff.1 he
        split at he
        · rename_i hc
          split at he
          · rename_i hem
            have hrd : id ∈ e.rd := by
              obtain ⟨v, _, he⟩ := Option.map_eq_some_iff.1 he
              subst he; simp [put]
            rw [hh id (.inl hrd), hid]
            simp only [hr, Option.bind_some, hc, if_true, hem]
            exact he
          · rename_i hem
            split at he
            · rename_i hf
              have ZD := he
              obtain ⟨v, _, he⟩ := Option.map_eq_some_iff.1 he
              have hrd : id ∈ e.rd := by subst he; simp [put]
              have kA : ∀ x ∈ (bT (pL o) 0 ((r.drop off).take n)).2, S'.h x.1 = S.h x.1 := fun x hx => hh x.1 (.inr ⟨x, by subst he; simp [put, hx], rfl⟩)
              rw [hh id (.inl hrd), hid]
              simp only [hr, Option.bind_some, hc, if_true, hem, Fv kA, hf]
              exact ZD
            · cases he
        · cases he
      · cases he
    · cases he
  · cases he
theorem Yc {t : TypeId} {ao : Operand} {x y : aa} (he : nJ C f S true o t ao x y = some e) (hh : ic S S' e) : nJ C f S' true o t ao x y = some e := by
  unfold nJ at he ⊢
  split at he
  · rename_i b n h1 h2
    try rw [h1, h2]
    try simp only
    split at he
    · rename_i id row off cs hcs
      try rw [hcs]
      try simp only
      split at he
      · cases he
      · rename_i hl
        rw [if_neg hl]
        split at he
        · rename_i rows hid
          have hrd : id ∈ e.rd := by
            obtain ⟨r, hr, he⟩ := Option.bind_eq_some_iff.1 he
            split at he
            · split at he
              · split at he
                · simp only [Option.some.injEq] at he; subst he; simp
                · cases he
              · split at he
                · simp only [Option.some.injEq] at he; subst he; simp [put]
                · cases he
            · cases he
          rw [hh id (.inl hrd), hid]
          exact he
        · cases he
    · cases he
  · cases he
theorem Yg{e1:bx}(h:pT C f o e1=some e)(hh:ic S S' e):ic S S' e1:=by unfold pT at h;split at h;·{split at h;·{rename_i hw;split at h;·{rename_i hc;obtain⟨rfl,_⟩:=hc;simp only[Option.some.injEq]at h;subst h;intro id hid;refine hh id (hid.imp (fun h=>h) fun⟨x,hx,e⟩=> ?_);rw[hw]at hx;simp only[List.mem_cons,List.not_mem_nil,or_false]at hx;rcases hx with rfl|rfl;·{exact⟨_,List.mem_cons_self ..,e⟩};·exact⟨_,List.mem_cons_of_mem _ (List.mem_cons_self ..),e⟩};·cases h};·{rename_i hw;split at h;·{rename_i hc;obtain⟨rfl,_⟩:=hc;simp only[Option.some.injEq]at h;subst h;intro id hid;refine hh id (hid.imp (fun h=>h) fun⟨x,hx,e⟩=> ?_);rw[hw]at hx;simp only[List.mem_cons,List.not_mem_nil,or_false]at hx;obtain rfl:=hx;exact⟨_,List.mem_cons_self ..,e⟩};·cases h};·cases h};·simp only[Option.some.injEq]at h;subst h;exact hh
theorem XX {ts : Array TypeId} {xs : List aa} (he : kZ C S o ts xs = some e) (hh : ic S S' e) : kZ C S' o ts xs = some e := by
  unfold kZ at he ⊢
  split at he
  · rename_i x y t el h1 h2
    try rw [h1, h2]
    try simp only
    unfold yI at he ⊢
    split at he
    · rename_i Xr d hu hd
      try rw [hu, hd]
      try simp only
      split at he
      · rename_i i agw i1 alx i2 hi hx hy
        split at he
        · rename_i hc
          unfold kU at he
          have facts : (∀ id ∈ i1 ++ i2, id ∈ e.rd) ∧ (∃ r, ([d], r) ∈ e.wr) := by
            split at he
            · split at he
              · split at he
                · simp only [Option.some.injEq] at he; subst he
                  exact ⟨fun id h => h, _, List.mem_cons_of_mem _ (List.mem_cons_self ..)⟩
                · cases he
              · cases he
            · simp only [Option.some.injEq] at he; subst he
              exact ⟨fun id h => h, _, List.mem_cons_self ..⟩
            · cases he
          obtain ⟨hrd, r, kA⟩ := facts
          have ex := GR (L' := S'.h) hx fun id hid => hh id (.inl (hrd id (List.mem_append.2 (.inl hid))))
          have XC := GR (L' := S'.h) hy fun id hid => hh id (.inl (hrd id (List.mem_append.2 (.inr hid))))
          try rw [hi, ex, XC]
          try simp only
          rw [hh [d] (.inr ⟨_, kA, rfl⟩), if_pos hc]
          unfold kU
          split at he
          · rename_i id off len
            have hid : id ∈ i1 := by
              simp only [rowsOf] at hx
              split at hx
              · split at hx
                · simp only [Option.some.injEq, Prod.mk.injEq] at hx
                  rw [← hx.2]; simp
                · cases hx
              · cases hx
            try simp only
            rw [hh id (.inl (hrd id (List.mem_append.2 (.inl hid))))]
            exact he
          · exact he
          · cases he
        · cases he
      · cases he
    · cases he
  · rename_i x y t k h1 h2
    try rw [h1, h2]
    try simp only
    unfold yJ at he ⊢
    split at he
    · rename_i Xr d nn hu hd JC
      try rw [hu, hd, JC]
      try simp only
      split at he
      · rename_i i z agw i1 hi hz hx
        split at he
        · rename_i hc
          unfold kU at he
          have facts : (∀ id ∈ i1, id ∈ e.rd) ∧ (∃ r, ([d], r) ∈ e.wr) := by
            split at he
            · split at he
              · split at he
                · simp only [Option.some.injEq] at he; subst he
                  exact ⟨fun id h => by simp only [put, List.append_nil]; exact h, _, List.mem_cons_of_mem _ (List.mem_cons_self ..)⟩
                · cases he
              · cases he
            · simp only [Option.some.injEq] at he; subst he
              exact ⟨fun id h => by simp only [put, List.append_nil]; exact h, _, List.mem_cons_self ..⟩
            · cases he
          obtain ⟨hrd, r, kA⟩ := facts
          have ex := GR (L' := S'.h) hx fun id hid => hh id (.inl (hrd id hid))
          try rw [hi, hz, ex]
          try simp only
          rw [hh [d] (.inr ⟨_, kA, rfl⟩), if_pos hc]
          unfold kU
          split at he
          · rename_i id off len
            have hid : id ∈ i1 := by
              simp only [rowsOf] at hx
              split at hx
              · split at hx
                · simp only [Option.some.injEq, Prod.mk.injEq] at hx
                  rw [← hx.2]; simp
                · cases hx
              · cases hx
            try simp only
            rw [hh id (.inl (hrd id hid))]
            exact he
          · exact he
          · cases he
        · cases he
      · cases he
    · cases he
  · cases he
theorem X5{p:Nat×Nat}{xs:List aa}(he:pP S o p xs=some e)(hh:ic S S' e):pP S' o p xs=some e:=by unfold pP at he⊢;split at he;·{rename_i id row off;split at he;·{rename_i rows hid;split at he;·{rename_i ga off2 len hcell;split at he;·{rename_i fJ wG;split at he;·{rename_i hc;simp only[Option.some.injEq]at he;subst he;have e1:S'.h id=S.h id:=hh id (.inl (by simp[put]));have e2:S'.h ga=S.h ga:=hh ga (.inl (by simp[put]));simp only[e1,hid,hcell,e2,wG,hc,if_true]};·cases he};·cases he};·cases he};·cases he};·{exact he};·cases he
theorem X3{ts:Array TypeId}{xs:List aa}(he:vW C S o ts xs=some e)(hh:ic S S' e):vW C S' o ts xs=some e:=by unfold vW at he⊢;split at he;·{rename_i x y el h1;split at he;·{rename_i id off len ys i2 hsz C0;split at he;·{rename_i rows hid;split at he;·{rename_i hc;simp only[Option.some.injEq]at he;subst he;have e1:S'.h id=S.h id:=hh id (.inl (by simp[put]));have e2:rowsOf S'.h y=some (ys,i2):=GR C0 (fun i hi=>hh i (.inl (by simp[put];exact .inr hi)));simp only[hsz,e2,e1,hid,hc,if_true]};·cases he};·cases he};·cases he};·cases he
theorem X7{as:List aa}(he:uP S o as=some e)(hh:ic S S' e):uP S' o as=some e:=by unfold uP at he⊢;split at he;·{split at he;·{rename_i hc hid;split at he;·{rename_i h2 hk;split at he;·{rename_i hr;split at he;·{rename_i iP;simp only[Option.some.injEq]at he;subst he;have e1:=hh _ (.inl (show _∈[_,_]from List.mem_cons_self ..));have e2:=hh _ (.inl (show _∈[_,_]from List.mem_cons_of_mem _ (List.mem_cons_self ..)));simp only[hc,e1,hid,e2,h2,hk,hr,iP,and_self,if_true]};·cases he};·cases he};·cases he};·cases he};·cases he
theorem X1 {fv : aa} {args : List aa} (he : nw C f call S o fv args = some e) (hh : ic S S' e) : nw C f call S' o fv args = some e := by
  unfold nw at he ⊢
  split at he
  · rename_i k first caps
    try simp only
    by_cases hlk : C.look k = true
    · rw [if_pos hlk] at he ⊢
      exact X7 he hh
    rw [if_neg hlk] at he ⊢
    split at he
    · rename_i as seen d I0 bS
      split at he
      · rename_i r b8
        generalize hr' : (if fe C f o.dst = true then eE r else r) = r' at he
        split at he
        · cases he
        · rename_i hm
          split at he
          · rename_i hf
            simp only [Option.some.injEq] at he; subst he
            have hb : qH S'.h (first ++ args ++ caps) = some (as, seen) := Fu (HS 9) I0 fun id hid => hh id (.inl hid)
            have hfr : fresh S'.h (imp [d] r').2 = fresh S.h (imp [d] r').2 := Fv fun x hx => hh x.1 (.inr ⟨x, hx, rfl⟩)
            rw [hb, bS]
            simp only [b8]
            rw [← bS, hr', if_neg hm, hfr, if_pos hf]
          · cases he
      · cases he
    · cases he
  · cases he
theorem RW:∀{jT:List aa}{ms:List Nat}{as:List aa}{seen tk dn:List Id},ja S.h ms jT=some (as,seen,tk,dn)→(∀id∈seen,S'.h id=S.h id)→(∀id∈tk++dn,S'.h id=S.h id)→ja S'.h ms jT=some (as,seen,tk,dn)|[],ms,as,seen,tk,dn,hx,_,_=>hx|c::cs,ms,as,seen,tk,dn,hx,h1,h2=>by simp only[ja,Option.bind_eq_some_iff]at hx⊢;obtain⟨⟨ys,s1,t1,bu⟩,hy,hx⟩:=hx;refine⟨(ys,s1,t1,bu), ?_, ?_⟩;·{split at hx<;>·obtain⟨x,hpk,hx⟩:=Option.map_eq_some_iff.1 hx;simp only[Prod.mk.injEq]at hx;obtain⟨rfl,rfl,rfl,rfl⟩:=hx;exact RW hy (fun id hid=>h1 id (by simp[hid])) (fun id hid=>h2 id (by rcases List.mem_append.1 hid with h|h<;>simp[h]))};·split at hx;·{rename_i hm;obtain⟨x,hpk,hx⟩:=Option.map_eq_some_iff.1 hx;simp only[Prod.mk.injEq]at hx;obtain⟨rfl,rfl,rfl,rfl⟩:=hx;simp only[hm];rw[GF 9 _ _ hpk fun id hid=>h2 id (by simp[hid])];rfl};·{rename_i hm;obtain⟨x,hpk,hx⟩:=Option.map_eq_some_iff.1 hx;simp only[Prod.mk.injEq]at hx;obtain⟨rfl,rfl,rfl,rfl⟩:=hx;simp only[hm];rw[GF 9 _ _ hpk fun id hid=>h2 id (by simp[hid])];rfl};·rename_i uA hm2;obtain⟨x,hpk,hx⟩:=Option.map_eq_some_iff.1 hx;simp only[Prod.mk.injEq]at hx;obtain⟨rfl,rfl,rfl,rfl⟩:=hx;rw[HS 9 _ _ hpk fun id hid=>h1 id (by simp[hid])];rfl
theorem Rg{a b:aa}{l:List (Id×Option Rows)}(h:jw S.h a b=some l)(hh:∀x∈l,S'.h x.1=S.h x.1):jw S'.h a b=some l:=by unfold jw at h;split at h;·{rename_i id cs;split at h;·{rename_i old hid;split at h;·{rename_i hc;simp only[Option.some.injEq]at h;subst h;have:=hh _ (List.mem_cons_self ..);simp only[jw,this,hid,hc,if_true]};·cases h};·cases h};·{rename_i id n rows;split at h;·{rename_i o1 os hid;split at h;·{rename_i hc;simp only[Option.some.injEq]at h;subst h;have:=hh _ (List.mem_cons_self ..);simp only[jw,this,hid];rw[if_pos hc]};·cases h};·{rename_i hid;split at h;·{rename_i hc;simp only[Option.some.injEq]at h;subst h;have:=hh _ (List.mem_cons_self ..);simp only[jw,this,hid];rw[if_pos hc]};·cases h};·cases h};·{rename_i id rows;split at h;·{rename_i aeZ hid;simp only[Option.some.injEq]at h;subst h;have:=hh _ (List.mem_cons_self ..);simp only[jw,this,hid]};·cases h};·{cases h};·{cases h};·{cases h};·{cases h};·rename_i g1 g2 g3 g4 _ _ _;simp only[Option.some.injEq]at h;subst h;unfold jw;split<;>first|rfl|exact(g1 _ _ _ rfl).elim|exact(g2 _ _ _ rfl).elim|exact(g3 _ rfl).elim|exact(g4 _ rfl).elim
theorem Ri:∀{as bs:List aa}{l:List (Id×Option Rows)},lB S.h as bs=some l→(∀x∈l,S'.h x.1=S.h x.1)→lB S'.h as bs=some l|[],[],l,h,_=>h|[],_::_,l,h,_=>by{simp[lB]at h}|_::_,[],l,h,_=>by{simp[lB]at h}|a::as,b::bs,l,h,hh=>by simp only[lB]at h⊢;split at h;·{rename_i x y h1 h2;simp only[Option.some.injEq]at h;subst h;rw[Rg h1 fun x hx=>hh x (List.mem_append.2 (.inl hx)),Ri h2 fun x hx=>hh x (List.mem_append.2 (.inr hx))]};·cases h
theorem aex{a b:aa}{l:List (Id×Option Rows)}(h:u9 S.h a b=some l)(hh:∀x∈l,S'.h x.1=S.h x.1):u9 S'.h a b=some l:=by unfold u9 at h⊢;split at h;·{exact Ri h hh};·exact Rg h hh
theorem Rk{args:List aa}:∀{cR:List Nat}{outs:List aa}{l:List (Id×Option Rows)},iE S.h args cR outs=some l→(∀x∈l,S'.h x.1=S.h x.1)→iE S'.h args cR outs=some l|[],[],l,h,_=>h|[],_::_,l,h,_=>by{simp[iE]at h}|_::_,[],l,h,_=>by{simp[iE]at h}|j::cR,b::outs,l,h,hh=>by simp only[iE]at h⊢;split at h;·{rename_i a y h1 h2;split at h;·{rename_i x h3;simp only[Option.some.injEq]at h;subst h;rw[h1,Rk h2 fun x hx=>hh x (List.mem_append.2 (.inr hx))];simp only[aex h3 fun x hx=>hh x (List.mem_append.2 (.inl hx))]};·cases h};·cases h
theorem X2{k:FuncId}{args:List aa}(he:qJ C f call S o k args=some e)(hh:ic S S' e):qJ C f call S' o k args=some e:=by unfold qJ at he⊢;split at he;·{rename_i as seen tk dn d jY bS;split at he;·{rename_i r outs b8;generalize hr':(if fe C f o.dst=true then eE r else r)=r' at he;split at he;·{rename_i back ko;split at he;·{rename_i FF;simp only[Option.some.injEq]at he;subst he;have hw:∀x,(x∈(imp [d] r').2∨x∈back∨x∈(tk++dn).map fun i=>((i,none):Id×Option Rows))→S'.h x.1=S.h x.1:=fun x hx=>hh x.1 (.inr ⟨x,by rw[aek];rcases hx with hx|hx|hx;·{exact List.mem_append.2 (.inl hx)};·{exact List.mem_append.2 (.inr (List.mem_append.2 (.inl hx)))};·exact List.mem_append.2 (.inr (List.mem_append.2 (.inr hx))),rfl⟩);have e1:ja S'.h (C.xh k) args=some (as,seen,tk,dn):=RW jY (fun id hid=>hh id (.inl hid)) fun id hid=>hw (id,none) (.inr (.inr (List.mem_map.2 ⟨id,hid,rfl⟩)));have e2:iE S'.h args (C.cR k) outs=some back:=Rk ko fun x hx=>hw x (.inr (.inl hx));have hfr:fresh S'.h (imp [d] r').2=fresh S.h (imp [d] r').2:=Fv fun x hx=>hw x (.inl hx);rw[e1];simp only[bS];simp only[bS]at hr';simp only[b8,hr',e2,hfr,if_pos FF]};·cases he};·cases he};·cases he};·cases he
def tmpsOf(o:Oper):List Nat:=o.op.operands.toList.filterMap fun| .tmp t=>some t|_=>none
theorem Yu(hs:∀t∈tmpsOf o,S'.t t=S.t t){x:Operand}(hx:x∈o.op.operands.toList):S'.get C x=S.get C x:=by cases x with|tmp t=>(exact hs t (List.mem_filterMap.2 ⟨.tmp t,hx,rfl⟩))|_=>rfl
theorem Xz(he:bD C f call S true o=some e)(hs:∀t∈tmpsOf o,S'.t t=S.t t)(hh:ic S S' e):bD C f call S' true o=some e:=by have get:∀x∈o.op.operands.toList,S'.get C x=S.get C x:=fun x hx=>Yu hs hx;have v8:∀xs:List Operand,(∀x∈xs,x∈o.op.operands.toList)→(xs.map fun x=>un true (S'.get C x))=xs.map fun x=>un true (S.get C x):=fun xs h=>List.map_congr_left fun x hx=>by{rw[get x (h x hx)]};have y6:∀xs:List (Nat×Operand),(∀x∈xs,x.2∈o.op.operands.toList)→(xs.map fun p=>(p.1,un true (S'.get C p.2)))=xs.map fun p=>(p.1,un true (S.get C p.2)):=fun xs h=>List.map_congr_left fun x hx=>by{rw[get x.2 (h x hx)]};unfold bD at he⊢;cases ho:o.op with|move x=>(rw[ho]at he get;simp only[Op.operands]at he get⊢;rw[get x (by simp)];exact he)|assign x=>(rw[ho]at he get;simp only[Op.operands]at he get⊢;rw[get x (by simp)];exact he)|pick c x y=>(rw[ho]at he get;simp only[Op.operands]at he get⊢;rw[get c (by simp),get x (by simp),get y (by simp)];exact he)|alloc t=>(rw[ho]at he;exact XW he hh)|box t x=>(rw[ho]at he get;simp only[Op.operands]at he get⊢;rw[get x (by simp)];exact XY he hh)|build t ps=>(rw[ho]at he y6;simp only[Op.operands]at he y6⊢;rw[y6 ps.toList (fun x hx=>by simp;exact⟨x.1,by simpa using hx⟩)];exact he)|buildSlice t n ps=>(rw[ho]at he y6;simp only[Op.operands]at he y6⊢;rw[y6 ps.toList (fun x hx=>by simp;exact⟨x.1,by simpa using hx⟩)];exact XZ he hh)|load t x=>(rw[ho]at he get;simp only[Op.operands]at he get⊢;rw[get x (by simp)];exact X6 he hh)|store t x y=>(rw[ho]at he get;simp only[Op.operands]at he get⊢;rw[get x (by simp),get y (by simp)];exact Yc he hh)|nilCheck x=>(rw[ho]at he get;simp only[Op.operands]at he get⊢;rw[get x (by simp)];exact he)|binOp op t x y u=>(rw[ho]at he get;simp only[Op.operands]at he get⊢;rw[get x (by simp),get y (by simp)];exact he)|unOp op t x=>(rw[ho]at he get;simp only[Op.operands]at he get⊢;rw[get x (by simp)];exact he)|convert s t x=>(rw[ho]at he get;simp only[Op.operands]at he get⊢;rw[get x (by simp)];exact he)|makeInterface t x=>(rw[ho]at he get;simp only[Op.operands]at he get⊢;rw[get x (by simp)];exact he)|makeFunc k xs ys=>(rw[ho]at he v8;simp only[Op.operands]at he v8⊢;rw[v8 xs.toList (fun x hx=>by simp;exact .inl (by simpa using hx)),v8 ys.toList (fun x hx=>by simp;exact .inr (by simpa using hx))];exact he)|makeSlice t x y=>(rw[ho]at he get;simp only[Op.operands]at he get⊢;rw[get x (by simp),get y (by simp)];exact X9 he hh)|slice t x lo hi mx=>(rw[ho]at he get;simp only[Op.operands]at he get⊢;split at he;·{cases he};·rename_i hm;rw[if_neg hm,get x (by simp)];have e1:(lo.map fun y=>eF (un true (S'.get C y)))=lo.map fun y=>eF (un true (S.get C y)):=by{cases lo with|none=>(rfl)|some y=>simp only[Option.map_some];rw[get y (by simp)]};have e2:(hi.map fun y=>eF (un true (S'.get C y)))=hi.map fun y=>eF (un true (S.get C y)):=by{cases hi with|none=>(rfl)|some y=>simp only[Option.map_some];rw[get y (by simp)]};rw[e1,e2];exact Yb he hh)|fieldAddr s x i=>(rw[ho]at he get;simp only[Op.operands]at he get⊢;rw[get x (by simp)];exact he)|field s x i=>(rw[ho]at he get;simp only[Op.operands]at he get⊢;rw[get x (by simp)];exact he)|indexAddr t x y=>(rw[ho]at he get;simp only[Op.operands]at he get⊢;rw[get x (by simp),get y (by simp)];exact X4 he hh)|index t x y=>(rw[ho]at he get;simp only[Op.operands]at he get⊢;rw[get x (by simp),get y (by simp)];exact he)|extract x i=>(rw[ho]at he get;simp only[Op.operands]at he get⊢;rw[get x (by simp)];exact he)|makeMap t r=>(rw[ho]at he;exact Ya he hh)|lookup t x y ok=>(rw[ho]at he get;simp only[Op.operands]at he get⊢;rw[get x (by simp),get y (by simp)];exact X8 he hh)|mapUpdate t x y z=>(rw[ho]at he get;simp only[Op.operands]at he get⊢;rw[get x (by simp),get y (by simp),get z (by simp)];exact NO he hh)|insert t x y z=>(rw[ho]at he get;simp only[Op.operands]at he get⊢;rw[get x (by simp),get y (by simp),get z (by simp)];exact NO he hh)|call c=>(rw[ho]at he get v8;simp only[Op.operands]at he get v8⊢;have hargs:=v8 c.args.toList (fun x hx=>by simp only[Call.operands];simp;exact .inr (by simpa using hx));cases hc:c.callee with|builtin b=>(rw[hc]at he;cases b with|len=>(simp only at he⊢;rw[hargs];exact he)|append=>(simp only[Option.bind_eq_some_iff]at he⊢;rw[hargs];obtain⟨e1,h1,h2⟩:=he;exact⟨e1,XX h1 (Yg h2 hh),h2⟩)|copy=>(simp only at he⊢;rw[hargs];exact X3 he hh)|max=>(simp only at he⊢;rw[hargs];exact he)|min=>(simp only at he⊢;rw[hargs];exact he)|_=>cases he)|value dX=>(rw[hc]at he;simp only at he⊢;split at he;·{rename_i p hp;rw[hargs];exact X5 he hh};·rename_i hp;split at he;·{rename_i jY;rw[if_pos jY];cases dX with|func k=>(simp only at he⊢;rw[hargs];exact X2 he hh)|_=>cases he};·rename_i jY;rw[if_neg jY,hargs,get dX (by simp[Call.operands,hc])];exact X1 he hh)|invoke r n=>rw[hc]at he;cases he)|_=>rw[ho]at he;cases he
end
end Go.Ab
