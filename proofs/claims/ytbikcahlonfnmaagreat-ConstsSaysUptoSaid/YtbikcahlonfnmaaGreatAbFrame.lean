import Derived.Test.YtbikcahlonfnmaaGreatAbReg2
namespace Go.Ab
open Go
variable{L L':Id→Option (Option Rows)}
theorem Ee:∀{l:List (Id×Option Rows)},(∀x∈l,L' x.1=L x.1)→fresh L' l=fresh L l|[],_=>rfl|x::l,h=>by have ih:=Ee fun y hy=>h y (List.mem_cons_of_mem _ hy);unfold fresh at ih⊢;simp only[List.all_cons,ih,h x (List.mem_cons_self ..)]
theorem JN {x : aa} {r : Rows × List Id} (h : rowsOf L x = some r) (hh : ∀ id ∈ r.2, L' id = L id) : rowsOf L' x = some r := by
  cases x <;> simp only [rowsOf] at h ⊢ <;> try exact h
  rename_i id off len
  split at h
  · rename_i rs hid
    split at h
    · rename_i hc
      simp only [Option.some.injEq] at h; subst h
      rw [hh id (by simp), hid]
      simp only [hc, if_true]
    · cases h
  · cases h
def rV(p p':(aa→Option (aa×List Id)))(L L':Id→Option (Option Rows)):Prop:=∀a x,p a=some x→(∀id∈x.2,L' id=L id)→p' a=some x
theorem Ea{p p':aa→Option (aa×List Id)}(hp:rV p p' L L'):∀{cs:List aa}{x},dV p cs=some x→(∀id∈x.2,L' id=L id)→dV p' cs=some x|[],x,h,_=>h|c::cs,x,h,hh=>by simp only[dV,Option.bind_eq_some_iff,Option.map_eq_some_iff]at h⊢;obtain⟨y,hy,z,hz,rfl⟩:=h;exact⟨y,hp _ _ hy fun id hid=>hh id (List.mem_append.2 (.inl hid)),z,Ea hp hz fun id hid=>hh id (List.mem_append.2 (.inr hid)),rfl⟩
theorem xH{p p':aa→Option (aa×List Id)}(hp:rV p p' L L'){cs:List aa}{x}(h:fM p cs=some x)(hh:∀id∈x.2,L' id=L id):fM p' cs=some x:=by unfold fM at h⊢;split at h;·{rename_i hc;simpa[hc]using h};·rename_i hc;simp only[hc];exact Ea hp h hh
theorem Ro{p p':aa→Option (aa×List Id)}(hp:rV p p' L L'):∀{rs:Rows}{x},ec (fM p) rs=some x→(∀id∈x.2,L' id=L id)→ec (fM p') rs=some x|[],x,h,_=>h|c::cs,x,h,hh=>by simp only[ec,Option.bind_eq_some_iff,Option.map_eq_some_iff]at h⊢;obtain⟨y,hy,z,hz,rfl⟩:=h;exact⟨y,xH hp hy fun id hid=>hh id (List.mem_append.2 (.inl hid)),z,Ro hp hz fun id hid=>hh id (List.mem_append.2 (.inr hid)),rfl⟩
theorem PU{p p':aa→Option (aa×List Id)}(hp:rV p p' L L'){rs:Rows}{x}(h:k3 p rs=some x)(hh:∀id∈x.2,L' id=L id):k3 p' rs=some x:=by unfold k3 at h⊢;split at h;·{rename_i hc;simpa[hc]using h};·rename_i hc;simp only[hc];exact Ro hp h hh
theorem KH:∀n,rV (bT L n) (bT L' n) L L'|0=>fun a x h=>by{simp[bT]at h}|n+1=>fun a x h hh=>by have ih:=KH n;cases a with|rs id off len=>(simp only[bT]at h⊢;split at h;·{rename_i rs hid;split at h;·{rename_i hc;simp only[Option.map_eq_some_iff]at h;obtain⟨y,hy,rfl⟩:=h;rw[hh id (List.mem_cons_self ..),hid];simp only[hc,if_true,PU ih hy fun id hid=>hh id (List.mem_cons_of_mem _ hid),Option.map_some]};·cases h};·cases h)|mp id row off=>(simp only[bT]at h⊢;split at h;·{rename_i rs hid;split at h;·{rename_i r hrow;split at h;·{rename_i hoff;simp only[Option.map_eq_some_iff]at h;obtain⟨y,hy,rfl⟩:=h;rw[hh id (List.mem_cons_self ..),hid];simp only[hrow,hoff,if_true,xH ih hy fun id hid=>hh id (List.mem_cons_of_mem _ hid),Option.map_some]};·cases h};·cases h};·cases h)|agg cs=>(simp only[bT,Option.map_eq_some_iff]at h⊢;obtain⟨y,hy,rfl⟩:=h;exact⟨y,xH ih hy hh,rfl⟩)|bL cs=>(simp only[bT,Option.map_eq_some_iff]at h⊢;obtain⟨y,hy,rfl⟩:=h;exact⟨y,xH ih hy hh,rfl⟩)|fn k a b=>(simp only[bT,Option.map_eq_some_iff,Option.bind_eq_some_iff]at h⊢;obtain⟨y,hy,z,hz,rfl⟩:=h;exact⟨y,xH ih hy fun id hid=>hh id (List.mem_append.2 (.inl hid)),z,xH ih hz fun id hid=>hh id (List.mem_append.2 (.inr hid)),rfl⟩)|own rs=>(simp only[bT,Option.map_eq_some_iff]at h⊢;obtain⟨y,hy,rfl⟩:=h;exact⟨y,PU ih hy hh,rfl⟩)|aL cs=>(simp only[bT,Option.map_eq_some_iff]at h⊢;obtain⟨y,hy,rfl⟩:=h;exact⟨y,xH ih hy hh,rfl⟩)|cu=>(simpa only[bT]using h)|dz g y=>(simpa only[bT]using h)|val u=>(simpa only[bT]using h)|nn=>(simpa only[bT]using h)|mr id=>(simp only[bT]at h⊢;split at h;·{rename_i rs hid;simp only[Option.some.injEq]at h;subst h;rw[hh id (List.mem_cons_self ..),hid]};·cases h)|ez rs=>(simpa only[bT]using h)|im rs=>(simpa only[bT]using h)|sl rows=>(simpa only[bT]using h)|aq cells=>(simpa only[bT]using h)|dL i rs=>(simpa only[bT]using h)|BZ u=>(simpa only[bT]using h)|bz=>simpa only[bT]using h
theorem Jt{p p':aa→Option (aa×List Id)}(hp:rV p p' L L'){cs:List aa}{x}(h:gT p cs=some x)(hh:∀id∈x.2,L' id=L id):gT p' cs=some x:=by unfold gT at h⊢;split at h;·{rename_i hc;simpa[hc]using h};·rename_i hc;simp only[hc];exact Ea hp h hh
theorem Um{p p':aa→Option (aa×List Id)}(hp:rV p p' L L'):∀{rs:Rows}{x},ec (gT p) rs=some x→(∀id∈x.2,L' id=L id)→ec (gT p') rs=some x|[],x,h,_=>h|c::cs,x,h,hh=>by simp only[ec,Option.bind_eq_some_iff,Option.map_eq_some_iff]at h⊢;obtain⟨y,hy,z,hz,rfl⟩:=h;exact⟨y,Jt hp hy fun id hid=>hh id (List.mem_append.2 (.inl hid)),z,Um hp hz fun id hid=>hh id (List.mem_append.2 (.inr hid)),rfl⟩
theorem Un{p p':aa→Option (aa×List Id)}(hp:rV p p' L L'){rs:Rows}{x}(h:lH p rs=some x)(hh:∀id∈x.2,L' id=L id):lH p' rs=some x:=by unfold lH at h⊢;split at h;·{rename_i hc;simpa[hc]using h};·rename_i hc;simp only[hc];exact Um hp h hh
theorem zk:∀n,rV (pk L n) (pk L' n) L L'|0=>fun a x h=>by{simp[pk]at h}|n+1=>fun a x h hh=>by have ih:=zk n;cases a with|rs id off len=>(simp only[pk]at h⊢;split at h;·{rename_i rs hid;split at h;·{rename_i hc;simp only[Option.map_eq_some_iff]at h;obtain⟨y,hy,rfl⟩:=h;rw[hh id (List.mem_cons_self ..),hid];simp only[hc];rw[Un ih (by simpa using hy) fun id hid=>hh id (List.mem_cons_of_mem _ hid)];rfl};·cases h};·cases h)|mp id row off=>(simp only[pk]at h⊢;split at h;·{rename_i cs hid;split at h;·{rename_i hc;simp only[Option.map_eq_some_iff]at h;obtain⟨y,hy,rfl⟩:=h;rw[hh id (List.mem_cons_self ..),hid];simp only[hc];rw[Jt ih hy fun id hid=>hh id (List.mem_cons_of_mem _ hid)];rfl};·cases h};·cases h)|agg cs=>(simp only[pk,Option.map_eq_some_iff]at h⊢;obtain⟨y,hy,rfl⟩:=h;exact⟨y,Jt ih hy hh,rfl⟩)|bL cs=>(simp only[pk,Option.map_eq_some_iff]at h⊢;obtain⟨y,hy,rfl⟩:=h;exact⟨y,Jt ih hy hh,rfl⟩)|fn k a b=>(simpa only[pk]using h)|own rs=>(simpa only[pk]using h)|aL cs=>(simpa only[pk]using h)|cu=>(simpa only[pk]using h)|dz g y=>(simpa only[pk]using h)|val u=>(simpa only[pk]using h)|nn=>(simpa only[pk]using h)|mr id=>(simp only[pk]at h⊢;split at h;·{rename_i rs hid;simp only[Option.some.injEq]at h;subst h;rw[hh id (List.mem_cons_self ..),hid]};·cases h)|ez rs=>(simpa only[pk]using h)|im rs=>(simpa only[pk]using h)|sl rows=>(simpa only[pk]using h)|aq cells=>(simpa only[pk]using h)|dL i rs=>(simpa only[pk]using h)|BZ u=>(simpa only[pk]using h)|bz=>simpa only[pk]using h
theorem UC(o:Oper)(v:aa)(rd:List Id)(wr:List (Id×Option Rows)):(put o v rd wr).rd=rd:=rfl
theorem NR(o:Oper)(v:aa)(rd:List Id)(wr:List (Id×Option Rows)):(put o v rd wr).wr=wr:=rfl
section
variable{C:aO}{f:FuncId}{call:FuncId→List aa→Option (aa×List aa)}{S S':ak}{o:Oper}{e:bx}
def iq(S S':ak)(e:bx):Prop:=∀id,(id∈e.rd∨∃x∈e.wr,x.1=id)→S'.h id=S.h id
theorem acu {t : TypeId} (he : qQ C f S o t = some e) (hh : iq S S' e) : qQ C f S' o t = some e := by
  unfold qQ at he ⊢
  split at he
  · rename_i cs d h1 h2
    split at he
    · simp only [Option.some.injEq] at he; subst he
      rename_i hf
      try rw [h1, h2]
      simp only [hh [d] (.inr ⟨_, List.mem_cons_self .., rfl⟩), hf, if_true]
    · cases he
  · cases he
theorem acw{t:TypeId}{x:aa}(he:qR C f S o t x=some e)(hh:iq S S' e):qR C f S' o t x=some e:=by unfold qR at he⊢;split at he;·{rename_i b d h1 h2;split at he;·{rename_i cs hcs;split at he;·{rename_i hz;rw[if_pos hz];exact he};·rename_i hz;rw[if_neg hz];split at he;·{rename_i hf;simp only[Option.some.injEq]at he;subst he;rw[hh [d] (.inr ⟨_,List.mem_cons_self ..,rfl⟩),if_pos hf]};·cases he};·cases he};·cases he
theorem acz {t : TypeId} {n : Nat} {ps : List (Nat × aa)} (he : tD C f S o t n ps = some e) (hh : iq S S' e) : tD C f S' o t n ps = some e := by
  unfold tD at he ⊢
  split at he
  · rename_i el d h1 h2
    split at he
    · rename_i z b k hz hb hk
      split at he
      · rename_i hc
        try rw [if_pos hc]
        split at he
        · rename_i rows hr
          try rw [hr]
          split at he
          · rename_i hfz
            rw [if_pos hfz]; exact he
          · rename_i hfz
            rw [if_neg hfz]
            split at he
            · rename_i hf
              simp only [Option.some.injEq] at he; subst he
              rw [hh [d] (.inr ⟨_, List.mem_cons_self .., rfl⟩), if_pos hf]
            · cases he
        · cases he
      · cases he
    · cases he
  · cases he
theorem acy{t:TypeId}{n:Nat}{ps:List (Nat×aa)}(he:qS C f S o t n ps=some e)(hh:iq S S' e):qS C f S' o t n ps=some e:=by unfold qS at he⊢;split at he;·{rename_i hc;rw[if_pos hc];unfold D4 at he⊢;split at he;·{rename_i rows d h1 h2;split at he;·{rename_i br ids hp;split at he;·{rename_i hn;simp only[Option.some.injEq]at he;subst he;have:lH (pk S'.h 8) rows=some (br,ids):=Un (zk 8) hp fun id hid=>hh id (.inl hid);simp only[h1,h2,this,hn,if_true]};·cases he};·cases he};·cases he};·rename_i hc;rw[if_neg hc];exact acz he hh
theorem acJ {t : TypeId} {x y : aa} (he : tE C S o t x y = some e) (hh : iq S S' e) : tE C S' o t x y = some e := by
  unfold tE at he ⊢
  split at he
  · rename_i el d l c h1 h2 h3 h4
    split at he
    · rename_i z i hz hi
      split at he
      · rename_i hc
        simp only [Option.some.injEq] at he; subst he
        try rw [h1, h2, h3, h4]
        try simp only [hz, hi]
        rw [hh [d] (.inr ⟨_, List.mem_cons_self .., rfl⟩), if_pos hc]
      · cases he
    · cases he
  · cases he
theorem acK {t : TypeId} {r : Option Operand} (he : tF C S o t r = some e) (hh : iq S S' e) : tF C S' o t r = some e := by
  unfold tF at he ⊢
  split at he
  · rename_i d h1 h2
    split at he
    · rename_i hc
      simp only [Option.some.injEq] at he; subst he
      try rw [h1, h2]
      try simp only
      rw [hh [d] (.inr ⟨_, List.mem_cons_self .., rfl⟩), if_pos hc]
    · cases he
  · cases he
theorem acI{t:TypeId}{x k:aa}{ok:Bool}(he:oz C S o t x k ok=some e)(hh:iq S S' e):oz C S' o t x k ok=some e:=by unfold oz at he⊢;split at he;·{rename_i kind z rows ids kv h1 h2;obtain⟨r,hf,rfl⟩:=Option.map_eq_some_iff.1 he;have e2:vT S'.h x=some (rows,ids):=by{unfold vT at h2⊢;split at h2;·{rename_i id;split at h2;·{rename_i br hid;simp only[Option.some.injEq,Prod.mk.injEq]at h2;obtain⟨rfl,rfl⟩:=h2;rw[hh id (.inl (by rw[UC];exact List.mem_cons_self ..)),hid]};·cases h2};·{exact h2};·{exact h2};·cases h2};rw[h1,e2];simp only[hf,Option.map_some]};·cases he
theorem Rv {t : TypeId} {x k v : aa} (he : qT C S o t x k v = some e) (hh : iq S S' e) : qT C S' o t x k v = some e := by
  unfold qT at he ⊢
  split at he
  · rename_i kind z id kv n7 h1
    split at he
    · rename_i rows hid
      split at he
      · rename_i hc
        obtain ⟨br, hp, rfl⟩ := Option.map_eq_some_iff.1 he
        try rw [h1]
        try simp only
        rw [hh id (.inl (by rw [UC]; exact List.mem_cons_self ..)), hid]
        simp only [if_pos hc, hp, Option.map_some]
      · cases he
    · cases he
  · cases he
theorem acL {t : TypeId} {x : aa} {lo hi : Option (Option Int)} (he : qV C S o t x lo hi = some e) (hh : iq S S' e) : qV C S' o t x lo hi = some e := by
  unfold qV at he ⊢
  split at he
  · rename_i el hu
    try rw [hu]
    try simp only
    split at he
    · exact he
    · rename_i id off len sz hs
      try rw [hs]
      try simp only
      split at he
      · rename_i rows hid
        have hrd : id ∈ e.rd := by
          simp only [Option.bind_eq_some_iff] at he
          obtain ⟨b, _, he⟩ := he
          split at he
          · simp only [Option.some.injEq] at he; subst he; simp [put]
          · cases he
        rw [hh id (.inl hrd), hid]
        exact he
      · cases he
    · cases he
  · rename_i hu; try rw [hu]
    exact he
  · cases he
theorem acE {t : TypeId} {x : aa} {i : Option Int} (he : oy C S o t x i = some e) (hh : iq S S' e) : oy C S' o t x i = some e := by
  unfold oy at he ⊢
  split at he
  · rename_i el i' hu
    try rw [hu]
    try simp only
    split at he
    · rename_i hs; try rw [hs]
      exact he
    · rename_i n id off len hs
      try rw [hs]
      try simp only
      split at he
      · rename_i hc
        rw [if_pos hc]
        split at he
        · rename_i rows hid
          have hrd : id ∈ e.rd := by
            simp only [Option.bind_eq_some_iff] at he
            obtain ⟨b, _, he⟩ := he
            split at he
            · simp only [Option.some.injEq] at he; subst he; simp [put]
            · cases he
          rw [hh id (.inl hrd), hid]
          exact he
        · cases he
      · cases he
    · cases he
  · rename_i hu; try rw [hu]
    exact he
  · cases he
theorem acG {t : TypeId} {x : aa} (he : mK C S o t x = some e) (hh : iq S S' e) : mK C S' o t x = some e := by
  unfold mK at he ⊢
  split at he
  · rename_i b n h1 h2
    try rw [h1, h2]
    try simp only
    split at he
    · exact he
    · rename_i id row off
      split at he
      · rename_i rows hid
        obtain ⟨r, hr, he⟩ := Option.bind_eq_some_iff.1 he
        split at he
        · rename_i hc
          split at he
          · rename_i hem
            have hrd : id ∈ e.rd := by
              obtain ⟨v, _, he⟩ := Option.map_eq_some_iff.1 he
              subst he; simp [put]
            rw [hh id (.inl hrd), hid]
            simp only [hr, Option.bind_some, hc, if_true, hem]
            exact he
          · rename_i hem
            split at he
            · rename_i hf
              have aej := he
              obtain ⟨v, _, he⟩ := Option.map_eq_some_iff.1 he
              have hrd : id ∈ e.rd := by subst he; simp [put]
              have lA : ∀ x ∈ (bQ (iy o) 0 ((r.drop off).take n)).2, S'.h x.1 = S.h x.1 := fun x hx => hh x.1 (.inr ⟨x, by subst he; simp [put, hx], rfl⟩)
              rw [hh id (.inl hrd), hid]
              simp only [hr, Option.bind_some, hc, if_true, hem, Ee lA, hf]
              exact aej
            · cases he
        · cases he
      · cases he
    · cases he
  · cases he
theorem acM {t : TypeId} {ao : Operand} {x y : aa} (he : oB C f S true o t ao x y = some e) (hh : iq S S' e) : oB C f S' true o t ao x y = some e := by
  unfold oB at he ⊢
  split at he
  · rename_i b n h1 h2
    try rw [h1, h2]
    try simp only
    split at he
    · rename_i id row off cs hcs
      try rw [hcs]
      try simp only
      split at he
      · cases he
      · rename_i hl
        rw [if_neg hl]
        split at he
        · rename_i rows hid
          have hrd : id ∈ e.rd := by
            obtain ⟨r, hr, he⟩ := Option.bind_eq_some_iff.1 he
            split at he
            · split at he
              · split at he
                · simp only [Option.some.injEq] at he; subst he; simp
                · cases he
              · split at he
                · simp only [Option.some.injEq] at he; subst he; simp [put]
                · cases he
            · cases he
          rw [hh id (.inl hrd), hid]
          exact he
        · cases he
    · cases he
  · cases he
theorem acQ{e1:bx}(h:qY C f o e1=some e)(hh:iq S S' e):iq S S' e1:=by unfold qY at h;split at h;·{split at h;·{rename_i hw;split at h;·{rename_i hc;obtain⟨rfl,_⟩:=hc;simp only[Option.some.injEq]at h;subst h;intro id hid;refine hh id (hid.imp (fun h=>h) fun⟨x,hx,e⟩=> ?_);rw[hw]at hx;simp only[List.mem_cons,List.not_mem_nil,or_false]at hx;rcases hx with rfl|rfl;·{exact⟨_,List.mem_cons_self ..,e⟩};·exact⟨_,List.mem_cons_of_mem _ (List.mem_cons_self ..),e⟩};·cases h};·{rename_i hw;split at h;·{rename_i hc;obtain⟨rfl,_⟩:=hc;simp only[Option.some.injEq]at h;subst h;intro id hid;refine hh id (hid.imp (fun h=>h) fun⟨x,hx,e⟩=> ?_);rw[hw]at hx;simp only[List.mem_cons,List.not_mem_nil,or_false]at hx;obtain rfl:=hx;exact⟨_,List.mem_cons_self ..,e⟩};·cases h};·cases h};·simp only[Option.some.injEq]at h;subst h;exact hh
theorem acv {ts : Array TypeId} {xs : List aa} (he : lV C S o ts xs = some e) (hh : iq S S' e) : lV C S' o ts xs = some e := by
  unfold lV at he ⊢
  split at he
  · rename_i x y t el h1 h2
    try rw [h1, h2]
    try simp only
    unfold AF at he ⊢
    split at he
    · rename_i abK d hu hd
      try rw [hu, hd]
      try simp only
      split at he
      · rename_i i alK i1 aqS i2 hi hx hy
        split at he
        · rename_i hc
          unfold lQ at he
          have facts : (∀ id ∈ i1 ++ i2, id ∈ e.rd) ∧ (∃ r, ([d], r) ∈ e.wr) := by
            split at he
            · split at he
              · split at he
                · simp only [Option.some.injEq] at he; subst he
                  exact ⟨fun id h => h, _, List.mem_cons_of_mem _ (List.mem_cons_self ..)⟩
                · cases he
              · cases he
            · simp only [Option.some.injEq] at he; subst he
              exact ⟨fun id h => h, _, List.mem_cons_self ..⟩
            · cases he
          obtain ⟨hrd, r, lA⟩ := facts
          have ex := JN (L' := S'.h) hx fun id hid => hh id (.inl (hrd id (List.mem_append.2 (.inl hid))))
          have HU := JN (L' := S'.h) hy fun id hid => hh id (.inl (hrd id (List.mem_append.2 (.inr hid))))
          try rw [hi, ex, HU]
          try simp only
          rw [hh [d] (.inr ⟨_, lA, rfl⟩), if_pos hc]
          unfold lQ
          split at he
          · rename_i id off len
            have hid : id ∈ i1 := by
              simp only [rowsOf] at hx
              split at hx
              · split at hx
                · simp only [Option.some.injEq, Prod.mk.injEq] at hx
                  rw [← hx.2]; simp
                · cases hx
              · cases hx
            try simp only
            rw [hh id (.inl (hrd id (List.mem_append.2 (.inl hid))))]
            exact he
          · exact he
          · cases he
        · cases he
      · cases he
    · cases he
  · rename_i x y t k h1 h2
    try rw [h1, h2]
    try simp only
    unfold AG at he ⊢
    split at he
    · rename_i abK d nn hu hd Mu
      try rw [hu, hd, Mu]
      try simp only
      split at he
      · rename_i i z alK i1 hi hz hx
        split at he
        · rename_i hc
          unfold lQ at he
          have facts : (∀ id ∈ i1, id ∈ e.rd) ∧ (∃ r, ([d], r) ∈ e.wr) := by
            split at he
            · split at he
              · split at he
                · simp only [Option.some.injEq] at he; subst he
                  exact ⟨fun id h => by simp only [put, List.append_nil]; exact h, _, List.mem_cons_of_mem _ (List.mem_cons_self ..)⟩
                · cases he
              · cases he
            · simp only [Option.some.injEq] at he; subst he
              exact ⟨fun id h => by simp only [put, List.append_nil]; exact h, _, List.mem_cons_self ..⟩
            · cases he
          obtain ⟨hrd, r, lA⟩ := facts
          have ex := JN (L' := S'.h) hx fun id hid => hh id (.inl (hrd id hid))
          try rw [hi, hz, ex]
          try simp only
          rw [hh [d] (.inr ⟨_, lA, rfl⟩), if_pos hc]
          unfold lQ
          split at he
          · rename_i id off len
            have hid : id ∈ i1 := by
              simp only [rowsOf] at hx
              split at hx
              · split at hx
                · simp only [Option.some.injEq, Prod.mk.injEq] at hx
                  rw [← hx.2]; simp
                · cases hx
              · cases hx
            try simp only
            rw [hh id (.inl (hrd id hid))]
            exact he
          · exact he
          · cases he
        · cases he
      · cases he
    · cases he
  · cases he
theorem acF{p:Nat×Nat}{xs:List aa}(he:vg S o p xs=some e)(hh:iq S S' e):vg S' o p xs=some e:=by unfold vg at he⊢;split at he;·{rename_i id row off;split at he;·{rename_i rows hid;split at he;·{rename_i gv off2 len hcell;split at he;·{rename_i e8 yl;split at he;·{rename_i hc;simp only[Option.some.injEq]at he;subst he;have e1:S'.h id=S.h id:=hh id (.inl (by simp[put]));have e2:S'.h gv=S.h gv:=hh gv (.inl (by simp[put]));simp only[e1,hid,hcell,e2,yl,hc,if_true]};·cases he};·cases he};·cases he};·cases he};·{exact he};·cases he
theorem acD{ts:Array TypeId}{xs:List aa}(he:xU C S o ts xs=some e)(hh:iq S S' e):xU C S' o ts xs=some e:=by unfold xU at he⊢;split at he;·{rename_i x y el h1;split at he;·{rename_i id off len ys i2 hsz E9;split at he;·{rename_i rows hid;split at he;·{rename_i hc;simp only[Option.some.injEq]at he;subst he;have e1:S'.h id=S.h id:=hh id (.inl (by simp[put]));have e2:rowsOf S'.h y=some (ys,i2):=JN E9 (fun i hi=>hh i (.inl (by simp[put];exact .inr hi)));simp only[hsz,e2,e1,hid,hc,if_true]};·cases he};·cases he};·cases he};·cases he
theorem acH{as:List aa}(he:vS S o as=some e)(hh:iq S S' e):vS S' o as=some e:=by unfold vS at he⊢;split at he;·{split at he;·{rename_i hc hid;split at he;·{rename_i h2 hk;split at he;·{rename_i hr;split at he;·{rename_i ji;simp only[Option.some.injEq]at he;subst he;have e1:=hh _ (.inl (show _∈[_,_]from List.mem_cons_self ..));have e2:=hh _ (.inl (show _∈[_,_]from List.mem_cons_of_mem _ (List.mem_cons_self ..)));simp only[hc,e1,hid,e2,h2,hk,hr,ji,and_self,if_true]};·cases he};·cases he};·cases he};·cases he};·cases he
theorem acA {fv : aa} {args : List aa} (he : qJ C f call S o fv args = some e) (hh : iq S S' e) : qJ C f call S' o fv args = some e := by
  unfold qJ at he ⊢
  split at he
  · rename_i k first caps
    try simp only
    by_cases hlk : C.look k = true
    · rw [if_pos hlk] at he ⊢
      exact acH he hh
    rw [if_neg hlk] at he ⊢
    split at he
    · rename_i as seen d LO bM
      split at he
      · rename_i r bW
        generalize hr' : (if eX C f o.dst = true then dW r else r) = r' at he
        split at he
        · cases he
        · rename_i hm
          split at he
          · rename_i hf
            simp only [Option.some.injEq] at he; subst he
            have hb : r6 S'.h (first ++ args ++ caps) = some (as, seen) := Ea (KH 9) LO fun id hid => hh id (.inl hid)
            have hfr : fresh S'.h (imp [d] r').2 = fresh S.h (imp [d] r').2 := Ee fun x hx => hh x.1 (.inr ⟨x, hx, rfl⟩)
            rw [hb, bM]
            simp only [bW]
            rw [← bM, hr', if_neg hm, hfr, if_pos hf]
          · cases he
      · cases he
    · cases he
  · cases he
theorem Vz:∀{eC:List aa}{ms:List Nat}{as:List aa}{seen tk dG:List Id},ij S.h ms eC=some (as,seen,tk,dG)→(∀id∈seen,S'.h id=S.h id)→(∀id∈tk++dG,S'.h id=S.h id)→ij S'.h ms eC=some (as,seen,tk,dG)|[],ms,as,seen,tk,dG,hx,_,_=>hx|c::cs,ms,as,seen,tk,dG,hx,h1,h2=>by simp only[ij,Option.bind_eq_some_iff]at hx⊢;obtain⟨⟨ys,s1,t1,bE⟩,hy,hx⟩:=hx;refine⟨(ys,s1,t1,bE), ?_, ?_⟩;·{split at hx<;>·obtain⟨x,hpk,hx⟩:=Option.map_eq_some_iff.1 hx;simp only[Prod.mk.injEq]at hx;obtain⟨rfl,rfl,rfl,rfl⟩:=hx;exact Vz hy (fun id hid=>h1 id (by simp[hid])) (fun id hid=>h2 id (by rcases List.mem_append.1 hid with h|h<;>simp[h]))};·split at hx;·{rename_i hm;obtain⟨x,hpk,hx⟩:=Option.map_eq_some_iff.1 hx;simp only[Prod.mk.injEq]at hx;obtain⟨rfl,rfl,rfl,rfl⟩:=hx;simp only[hm];rw[zk 9 _ _ hpk fun id hid=>h2 id (by simp[hid])];rfl};·{rename_i hm;obtain⟨x,hpk,hx⟩:=Option.map_eq_some_iff.1 hx;simp only[Prod.mk.injEq]at hx;obtain⟨rfl,rfl,rfl,rfl⟩:=hx;simp only[hm];rw[zk 9 _ _ hpk fun id hid=>h2 id (by simp[hid])];rfl};·rename_i vD hm2;obtain⟨x,hpk,hx⟩:=Option.map_eq_some_iff.1 hx;simp only[Prod.mk.injEq]at hx;obtain⟨rfl,rfl,rfl,rfl⟩:=hx;rw[KH 9 _ _ hpk fun id hid=>h1 id (by simp[hid])];rfl
theorem UL{a b:aa}{l:List (Id×Option Rows)}(h:iV S.h a b=some l)(hh:∀x∈l,S'.h x.1=S.h x.1):iV S'.h a b=some l:=by unfold iV at h;split at h;·{rename_i id cs;split at h;·{rename_i old hid;split at h;·{rename_i hc;simp only[Option.some.injEq]at h;subst h;have:=hh _ (List.mem_cons_self ..);simp only[iV,this,hid,hc,if_true]};·cases h};·cases h};·{rename_i id n rows;split at h;·{rename_i o1 os hid;split at h;·{rename_i hc;simp only[Option.some.injEq]at h;subst h;have:=hh _ (List.mem_cons_self ..);simp only[iV,this,hid];rw[if_pos hc]};·cases h};·{rename_i hid;split at h;·{rename_i hc;simp only[Option.some.injEq]at h;subst h;have:=hh _ (List.mem_cons_self ..);simp only[iV,this,hid];rw[if_pos hc]};·cases h};·cases h};·{rename_i id rows;split at h;·{rename_i wK hid;simp only[Option.some.injEq]at h;subst h;have:=hh _ (List.mem_cons_self ..);simp only[iV,this,hid]};·cases h};·{cases h};·{cases h};·{cases h};·{cases h};·rename_i g1 g2 g3 g4 _ _ _;simp only[Option.some.injEq]at h;subst h;unfold iV;split<;>first|rfl|exact(g1 _ _ _ rfl).elim|exact(g2 _ _ _ rfl).elim|exact(g3 _ rfl).elim|exact(g4 _ rfl).elim
theorem UO:∀{as bs:List aa}{l:List (Id×Option Rows)},ju S.h as bs=some l→(∀x∈l,S'.h x.1=S.h x.1)→ju S'.h as bs=some l|[],[],l,h,_=>h|[],_::_,l,h,_=>by{simp[ju]at h}|_::_,[],l,h,_=>by{simp[ju]at h}|a::as,b::bs,l,h,hh=>by simp only[ju]at h⊢;split at h;·{rename_i x y h1 h2;simp only[Option.some.injEq]at h;subst h;rw[UL h1 fun x hx=>hh x (List.mem_append.2 (.inl hx)),UO h2 fun x hx=>hh x (List.mem_append.2 (.inr hx))]};·cases h
theorem ajx{a b:aa}{l:List (Id×Option Rows)}(h:sP S.h a b=some l)(hh:∀x∈l,S'.h x.1=S.h x.1):sP S'.h a b=some l:=by unfold sP at h⊢;split at h;·{exact UO h hh};·exact UL h hh
theorem UR{args:List aa}:∀{cw:List Nat}{outs:List aa}{l:List (Id×Option Rows)},gI S.h args cw outs=some l→(∀x∈l,S'.h x.1=S.h x.1)→gI S'.h args cw outs=some l|[],[],l,h,_=>h|[],_::_,l,h,_=>by{simp[gI]at h}|_::_,[],l,h,_=>by{simp[gI]at h}|j::cw,b::outs,l,h,hh=>by simp only[gI]at h⊢;split at h;·{rename_i a y h1 h2;split at h;·{rename_i x h3;simp only[Option.some.injEq]at h;subst h;rw[h1,UR h2 fun x hx=>hh x (List.mem_append.2 (.inr hx))];simp only[ajx h3 fun x hx=>hh x (List.mem_append.2 (.inl hx))]};·cases h};·cases h
theorem acC{k:FuncId}{args:List aa}(he:r8 C f call S o k args=some e)(hh:iq S S' e):r8 C f call S' o k args=some e:=by unfold r8 at he⊢;split at he;·{rename_i as seen tk dG d kJ bM;split at he;·{rename_i r outs bW;generalize hr':(if eX C f o.dst=true then dW r else r)=r' at he;split at he;·{rename_i back kg;split at he;·{rename_i Iv;simp only[Option.some.injEq]at he;subst he;have hw:∀x,(x∈(imp [d] r').2∨x∈back∨x∈(tk++dG).map fun i=>((i,none):Id×Option Rows))→S'.h x.1=S.h x.1:=fun x hx=>hh x.1 (.inr ⟨x,by rw[NR];rcases hx with hx|hx|hx;·{exact List.mem_append.2 (.inl hx)};·{exact List.mem_append.2 (.inr (List.mem_append.2 (.inl hx)))};·exact List.mem_append.2 (.inr (List.mem_append.2 (.inr hx))),rfl⟩);have e1:ij S'.h (C.y7 k) args=some (as,seen,tk,dG):=Vz kJ (fun id hid=>hh id (.inl hid)) fun id hid=>hw (id,none) (.inr (.inr (List.mem_map.2 ⟨id,hid,rfl⟩)));have e2:gI S'.h args (C.cw k) outs=some back:=UR kg fun x hx=>hw x (.inr (.inl hx));have hfr:fresh S'.h (imp [d] r').2=fresh S.h (imp [d] r').2:=Ee fun x hx=>hw x (.inl hx);rw[e1];simp only[bM];simp only[bM]at hr';simp only[bW,hr',e2,hfr,if_pos Iv]};·cases he};·cases he};·cases he};·cases he
end
end Go.Ab
namespace Go.Ab
open Go
variable{L L':Id→Option (Option Rows)}
section
variable{C:aO}{f:FuncId}{call:FuncId→List aa→Option (aa×List aa)}{S S':ak}{o:Oper}{e:bx}
def tmpsOf(o:Oper):List Nat:=o.op.operands.toList.filterMap fun| .tmp t=>some t|_=>none
theorem aaE{keep:Id→Bool}:rV (gm L keep) (gm L' keep) L L':=fun a x h hh=>by cases a with|rs i off len=>(simp only[gm]at h⊢;split at h;·{rename_i hk;rw[if_pos hk];exact h};·rename_i hk;rw[if_neg hk];exact zk 8 _ _ h hh)|mp i off len=>(simp only[gm]at h⊢;split at h;·{rename_i hk;rw[if_pos hk];exact h};·rename_i hk;rw[if_neg hk];exact zk 8 _ _ h hh)|mr i=>(simp only[gm]at h⊢;split at h;·{rename_i hk;rw[if_pos hk];exact h};·rename_i hk;rw[if_neg hk];exact zk 8 _ _ h hh)|_=>exact h
theorem Rr{q q':List aa→Option (List aa×List Id)}(hq:∀r x,q r=some x→(∀id∈x.2,L' id=L id)→q' r=some x):∀{rs:Rows}{x},ec q rs=some x→(∀id∈x.2,L' id=L id)→ec q' rs=some x|[],x,h,_=>h|c::cs,x,h,hh=>by simp only[ec,Option.bind_eq_some_iff,Option.map_eq_some_iff]at h⊢;obtain⟨y,hy,z,hz,rfl⟩:=h;exact⟨y,hq _ _ hy fun id hid=>hh id (List.mem_append.2 (.inl hid)),z,Rr hq hz fun id hid=>hh id (List.mem_append.2 (.inr hid)),rfl⟩
theorem aaI{keep:Id→Bool}(r:List aa)(x)(hy:k5 L keep r=some x)(hh:∀id∈x.2,L' id=L id):k5 L' keep r=some x:=by unfold k5 at hy⊢;split at hy;·{rename_i hc;rw[if_pos hc];exact hy};·rename_i hc;rw[if_neg hc];exact Ea aaE hy hh
theorem aaG{keep:Id→Bool}{rs:Rows}{x}(h:ec (k5 L keep) rs=some x)(hh:∀id∈x.2,L' id=L id):ec (k5 L' keep) rs=some x:=Rr aaI h hh
theorem T0{l:List (Id×Id)}:∀{r:List (Id×Id)}{x},hU L l r=some x→(∀i∈r.map (·.1),L' i=L i)→(∀i∈x.2,L' i=L i)→hU L' l r=some x|[],x,h,_,_=>h|(o,k)::r,x,h,h1,h2=>by simp only[hU]at h⊢;rw[h1 o (by simp)];split at h;·{simp only[Option.bind_eq_some_iff,Option.map_eq_some_iff]at h⊢;obtain⟨y,hy,br,hr,z,hz,rfl⟩:=h;refine⟨y, ?_,br,hr,z,T0 hz (fun i hi=>h1 i (by simp only[List.map_cons];exact List.mem_cons_of_mem _ hi)) (fun i hi=>h2 i (List.mem_append.2 (.inr hi))),rfl⟩;unfold ny at hy⊢;split at hy;·{rename_i hc;rw[if_pos hc];exact hy};·rename_i hc;rw[if_neg hc];exact aaG hy fun i hi=>h2 i (List.mem_append.2 (.inl hi))};·cases h
theorem AO:∀(n:Nat)(b:Bool)(p:Id)(j:Nat)(acc:List (Id×Id))(as:List aa),∀x∈acc,x∈eD L n b p j acc as|0,_,_,_,_,_,x,hx=>hx|_+1,_,_,_,_,[],x,hx=>hx|n+1,b,p,j,acc,a::as,x,hx=>by unfold eD;apply AO n b p (j+1);cases a with|rs i off len=>(dsimp only;split;exact hx;exact List.mem_append_left _ hx)|mr i=>(dsimp only;split;exact hx;exact List.mem_append_left _ hx)|mp i row off=>(dsimp only;split;·{exact hx};·split;·{exact AO n _ _ _ _ _ x (List.mem_append_left _ hx)};·exact List.mem_append_left _ hx)|agg cs=>(exact AO n _ _ _ _ _ x hx)|fn k xs cs=>(exact AO n _ _ _ _ _ x hx)|_=>exact hx
theorem aaY(n:Nat)(b:Bool)(p:Id)(j:Nat)(acc:List (Id×Id))(a:aa)(as:List aa):∃l:(Id→Option (Option Rows))→List (Id×Id),∀L,eD L (n+1) b p j acc (a::as)=eD L n b p (j+1) (l L) as∧l L=(match a with| .rs i _ _=>if !b||(fT acc i).isSome then acc else acc++[(i,j::p)]| .mr i=>if !b||(fT acc i).isSome then acc else acc++[(i,j::p)]| .mp i _ _=>if(fT acc i).isSome then acc else(match L i with|some (some [cs])=>eD L n false (j::p) 0 (acc++[(i,j::p)]) cs|_=>acc++[(i,j::p)])| .agg cs=>eD L n b (j::p) 0 acc cs| .fn _ as cs=>eD L n true (j::p) 0 acc (as++cs)|_=>acc):=⟨_,fun L=>⟨by cases a<;>rw[eD]<;>first|rfl|(intros;contradiction)|(intros;rename_i h;cases h),rfl⟩⟩
theorem DS:∀(n:Nat)(b:Bool)(p:Id)(j:Nat)(acc:List (Id×Id))(as:List aa),(∀i∈(eD L n b p j acc as).map (·.1),L' i=L i)→eD L' n b p j acc as=eD L n b p j acc as|0,_,_,_,_,_,_=>rfl|_+1,_,_,_,_,[],_=>rfl|n+1,b,p,j,acc,a::as,h=>by obtain⟨l,hl⟩:=aaY n b p j acc a as;rw[(hl L).1]at h⊢;rw[(hl L').1];have sub:∀i∈(l L).map (·.1),L' i=L i:=fun i hi=>by{obtain⟨x,hx,rfl⟩:=List.mem_map.1 hi;exact h _ (List.mem_map.2 ⟨x,AO n b p (j+1) _ as x hx,rfl⟩)};have e:l L'=l L:=by{have h1:=(hl L).2;rw[h1]at sub;rw[(hl L').2,h1];clear h1 h hl l;cases a with|mp i row off=>(dsimp only at sub⊢;by_cases hs:(fT acc i).isSome=true;·{rw[if_pos hs,if_pos hs]};·rw[if_neg hs]at sub;rw[if_neg hs,if_neg hs];have hi:L' i=L i:=by{refine sub i ?_;split;·{exact List.mem_map.2 ⟨(i,j::p),AO n _ _ _ _ _ _ (List.mem_append_right _ (List.mem_singleton.2 rfl)),rfl⟩};·exact List.mem_map.2 ⟨(i,j::p),List.mem_append_right _ (List.mem_singleton.2 rfl),rfl⟩};rw[hi];split;·{rename_i cs hcs;rw[hcs]at sub;exact DS n false (j::p) 0 _ cs sub};·rfl)|agg cs=>(exact DS n b (j::p) 0 _ cs sub)|fn k xs cs=>(exact DS n true (j::p) 0 _ (xs++cs) sub)|_=>rfl};rw[e];exact DS n b p (j+1) _ as h
theorem ac9{k:FuncId}{args:List aa}{x:Am}(h:si call L k args=some x)(h1:∀i∈x.l.map (·.1),L' i=L i)(h2:∀i∈x.gone,L' i=L i):si call L' k args=some x:=by have hl:x.l=eD L 60 true [jm] 0 [] args:=by{unfold si Ei at h;split at h;·{split at h;·{split at h;·{obtain⟨back,_,rfl⟩:=Option.map_eq_some_iff.1 h;rfl};·cases h};·cases h};·cases h};obtain⟨obs,outs,ho,_⟩:=Ij h;unfold si at h⊢;rw[DS 60 true [jm] 0 [] args (by rw[←hl];exact h1)];unfold Ei at h⊢;rw[hl]at ho;rw[ho]at h;rw[T0 ho (by rw[←hl];exact h1) h2];exact h
theorem acB{k:FuncId}{args:List aa}(he:qK C f call S o k args=some e)(hh:iq S S' e):qK C f call S' o k args=some e:=by unfold qK at he⊢;simp only[Option.bind_eq_some_iff]at he⊢;obtain⟨x,hx,he⟩:=he;split at he;·{cases he};·rename_i hp;generalize tT:(if eX C f o.dst=true then(if flat x.r=true then dW x.r else .bz)else x.r)=rr at he;split at he;·{rename_i hf;simp only[Option.some.injEq]at he;subst he;have iN:jF S'.h x.back=jF S.h x.back:=by{obtain⟨_,_,_,_,hb,_⟩:=Ij hx;have LN:=(xE hb).1;unfold jF;refine List.filter_congr fun b hb=> ?_;have:S'.h b.1=S.h b.1:=hh b.1 (.inl (by show b.1∈x.l.map (·.1);rw[←LN];exact List.mem_map.2 ⟨b,hb,rfl⟩));unfold zK;rw[this]};refine⟨x,ac9 hx (fun i hi=>hh i (.inl hi)) (fun i hi=>hh i (.inr ⟨(i,none), ?_,rfl⟩)), ?_⟩;·{simp only[NR];exact List.mem_append_right _ (List.mem_append_right _ (List.mem_map.2 ⟨i,hi,rfl⟩))};·rw[if_neg hp];simp only[tT,iN];rw[Ee (L':=S'.h) (L:=S.h) fun y hy=>hh y.1 (.inr ⟨y,by simp only[NR];exact List.mem_append_left _ hy,rfl⟩),if_pos hf]};·cases he
theorem ac6(hs:∀t∈tmpsOf o,S'.t t=S.t t){x:Operand}(hx:x∈o.op.operands.toList):S'.get C x=S.get C x:=by cases x with|tmp t=>(exact hs t (List.mem_filterMap.2 ⟨.tmp t,hx,rfl⟩))|_=>rfl
theorem abT(he:bF C f call S true o=some e)(hs:∀t∈tmpsOf o,S'.t t=S.t t)(hh:iq S S' e):bF C f call S' true o=some e:=by have get:∀x∈o.op.operands.toList,S'.get C x=S.get C x:=fun x hx=>ac6 hs hx;have x2:∀xs:List Operand,(∀x∈xs,x∈o.op.operands.toList)→(xs.map fun x=>un true (S'.get C x))=xs.map fun x=>un true (S.get C x):=fun xs h=>List.map_congr_left fun x hx=>by{rw[get x (h x hx)]};have A3:∀xs:List (Nat×Operand),(∀x∈xs,x.2∈o.op.operands.toList)→(xs.map fun p=>(p.1,un true (S'.get C p.2)))=xs.map fun p=>(p.1,un true (S.get C p.2)):=fun xs h=>List.map_congr_left fun x hx=>by{rw[get x.2 (h x hx)]};unfold bF at he⊢;cases ho:o.op with|move x=>(rw[ho]at he get;simp only[Op.operands]at he get⊢;rw[get x (by simp)];exact he)|assign x=>(rw[ho]at he get;simp only[Op.operands]at he get⊢;rw[get x (by simp)];exact he)|pick c x y=>(rw[ho]at he get;simp only[Op.operands]at he get⊢;rw[get c (by simp),get x (by simp),get y (by simp)];exact he)|alloc t=>(rw[ho]at he;exact acu he hh)|box t x=>(rw[ho]at he get;simp only[Op.operands]at he get⊢;rw[get x (by simp)];exact acw he hh)|build t ps=>(rw[ho]at he A3;simp only[Op.operands]at he A3⊢;rw[A3 ps.toList (fun x hx=>by simp;exact⟨x.1,by simpa using hx⟩)];exact he)|buildSlice t n ps=>(rw[ho]at he A3;simp only[Op.operands]at he A3⊢;rw[A3 ps.toList (fun x hx=>by simp;exact⟨x.1,by simpa using hx⟩)];exact acy he hh)|load t x=>(rw[ho]at he get;simp only[Op.operands]at he get⊢;rw[get x (by simp)];exact acG he hh)|store t x y=>(rw[ho]at he get;simp only[Op.operands]at he get⊢;rw[get x (by simp),get y (by simp)];exact acM he hh)|nilCheck x=>(rw[ho]at he get;simp only[Op.operands]at he get⊢;rw[get x (by simp)];exact he)|binOp op t x y u=>(rw[ho]at he get;simp only[Op.operands]at he get⊢;rw[get x (by simp),get y (by simp)];exact he)|unOp op t x=>(rw[ho]at he get;simp only[Op.operands]at he get⊢;rw[get x (by simp)];exact he)|convert s t x=>(rw[ho]at he get;simp only[Op.operands]at he get⊢;rw[get x (by simp)];exact he)|makeInterface t x=>(rw[ho]at he get;simp only[Op.operands]at he get⊢;rw[get x (by simp)];exact he)|makeFunc k xs ys=>(rw[ho]at he x2;simp only[Op.operands]at he x2⊢;rw[x2 xs.toList (fun x hx=>by simp;exact .inl (by simpa using hx)),x2 ys.toList (fun x hx=>by simp;exact .inr (by simpa using hx))];exact he)|makeSlice t x y=>(rw[ho]at he get;simp only[Op.operands]at he get⊢;rw[get x (by simp),get y (by simp)];exact acJ he hh)|slice t x lo hi mx=>(rw[ho]at he get;simp only[Op.operands]at he get⊢;split at he;·{cases he};·rename_i hm;rw[if_neg hm,get x (by simp)];have e1:(lo.map fun y=>e3 (un true (S'.get C y)))=lo.map fun y=>e3 (un true (S.get C y)):=by{cases lo with|none=>(rfl)|some y=>simp only[Option.map_some];rw[get y (by simp)]};have e2:(hi.map fun y=>e3 (un true (S'.get C y)))=hi.map fun y=>e3 (un true (S.get C y)):=by{cases hi with|none=>(rfl)|some y=>simp only[Option.map_some];rw[get y (by simp)]};rw[e1,e2];exact acL he hh)|fieldAddr s x i=>(rw[ho]at he get;simp only[Op.operands]at he get⊢;rw[get x (by simp)];exact he)|field s x i=>(rw[ho]at he get;simp only[Op.operands]at he get⊢;rw[get x (by simp)];exact he)|indexAddr t x y=>(rw[ho]at he get;simp only[Op.operands]at he get⊢;rw[get x (by simp),get y (by simp)];exact acE he hh)|index t x y=>(rw[ho]at he get;simp only[Op.operands]at he get⊢;rw[get x (by simp),get y (by simp)];exact he)|extract x i=>(rw[ho]at he get;simp only[Op.operands]at he get⊢;rw[get x (by simp)];exact he)|makeMap t r=>(rw[ho]at he;exact acK he hh)|lookup t x y ok=>(rw[ho]at he get;simp only[Op.operands]at he get⊢;rw[get x (by simp),get y (by simp)];exact acI he hh)|mapUpdate t x y z=>(rw[ho]at he get;simp only[Op.operands]at he get⊢;rw[get x (by simp),get y (by simp),get z (by simp)];exact Rv he hh)|insert t x y z=>(rw[ho]at he get;simp only[Op.operands]at he get⊢;rw[get x (by simp),get y (by simp),get z (by simp)];exact Rv he hh)|call c=>(rw[ho]at he get x2;simp only[Op.operands]at he get x2⊢;have hargs:=x2 c.args.toList (fun x hx=>by simp only[Call.operands];simp;exact .inr (by simpa using hx));cases hc:c.callee with|builtin b=>(rw[hc]at he;cases b with|len=>(simp only at he⊢;rw[hargs];exact he)|append=>(simp only[Option.bind_eq_some_iff]at he⊢;rw[hargs];obtain⟨e1,h1,h2⟩:=he;exact⟨e1,acv h1 (acQ h2 hh),h2⟩)|copy=>(simp only at he⊢;rw[hargs];exact acD he hh)|max=>(simp only at he⊢;rw[hargs];exact he)|min=>(simp only at he⊢;rw[hargs];exact he)|_=>cases he)|value cF=>(rw[hc]at he;simp only at he⊢;rw[get cF (by simp[Call.operands,hc])];split at he;·{rename_i x hx;rw[hargs];exact acB he hh};rename_i hx;split at he;·{rename_i p hp;rw[hargs];exact acF he hh};·rename_i hp;split at he;·{rename_i kJ;rw[if_pos kJ];cases cF with|func k=>(simp only at he⊢;rw[hargs];exact acC he hh)|_=>cases he};·rename_i kJ;rw[if_neg kJ,hargs];exact acA he hh)|invoke r n=>rw[hc]at he;cases he)|_=>rw[ho]at he;cases he
end
end Go.Ab
