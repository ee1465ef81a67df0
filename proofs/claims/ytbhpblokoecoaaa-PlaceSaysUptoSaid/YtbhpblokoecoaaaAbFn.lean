import Derived.Test.YtbhpblokoecoaaaAbCode
import Derived.Laws.Sem
import Derived.RangeFuncLeaves
namespace Go.Ab
open Go
def DZ(tmps:Array Value)(r:ResultVar):Sem Value:=match r with| .tmp t=>pure (tmps.getD t undef)| .cell a t=>do loadVar t (←asAddr (tmps.getD a undef))
section
variable{C:aV}{E:Env}{w:World}{S:an}{a:Act}{β:Id→Option Loc}{F:Id→List Nat}
variable{f:FuncId}{call:FuncId→List aa→Option (aa×List aa)}
theorem Rq(h:aY C E w S a β F):∀{l:List ResultVar}{x},j4 C S l=some x→∃vs fp rest,(l.mapM (DZ a.tmps)).run C.P w= .ok vs w∧aJ w (aT E w F) cl fp vs x.1∧(fp++rest).Perm (x.2.flatMap F)|[],x,hx=>by{simp[j4]at hx;subst hx;exact⟨[],[],[],rfl, .nil,by simp⟩}|r::l,x,hx=>by simp only[j4,Option.bind_eq_some_iff,Option.map_eq_some_iff]at hx;obtain⟨y,hy,z,hz,rfl⟩:=hx;obtain⟨v,kk,r1,e1,g1,g2⟩:=aeB h hy;obtain⟨vs,jV,r2,e2,g3,g4⟩:=Rq h hz;refine⟨v::vs,kk++jV,r1++r2, ?_, .cons g1 g3, ?_⟩;·{rw[List.mapM_cons,Sem.run_bind];have:(DZ a.tmps r).run C.P w= .ok v w:=by{cases r<;>exact e1};rw[this,Result.andThen_ok,Sem.run_bind,e2,Result.andThen_ok];rfl};·have:=uW (f1:=[]) (f2:=[]) (by simpa using g2) (by simpa using g4);simpa[List.flatMap_append]using this
theorem aeD{fn:Func}{tmps:Array Value}{vs:List Value}{P:Program}(h:(fn.results.toList.mapM (DZ tmps)).run P w= .ok vs w):(results fn tmps).run P w= .ok (match vs with|[v]=>v|_=> .tuple ⟨vs⟩) w:=by have e:results fn tmps=(do let vs←fn.results.mapM (DZ tmps);pure (if h:vs.size=1 then vs[0]else .tuple vs):Sem Value):=by{unfold results;congr 1};rw[e,Array.mapM_eq_mapM_toList,Sem.run_bind];have:(List.toArray<$>fn.results.toList.mapM (DZ tmps):Sem (Array Value)).run P w= .ok ⟨vs⟩ w:=by{rw[map_eq_pure_bind,Sem.run_bind,h,Result.andThen_ok];rfl};rw[this,Result.andThen_ok];match vs with|[]=>(rfl)|[v]=>(rfl)|v::u::vs=>simp
theorem XG (h : aY C E w S a β F) {fn : Func} {cR : List Nat} {args : List aa} {r : aa × List aa} (hx : finish C fn cR args S = some r) :
    ∃ v, (results fn a.tmps).run C.P w = .ok v w ∧ ∃ (I' : Nat → Prop) (fr : List Nat), aJ w I' cl fr (v :: cR.map (a.tmps.getD · undef)) (r.1 :: r.2) ∧ fr.Nodup ∧ (∀ b ∈ fr, b < w.heap.size ∧ (E.fS b ∨ E.w0.heap.size ≤ b)) ∧
      (∀ b, I' b → (E.gm b ∨ E.fS b ∨ E.w0.heap.size ≤ b) ∧ b < w.heap.size ∧ b ∉ fr) := by
  unfold finish at hx
  split at hx
  · rename_i rs i1 outs i2 hr ho
    split at hx
    · rename_i cD
      simp only [Option.some.injEq] at hx; subst hx
      obtain ⟨vs, fp, rest, e1, g1, g2⟩ := Rq h hr
      obtain ⟨jV, aeC, g3, g4⟩ := KG h ho
      have hall : ((fp ++ jV) ++ (rest ++ aeC)).Perm ((i1 ++ i2).flatMap F) := by
        have := uW (f1 := []) (f2 := []) (by simpa using g2) (by simpa using g4)
        simpa [List.flatMap_append] using this
      have hmem : ∀ b ∈ fp ++ jV, ∃ id, b ∈ F id := fun b hb => by
        obtain ⟨id, _, hid⟩ := List.mem_flatMap.1 (GA hall hb)
        exact ⟨id, hid⟩
      refine ⟨_, aeD e1, aT E w F, fp ++ jV, .cons ?_ g3, KI hall (Fo h (Dn cD)), fun b hb => ?_, fun b hb => ⟨hb.1, hb.2.1, fun hm => ?_⟩⟩
      · have hl := g1.length
        simp only at g1 hl ⊢
        match rs, vs, g1, hl with
        | [], [], g1, _ => exact .b9 g1
        | [r], [v], g1, _ =>
          obtain ⟨f1, f2, v', vs', rfl, e, k1, k2⟩ := aJ.cons_inv g1
          simp only [List.cons.injEq] at e
          obtain ⟨rfl, rfl⟩ := e
          obtain ⟨rfl, _⟩ := k2.gi
          simpa using k1
        | r :: r' :: rs, v :: v' :: vs, g1, _ => exact .b9 g1
        | [], v :: vs, _, hl => simp at hl
        | [r], [], _, hl => simp at hl
        | [r], v :: v' :: vs, _, hl => simp at hl
        | r :: r' :: rs, [], _, hl => simp at hl
        | r :: r' :: rs, [v], _, hl => simp at hl
      · obtain ⟨id, hid⟩ := hmem b hb
        exact h.lt id b hid
      · obtain ⟨id, hid⟩ := hmem b hm
        exact hb.2.2 id hid
    · cases hx
  · cases hx
theorem abD {fn : Func} {cR : List Nat} {args : List aa} {r : aa × List aa} (hx : finish C fn cR args S = some r) (hm : E.w0.heap.size ≤ E.m) {R : Ending → World → Prop} (h : aY C E w S a β F) {ds : List Deferred} (hds : a.defers = ds)
    (hR : ∀ w' v, Kept E.w0 w' E.fS → (results fn a.tmps).run C.P w' = .ok v w' → (∃ (I' : Nat → Prop) (fr : List Nat), aJ w' I' cl fr (v :: cR.map (a.tmps.getD · undef)) (r.1 :: r.2) ∧ fr.Nodup ∧ (∀ b ∈ fr, b < w'.heap.size ∧ (E.fS b ∨ E.w0.heap.size ≤ b)) ∧
      (∀ b, I' b → (E.gm b ∨ E.fS b ∨ E.w0.heap.size ≤ b) ∧ b < w'.heap.size ∧ b ∉ fr)) → R (.returned v) w') : LeavesInM Fence.wide 0 C.P fn a.tmps R ds .returning w := by
  induction ds generalizing w a with
  | nil =>
    obtain ⟨v, e1, h1⟩ := XG h hx
    exact ⟨v, e1, hR w v h.kept e1 h1⟩
  | cons d ds ih =>
    obtain ⟨kQ, e1, e2, bV⟩ := h.df
    rw [hds] at e1
    cases kQ with
    | nil => cases e1
    | cons D kQ =>
      simp only [List.map_cons, List.cons.injEq] at e1
      obtain ⟨rfl, rfl⟩ := e1
      obtain ⟨hD, hI, hle⟩ := bV D (List.mem_cons_self ..)
      have cD := List.nodup_cons.1 e2
      refine ⟨by simp, .inl ⟨D, _, rfl, run_takeDeferred hD, ?_⟩⟩
      refine ih (a := ⟨a.tmps, kQ.map Dk⟩) (h.Dy hD rfl (Nat.le_trans hm hle) rfl ⟨kQ, rfl, cD.2, fun D' Oa => ?_⟩) rfl hR
      have hne : D' ≠ D := fun e => cD.1 (e ▸ Oa)
      obtain ⟨k1, k2⟩ := bV D' (List.mem_cons_of_mem _ Oa)
      exact ⟨(World.putObj_heap_other hne).trans k1, k2⟩
structure Good (C : aV) : Prop where
  count : kR C
  wide : C.P.follows .mixedOrders = true
  live : ∀ f i, (C.live f i).Nodup
  cut : vv C
  free : ∀ (f : FuncId) (fn : Func) (c : Code), C.ext f = none → C.P.funcs[f]? = some fn → fn.body = some c → xo C f c = true
  ext : ∀ f g args r, C.ext f = some g → g args = some r → Sound C f args r
  iter : ∀ k it, C.iter k = some it → tQ C k it := by intro k it h; cases h
theorem Qq (bH : kR C) (hw : C.P.follows .mixedOrders = true) (hl : ∀ f i, (C.live f i).Nodup) (mI : vv C) (CC : ∀ k it, C.iter k = some it → tQ C k it) (ZE : ∀ g args r, C.ext f = some g → g args = some r → Sound C f args r)
    (hfree : ∀ (fn : Func) (c : Code), C.ext f = none → C.P.funcs[f]? = some fn → fn.body = some c → xo C f c = true) (fl : ∀ k as r, call k as = some r → Sound C k as r) {cF : vw} (oL : Bw cF) {args : List aa} {r : aa × List aa} (h : yY C call cF f args = some r) : Sound C f args r := by
  unfold yY at h
  split at h
  · rename_i g hg; exact ZE g args r hg h
  · rename_i Ou
    split at h
    · rename_i fn hf
      split at h
      · rename_i c hb
        split at h
        · rename_i hlen
          obtain ⟨⟨x, S'⟩, h1, h2⟩ := Option.bind_eq_some_iff.1 h
          intro w gm fp vs hargs cD hI fX Jf
          refine .inl ⟨fn, c, hf, hb, ?_⟩
          refine (callsIn_wide (n := 0)).1 (callsIn_of_wp_marks hf hb trivial ?_)
          have hvl := hargs.length
          have kq : (List.range args.length).map ((⟨vs⟩ ++ Array.replicate (fn.ntmps - (⟨vs⟩ : Array Value).size) undef : Array Value).getD · undef) = vs := by
            apply List.ext_getElem?
            intro k
            rw [List.getElem?_map]
            rcases Nat.lt_or_ge k args.length with hk | hk
            · rw [List.getElem?_range hk]
              simp only [Option.map_some]
              rw [Array.getD_eq_getD_getElem?, Array.getElem?_append_left (by simpa [hvl] using hk)]
              have : k < vs.length := by omega
              simp [this]
            · rw [List.getElem?_eq_none (by simpa using hk), List.getElem?_eq_none (by omega)]
              rfl
          let E : Env := ⟨w, (· ∈ fp), gm, w.heap.size, Nat.le_refl _⟩
          have Jc : bP C E (aF fn.ntmps (List.range args.length) args) { tmps := ⟨vs⟩ ++ Array.replicate (fn.ntmps - (⟨vs⟩ : Array Value).size) undef, defers := [] } w := by
            refine aY.enter (I := gm) (f := fp) ?_ jP.nil ?_ List.nodup_range cD (fun b hb => ⟨.inl hb, hI b hb⟩) (fun b hb => ⟨fX b hb, .inl hb⟩) (Kept.refl w _) Jf
            · simp [hvl]; omega
            · rw [kq]; exact hargs
          have cM : ∀ a' w', finish C fn (C.cR f) args S' = some r → bP C E S' a' w' → r8 (C.cR f) (fun j => vs.getD j undef) a' → LeavesInM Fence.wide 0 C.P fn a'.tmps (fun e w' => ∃ v, e = .returned v ∧ yA w fp gm (sS (C.cR f) vs) r v w') a'.defers .returning w' := by
            rintro a' w' hx ⟨β, F, hS⟩ hk
            refine abD (cR := C.cR f) (args := args) (r := r) hx (Nat.le_refl _) hS rfl fun w2 v hk2 e1 ⟨I', fr, g1, g2, g3, g4⟩ => ?_
            have e2 : (C.cR f).map (a'.tmps.getD · undef) = sS (C.cR f) vs := List.map_congr_left fun j hj => hk j hj
            rw [e2] at g1
            exact ⟨v, rfl, hk2, I', fr, g1, g2, g3, g4⟩
          refine acY bH hw hl mI fl CC oL c none E (C.cR f) (fun j => vs.getD j undef) _ x S' _ _ _ (.inl rfl) (by have := hfree fn c Ou hf hb; unfold xo at this; rw [Bool.and_eq_true] at this; exact this.1) (by have := hfree fn c Ou hf hb; unfold xo at this; rw [Bool.and_eq_true] at this; exact this.2) h1 Jc (fun j _ => ?_) fun a' w' hx hk => ?_
          · show (⟨vs⟩ ++ Array.replicate (fn.ntmps - (⟨vs⟩ : Array Value).size) undef : Array Value).getD j undef = vs.getD j undef
            rw [Array.getD_eq_getD_getElem?, List.getD_eq_getElem?_getD]
            rcases Nat.lt_or_ge j vs.length with hj | hj
            · rw [Array.getElem?_append_left (by simpa using hj)]; simp
            · rw [Array.getElem?_append_right (by simpa using hj), List.getElem?_eq_none hj, Array.getElem?_replicate]
              split <;> rfl
          cases x with
          | normal => exact cM a' w' h2 hx hk
          | ret => exact cM a' w' h2 hx hk
          | _ => simp at h2
        · cases h
      · cases h
    · cases h
/-! ### Loops without end of fuel -/
theorem acQ(ez:Good C)(fl:∀k as r,call k as=some r→Sound C k as r){cF:vw}(oL:Bw cF){args:List aa}{r:aa×List aa}(h:yY C call cF f args=some r):Sound C f args r:=Qq ez.count ez.wide ez.live ez.cut ez.iter (ez.ext f) (ez.free f) fl oL h
theorem Im{α:Type}{g:α→Option (Exit×an)}{rn:an→Option α}:∀{m:Nat}{cc:α}{x:Exit×an}(k:Nat),gX g rn m cc=some x→gX g rn (m+k) cc=some x|0,_,_,_,h=>by{simp[gX]at h}|m+1,cc,x,k,h=>by rw[Nat.add_right_comm];simp only[gX,Option.bind_eq_some_iff]at h⊢;obtain⟨y,h1,h2⟩:=h;refine⟨y,h1, ?_⟩;obtain⟨e,ck⟩:=y;cases e with|normal=>(simp only[Option.bind_eq_some_iff]at h2⊢;obtain⟨t,h3,h4⟩:=h2;exact⟨t,h3,Im k h4⟩)|_=>exact h2
theorem Xy{α:Type}{g:α→Option (Exit×an)}{rn:an→Option α}{m m':Nat}{cc:α}{x y:Exit×an}(h1:gX g rn m cc=some x)(h2:gX g rn m' cc=some y):x=y:=by have e1:=Im m' h1;have e2:=Im m h2;rw[Nat.add_comm]at e2;rw[e1]at e2;exact Option.some.inj e2
open Classical in noncomputable def kE(α:Type)(g:α→Option (Exit×an))(rn:an→Option α)(cc:α):Option (Exit×an):=if h:∃x m,gX g rn m cc=some x then some (Classical.choose h)else none
theorem Kk{α:Type}{g:α→Option (Exit×an)}{rn:an→Option α}{m:Nat}{cc:α}{x:Exit×an}(h:gX g rn m cc=some x):kE α g rn cc=some x:=by unfold kE;have hx:∃x m,gX g rn m cc=some x:=⟨x,m,h⟩;rw[dif_pos hx];obtain⟨m',h'⟩:=Classical.choose_spec hx;rw[Xy h' h]
theorem Dg:Bw kE:=fun _ g rn cc x h=>by unfold kE at h;split at h;·{rename_i hx;simp only[Option.some.injEq]at h;subst h;exact Classical.choose_spec hx};·cases h
theorem PR{α:Type}(g:α→Option (Exit×an))(rn:an→Option α)(cc:α):kE α g rn cc=(g cc).bind fun x=>match x.1 with| .normal=>(rn x.2).bind (kE α g rn)|_=>some x:=by apply Option.ext;intro x;constructor;·{intro h;obtain⟨m,h⟩:=Dg _ _ _ _ _ h;cases m with|zero=>(simp[gX]at h)|succ m=>simp only[gX,Option.bind_eq_some_iff]at h⊢;obtain⟨y,h1,h2⟩:=h;refine⟨y,h1, ?_⟩;obtain⟨e,ck⟩:=y;cases e with|normal=>(simp only[Option.bind_eq_some_iff]at h2⊢;obtain⟨t,h3,h4⟩:=h2;exact⟨t,h3,Kk h4⟩)|_=>exact h2};·intro h;simp only[Option.bind_eq_some_iff]at h;obtain⟨y,h1,h2⟩:=h;obtain⟨e,ck⟩:=y;cases e with|normal=>(simp only[Option.bind_eq_some_iff]at h2;obtain⟨t,h3,h4⟩:=h2;obtain⟨m,h4⟩:=Dg _ _ _ _ _ h4;refine Kk (m:=m+1) ?_;simp only[gX,h1,Option.bind_some,h3,h4])|_=>refine Kk (m:=1) ?_;simp only[gX,h1,Option.bind_some];exact h2
noncomputable def den(C:aV):Nat→FuncId→List aa→Option (aa×List aa)|0,_,_=>none|n+1,f,args=>yY C (den C n) kE f args
theorem Qr(ez:Good C):∀(n:Nat)(f:FuncId)(args:List aa)(r:aa×List aa),den C n f args=some r→Sound C f args r|0,_,_,_,h=>by{simp[den]at h}|n+1,f,args,r,h=>acQ ez (Qr ez n) Dg h
end
end Go.Ab
