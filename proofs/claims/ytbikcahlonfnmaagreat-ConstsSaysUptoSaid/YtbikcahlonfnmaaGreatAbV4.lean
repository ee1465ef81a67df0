import Derived.Test.YtbikcahlonfnmaaGreatAbV3
namespace Go.Ab
open Go
def D1{α:Type}(a b:List α):Option Unit:=if a.length=b.length then some ()else none
theorem abL{α:Type}{a b:List α}{u:Unit}(h:D1 a b=some u):a.length=b.length:=by unfold D1 at h;split at h;·{(first|(with_reducible assumption)|assumption)};·cases h
section
variable{L:Id→Option (Option Rows)}{id:Id}{cs old as bs args:List aa}{n m:Nat}{α:Type}{c:α→List aa}{q q0:List α}{w w2:List (Id×Option Rows)}{a b:aa}{j:Nat}{l:List Nat}
theorem akb(ha:a= .mp id 0 0:=by exact rfl)(hb:b= .aL cs:=by exact rfl)(hh:L id=some (some [old]):=by exact rfl)(hl:cs.length=old.length:=by exact rfl):iV L a b=some [(id,some [cs])]:=by subst ha hb;simp[iV,hh,hl]
theorem akc(hlen:q.length=q0.length)(ha:a= .rs id 0 m:=by exact rfl)(hb:b= .own (q.map c) q.length:=by exact rfl)(hh:L id=some (some (q0.map c)):=by exact rfl)(hm:m=q0.length:=by exact sE)(hn:∀x,(c x).length=n:=by exact fun _=>rfl):iV L a b=some [(id,some (q.map c))]:=by subst ha hb hm;cases q0 with|nil=>(obtain rfl:q=[]:=List.length_eq_zero_iff.1 hlen;simp only[List.map_nil]at hh;simp[iV,hh])|cons x q0=>simp only[List.map_cons]at hh;simp only[iV,hh];rw[if_pos ⟨by simpa using hlen,by simpa using hlen,by simp,by simp[hn]⟩]
theorem akd{r:Rows}(ha:a= .sl r:=by exact rfl):iV L a b=some []:=by subst ha;rfl
theorem ajr(ha:as=[]:=by exact rfl)(hb:bs=[]:=by exact rfl):ju L as bs=some []:=by subst ha hb;rfl
theorem ajq(ha:cs=a::as)(hb:old=b::bs)(h1:iV L a b=some w)(h2:ju L as bs=some w2):ju L cs old=some (w++w2):=by subst ha hb;simp[ju,h1,h2]
theorem aka(hn:(match a with| .agg _=>false|_=>true)=true)(h:iV L a b=some w):sP L a b=some w:=by cases a<;>first|exact h|cases hn
theorem ajN(hb:bs=[]:=by exact rfl):gI L args [] bs=some []:=by subst hb;rfl
theorem ajM(hb:old=b::bs)(ha:args[j]? =some a)(h1:sP L a b=some w)(h2:gI L args l bs=some w2):gI L args (j::l) old=some (w++w2):=by subst hb;simp[gI,ha,h1,h2]
theorem rlk{y:Option (List (Id×Option Rows))}(h:gI L args l bs=y:=by repeat'(first|exact ajN|exact akb|exact apm|exact akd|exact akc (by(first|(with_reducible assumption)|assumption))|exact ajr|(apply ajq;exact rfl;exact rfl)|(apply apl;exact rfl;exact rfl)|(apply aka;exact rfl)|(apply ajM;exact rfl;exact rfl))):gI L args l bs=y:=h
end
section
variable{C:aO}{f:FuncId}{call:gA}{S:ak}{g:Bool}
variable{d:Nat}{ty:TypeId}{pos:String}{bg:Array Edge}{bH:Option (Nat×Bool)}{v v':aa}
theorem kO{xs:Array Operand}{ts:Array TypeId}{dA:FuncId}{ms cw:List Nat}{args outs:List aa}{seen tk dG:List Id}{r:aa}{back jz wr:List (Id×Option Rows)}(hc:call dA args=some (r,outs))(hm:C.y7 dA=ms:=by exact rfl)(hm0:ms.isEmpty=false:=by exact rfl)(hle:C.cw dA=cw:=by exact rfl)(ht:ij S.h ms (xs.toList.map fun x=>un g (S.get C x))=some (args,seen,tk,dG):=by exact VB)(hz:(C.eR f).contains d=false:=by exact rfl)(hb:gI S.h (xs.toList.map fun x=>un g (S.get C x)) cw outs=some back:=by exact rlk)(h1:(eu (tk++dG)&&tA seen (tk++dG))=true:=by exact rfl)(h2:(seen.isEmpty||mine r&&outs.all mine)=true:=by first|exact rfl|exact adl Nl agB)(h3:(eu (back.map (·.1))&&(back.all fun x=>tk.contains x.1))=true:=by exact rfl)(hi:imp [d] r=(v',jz):=by exact yO)(hf:fresh S.h jz=true:=by exact rfl)(hw:jz++(back++(tk++dG).map fun i=>(i,none))=wr:=by exact spine)(q9:C.path dA=none:=by exact rfl)(dX:C.c6 dA=false:=by exact rfl):bF C f call S g ⟨some d, .call ⟨.value (.func dA),xs,ts⟩,ty,pos,bg,bH⟩=some ⟨[(d,v')],seen,wr⟩:=P2 hm hm0 hle ht hc (v:=r) (by simp only[eX,hz,Bool.false_eq_true,if_false]) hb h1 h2 h3 hi hf hw q9 dX
theorem qe{xs:Array Operand}{ts:Array TypeId}{dA:FuncId}{ms cw:List Nat}{args outs:List aa}{seen tk dG:List Id}{r:aa}{back jz wr:List (Id×Option Rows)}(hc:call dA args=some (r,outs))(hm:C.y7 dA=ms:=by exact rfl)(hm0:ms.isEmpty=false:=by exact rfl)(hle:C.cw dA=cw:=by exact rfl)(ht:ij S.h ms (xs.toList.map fun x=>un g (S.get C x))=some (args,seen,tk,dG):=by exact VB)(hz:(C.eR f).contains d=true:=by exact rfl)(hv:dW r=v:=by exact Ef)(hb:gI S.h (xs.toList.map fun x=>un g (S.get C x)) cw outs=some back:=by exact rlk)(h1:(eu (tk++dG)&&tA seen (tk++dG))=true:=by exact rfl)(h2:(seen.isEmpty||mine r&&outs.all mine)=true:=by first|exact rfl|exact adl Nl agB)(h3:(eu (back.map (·.1))&&(back.all fun x=>tk.contains x.1))=true:=by exact rfl)(hi:imp [d] v=(v',jz):=by exact yO)(hf:fresh S.h jz=true:=by exact rfl)(hw:jz++(back++(tk++dG).map fun i=>(i,none))=wr:=by exact spine)(q9:C.path dA=none:=by exact rfl)(dX:C.c6 dA=false:=by exact rfl):bF C f call S g ⟨some d, .call ⟨.value (.func dA),xs,ts⟩,ty,pos,bg,bH⟩=some ⟨[(d,v')],seen,wr⟩:=P2 hm hm0 hle ht hc (v:=v) (by simp only[eX,hz,if_true,hv]) hb h1 h2 h3 hi hf hw q9 dX
end
theorem gn{C:aO}{f:FuncId}{a b:Nat}{args:List aa}{r:Option (aa×List aa)}(h:den C a f args=r)(e:a=b):den C b f args=r:=e▸h
/-! ### Functions -/
def zg:List aa→aa|[r]=>r|vs=> .bL vs
def Fin(C:aO)(rv:List ResultVar)(cw:List Nat)(r:aa)(outs:List aa)(x:Exit×ak):Prop:=(x.1= .ret∨x.1= .normal)∧∃vs ids is,kq C x.2 rv=some (vs,ids)∧js x.2.h x.2.t cw=some (outs,is)∧eu (ids++is)=true∧zg vs=r
section
variable{C:aO}{f:FuncId}{call:gA}{S:ak}{T:TypeId}
variable{rv:List ResultVar}{cw:List Nat}{vs outs cs r:List aa}{ids is:List Id}{v v':aa}
theorem aj3:kq C S []=some ([],[]):=rfl
theorem aj5{t:Nat}(h:pk S.h 9 (un true (S.t t))=some (v,ids))(hr:kq C S rv=some (vs,is)):kq C S (.tmp t::rv)=some (v::vs,ids++is):=by show(wI C S (.tmp t)).bind _=_;simp only[wI,h,Option.bind_some,hr,Option.map_some]
theorem aj4{a m:Nat}{id:Id}{bb:Bool}[ha:dr C T bb m](hx:un true (S.t a)= .mp id 0 0)(hh:S.h id=some (some [r]))(hl:Nat.ble m r.length=true)(hv:jX bb (r.take m)=some v)(h:pk S.h 9 v=some (v',ids))(hr:kq C S rv=some (vs,is)):kq C S (.cell a T::rv)=some (v'::vs,id::ids++is):=by show(wI C S (.cell a T)).bind _=_;have hl':0+m≤r.length:=by{have:=Nat.le_of_ble_eq_true hl;omega};simp only[wI,ha.kY,ha.sz,hx,hh,List.getElem?_cons_zero,if_pos hl',List.drop_zero,hv,Option.bind_some,h,hr,Option.map_some]
theorem Jc{cells:List aa}(hc:cells=[v]):jX false cells=some v:=by subst hc;rfl
theorem Jb{cells:List aa}(hc:cells=cs:=by exact spine):jX true cells=some (.agg cs):=by subst hc;rfl
theorem N6{y:Option (List aa×List Id)}(h:kq C S rv=y:=by repeat'(first|with_reducible exact aj3|((with_reducible apply aj5);exact mm)|((with_reducible apply aj4);exact rfl;exact rfl;exact rfl;(first|exact Jb|exact Jc rfl);exact mm)|((with_reducible apply apk);exact rfl;exact rfl;(first|exact Jb|exact Jc rfl);exact mm))):kq C S rv=y:=h
theorem fin{r:aa}(h:kq C S rv=some (vs,ids):=by exact N6)(hp:js S.h S.t cw=some (outs,is):=by exact Jw)(hn:eu (ids++is)=true:=by exact rfl)(hr:zg vs=r:=by exact rfl):Fin C rv cw r outs (.ret,S):=⟨.inl rfl,vs,ids,is,h,hp,hn,hr⟩
theorem bV{fn:Func}{c:Code}{args:List aa}{nn N:Nat}{r:aa}{t:Nat→aa}{h:Id→Option (Option Rows)}{sl:List Nat}(hf:C.P.funcs[f]? =some fn)(hn:fn.ntmps=N)(hr:fn.results.toList=rv)(k:W C f (den C nn) c ⟨N,t,h⟩ (Fin C rv cw r outs))(hb:fn.body=some c:=by exact rfl)(he:C.ext f=none:=by exact rfl)(hle:C.cw f=cw:=by exact rfl)(hl:Nat.ble args.length N=true:=by exact rfl)(iQ:List.range args.length=sl:=by exact rfl)(hm:aH N sl args=⟨N,t,h⟩:=by exact Jd)(dX:C.c6 f=false:=by exact rfl):den C (nn+1) f args=some (r,outs):=by obtain⟨⟨e,s⟩,h1,h2,vs,ids,is,h3,h6,h4,h5⟩:=k;subst hr hn hle iQ;show vc C (den C nn) kk f args=_;unfold vc;simp only[he,hf,hb,dX,Bool.false_eq_true,if_false,if_pos (Nat.le_of_ble_eq_true hl),hm,h1,Option.bind_some];have cD:finish C fn (C.cw f) args s=some (r,outs):=by{unfold finish;simp only at h3 h6;rw[h3,h6];simp only[h4,if_true];rw[←h5];congr 2;cases vs with|nil=>(rfl)|cons a l=>cases l<;>rfl};rcases h2 with h2|h2;·{simp only at h2;subst h2;exact cD};·simp only at h2;subst h2;exact cD
end
/-! ### Loops -/
def b7.go{b5 ρ ρ':Type}(kb:b5→Option ρ)(p9:ρ'→Option ρ):b7 b5 ρ'→Option ρ| .cB x=>kb x| .ret r=>p9 r
section
variable{C:aO}{f:FuncId}{call:gA}{S:ak}{Q:Exit×ak→Prop}{c:Code}{σ b5 ρ ρ':Type}{r:ρ}{k:Nat}{o:Option (Bool×List Nat)}{rep:σ→ak}
def uT(o:Option (Bool×List Nat))(rep:σ→ak)(Rel:b5→Exit×ak→Prop)(y:cr σ b5)(x:Exit×ak):Prop:=match y with| .next s'=>x.1= .normal∧ej o x.2=some (rep s')| .out v=>x.1≠ .normal∧Rel v x
def vp(C:aO)(f:FuncId)(c:Code):Option (Bool×List Nat):=match mL c with|some i=>some (C.shr f i,C.live f i)|none=>some (false,[])
theorem To {step : σ → Option (cr σ b5)} (Rel : b5 → Exit × ak → Prop) {eW : σ} {v : b5} (hL : Loop step eW = some v) (h0 : ej (vp C f c) S = some (rep eW))
    (body : ∀ s y, step s = some y → W C f call c (rep s) (uT (vp C f c) rep Rel y)) : ∃ x, cM C f call kk (.loop c) S = some x ∧ Rel v x := by
  obtain ⟨m, hm⟩ := Kb hL
  have key : ∀ (b : Bool) (slots : List Nat), vp C f c = some (b, slots) → (match mL c with | some i => C.live f i | none => []) = slots → (match mL c with | some i => C.shr f i | none => false) = b → ∃ x, cM C f call kk (.loop c) S = some x ∧ Rel v x := by
    intro b slots hk hs hb
    rw [hk] at h0 body
    cases b with
    | true =>
      have key : ∀ m s, LoopN step m s = some v → ∃ x, kk ak (fun S' => cM C f call kk c S') (fun S' => norm S' slots) (rep s) = some x ∧ Rel v x := by
        intro m
        induction m with
        | zero => intro s h; simp [LoopN] at h
        | succ m ih =>
          intro s h
          simp only [LoopN, Option.bind_eq_some_iff] at h
          obtain ⟨y, h1, h2⟩ := h
          obtain ⟨⟨e, S'⟩, h3, h4⟩ := body s y h1
          rw [Tp]
          simp only [h3, Option.bind_some]
          cases y with
          | next s' =>
            obtain ⟨rfl, h5⟩ := h4
            have h5 : norm S' slots = some (rep s') := h5
            simp only [h5, Option.bind_some]
            exact ih s' h2
          | out o' =>
            obtain ⟨h5, h6⟩ := h4
            obtain rfl : o' = v := by simpa using h2
            cases e with
            | normal => exact absurd rfl h5
            | _ => exact ⟨_, rfl, h6⟩
      obtain ⟨x, h3, h4⟩ := key m eW hm
      refine ⟨x, ?_, h4⟩
      subst hs
      simp only [cM]
      refine (if_pos hb).trans ?_
      exact (congrArg (Option.bind · _) (show norm S _ = some (rep eW) from h0)).trans h3
    | false =>
      have h0 : (iW S slots).map (aH S.n slots) = some (rep eW) := h0
      obtain ⟨ak1, adj, adk⟩ := Option.map_eq_some_iff.1 h0
      have hn : ∀ s, (∃ qv, aH S.n slots qv = rep s) → (rep s).n = S.n := fun s ⟨qv, h⟩ => by rw [← h, BO]
      have key : ∀ m s qv, aH S.n slots qv = rep s → LoopN step m s = some v → ∃ x, kk (List aa) (fun cg => cM C f call kk c (aH S.n slots cg)) (fun S' => iW S' slots) qv = some x ∧ Rel v x := by
        intro m
        induction m with
        | zero => intro s qv _ h; simp [LoopN] at h
        | succ m ih =>
          intro s qv SF h
          simp only [LoopN, Option.bind_eq_some_iff] at h
          obtain ⟨y, h1, h2⟩ := h
          obtain ⟨⟨e, S'⟩, h3, h4⟩ := body s y h1
          rw [Tp]
          simp only [SF, h3, Option.bind_some]
          cases y with
          | next s' =>
            obtain ⟨rfl, h5⟩ := h4
            have h5 : (iW S' slots).map (aH S'.n slots) = some (rep s') := h5
            obtain ⟨ak0, ado, RH⟩ := Option.map_eq_some_iff.1 h5
            have tJ : S'.n = S.n := by rw [HP BM _ _ _ h3]; exact hn s ⟨qv, SF⟩
            rw [tJ] at RH
            simp only [ado, Option.bind_some]
            exact ih s' ak0 RH h2
          | out o' =>
            obtain ⟨h5, h6⟩ := h4
            obtain rfl : o' = v := by simpa using h2
            cases e with
            | normal => exact absurd rfl h5
            | _ => exact ⟨_, rfl, h6⟩
      obtain ⟨x, h3, h4⟩ := key m eW ak1 adk hm
      refine ⟨x, ?_, h4⟩
      subst hs
      simp only [cM]
      refine (if_neg fun e => Bool.noConfusion (hb.symm.trans e)).trans ?_
      exact (congrArg (Option.bind · _) adj).trans h3
  unfold vp at key
  split at key
  · exact key _ _ rfl rfl rfl
  · exact key _ _ rfl rfl rfl
def Hg(C:aO)(f:FuncId)(k:Nat)(fF:b5→ak)(v:b5)(x:Exit×ak):Prop:=x.1= .exit k∧ej (C.pN f k) x.2=some (fF v)
def Dm(C:aO)(f:FuncId)(k:Nat)(fF:b5→ak)(R:ρ'→Exit×ak→Prop):b7 b5 ρ'→Exit×ak→Prop| .cB v,x=>Hg C f k fF v x| .ret r,x=>R r x
theorem cz{step:σ→Option (cr σ b5)}{eW:σ}{qA:b5→Option ρ}(rep:σ→ak)(fF:b5→ak)(hF:(Loop step eW).bind qA=some r)(h0:ej (vp C f c) S=some (rep eW))(body:∀s y,step s=some y→W C f call c (rep s) (uT (vp C f c) rep (Hg C f k fF) y))(post:∀v,qA v=some r→Q (.normal,fF v)):W C f call (.block k (.loop c)) S Q:=by obtain⟨v,h1,h2⟩:=HB hF;obtain⟨⟨e,S'⟩,h3,rfl,h5⟩:=To (Hg C f k fF) h1 h0 body;exact cv ⟨_,h3,UF h5 (post v h2)⟩
theorem gR{step:σ→Option (cr σ (b7 b5 ρ'))}{eW:σ}{kb:b5→Option ρ}{p9:ρ'→Option ρ}(rep:σ→ak)(fF:b5→ak)(R:ρ'→Exit×ak→Prop)(hF:(Loop step eW).bind (b7.go kb p9)=some r)(h0:ej (vp C f c) S=some (rep eW))(body:∀s y,step s=some y→W C f call c (rep s) (uT (vp C f c) rep (Dm C f k fF R) y))(post:∀v,kb v=some r→Q (.normal,fF v))(HV:∀v,p9 v=some r→∀x,R v x→tc C f k Q x):W C f call (.block k (.loop c)) S Q:=by obtain⟨v,h1,h2⟩:=HB hF;obtain⟨x,h3,h4⟩:=To (Dm C f k fF R) h1 h0 body;cases v with|cB v=>(obtain⟨e,S'⟩:=x;obtain⟨rfl,h5⟩:=h4;exact cv ⟨_,h3,UF h5 (post v h2)⟩)|ret v=>exact cv ⟨_,h3,HV v h2 _ h4⟩
variable{Rel:b5→Exit×ak→Prop}{fF:b5→ak}{R:ρ'→Exit×ak→Prop}
theorem ln{s':σ}{y:cr σ b5}(hy:some (cr.next s')=some y)(hc:ej o S=some (rep s')):uT o rep Rel y (.normal,S):=by cases hy;exact⟨rfl,hc⟩
theorem lx{v:b5}{y:cr σ b5}(hy:some (cr.out v)=some y)(hc:ej (C.pN f k) S=some (fF v)):uT o rep (Hg C f k fF) y (.exit k,S):=by cases hy;exact⟨by simp,rfl,hc⟩
theorem gS{v:b5}{y:cr σ (b7 b5 ρ')}(hy:some (cr.out (b7.cB v))=some y)(hc:ej (C.pN f k) S=some (fF v)):uT o rep (Dm C f k fF R) y (.exit k,S):=by cases hy;exact⟨by simp,rfl,hc⟩
theorem lr{v:ρ'}{y:cr σ (b7 b5 ρ')}(hy:some (cr.out (b7.ret v))=some y)(h:R v (.ret,S)):uT o rep (Dm C f k fF R) y (.ret,S):=by cases hy;exact⟨by simp,h⟩
theorem lrr{v:ρ'}{y:cr σ (b7 b5 ρ')}{x:Exit×ak}(hy:some (cr.out (b7.ret v))=some y)(hx:x.1≠ .normal)(h:R v x):uT o rep (Dm C f k fF R) y x:=by cases hy;exact⟨hx,h⟩
end
theorem inj{α:Type}{a b:α}(h:some a=some b):a=b:=Option.some.inj h
end Go.Ab
