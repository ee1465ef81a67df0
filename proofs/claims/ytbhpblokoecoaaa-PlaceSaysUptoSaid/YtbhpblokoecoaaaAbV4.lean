import Derived.Test.YtbhpblokoecoaaaAbV3
namespace Go.Ab
open Go
def B6{α:Type}(a b:List α):Option Unit:=if a.length=b.length then some ()else none
theorem Xs{α:Type}{a b:List α}{u:Unit}(h:B6 a b=some u):a.length=b.length:=by unfold B6 at h;split at h;·{(first|(with_reducible assumption)|assumption)};·cases h
section
variable{L:Id→Option (Option Rows)}{id:Id}{cs old as bs args:List aa}{n m:Nat}{α:Type}{c:α→List aa}{q q0:List α}{w w2:List (Id×Option Rows)}{a b:aa}{j:Nat}{l:List Nat}
theorem ae8(ha:a= .mp id 0 0:=by exact rfl)(hb:b= .aH cs:=by exact rfl)(hh:L id=some (some [old]):=by exact rfl)(hl:cs.length=old.length:=by exact rfl):jw L a b=some [(id,some [cs])]:=by subst ha hb;simp[jw,hh,hl]
theorem ae9(hlen:q.length=q0.length)(ha:a= .rs id 0 m:=by exact rfl)(hb:b= .own (q.map c) q.length:=by exact rfl)(hh:L id=some (some (q0.map c)):=by exact rfl)(hm:m=q0.length:=by exact qd)(hn:∀x,(c x).length=n:=by exact fun _=>rfl):jw L a b=some [(id,some (q.map c))]:=by subst ha hb hm;cases q0 with|nil=>(obtain rfl:q=[]:=List.length_eq_zero_iff.1 hlen;simp only[List.map_nil]at hh;simp[jw,hh])|cons x q0=>simp only[List.map_cons]at hh;simp only[jw,hh];rw[if_pos ⟨by simpa using hlen,by simpa using hlen,by simp,by simp[hn]⟩]
theorem afa{r:Rows}(ha:a= .sl r:=by exact rfl):jw L a b=some []:=by subst ha;rfl
theorem aes(ha:as=[]:=by exact rfl)(hb:bs=[]:=by exact rfl):lB L as bs=some []:=by subst ha hb;rfl
theorem aer(ha:cs=a::as)(hb:old=b::bs)(h1:jw L a b=some w)(h2:lB L as bs=some w2):lB L cs old=some (w++w2):=by subst ha hb;simp[lB,h1,h2]
theorem ae7(hn:(match a with| .agg _=>false|_=>true)=true)(h:jw L a b=some w):u9 L a b=some w:=by cases a<;>first|exact h|cases hn
theorem aeN(hb:bs=[]:=by exact rfl):iE L args [] bs=some []:=by subst hb;rfl
theorem aeM(hb:old=b::bs)(ha:args[j]? =some a)(h1:u9 L a b=some w)(h2:iE L args l bs=some w2):iE L args (j::l) old=some (w++w2):=by subst hb;simp[iE,ha,h1,h2]
theorem rlk{y:Option (List (Id×Option Rows))}(h:iE L args l bs=y:=by repeat'(first|exact aeN|exact ae8|exact aj3|exact afa|exact ae9 (by(first|(with_reducible assumption)|assumption))|exact aes|(apply aer;exact rfl;exact rfl)|(apply aj2;exact rfl;exact rfl)|(apply ae7;exact rfl)|(apply aeM;exact rfl;exact rfl))):iE L args l bs=y:=h
end
section
variable{C:aV}{f:FuncId}{call:gS}{S:an}{g:Bool}
variable{d:Nat}{ty:TypeId}{pos:String}{bq:Array Edge}{bJ:Option (Nat×Bool)}{v v':aa}
theorem j0{xs:Array Operand}{ts:Array TypeId}{eO:FuncId}{ms cR:List Nat}{args outs:List aa}{seen tk dn:List Id}{r:aa}{back qt wr:List (Id×Option Rows)}(hc:call eO args=some (r,outs))(hm:C.xh eO=ms:=by exact rfl)(hm0:ms.isEmpty=false:=by exact rfl)(hle:C.cR eO=cR:=by exact rfl)(ht:ja S.h ms (xs.toList.map fun x=>un g (S.get C x))=some (args,seen,tk,dn):=by exact RY)(hz:(C.eJ f).contains d=false:=by exact rfl)(hb:iE S.h (xs.toList.map fun x=>un g (S.get C x)) cR outs=some back:=by exact rlk)(h1:(fN (tk++dn)&&B5 seen (tk++dn))=true:=by exact rfl)(h2:(seen.isEmpty||mine r&&outs.all mine)=true:=by first|exact rfl|exact YE Kn abP)(h3:(fN (back.map (·.1))&&(back.all fun x=>tk.contains x.1))=true:=by exact rfl)(hi:imp [d] r=(v',qt):=by exact C6)(hf:fresh S.h qt=true:=by exact rfl)(hw:qt++(back++(tk++dn).map fun i=>(i,none))=wr:=by exact spine)(p5:C.path eO=none:=by exact rfl):bD C f call S g ⟨some d, .call ⟨.value (.func eO),xs,ts⟩,ty,pos,bq,bJ⟩=some ⟨[(d,v')],seen,wr⟩:=MH hm hm0 hle ht hc (v:=r) (by simp only[fe,hz,Bool.false_eq_true,if_false]) hb h1 h2 h3 hi hf hw p5
theorem Gp{xs:Array Operand}{ts:Array TypeId}{eO:FuncId}{ms cR:List Nat}{args outs:List aa}{seen tk dn:List Id}{r:aa}{back qt wr:List (Id×Option Rows)}(hc:call eO args=some (r,outs))(hm:C.xh eO=ms:=by exact rfl)(hm0:ms.isEmpty=false:=by exact rfl)(hle:C.cR eO=cR:=by exact rfl)(ht:ja S.h ms (xs.toList.map fun x=>un g (S.get C x))=some (args,seen,tk,dn):=by exact RY)(hz:(C.eJ f).contains d=true:=by exact rfl)(hv:eE r=v:=by exact ID)(hb:iE S.h (xs.toList.map fun x=>un g (S.get C x)) cR outs=some back:=by exact rlk)(h1:(fN (tk++dn)&&B5 seen (tk++dn))=true:=by exact rfl)(h2:(seen.isEmpty||mine r&&outs.all mine)=true:=by first|exact rfl|exact YE Kn abP)(h3:(fN (back.map (·.1))&&(back.all fun x=>tk.contains x.1))=true:=by exact rfl)(hi:imp [d] v=(v',qt):=by exact C6)(hf:fresh S.h qt=true:=by exact rfl)(hw:qt++(back++(tk++dn).map fun i=>(i,none))=wr:=by exact spine)(p5:C.path eO=none:=by exact rfl):bD C f call S g ⟨some d, .call ⟨.value (.func eO),xs,ts⟩,ty,pos,bq,bJ⟩=some ⟨[(d,v')],seen,wr⟩:=MH hm hm0 hle ht hc (v:=v) (by simp only[fe,hz,if_true,hv]) hb h1 h2 h3 hi hf hw p5
end
theorem fU{C:aV}{f:FuncId}{a b:Nat}{args:List aa}{r:Option (aa×List aa)}(h:den C a f args=r)(e:a=b):den C b f args=r:=e▸h
/-! ### Functions -/
def adq:List aa→aa|[r]=>r|vs=> .b9 vs
def Fin(C:aV)(rv:List ResultVar)(cR:List Nat)(r:aa)(outs:List aa)(x:Exit×an):Prop:=(x.1= .ret∨x.1= .normal)∧∃vs ids is,j4 C x.2 rv=some (vs,ids)∧jv x.2.h x.2.t cR=some (outs,is)∧fN (ids++is)=true∧adq vs=r
section
variable{C:aV}{f:FuncId}{call:gS}{S:an}{T:TypeId}
variable{rv:List ResultVar}{cR:List Nat}{vs outs cs r:List aa}{ids is:List Id}{v v':aa}
theorem ae1:j4 C S []=some ([],[]):=rfl
theorem ae3{t:Nat}(h:pk S.h 9 (un true (S.t t))=some (v,ids))(hr:j4 C S rv=some (vs,is)):j4 C S (.tmp t::rv)=some (v::vs,ids++is):=by show(tg C S (.tmp t)).bind _=_;simp only[tg,h,Option.bind_some,hr,Option.map_some]
theorem ae2{a m:Nat}{id:Id}{bb:Bool}[ha:dx C T bb m](hx:un true (S.t a)= .mp id 0 0)(hh:S.h id=some (some [r]))(hl:Nat.ble m r.length=true)(hv:kG bb (r.take m)=some v)(h:pk S.h 9 v=some (v',ids))(hr:j4 C S rv=some (vs,is)):j4 C S (.cell a T::rv)=some (v'::vs,id::ids++is):=by show(tg C S (.cell a T)).bind _=_;have hl':0+m≤r.length:=by{have:=Nat.le_of_ble_eq_true hl;omega};simp only[tg,ha.j9,ha.sz,hx,hh,List.getElem?_cons_zero,if_pos hl',List.drop_zero,hv,Option.bind_some,h,hr,Option.map_some]
theorem P2{cells:List aa}(hc:cells=[v]):kG false cells=some v:=by subst hc;rfl
theorem P1{cells:List aa}(hc:cells=cs:=by exact spine):kG true cells=some (.agg cs):=by subst hc;rfl
theorem Rx{y:Option (List aa×List Id)}(h:j4 C S rv=y:=by repeat'(first|with_reducible exact ae1|((with_reducible apply ae3);exact s0)|((with_reducible apply ae2);exact rfl;exact rfl;exact rfl;(first|exact P1|exact P2 rfl);exact s0)|((with_reducible apply aj1);exact rfl;exact rfl;(first|exact P1|exact P2 rfl);exact s0))):j4 C S rv=y:=h
theorem bR{fn:Func}{c:Code}{args:List aa}{nn N:Nat}{r:aa}{t:Nat→aa}{h:Id→Option (Option Rows)}{sl:List Nat}(hf:C.P.funcs[f]? =some fn)(hn:fn.ntmps=N)(hr:fn.results.toList=rv)(k:W C f (den C nn) c ⟨N,t,h⟩ (Fin C rv cR r outs))(hb:fn.body=some c:=by exact rfl)(he:C.ext f=none:=by exact rfl)(hle:C.cR f=cR:=by exact rfl)(hl:Nat.ble args.length N=true:=by exact rfl)(jH:List.range args.length=sl:=by exact rfl)(hm:aF N sl args=⟨N,t,h⟩:=by exact Gh):den C (nn+1) f args=some (r,outs):=by obtain⟨⟨e,s⟩,h1,h2,vs,ids,is,h3,h6,h4,h5⟩:=k;subst hr hn hle jH;show yY C (den C nn) kE f args=_;unfold yY;simp only[he,hf,hb,if_pos (Nat.le_of_ble_eq_true hl),hm,h1,Option.bind_some];have cM:finish C fn (C.cR f) args s=some (r,outs):=by{unfold finish;simp only at h3 h6;rw[h3,h6];simp only[h4,if_true];rw[←h5];congr 2;cases vs with|nil=>(rfl)|cons a l=>cases l<;>rfl};rcases h2 with h2|h2;·{simp only at h2;subst h2;exact cM};·simp only at h2;subst h2;exact cM
end
/-! ### Loops -/
def bN.go{bU ρ ρ':Type}(kb:bU→Option ρ)(oQ:ρ'→Option ρ):bN bU ρ'→Option ρ| .cu x=>kb x| .ret r=>oQ r
section
variable{C:aV}{f:FuncId}{call:gS}{S:an}{Q:Exit×an→Prop}{c:Code}{σ bU ρ ρ':Type}{r:ρ}{k:Nat}{o:Option (Bool×List Nat)}{rep:σ→an}
def tS(o:Option (Bool×List Nat))(rep:σ→an)(Rel:bU→Exit×an→Prop)(y:cj σ bU)(x:Exit×an):Prop:=match y with| .next s'=>x.1= .normal∧ei o x.2=some (rep s')| .out v=>x.1≠ .normal∧Rel v x
def uq(C:aV)(f:FuncId)(c:Code):Option (Bool×List Nat):=match lU c with|some i=>some (C.shr f i,C.live f i)|none=>some (false,[])
theorem PO {step : σ → Option (cj σ bU)} (Rel : bU → Exit × an → Prop) {e3 : σ} {v : bU} (hL : Loop step e3 = some v) (h0 : ei (uq C f c) S = some (rep e3))
    (body : ∀ s y, step s = some y → W C f call c (rep s) (tS (uq C f c) rep Rel y)) : ∃ x, cL C f call kE (.loop c) S = some x ∧ Rel v x := by
  obtain ⟨m, hm⟩ := Ho hL
  have key : ∀ (b : Bool) (slots : List Nat), uq C f c = some (b, slots) → (match lU c with | some i => C.live f i | none => []) = slots → (match lU c with | some i => C.shr f i | none => false) = b → ∃ x, cL C f call kE (.loop c) S = some x ∧ Rel v x := by
    intro b slots hk hs hb
    rw [hk] at h0 body
    cases b with
    | true =>
      have key : ∀ m s, LoopN step m s = some v → ∃ x, kE an (fun S' => cL C f call kE c S') (fun S' => norm S' slots) (rep s) = some x ∧ Rel v x := by
        intro m
        induction m with
        | zero => intro s h; simp [LoopN] at h
        | succ m ih =>
          intro s h
          simp only [LoopN, Option.bind_eq_some_iff] at h
          obtain ⟨y, h1, h2⟩ := h
          obtain ⟨⟨e, S'⟩, h3, h4⟩ := body s y h1
          rw [PR]
          simp only [h3, Option.bind_some]
          cases y with
          | next s' =>
            obtain ⟨rfl, h5⟩ := h4
            have h5 : norm S' slots = some (rep s') := h5
            simp only [h5, Option.bind_some]
            exact ih s' h2
          | out o' =>
            obtain ⟨h5, h6⟩ := h4
            obtain rfl : o' = v := by simpa using h2
            cases e with
            | normal => exact absurd rfl h5
            | _ => exact ⟨_, rfl, h6⟩
      obtain ⟨x, h3, h4⟩ := key m e3 hm
      refine ⟨x, ?_, h4⟩
      subst hs
      simp only [cL]
      refine (if_pos hb).trans ?_
      exact (congrArg (Option.bind · _) (show norm S _ = some (rep e3) from h0)).trans h3
    | false =>
      have h0 : (iF S slots).map (aF S.n slots) = some (rep e3) := h0
      obtain ⟨afT, YB, YC⟩ := Option.map_eq_some_iff.1 h0
      have hn : ∀ s, (∃ o9, aF S.n slots o9 = rep s) → (rep s).n = S.n := fun s ⟨o9, h⟩ => by rw [← h, Dl]
      have key : ∀ m s o9, aF S.n slots o9 = rep s → LoopN step m s = some v → ∃ x, kE (List aa) (fun cc => cL C f call kE c (aF S.n slots cc)) (fun S' => iF S' slots) o9 = some x ∧ Rel v x := by
        intro m
        induction m with
        | zero => intro s o9 _ h; simp [LoopN] at h
        | succ m ih =>
          intro s o9 O5 h
          simp only [LoopN, Option.bind_eq_some_iff] at h
          obtain ⟨y, h1, h2⟩ := h
          obtain ⟨⟨e, S'⟩, h3, h4⟩ := body s y h1
          rw [PR]
          simp only [O5, h3, Option.bind_some]
          cases y with
          | next s' =>
            obtain ⟨rfl, h5⟩ := h4
            have h5 : (iF S' slots).map (aF S'.n slots) = some (rep s') := h5
            obtain ⟨afS, YH, N8⟩ := Option.map_eq_some_iff.1 h5
            have Zb : S'.n = S.n := by rw [Fg Dg _ _ _ h3]; exact hn s ⟨o9, O5⟩
            rw [Zb] at N8
            simp only [YH, Option.bind_some]
            exact ih s' afS N8 h2
          | out o' =>
            obtain ⟨h5, h6⟩ := h4
            obtain rfl : o' = v := by simpa using h2
            cases e with
            | normal => exact absurd rfl h5
            | _ => exact ⟨_, rfl, h6⟩
      obtain ⟨x, h3, h4⟩ := key m e3 afT YC hm
      refine ⟨x, ?_, h4⟩
      subst hs
      simp only [cL]
      refine (if_neg fun e => Bool.noConfusion (hb.symm.trans e)).trans ?_
      exact (congrArg (Option.bind · _) YB).trans h3
  unfold uq at key
  split at key
  · exact key _ _ rfl rfl rfl
  · exact key _ _ rfl rfl rfl
def EP(C:aV)(f:FuncId)(k:Nat)(fh:bU→an)(v:bU)(x:Exit×an):Prop:=x.1= .exit k∧ei (C.oB f k) x.2=some (fh v)
def Bz(C:aV)(f:FuncId)(k:Nat)(fh:bU→an)(R:ρ'→Exit×an→Prop):bN bU ρ'→Exit×an→Prop| .cu v,x=>EP C f k fh v x| .ret r,x=>R r x
theorem cF{step:σ→Option (cj σ bU)}{e3:σ}{tM:bU→Option ρ}(rep:σ→an)(fh:bU→an)(hF:(Loop step e3).bind tM=some r)(h0:ei (uq C f c) S=some (rep e3))(body:∀s y,step s=some y→W C f call c (rep s) (tS (uq C f c) rep (EP C f k fh) y))(post:∀v,tM v=some r→Q (.normal,fh v)):W C f call (.block k (.loop c)) S Q:=by obtain⟨v,h1,h2⟩:=E3 hF;obtain⟨⟨e,S'⟩,h3,rfl,h5⟩:=PO (EP C f k fh) h1 h0 body;exact cn ⟨_,h3,Rc h5 (post v h2)⟩
theorem gd{step:σ→Option (cj σ (bN bU ρ'))}{e3:σ}{kb:bU→Option ρ}{oQ:ρ'→Option ρ}(rep:σ→an)(fh:bU→an)(R:ρ'→Exit×an→Prop)(hF:(Loop step e3).bind (bN.go kb oQ)=some r)(h0:ei (uq C f c) S=some (rep e3))(body:∀s y,step s=some y→W C f call c (rep s) (tS (uq C f c) rep (Bz C f k fh R) y))(post:∀v,kb v=some r→Q (.normal,fh v))(Fk:∀v,oQ v=some r→∀x,R v x→sd C f k Q x):W C f call (.block k (.loop c)) S Q:=by obtain⟨v,h1,h2⟩:=E3 hF;obtain⟨x,h3,h4⟩:=PO (Bz C f k fh R) h1 h0 body;cases v with|cu v=>(obtain⟨e,S'⟩:=x;obtain⟨rfl,h5⟩:=h4;exact cn ⟨_,h3,Rc h5 (post v h2)⟩)|ret v=>exact cn ⟨_,h3,Fk v h2 _ h4⟩
variable{Rel:bU→Exit×an→Prop}{fh:bU→an}{R:ρ'→Exit×an→Prop}
theorem ln{s':σ}{y:cj σ bU}(hy:some (cj.next s')=some y)(hc:ei o S=some (rep s')):tS o rep Rel y (.normal,S):=by cases hy;exact⟨rfl,hc⟩
theorem lx{v:bU}{y:cj σ bU}(hy:some (cj.out v)=some y)(hc:ei (C.oB f k) S=some (fh v)):tS o rep (EP C f k fh) y (.exit k,S):=by cases hy;exact⟨by simp,rfl,hc⟩
theorem gh{v:bU}{y:cj σ (bN bU ρ')}(hy:some (cj.out (bN.cu v))=some y)(hc:ei (C.oB f k) S=some (fh v)):tS o rep (Bz C f k fh R) y (.exit k,S):=by cases hy;exact⟨by simp,rfl,hc⟩
theorem lr{v:ρ'}{y:cj σ (bN bU ρ')}(hy:some (cj.out (bN.ret v))=some y)(h:R v (.ret,S)):tS o rep (Bz C f k fh R) y (.ret,S):=by cases hy;exact⟨by simp,h⟩
theorem lrr{v:ρ'}{y:cj σ (bN bU ρ')}{x:Exit×an}(hy:some (cj.out (bN.ret v))=some y)(hx:x.1≠ .normal)(h:R v x):tS o rep (Bz C f k fh R) y x:=by cases hy;exact⟨hx,h⟩
end
theorem inj{α:Type}{a b:α}(h:some a=some b):a=b:=Option.some.inj h
end Go.Ab
