import Derived.Test.YtbbhbdlljfffdaaGreatDoorAbV7
open Bool renaming and_eq_true→Hd,false_eq_true→Hk
open List renaming filter→Do,map_cons→Hc,filter_cons_of_neg→Hm,filter_cons_of_pos→Hn
open Nat renaming ble→Ha,le_of_ble_eq_true→Hb
open Option renaming bind_some→AC,map_some→GT
open Option.some renaming injEq→GE
set_option linter.all false
namespace Go.Ab
open Go
/-! ### Maps as lists of pairs -/
section
variable{K V:Type}
def hJ(eq:K→K→Bool):List (K×V)→K→Option V|[],_=>none|e::l,k=>if eq k e.1 then some e.2 else hJ eq l k
def q9(eq:K→K→Bool):List (K×V)→K→V→List (K×V)|[],k,v=>[(k,v)]|e::l,k,v=>if eq k e.1 then(k,v)::l else e::q9 eq l k v
end
def iG(a b:ByteArray):Bool:=a==b
theorem HZ{a b:ByteArray}:iG a b=true↔a=b:=⟨Nu,fun h=>by subst h;exact Nv _⟩
class xO{K:Type}(e6:K→Value)(kind:outParam TypeDesc)(eq:outParam (K→K→Bool)):Prop where same:∀a b,Instr.sameNow kind (e6 a) (e6 b)=some (eq a b)sc:∀a,eB (e6 a)=true
class M0{V:Type}(ev:V→Value):Prop where sc:∀a,eB (ev a)=true
def uR(n:Int):Value:= .int .i64 n
def xD(s:ByteArray):Value:= .string s
instance:xO xD .string iG:=⟨fun _ _=>rfl,fun _=>rfl⟩
instance:M0 uR:=⟨fun _=>rfl⟩
def nU{K V:Type}(e6:K→Value)(ev:V→Value)(e:K×V):List U:=[.val (e6 e.1), .val (ev e.2)]
section
variable{K V:Type}{e6:K→Value}{ev:V→Value}{kind:TypeDesc}{eq:K→K→Bool}
theorem Ie [hk:xO e6 kind eq]:∀(l:List (K×V))(k:K),oF kind (e6 k) (l.map (nU e6 ev))=some ((hJ eq l k).map ev)|[],_=>rfl|e::l,k=>by simp only[Hc,nU,oF,hk.same,hJ];cases h:eq k e.1 with|true=>(rfl)|false=>simpa[nU]using Ie l k
theorem Se [hk:xO e6 kind eq]:∀(l:List (K×V))(k:K)(v:V),w9 kind (e6 k) (ev v) (l.map (nU e6 ev))=some ((q9 eq l k v).map (nU e6 ev))|[],_,_=>rfl|e::l,k,v=>by simp only[Hc,nU,w9,hk.same,q9];cases h:eq k e.1 with|true=>(rfl)|false=>have:=Se l k v;simp[this,nU]
end
class Av(C:aG)(T:TypeId)(kind:outParam TypeDesc)(z:outParam Value):Prop where mt:zk C T=some (kind,z)
section
variable{C:aG}{f:FuncId}{call:FuncId→List U→Option (U×List U)}{S:ah}{g:Bool}
variable{d:Nat}{ty:TypeId}{pos:String}{aV:Array Edge}{bB:Option (Nat×Bool)}{x y z:Operand}{T:TypeId}
variable{K V:Type}{e6:K→Value}{ev:V→Value}{kind:TypeDesc}{eq:K→K→Bool}{cT:V}{l:List (K×V)}{k:K}{v:V}{id:Id}
theorem Rq{z0:Value}[hm:Av C T kind z0](hf:S.h [d]=none:=by exact rfl):bA C f call S g ⟨some d, .makeMap T none,ty,pos,aV,bB⟩=some ⟨[(d, .mr [d])],[],[([d],some [])]⟩:=by show r8 C S _ T none=_;simp[r8,hm.mt,hf,put]
theorem Ro [hm:Av C T kind (ev cT)][hk:xO e6 kind eq](hx:un g (S.get C x)= .mr id:=by first|exact rfl|exact cp)(hh:S.h id=some (some (l.map (nU e6 ev))):=by exact rfl)(hy:un g (S.get C y)= .val (e6 k):=by first|exact rfl|exact cp):bA C f call S g ⟨some d, .lookup T x y true,ty,pos,aV,bB⟩=some ⟨[(d, .aS [.val (ev ((hJ eq l k).getD cT)),B (hJ eq l k).isSome])],[id],[]⟩:=by show pM C S _ T (un g (S.get C x)) (un g (S.get C y)) true=_;rw[hx,hy];simp only[pM,hm.mt,wV,hh,Ie];cases hJ eq l k<;>rfl
theorem afu [hm:Av C T kind (ev cT)][hk:xO e6 kind eq](hx:un g (S.get C x)= .im (l.map (nU e6 ev)):=by first|exact rfl|exact cp)(hy:un g (S.get C y)= .val (e6 k):=by first|exact rfl|exact cp):bA C f call S g ⟨some d, .lookup T x y true,ty,pos,aV,bB⟩=some ⟨[(d, .aS [.val (ev ((hJ eq l k).getD cT)),B (hJ eq l k).isSome])],[],[]⟩:=by show pM C S _ T (un g (S.get C x)) (un g (S.get C y)) true=_;rw[hx,hy];simp only[pM,hm.mt,wV,Ie];cases hJ eq l k<;>rfl
theorem afx{z0:Value}[hm:Av C T kind z0][hk:xO e6 kind eq][hv:M0 ev](hx:un g (S.get C x)= .mr id:=by first|exact rfl|exact cp)(hh:S.h id=some (some (l.map (nU e6 ev))):=by exact rfl)(hy:un g (S.get C y)= .val (e6 k):=by first|exact rfl|exact cp)(hz:un g (S.get C z)= .val (ev v):=by first|exact rfl|exact cp):bA C f call S g ⟨none, .mapUpdate T x y z,ty,pos,aV,bB⟩=some ⟨[],[id],[(id,some ((q9 eq l k v).map (nU e6 ev)))]⟩:=by show pN C S _ T (un g (S.get C x)) (un g (S.get C y)) (un g (S.get C z))=_;rw[hx,hy,hz];simp[pN,hm.mt,hh,Se,hk.sc,hv.sc,put]
end
end Go.Ab
namespace Go.Ab
open Go
inductive gW(σ bW:Type)where|go(s:σ)|ret(t:bW)|ex(t:bW)
def jK{α σ bW:Type}(step:α→σ→Option (gW σ bW)):List α→σ→Option (gW σ bW)|[],s=>some (.go s)|y::ys,s=>(step y s).bind fun z=>match z with| .go s'=>jK step ys s'|z=>some z
def gW.on{σ bW ρ:Type}(wN:σ→Option ρ)(oS wM:bW→Option ρ):gW σ bW→Option ρ| .go s=>wN s| .ret s=>oS s| .ex s=>wM s
section
variable{C:aG}{f:FuncId}{call:fL}{S:ah}{Q:Exit×ah→Prop}{assign body:Code}{α σ bW ρ:Type}{r:ρ}{rep:σ→ah}{fF:bW→ah}{enc:α→List U}{bZ:Operand}{ps:Array Tmp}{j:Nat}
def DR(o:Option (Bool×List Nat))(rep:σ→ah)(fF:bW→ah)(j:Nat)(z:gW σ bW)(x:Exit×ah):Prop:=match z with| .go s=>x.1= .normal∧dm o x.2=some (rep s)| .ret s=>x.1= .ret∧dm o x.2=some (fF s)| .ex s=>x.1= .exit j∧dm o x.2=some (fF s)
def GP(C:aG)(f:FuncId)(call:fL)(body:Code)(Q:Exit×ah→Prop)(x:Exit×ah):Prop:=x.1= .normal∧W C f call body x.2 Q
theorem Ls{S:ah}(h:W C f call body S Q):GP C f call body Q (.normal,S):=⟨rfl,h⟩
theorem ahZ{step:α→σ→Option (gW σ bW)}{ys:List α}{e3:σ}{wN:σ→Option ρ}{oS wM:bW→Option ρ}(rep:σ→ah)(fF:bW→ah)(j:Nat)(hF:(jK step ys e3).bind (gW.on wN oS wM)=some r)(hg:zH C (un true (S.get C bZ))=some (ys.map enc))(h0:dm (xe C f assign body) S=some (rep e3))(R:α→σ→ah)(hR:∀y s,C6 (rep s) ps.toList (enc y)=some (R y s))(round:∀y s z,step y s=some z→W C f call assign (R y s) (GP C f call body (DR (xe C f assign body) rep fF j z)))(aq:∀s,wN s=some r→Q (.normal,rep s))(pr:∀s,oS s=some r→Q (.ret,fF s))(CW:∀s,wM s=some r→Q (.exit j,fF s)):W C f call (.rangeFunc bZ ps assign body) S Q:=by obtain⟨v,h1,h2⟩:=Option.bind_eq_some_iff.1 hF;have key:∀(ys:List α)(s:σ),jK step ys s=some v→∃x,pO (fun bD=>(ct C f call jz assign bD).bind fun x=>match x.1 with| .normal=>ct C f call jz body x.2|_=>none) (dm (xe C f assign body)) ps.toList (ys.map enc) (rep s)=some x∧Q x:=by{intro ys;induction ys with|nil=>(intro s h;simp only[jK,GE]at h;subst h;exact⟨_,rfl,aq s h2⟩)|cons y ys ih=>intro s h;simp only[jK,Option.bind_eq_some_iff]at h;obtain⟨z,hz,h⟩:=h;obtain⟨⟨e,bD⟩,g1,rfl,⟨e2,cX⟩,g2,g3⟩:=round y s z hz;simp only[Hc,pO,hR,AC,g1,g2];cases z with|go s'=>(obtain⟨rfl,g3⟩:=g3;simp only at g3;simp only[g3,AC];exact ih s' h)|ret s'=>(obtain⟨rfl,g3⟩:=g3;simp only[GE]at h;subst h;simp only at g3;simp only[g3,AC];exact⟨_,rfl,pr s' h2⟩)|ex s'=>obtain⟨rfl,g3⟩:=g3;simp only[GE]at h;subst h;simp only at g3;simp only[g3,AC];exact⟨_,rfl,CW s' h2⟩};obtain⟨x,h3,h4⟩:=key ys e3 h1;refine⟨x, ?_,h4⟩;simp only[ct,hg,AC,h0];exact h3
theorem Lw{step:α→σ→Option (gW σ bW)}{ys:List α}{e3:σ}{wN:σ→Option ρ}{oS wM:bW→Option ρ}(rep:σ→ah)(fF:bW→ah)(j:Nat)(hF:(jK step ys e3).bind (gW.on wN oS wM)=some r)(hg:zH C (un true (S.get C bZ))=some (ys.map enc))(h0:dm (xe C f assign body) S=some (rep e3)){n:Nat}(hn:∀s,(rep s).n=n)(hl:∀y,ps.toList.length=(enc y).length)(hp:(ps.toList.all fun p=>Nat.blt p n)=true)(round:∀y s z,step y s=some z→W C f call assign ⟨(rep s).n,sN (rep s).t (ps.toList.zip (enc y)),(rep s).h⟩ (GP C f call body (DR (xe C f assign body) rep fF j z)))(aq:∀s,wN s=some r→Q (.normal,rep s))(pr:∀s,oS s=some r→Q (.ret,fF s))(CW:∀s,wM s=some r→Q (.exit j,fF s)):W C f call (.rangeFunc bZ ps assign body) S Q:=ahZ rep fF j hF hg h0 (fun y s=>⟨(rep s).n,sN (rep s).t (ps.toList.zip (enc y)),(rep s).h⟩) (fun y s=>by unfold C6;rw[if_pos ⟨hl y,by rw[List.all_eq_true]at hp⊢;intro p E9;rw[decide_eq_true_eq,hn];exact of_decide_eq_true (lG (hp p E9))⟩]) round aq pr CW
theorem Gc{o:Option (Bool×List Nat)}{z:gW σ bW}{s:σ}{S:ah}(hF:some (gW.go s)=some z)(h:dm o S=some (rep s)):DR o rep fF j z (.normal,S):=by cases hF;exact⟨rfl,h⟩
theorem Gd{o:Option (Bool×List Nat)}{z:gW σ bW}{s:bW}{S:ah}(hF:some (gW.ret s)=some z)(h:dm o S=some (fF s)):DR o rep fF j z (.ret,S):=by cases hF;exact⟨rfl,h⟩
end
section
variable{C:aG}{f:FuncId}{call:fL}{c:Code}{Q:Exit×ah→Prop}{n:Nat}{t t2:Nat→U}{h:Id→Option (Option Rows)}{l:List Nat}{vs:List U}{zs:List (Nat×U)}
theorem SF(k:W C f call c ⟨n,t2,h⟩ Q)(hm:aL n l vs=⟨n,t,h⟩:=by exact Fz)(ht:sN t zs=t2:=by exact rfl):W C f call c ⟨(aL n l vs).n,sN (aL n l vs).t zs,(aL n l vs).h⟩ Q:=by subst ht;rw[hm];exact k
theorem ah8{l:List (Nat×U)}{h:List (Id×Rows)}(k:W C f call c ⟨n,t2,jh h⟩ Q)(ht:sN (cW (fun _=> .br) l) zs=t2:=by exact rfl):W C f call c ⟨(dR n l h).n,sN (dR n l h).t zs,(dR n l h).h⟩ Q:=by subst ht;exact k
end
end Go.Ab
namespace Go.Ab
open Go
section
variable{C:aG}{f:FuncId}{call:fL}{S:ah}{g:Bool}{d:Nat}{ty:TypeId}{pos:String}{aV:Array Edge}{bB:Option (Nat×Bool)}
end
end Go.Ab
namespace Go.Ab
open Go
section
variable{n:Nat}{t:Nat→U}{h L:Id→Option (Option Rows)}
/-! ### Opened, frozen -/
theorem aI{p s row off:Nat}{id:Id}{r r':List U}{x:Id×Option Rows}{wr:List (Id×Option Rows)}(hs:t s= .mp id row off:=by exact rfl)(hid:h id=some (some [r]):=by exact rfl)(hu:bU [p,s] 0 r=(r',x::wr):=by exact sY)(Jx:Nat.blt s n=true:=by exact rfl)(hf:fresh h (x::wr)=true:=by exact rfl):qf p ⟨n,t,h⟩ s=some ⟨n,t,bp h ((id,some [r'])::x::wr)⟩:=agu hs hid hu Jx hf
theorem RN{p s row off:Nat}{id:Id}{r r':List U}(hs:t s= .mp id row off:=by exact rfl)(hid:h id=some (some [r]):=by exact rfl)(hu:bU [p,s] 0 r=(r',[]):=by exact sY):qf p ⟨n,t,h⟩ s=some ⟨n,t,h⟩:=by unfold qf;simp only[hs,hid,hu,List.isEmpty_nil,if_true]
def adX:U→Bool| .rs _ _ _| .cw| .mr _=>true|_=>false
theorem Be{s:Nat}{v v':U}{ids:List Id}{wr:List (Id×Option Rows)}(hl:adX (t s)=true:=by exact rfl)(hp:pk h 9 (t s)=some (v,ids):=by exact lV)(hf:dG v=v':=by exact Bd)(hn:dP ids=true:=by exact rfl)(hw:(ids.map fun i=>(i,none))=wr:=by exact spine):mQ ⟨n,t,h⟩ s=some ⟨n,ak t s v',bp h wr⟩:=by have e:nH ⟨n,t,h⟩ s=some ⟨n,ak t s v',bp h wr⟩:=by{subst hf hw;simp only[nH,hp,hn,if_true]};rw[←e];cases hts:t s<;>rw[hts]at hl<;>first|(unfold mQ;simp only[hts];done)|cases hl
theorem aaz{s:Nat}(hl:t s= .cw:=by exact rfl):mQ ⟨n,t,h⟩ s=some ⟨n,ak t s (.sl []),h⟩:=by simp only[mQ,hl,nH,pk,dP,if_true];rfl
/-! ### Names of what arguments lead to -/
def QJ:U→Bool| .fn _ as cs=> !(as.isEmpty&&cs.isEmpty)| .rs _ _ _=>true| .mp _ _ _=>true| .mr _=>true| .agg _=>true|_=>false
variable{m j:Nat}{b:Bool}{p i:Id}{acc acc' ny y l:List (Id×Id)}{a:U}{as cs ec:List U}
theorem NX(hx:ec=[])(e:acc=y):dV L m b p j acc ec=y:=by subst hx;cases m<;>exact e
theorem Yg(hx:ec=a::as)(hs:QJ a=false)(k:dV L m b p (j+1) acc as=y):dV L (m+1) b p j acc ec=y:=by subst hx;cases a with|fn f xs cs=>(simp only[QJ,Bool.not_eq_false',Hd,List.isEmpty_iff]at hs;obtain⟨rfl,rfl⟩:=hs;have e:dV L m true (j::p) 0 acc ([]++[])=acc:=by{cases m<;>rfl};simp only[dV,e];exact k)|_=>first|exact k|cases hs
theorem Ye{o q:Nat}(hx:ec= .rs i o q::as)(hn:(!b||(fR acc i).isSome)=false)(hl:acc++[(i,j::p)]=acc')(k:dV L m b p (j+1) acc' as=y):dV L (m+1) b p j acc ec=y:=by subst hx hl;simp only[dV,hn];exact k
theorem Yf{o q:Nat}(hx:ec= .rs i o q::as)(hn:(!b||(fR acc i).isSome)=true)(k:dV L m b p (j+1) acc as=y):dV L (m+1) b p j acc ec=y:=by subst hx;simp only[dV,hn];exact k
theorem Yc{o q:Nat}(hx:ec= .mp i o q::as)(hn:(fR acc i).isSome=false)(hh:L i=some (some [cs]))(hl:acc++[(i,j::p)]=acc')(h1:dV L m false (j::p) 0 acc' cs=ny)(k:dV L m b p (j+1) ny as=y):dV L (m+1) b p j acc ec=y:=by subst hx hl h1;simp only[dV,hn,hh];exact k
theorem Yd{o q:Nat}(hx:ec= .mp i o q::as)(hn:(fR acc i).isSome=true)(k:dV L m b p (j+1) acc as=y):dV L (m+1) b p j acc ec=y:=by subst hx;simp only[dV,hn];exact k
theorem Ya(hx:ec= .agg cs::as)(h1:dV L m b (j::p) 0 acc cs=ny)(k:dV L m b p (j+1) ny as=y):dV L (m+1) b p j acc ec=y:=by subst hx h1;simp only[dV];exact k
theorem Yb{f:Fn}{xs:List U}(hx:ec= .fn f xs cs::as)(h1:dV L m true (j::p) 0 acc (xs++cs)=ny)(k:dV L m b p (j+1) ny as=y):dV L (m+1) b p j acc ec=y:=by subst hx h1;simp only[dV];exact k
theorem NY(k:dV L m b p j acc ec=y:=by(repeat'(first|((with_reducible apply NX);(with_reducible exact rfl);exact rfl)|((with_reducible apply Yg);exact rfl;first|exact rfl|exact alR|exact alS)|((with_reducible apply Ye);exact rfl;exact rfl;exact spine)|((with_reducible apply Yf);exact rfl;exact rfl)|((with_reducible apply aj2);exact rfl;exact rfl;exact spine)|((with_reducible apply aj3);exact rfl;exact rfl)|((with_reducible apply Yd);exact rfl;exact rfl)|((with_reducible apply Yc);exact rfl;exact rfl;exact rfl;exact spine)|((with_reducible apply Ya);exact rfl)|((with_reducible apply Yb);exact rfl)|(apply NX;exact rfl;exact rfl)));first|done|fail):dV L m b p j acc ec=y:=k
/-! ### The objects that go -/
variable{o k:Id}{r l':List (Id×Id)}{rows x1 bn:Rows}{i1 i2 gone ids:List Id}{obs outs:List U}{keep:Id→Bool}{back:List (Id×Option Rows)}
theorem YP(hf:en rows=true):mN L keep rows=some (rows,[]):=by simp only[mN,hf,if_true]
theorem YQ(hf:en rows=false)(hc:dN (kV L keep) rows=some (bn,ids)):mN L keep rows=some (bn,ids):=by simp[mN,hf,hc]
theorem Ob{y:Option (Rows×List Id)}(k:mN L keep rows=y:=by(repeat'(first|(apply YP;first|exact nG _|exact rfl|exact Ig)|(apply aj9;exact rfl;exact rfl;(first|(with_reducible assumption)|assumption);exact inferInstance;rotate_left;exact rfl)|(apply YQ;exact rfl)|exact O3|(apply O4;exact rfl)|exact YO|(apply Oa;exact rfl)|exact HC|exact HD|exact NS|exact HE|(apply NU;exact rfl;exact rfl;exact lV)|(apply HF;exact rfl;exact rfl;exact lV)|(apply NT;exact rfl;exact rfl;exact lV)|(apply AN;first|exact rfl|exact OS|exact OV|exact OT)|exact NR|exact yw|(apply A7;exact rfl)));first|done|fail):mN L keep rows=y:=k
theorem afJ:ir L l []=some ([],[]):=rfl
theorem afI(h:L o=some (some rows))(hc:mN L (sF l) rows=some (x1,i1))(hr:lX l x1=some bn)(hy:ir L l r=some (obs,gone)):ir L l ((o,k)::r)=some (.bl k bn::obs,i1++gone):=by simp[ir,h,hc,hr,hy]
theorem Ry{y:Option (List U×List Id)}(k:ir L l r=y:=by(repeat'(first|exact afJ|(apply afI;exact rfl;exact Ob;(first|exact Lt|exact Lu|exact Lv))));first|done|fail):ir L l r=y:=k
theorem Xn:iE l' [] []=some []:=rfl
theorem Xl(hr:lX l' rows=some bn)(hy:iE l' r outs=some back):iE l' ((o,k)::r) (.bl k rows::outs)=some ((o,some bn)::back):=by simp[iE,hr,hy]
theorem Xm(hy:iE l' r outs=some back):iE l' ((o,k)::r) (.br::outs)=some ((o,none)::back):=by simp[iE,hy]
theorem Yj:jQ L []=[]:=rfl
theorem Yi{x:Id×Option Rows}{gC:List (Id×Option Rows)}(hs:rB L x=true)(k:jQ L gC=back):jQ L (x::gC)=back:=by unfold jQ at*;rw[Hm (by simp[hs])];exact k
theorem Yh{x:Id×Option Rows}{gC:List (Id×Option Rows)}(hs:rB L x=false)(k:jQ L gC=back):jQ L (x::gC)=x::back:=by unfold jQ at*;rw[Hn (by simp[hs]),k]
theorem aix{α:Type}{c:α→List U}[hc:iA c]{q:List α}:rB L (o,some (q.map c))=false:=by cases h:rB L (o,some (q.map c))with|false=>(rfl)|true=>exfalso;unfold rB at h;split at h;·{rename_i h1 h2;simp only[GE]at h2;have:en (q.map c)=true:=nG q;rw[h2]at this;simp[en,cM,flat]at this};·cases h
theorem N0{gC:List (Id×Option Rows)}{y:List (Id×Option Rows)}(k:jQ L gC=y:=by(repeat'(first|exact Yj|(apply Yi;exact rfl)|(apply Yh;first|exact aix|exact rfl)));first|done|fail):jQ L gC=y:=k
theorem Nz{y:Option (List (Id×Option Rows))}(k:iE l' r outs=y:=by(repeat'(first|exact Xn|(apply Xl;(first|exact Lt|exact Lu|exact Lv))|apply Xm));first|done|fail):iE l' r outs=y:=k
/-! Values under other names -/
theorem ah9(hf:flat a=true):eZ l a=a:=by cases a with|agg cs=>(simp only[flat]at hf;simp[eZ,C3 hf])|aS cs=>(simp only[flat]at hf;simp[eZ,C3 hf])|fn f as cs=>(simp only[flat,Hd]at hf;simp[eZ,C3 hf.1,C3 hf.2])|rs _ _ _=>(simp[flat]at hf)|mp _ _ _=>(simp[flat]at hf)|mr _=>(simp[flat]at hf)|c8 _ _=>(simp[flat]at hf)|cw=>(simp[flat]at hf)|_=>simp only[eZ,uG,zL];rw[if_pos hf]
theorem ZF(hf:cM cs=true):flat (.agg cs)=true:=hf
theorem ZO(hf:cM cs=true):flat (.aS cs)=true:=hf
theorem ZH{α:Type}{c:α→List U}{x:α}[hc:iA c]:cM (c x)=true:=hc.fl x
theorem Ij{a:U}(k:flat a=true:=by(repeat'(first|exact rfl|exact ZG|exact ZK|exact OU|(with_reducible apply ZF)|(with_reducible apply ZO)|exact ZH|exact ZJ|(apply OR;exact rfl)));first|done|fail):flat a=true:=k
theorem LC{a':U}(k:eZ l a=a':=by first|(refine ah9 ?_;exact Ij)|exact rfl):eZ l a=a':=k
theorem ahX(hx:ec=[]:=by exact rfl):ec.map (eZ l)=[]:=by subst hx;rfl
theorem ahW{a':U}{bs:List U}(hx:ec=a::as)(h:eZ l a=a')(k:as.map (eZ l)=bs):ec.map (eZ l)=a'::bs:=by subst hx h k;rfl
theorem SY{bs:List U}(k:ec.map (eZ l)=bs:=by(repeat'(first|exact ahX|(apply ahW;exact rfl;exact LC)));first|done|fail):ec.map (eZ l)=bs:=k
end
section
variable{C:aG}{f:FuncId}{call:fL}{S:ah}{g:Bool}{d:Nat}{ty:TypeId}{pos:String}{aV:Array Edge}{bB:Option (Nat×Bool)}
variable{cQ:Operand}{ts:Array TypeId}{dr:FuncId}{as bs args zI obs outs CD amy:List U}{l:List (Id×Id)}{gone:List Id}{r v v':U}{back D7 jG wr:List (Id×Option Rows)}{xs:Array Operand}
theorem Zu{d':Option Tmp}(hfo:un g (S.get C cQ)= .fn (.func dr) as bs)(ef:C.gM dr=true):bA C f call S g ⟨d', .call ⟨.value cQ,xs,ts⟩,ty,pos,aV,bB⟩=pG C f call S ⟨d', .call ⟨.value cQ,xs,ts⟩,ty,pos,aV,bB⟩ dr (as++(xs.toList.map fun x=>un g (S.get C x))++bs):=by show(match mR C (un g (S.get C cQ))with|some x=>pG C f call S _ x.1 (x.2.1++(xs.toList.map fun x=>un g (S.get C x))++x.2.2)|none=>_)=_;have:mR C (un g (S.get C cQ))=some (dr,as,bs):=by{rw[hfo];simp[mR,ef]};rw[this]
theorem NO(hc:call dr (.aS obs::zI)=some (r,outs))(hfo:un g (S.get C cQ)= .fn (.func dr) as bs)(ef:C.gM dr=true)(ha:as++(xs.toList.map fun x=>un g (S.get C x))++bs=args)(hl:dV S.h 60 true [iq] 0 [] args=l)(ho:ir S.h l l=some (obs,gone))(BT:args.map (eZ l)=zI)(vX:(dP (l.map (·.1))&&dP (l.map (·.2))&&(l.all fun x=>jy x.2)&&dP gone&&rY gone (l.map (·.1)))=true)(hb:iE (l.map fun x=>(x.2,x.1)) l outs=some back)(hp:y8 r=false)(hv:eZ (l.map fun x=>(x.2,x.1)) (if eJ C f (some d)then(if flat r then dG r else .br)else r)=v)(hi:imp [d] v=(v',jG))(hf:fresh S.h jG=true)(hw:jG++(jQ S.h back++gone.map fun i=>(i,none))=wr):bA C f call S g ⟨some d, .call ⟨.value cQ,xs,ts⟩,ty,pos,aV,bB⟩=some ⟨[(d,v')],l.map (·.1),wr⟩:=by rw[Zu hfo ef,ha];subst hw;have e:qR call S.h dr args=some ⟨r,l,back,gone⟩:=by{unfold qR Bf;rw[hl,ho];simp only[vX,if_true,BT,hc,hb,GT]};unfold pG;rw[e];simp only[AC,hp,Hk,if_false,iF,hv,hi,hf,if_true];rfl
theorem dy(hc:call dr (.aS obs::zI)=some (r,outs)){rd:List Id}(hfo:un g (S.get C cQ)= .fn (.func dr) as bs:=by exact rfl)(ef:C.gM dr=true:=by exact rfl)(ha:as++(xs.toList.map fun x=>un g (S.get C x))++bs=args:=by exact spine)(hl:dV S.h 60 true [iq] 0 [] args=l:=by exact NY)(ho:ir S.h l l=some (CD,gone):=by exact Ry)(wo:CD=obs:=by exact rfl)(BT:args.map (eZ l)=zI:=by exact SY)(vX:(dP (l.map (·.1))&&dP (l.map (·.2))&&(l.all fun x=>jy x.2)&&dP gone&&rY gone (l.map (·.1)))=true:=by exact rfl)(hb:iE (l.map fun x=>(x.2,x.1)) l outs=some back:=by exact Nz)(hp:y8 r=false:=by exact rfl)(hz:(C.eD f).contains d=false:=by exact rfl)(hv:eZ (l.map fun x=>(x.2,x.1)) r=v:=by exact LC)(hi:imp [d] v=(v',jG):=by exact wH)(hf:fresh S.h jG=true:=by exact rfl)(jf:jQ S.h back=D7:=by exact N0)(hw:jG++(D7++gone.map fun i=>(i,none))=wr:=by exact spine)(hrd:l.map (·.1)=rd:=by exact spine):bA C f call S g ⟨some d, .call ⟨.value cQ,xs,ts⟩,ty,pos,aV,bB⟩=some ⟨[(d,v')],rd,wr⟩:=by subst hrd wo;exact NO hc hfo ef ha hl ho BT vX hb hp (by simp only[eJ,hz,Hk,if_false];exact hv) hi hf (by rw[jf];exact hw)
theorem aW(hc:call dr (.aS obs::zI)=some (r,outs)){rd:List Id}{v0:U}(hfo:un g (S.get C cQ)= .fn (.func dr) as bs:=by exact rfl)(ef:C.gM dr=true:=by exact rfl)(ha:as++(xs.toList.map fun x=>un g (S.get C x))++bs=args:=by exact spine)(hl:dV S.h 60 true [iq] 0 [] args=l:=by exact NY)(ho:ir S.h l l=some (CD,gone):=by exact Ry)(wo:CD=obs:=by exact rfl)(BT:args.map (eZ l)=zI:=by exact SY)(vX:(dP (l.map (·.1))&&dP (l.map (·.2))&&(l.all fun x=>jy x.2)&&dP gone&&rY gone (l.map (·.1)))=true:=by exact rfl)(hb:iE (l.map fun x=>(x.2,x.1)) l outs=some back:=by exact Nz)(hp:y8 r=false:=by exact rfl)(hz:(C.eD f).contains d=true:=by exact rfl)(hfl:flat r=true:=by exact Ij)(hfz:dG r=v0:=by exact Bd)(hv:eZ (l.map fun x=>(x.2,x.1)) v0=v:=by exact LC)(hi:imp [d] v=(v',jG):=by exact wH)(hf:fresh S.h jG=true:=by exact rfl)(jf:jQ S.h back=D7:=by exact N0)(hw:jG++(D7++gone.map fun i=>(i,none))=wr:=by exact spine)(hrd:l.map (·.1)=rd:=by exact spine):bA C f call S g ⟨some d, .call ⟨.value cQ,xs,ts⟩,ty,pos,aV,bB⟩=some ⟨[(d,v')],rd,wr⟩:=by subst hrd wo;exact NO hc hfo ef ha hl ho BT vX hb hp (by simp only[eJ,hz,if_true,hfl,hfz];exact hv) hi hf (by rw[jf];exact hw)
end
/-! ### Functions -/
def uU:Nat→List U→List (Nat×U)|_,[]=>[]|i,p::ps=>(i,p)::uU (i+1) ps
theorem Mr:∀(ps:List U)(i t:Nat),cW (fun _=> .br) (uU i ps) t=if t<i then .br else ps.getD (t-i) .br|[],i,t=>by{simp[uU,cW]}|p::ps,i,t=>by simp only[uU,cW,ak];by_cases e:t=i;·{subst e;simp};·rw[if_neg e,Mr ps (i+1) t];by_cases h1:t<i;·{rw[if_pos h1,if_pos (by omega)]};·rw[if_neg h1,if_neg (by omega),show t-i=(t-(i+1))+1 by omega];rfl
def xH(C:aG)(f:FuncId)(rv:List ResultVar)(ks:List Id)(r:U)(outs:List U)(x:Exit×ah):Prop:=(x.1= .ret∨x.1= .normal)∧∃S al vs i1 i2,nS (C.qM f) x.2=S∧(ks.filter fun k=>lQ (S.h k))=al∧lA C S (mb S.h fun i=>al.contains i) rv=some (vs,i1)∧kM S.h (fun i=>al.contains i) ks=some (outs,i2)∧dP (al++(i1++i2))=true∧uC vs=r
section
variable{C:aG}{f:FuncId}{S:ah}{rv:List ResultVar}{ks al:List Id}{vs outs outs' cs cs':List U}{ids is i1 i2:List Id}{r v v' x:U}{p:U→Option (U×List Id)}{L:Id→Option (Option Rows)}{keep:Id→Bool}{rows bn:Rows}{k:Id}{T:TypeId}
theorem ah2:lA C S p []=some ([],[]):=rfl
theorem ah4{t:Nat}(h:p (un true (S.t t))=some (v,ids))(hr:lA C S p rv=some (vs,is)):lA C S p (.tmp t::rv)=some (v::vs,ids++is):=by show(uI C S p (.tmp t)).bind _=_;simp only[uI,h,AC,hr,GT]
theorem ah3{a m:Nat}{id:Id}{bb:Bool}{r:List U}[ha:cU C T bb m](hx:un true (S.t a)= .mp id 0 0)(hh:S.h id=some (some [r]))(hl:Ha m r.length=true)(hv:iL bb (r.take m)=some v)(h:p v=some (v',ids))(hr:lA C S p rv=some (vs,is)):lA C S p (.cell a T::rv)=some (v'::vs,id::ids++is):=by show(uI C S p (.cell a T)).bind _=_;have hl':0+m≤r.length:=by{have:=Hb hl;omega};simp only[uI,ha.jP,ha.sz,hx,hh,List.getElem?_cons_zero,if_pos hl',List.drop_zero,hv,AC,h,hr,GT]
theorem N1:∀{cs:List U},cM cs=true→dM (gD L keep) cs=some (cs,[])|[],_=>rfl|c::cs,h=>by simp only[cM,Hd]at h;simp only[dM,AN h.1,AC,N1 h.2,GT];rfl
theorem YX(hf:flat x=true):mb L keep x=some (x,[]):=by cases x with|agg cs=>(simp only[flat]at hf;simp only[mb,N1 hf,GT])|_=>exact AN (h:=L) (keep:=keep) hf
theorem YV(hx:x= .agg cs:=by exact rfl)(h:dM (gD L keep) cs=some (cs',ids)):mb L keep x=some (.agg cs',ids):=by subst hx;simp only[mb,h,GT]
def isAgg:U→Bool| .agg _=>true|_=>false
theorem Y1(hx:isAgg x=false)(h:gD L keep x=some (v,ids)):mb L keep x=some (v,ids):=by cases x<;>first|exact h|cases hx
theorem HO{y:Option (U×List Id)}(k:mb L keep x=y:=by(repeat'(first|(refine YX ?_;exact Ij)|(apply YV;exact rfl)|(apply Y1;exact rfl)|exact HC|exact HD|exact NS|exact HE|(apply NU;exact rfl;exact rfl;exact lV)|(apply HF;exact rfl;exact rfl;exact lV)|(apply NT;exact rfl;exact rfl;exact lV)|(apply AN;first|exact rfl|exact OS|exact OV|exact OT)|exact NR|exact yw|(apply A7;exact rfl)));first|done|fail):mb L keep x=y:=k
theorem SK{y:Option (List U×List Id)}(h:lA C S (mb L keep) rv=y:=by repeat'(first|with_reducible exact ah2|((with_reducible apply ah4);exact HO)|((with_reducible apply ah3);exact rfl;exact rfl;exact rfl;(first|exact Fx|exact Fy rfl);exact HO)|((with_reducible apply amI);exact rfl;exact rfl;(first|exact Fx|exact Fy rfl);exact HO))):lA C S (mb L keep) rv=y:=h
theorem afD:kM L keep []=some ([],[]):=rfl
theorem afB(h:L k=some (some rows))(hc:mN L keep rows=some (bn,i1))(hy:kM L keep ks=some (outs,i2)):kM L keep (k::ks)=some (.bl k bn::outs,i1++i2):=by simp[kM,h,hc,hy]
theorem afC(h:lQ (L k)=false)(hy:kM L keep ks=some (outs,i2)):kM L keep (k::ks)=some (.br::outs,i2):=by unfold kM;split;·{rename_i rows e;rw[e]at h;cases h};·rw[hy];rfl
theorem Rx{y:Option (List U×List Id)}(h:kM L keep ks=y:=by(repeat'(first|exact afD|(apply afB;exact rfl;exact Ob)|(apply afC;exact rfl)));first|done|fail):kM L keep ks=y:=h
theorem ZI{p:Id→Bool}:Do p []=([]:List Id):=rfl
theorem ZN{p:Id→Bool}{k:Id}{ks al:List Id}(h:p k=true)(hy:Do p ks=al):Do p (k::ks)=k::al:=by rw[Hn h,hy]
theorem ZP{p:Id→Bool}{k:Id}{ks al:List Id}(h:p k=false)(hy:Do p ks=al):Do p (k::ks)=al:=by rw[Hm (by simp[h]),hy]
theorem O1{p:Id→Bool}{y:List Id}(h:Do p ks=y:=by(repeat'(first|exact ZI|(apply ZN;exact rfl)|(apply ZP;exact rfl)));first|done|fail):Do p ks=y:=h
theorem aee{S:ah}{l:List Id}(hl:l=[]:=by exact rfl):nS l S=S:=by subst hl;rfl
theorem aef{n:Nat}{t:Nat→U}{h:Id→Option (Option Rows)}{l l2:List Id}(hl:l=l2:=by exact spine):nS l ⟨n,t,h⟩=⟨n,t,bp h (l2.map fun i=>(i,none))⟩:=by subst hl;rfl
theorem QC{S S':ah}{l:List Id}(k:nS l S=S':=by first|exact aee|exact aef):nS l S=S':=k
theorem dc{fH:ah}(hk:nS (C.qM f) fH=S:=by exact QC)(ha:(ks.filter fun k=>lQ (S.h k))=al:=by exact O1)(h:lA C S (mb S.h fun i=>al.contains i) rv=some (vs,i1):=by exact SK)(ho:kM S.h (fun i=>al.contains i) ks=some (outs',i2):=by exact Rx)(wo:outs'=outs:=by exact rfl)(hn:dP (al++(i1++i2))=true:=by exact rfl)(hr:uC vs=r:=by exact rfl):xH C f rv ks r outs (.ret,fH):=by subst wo;exact⟨.inl rfl,S,al,vs,i1,i2,hk,ha,h,ho,hn,hr⟩
theorem Iu{fH:ah}(hk:nS (C.qM f) fH=S:=by exact QC)(ha:(ks.filter fun k=>lQ (S.h k))=al:=by exact O1)(h:lA C S (mb S.h fun i=>al.contains i) rv=some (vs,i1):=by exact SK)(ho:kM S.h (fun i=>al.contains i) ks=some (outs',i2):=by exact Rx)(wo:outs'=outs:=by exact rfl)(hn:dP (al++(i1++i2))=true:=by exact rfl)(hr:uC vs=r:=by exact rfl):xH C f rv ks r outs (.normal,fH):=by subst wo;exact⟨.inr rfl,S,al,vs,i1,i2,hk,ha,h,ho,hn,hr⟩
theorem fk{fn:Func}{c:Code}{obs args:List U}{hl:List (Id×Rows)}{zs:List (Nat×U)}{nn N:Nat}(hf:C.P.funcs[f]? =some fn)(hn:fn.ntmps=N)(hr:fn.results.toList=rv)(k:mE iq (C.iP f iq) [] (fun fH=>W C f (den C nn) c fH (xH C f rv ks r outs)) ⟨N,cW (fun _=> .br) zs,jh hl⟩)(hb:fn.body=some c:=by exact rfl)(he:C.ext f=none:=by exact rfl)(ef:C.gM f=true:=by exact rfl)(hl':Ha args.length N=true:=by exact rfl)(hN:Ha N iq=true:=by exact rfl)(ho:ux obs=some hl:=by exact rfl)(hz:uU 0 args=zs:=by exact spine)(hk:hl.map (·.1)=ks:=by exact spine)(hdf:oB C f c=false:=by exact rfl):den C (nn+1) f (.aS obs::args)=some (r,outs):=by obtain⟨fH,h0,bD,h1,⟨e,s⟩,h2,h3,VF,al,vs,i1,i2,BI,h4,h5,h6,h7,h8⟩:=k;simp only[kE,GE]at h1;subst h1;subst hr hn hz hk;show qN C (den C nn) jz f _=_;unfold qN;simp only[he,hf,hb,ef,if_true];unfold A0;simp only[ho];rw[if_pos ⟨Hb hl',Hb hN⟩,hdf];simp only[Hk,if_false];have e0:xo fn.ntmps args hl=⟨fn.ntmps,cW (fun _=> .br) (uU 0 args),jh hl⟩:=by{unfold xo;congr 1;funext t;rw[Mr];simp};rw[e0,h0];simp only[AC,h2];have cR:sd C fn (hl.map (·.1)) (nS (C.qM f) s)=some (r,outs):=by{simp only at BI;rw[BI];unfold sd;simp only[h4,h5,h6,h7,if_true];rw[←h8];congr 2;cases vs with|nil=>(rfl)|cons a l=>cases l<;>rfl};rcases h3 with h3|h3;·{simp only at h3;subst h3;exact cR};·simp only at h3;subst h3;exact cR
end
end Go.Ab
namespace Go.Ab
open Go
section
variable{C:aG}{f:FuncId}{call:fL}{S:ah}{A b c:Code}{o0 o1:Oper}{d:Nat}{Q:Exit×ah→Prop}
def DP(C:aG)(f:FuncId)(call:fL)(o0 o1:Oper)(d:Nat)(b:Code)(Q:Exit×ah→Prop)(x:Exit×ah):Prop:=match x.1 with| .normal=>dF C f call #[o0,o1] 0 [o0] [] x.2 fun _ bD=>∃k xs cs,bD.t d= .fn (.func k) xs cs∧C.mX k=true∧W C f call b bD Q|_=>Q x
theorem ahw(h:dF C f call #[o0,o1] 0 [o0] [] S fun _ bD=>∃k xs cs,bD.t d= .fn (.func k) xs cs∧C.mX k=true∧W C f call b bD Q):DP C f call o0 o1 d b Q (.normal,S):=h
theorem ahx(h:Q (.ret,S)):DP C f call o0 o1 d b Q (.ret,S):=h
theorem ae6{ks:List iB}{i:Nat}{ops:Array Oper}{k:FuncId}{xs cs:List U}(h:W C f call b S Q)(hd:S.t d= .fn (.func k) xs cs:=by exact rfl)(hk:C.mX k=true:=by exact rfl):dF C f call ops i [] ks S fun _ bD=>∃k xs cs,bD.t d= .fn (.func k) xs cs∧C.mX k=true∧W C f call b bD Q:=nl ⟨k,xs,cs,hd,hk,h⟩
theorem Za(k:W C f call A S (DP C f call o0 o1 d b Q))(hs:sS C f c=some (A,o0,o1,d,b))(hb:oB C f b=false):∃x,jc C f call jz c S=some x∧Q x:=by obtain⟨⟨x,bD⟩,h1,h2⟩:=k;rw[Zz c hs,h1];simp only[AC];cases x with|normal=>(obtain⟨⟨cX,ks⟩,h3,k,xs,cs,h4,h5,y,h6,h7⟩:=h2;refine⟨y, ?_,h7⟩;simp only[Er,h3,AC];simp only at h4;rw[h4];simp only[h5,if_true];rw[Zy b hb];exact h6)|_=>exact⟨_,rfl,h2⟩
theorem ZW{rv:List ResultVar}{ks:List Id}{r:U}{outs:List U}{fn:Func}{obs args:List U}{hl:List (Id×Rows)}{zs:List (Nat×U)}{nn N:Nat}(hf:C.P.funcs[f]? =some fn)(hn:fn.ntmps=N)(hr:fn.results.toList=rv)(k:mE iq (C.iP f iq) [] (fun fH=>W C f (den C nn) A fH (DP C f (den C nn) o0 o1 d b (xH C f rv ks r outs))) ⟨N,cW (fun _=> .br) zs,jh hl⟩)(hb:fn.body=some c:=by exact rfl)(he:C.ext f=none:=by exact rfl)(ef:C.gM f=true:=by exact rfl)(hl':Ha args.length N=true:=by exact rfl)(hN:Ha N iq=true:=by exact rfl)(ho:ux obs=some hl:=by exact rfl)(hz:uU 0 args=zs:=by exact spine)(hk:hl.map (·.1)=ks:=by exact spine)(hs:sS C f c=some (A,o0,o1,d,b):=by exact rfl)(hdf:oB C f c=true:=by exact rfl)(hdb:oB C f b=false:=by exact rfl):den C (nn+1) f (.aS obs::args)=some (r,outs):=by obtain⟨fH,h0,bD,h1,h2⟩:=k;simp only[kE,GE]at h1;subst h1;obtain⟨⟨e,s⟩,aaY,h3,VF,al,vs,i1,i2,BI,h4,h5,h6,h7,h8⟩:=Za h2 hs hdb;subst hr hn hz hk;show qN C (den C nn) jz f _=_;unfold qN;simp only[he,hf,hb,ef,if_true];unfold A0;simp only[ho];rw[if_pos ⟨Hb hl',Hb hN⟩,hdf];simp only[if_true];have e0:xo fn.ntmps args hl=⟨fn.ntmps,cW (fun _=> .br) (uU 0 args),jh hl⟩:=by{unfold xo;congr 1;funext t;rw[Mr];simp};rw[e0,h0];simp only[AC];rw[aaY];simp only[AC];have cR:sd C fn (hl.map (·.1)) (nS (C.qM f) s)=some (r,outs):=by{simp only at BI;rw[BI];unfold sd;simp only[h4,h5,h6,h7,if_true];rw[←h8];congr 2;cases vs with|nil=>(rfl)|cons a l=>cases l<;>rfl};rcases h3 with h3|h3;·{simp only at h3;subst h3;exact cR};·simp only at h3;subst h3;exact cR
end
end Go.Ab
namespace Go.Ab
open Go
theorem aaw{n s:Nat}{t:Nat→U}{h:Id→Option (Option Rows)}{rows:Rows}(hs:t s= .sl rows:=by exact rfl):mQ ⟨n,t,h⟩ s=some ⟨n,t,h⟩:=by unfold mQ;simp only[hs]
section
variable{C:aG}{f:FuncId}{call:fL}{S:ah}{g:Bool}{d:Nat}{t ty:TypeId}{pos:String}{aV:Array Edge}{bB:Option (Nat×Bool)}{x:Operand}
def pQ(l:List ByteArray):U:= .sl (l.map fun s=>[.val (.string s)])
theorem Rj{α:Type}{c:α→U}{T:TypeId}{y:Operand}{k:IntKind}{e:TypeId}{m len:Nat}{bb:Bool}{i:Int}{r:α}{q:List α}(hi:idx q i=some r)[hu:c9 C T (.array len e)][hs:cU C e bb m](hx:un g (S.get C x)= .aD (q.map c):=by exact rfl)(hy:un g (S.get C y)= .val (.int k i):=by first|exact rfl|exact cp)(hm:m=1:=by exact rfl)(hl:q.length=len:=by exact rfl):bA C f call S g ⟨some d, .indexAddr T x y,ty,pos,aV,bB⟩=some ⟨[(d, .aD (c r::(q.map c).drop (i.toNat+1)))],[],[]⟩:=by show mc C S _ T (un g (S.get C x)) (eo (un g (S.get C y)))=_;have hb:=y2 hi;have hn:=jY hi;subst hm hl;have hlt:i.toNat<q.length:=by{omega};have e1:(q.map c).drop (i.toNat*1)=c r::(q.map c).drop (i.toNat+1):=by{have:q[i.toNat]=r:=by{rw[List.getElem?_eq_getElem hlt]at hn;simpa using hn};rw[Nat.mul_one,List.drop_eq_getElem_cons (by simpa using hlt)];simp[this]};simp only[hx,hy,eo,mc,hu.ul,hs.sz];rw[if_pos ⟨hb.1,hb.2,by simp;omega⟩,e1];rfl
end
end Go.Ab
