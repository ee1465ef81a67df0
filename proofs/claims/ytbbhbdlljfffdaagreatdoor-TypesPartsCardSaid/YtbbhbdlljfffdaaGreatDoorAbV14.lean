import Derived.Test.YtbbhbdlljfffdaaGreatDoorAbV7
open Bool renaming and_eq_true→Hd,false_eq_true→Hk
open List renaming filter→Do,map_cons→Hc,filter_cons_of_neg→Hm,filter_cons_of_pos→Hn
open Nat renaming ble→Ha,le_of_ble_eq_true→Hb
open Option renaming bind_some→AC,map_some→GT
open Option.some renaming injEq→GE
set_option linter.all false
namespace Go.Ab
open Go
/-! ### Maps as lists of pairs -/
section
variable{K V:Type}
def ig(eq:K→K→Bool):List (K×V)→K→Option V|[],_=>none|e::l,k=>if eq k e.1 then some e.2 else ig eq l k
def rI(eq:K→K→Bool):List (K×V)→K→V→List (K×V)|[],k,v=>[(k,v)]|e::l,k,v=>if eq k e.1 then(k,v)::l else e::rI eq l k v
end
def iM(a b:ByteArray):Bool:=a==b
theorem HV{a b:ByteArray}:iM a b=true↔a=b:=⟨Nu,fun h=>by subst h;exact Nv _⟩
class x7{K:Type}(e4:K→Value)(kind:outParam TypeDesc)(eq:outParam (K→K→Bool)):Prop where same:∀a b,Instr.sameNow kind (e4 a) (e4 b)=some (eq a b)sc:∀a,ey (e4 a)=true
class M3{V:Type}(ev:V→Value):Prop where sc:∀a,ey (ev a)=true
def vk(n:Int):Value:= .int .i64 n
def xR(s:ByteArray):Value:= .string s
instance:x7 xR .string iM:=⟨fun _ _=>rfl,fun _=>rfl⟩
instance:M3 vk:=⟨fun _=>rfl⟩
def n9{K V:Type}(e4:K→Value)(ev:V→Value)(e:K×V):List U:=[.val (e4 e.1), .val (ev e.2)]
section
variable{K V:Type}{e4:K→Value}{ev:V→Value}{kind:TypeDesc}{eq:K→K→Bool}
theorem H9 [hk:x7 e4 kind eq]:∀(l:List (K×V))(k:K),oV kind (e4 k) (l.map (n9 e4 ev))=some ((ig eq l k).map ev)|[],_=>rfl|e::l,k=>by simp only[Hc,n9,oV,hk.same,ig];cases h:eq k e.1 with|true=>(rfl)|false=>simpa[n9]using H9 l k
theorem Sn [hk:x7 e4 kind eq]:∀(l:List (K×V))(k:K)(v:V),xy kind (e4 k) (ev v) (l.map (n9 e4 ev))=some ((rI eq l k v).map (n9 e4 ev))|[],_,_=>rfl|e::l,k,v=>by simp only[Hc,n9,xy,hk.same,rI];cases h:eq k e.1 with|true=>(rfl)|false=>have:=Sn l k v;simp[this,n9]
end
class AL(C:aF)(T:TypeId)(kind:outParam TypeDesc)(z:outParam Value):Prop where mt:zH C T=some (kind,z)
section
variable{C:aF}{f:FuncId}{call:FuncId→List U→Option (U×List U)}{S:ah}{g:Bool}
variable{d:Nat}{ty:TypeId}{pos:String}{aV:Array Edge}{bD:Option (Nat×Bool)}{x y z:Operand}{T:TypeId}
variable{K V:Type}{e4:K→Value}{ev:V→Value}{kind:TypeDesc}{eq:K→K→Bool}{cQ:V}{l:List (K×V)}{k:K}{v:V}{id:Id}
theorem Rz{z0:Value}[hm:AL C T kind z0](hf:S.h [d]=none:=by exact rfl):bC C f call S g ⟨some d, .makeMap T none,ty,pos,aV,bD⟩=some ⟨[(d, .mr [d])],[],[([d],some [])]⟩:=by show sE C S _ T none=_;simp[sE,hm.mt,hf,put]
theorem Rx [hm:AL C T kind (ev cQ)][hk:x7 e4 kind eq](hx:un g (S.get C x)= .mr id:=by first|exact rfl|exact ck)(hh:S.h id=some (some (l.map (n9 e4 ev))):=by exact rfl)(hy:un g (S.get C y)= .val (e4 k):=by first|exact rfl|exact ck):bC C f call S g ⟨some d, .lookup T x y true,ty,pos,aV,bD⟩=some ⟨[(d, .aT [.val (ev ((ig eq l k).getD cQ)),B (ig eq l k).isSome])],[id],[]⟩:=by show p8 C S _ T (un g (S.get C x)) (un g (S.get C y)) true=_;rw[hx,hy];simp only[p8,hm.mt,xh,hh,H9];cases ig eq l k<;>rfl
theorem afD [hm:AL C T kind (ev cQ)][hk:x7 e4 kind eq](hx:un g (S.get C x)= .im (l.map (n9 e4 ev)):=by first|exact rfl|exact ck)(hy:un g (S.get C y)= .val (e4 k):=by first|exact rfl|exact ck):bC C f call S g ⟨some d, .lookup T x y true,ty,pos,aV,bD⟩=some ⟨[(d, .aT [.val (ev ((ig eq l k).getD cQ)),B (ig eq l k).isSome])],[],[]⟩:=by show p8 C S _ T (un g (S.get C x)) (un g (S.get C y)) true=_;rw[hx,hy];simp only[p8,hm.mt,xh,H9];cases ig eq l k<;>rfl
theorem afG{z0:Value}[hm:AL C T kind z0][hk:x7 e4 kind eq][hv:M3 ev](hx:un g (S.get C x)= .mr id:=by first|exact rfl|exact ck)(hh:S.h id=some (some (l.map (n9 e4 ev))):=by exact rfl)(hy:un g (S.get C y)= .val (e4 k):=by first|exact rfl|exact ck)(hz:un g (S.get C z)= .val (ev v):=by first|exact rfl|exact ck):bC C f call S g ⟨none, .mapUpdate T x y z,ty,pos,aV,bD⟩=some ⟨[],[id],[(id,some ((rI eq l k v).map (n9 e4 ev)))]⟩:=by show p9 C S _ T (un g (S.get C x)) (un g (S.get C y)) (un g (S.get C z))=_;rw[hx,hy,hz];simp[p9,hm.mt,hh,Sn,hk.sc,hv.sc,put]
end
end Go.Ab
namespace Go.Ab
open Go
inductive gu(σ bQ:Type)where|go(s:σ)|ret(t:bQ)|ex(t:bQ)
def gb{α σ bQ:Type}(step:α→σ→Option (gu σ bQ)):List α→σ→Option (gu σ bQ)|[],s=>some (.go s)|y::ys,s=>(step y s).bind fun z=>match z with| .go s'=>gb step ys s'|z=>some z
def gu.on{σ bQ ρ:Type}(w9:σ→Option ρ)(pg w8:bQ→Option ρ):gu σ bQ→Option ρ| .go s=>w9 s| .ret s=>pg s| .ex s=>w8 s
section
variable{C:aF}{f:FuncId}{call:fO}{S:ah}{Q:Exit×ah→Prop}{assign body:Code}{α σ bQ ρ:Type}{r:ρ}{rep:σ→ah}{fD:bQ→ah}{enc:α→List U}{br:Operand}{ps:Array Tmp}{j:Nat}
def DV(o:Option (Bool×List Nat))(rep:σ→ah)(fD:bQ→ah)(j:Nat)(z:gu σ bQ)(x:Exit×ah):Prop:=match z with| .go s=>x.1= .normal∧dn o x.2=some (rep s)| .ret s=>x.1= .ret∧dn o x.2=some (fD s)| .ex s=>x.1= .exit j∧dn o x.2=some (fD s)
def GW(C:aF)(f:FuncId)(call:fO)(body:Code)(Q:Exit×ah→Prop)(x:Exit×ah):Prop:=x.1= .normal∧W C f call body x.2 Q
theorem Lw{S:ah}(h:W C f call body S Q):GW C f call body Q (.normal,S):=⟨rfl,h⟩
theorem ah8{step:α→σ→Option (gu σ bQ)}{ys:List α}{eZ:σ}{w9:σ→Option ρ}{pg w8:bQ→Option ρ}(rep:σ→ah)(fD:bQ→ah)(j:Nat)(hF:(gb step ys eZ).bind (gu.on w9 pg w8)=some r)(hg:zZ C (un true (S.get C br))=some (ys.map enc))(h0:dn (xB C f assign body) S=some (rep eZ))(R:α→σ→ah)(hR:∀y s,Dd (rep s) ps.toList (enc y)=some (R y s))(round:∀y s z,step y s=some z→W C f call assign (R y s) (GW C f call body (DV (xB C f assign body) rep fD j z)))(aq:∀s,w9 s=some r→Q (.normal,rep s))(pr:∀s,pg s=some r→Q (.ret,fD s))(C4:∀s,w8 s=some r→Q (.exit j,fD s)):W C f call (.rangeFunc br ps assign body) S Q:=by obtain⟨v,h1,h2⟩:=Option.bind_eq_some_iff.1 hF;have key:∀(ys:List α)(s:σ),gb step ys s=some v→∃x,qa (fun bE=>(cq C f call jJ assign bE).bind fun x=>match x.1 with| .normal=>cq C f call jJ body x.2|_=>none) (dn (xB C f assign body)) ps.toList (ys.map enc) (rep s)=some x∧Q x:=by{intro ys;induction ys with|nil=>(intro s h;simp only[gb,GE]at h;subst h;exact⟨_,rfl,aq s h2⟩)|cons y ys ih=>intro s h;simp only[gb,Option.bind_eq_some_iff]at h;obtain⟨z,hz,h⟩:=h;obtain⟨⟨e,bE⟩,g1,rfl,⟨e2,cU⟩,g2,g3⟩:=round y s z hz;simp only[Hc,qa,hR,AC,g1,g2];cases z with|go s'=>(obtain⟨rfl,g3⟩:=g3;simp only at g3;simp only[g3,AC];exact ih s' h)|ret s'=>(obtain⟨rfl,g3⟩:=g3;simp only[GE]at h;subst h;simp only at g3;simp only[g3,AC];exact⟨_,rfl,pr s' h2⟩)|ex s'=>obtain⟨rfl,g3⟩:=g3;simp only[GE]at h;subst h;simp only at g3;simp only[g3,AC];exact⟨_,rfl,C4 s' h2⟩};obtain⟨x,h3,h4⟩:=key ys eZ h1;refine⟨x, ?_,h4⟩;simp only[cq,hg,AC,h0];exact h3
theorem LA{step:α→σ→Option (gu σ bQ)}{ys:List α}{eZ:σ}{w9:σ→Option ρ}{pg w8:bQ→Option ρ}(rep:σ→ah)(fD:bQ→ah)(j:Nat)(hF:(gb step ys eZ).bind (gu.on w9 pg w8)=some r)(hg:zZ C (un true (S.get C br))=some (ys.map enc))(h0:dn (xB C f assign body) S=some (rep eZ)){n:Nat}(hn:∀s,(rep s).n=n)(hl:∀y,ps.toList.length=(enc y).length)(hp:(ps.toList.all fun p=>Nat.blt p n)=true)(round:∀y s z,step y s=some z→W C f call assign ⟨(rep s).n,tf (rep s).t (ps.toList.zip (enc y)),(rep s).h⟩ (GW C f call body (DV (xB C f assign body) rep fD j z)))(aq:∀s,w9 s=some r→Q (.normal,rep s))(pr:∀s,pg s=some r→Q (.ret,fD s))(C4:∀s,w8 s=some r→Q (.exit j,fD s)):W C f call (.rangeFunc br ps assign body) S Q:=ah8 rep fD j hF hg h0 (fun y s=>⟨(rep s).n,tf (rep s).t (ps.toList.zip (enc y)),(rep s).h⟩) (fun y s=>by unfold Dd;rw[if_pos ⟨hl y,by rw[List.all_eq_true]at hp⊢;intro p Ff;rw[decide_eq_true_eq,hn];exact of_decide_eq_true (lU (hp p Ff))⟩]) round aq pr C4
theorem Gj{o:Option (Bool×List Nat)}{z:gu σ bQ}{s:σ}{S:ah}(hF:some (gu.go s)=some z)(h:dn o S=some (rep s)):DV o rep fD j z (.normal,S):=by cases hF;exact⟨rfl,h⟩
theorem Gk{o:Option (Bool×List Nat)}{z:gu σ bQ}{s:bQ}{S:ah}(hF:some (gu.ret s)=some z)(h:dn o S=some (fD s)):DV o rep fD j z (.ret,S):=by cases hF;exact⟨rfl,h⟩
end
section
variable{C:aF}{f:FuncId}{call:fO}{c:Code}{Q:Exit×ah→Prop}{n:Nat}{t t2:Nat→U}{h:Id→Option (Option Rows)}{l:List Nat}{vs:List U}{zs:List (Nat×U)}
theorem SP(k:W C f call c ⟨n,t2,h⟩ Q)(hm:aO n l vs=⟨n,t,h⟩:=by exact FC)(ht:tf t zs=t2:=by exact rfl):W C f call c ⟨(aO n l vs).n,tf (aO n l vs).t zs,(aO n l vs).h⟩ Q:=by subst ht;rw[hm];exact k
theorem aii{l:List (Nat×U)}{h:List (Id×Rows)}(k:W C f call c ⟨n,t2,jq h⟩ Q)(ht:tf (cT (fun _=> .bp) l) zs=t2:=by exact rfl):W C f call c ⟨(dR n l h).n,tf (dR n l h).t zs,(dR n l h).h⟩ Q:=by subst ht;exact k
end
end Go.Ab
namespace Go.Ab
open Go
section
variable{C:aF}{f:FuncId}{call:fO}{S:ah}{g:Bool}{d:Nat}{ty:TypeId}{pos:String}{aV:Array Edge}{bD:Option (Nat×Bool)}
end
end Go.Ab
namespace Go.Ab
open Go
section
variable{n:Nat}{t:Nat→U}{h L:Id→Option (Option Rows)}
/-! ### Opened, frozen -/
theorem aH{p s row off:Nat}{id:Id}{r r':List U}{x:Id×Option Rows}{wr:List (Id×Option Rows)}(hs:t s= .mp id row off:=by exact rfl)(hid:h id=some (some [r]):=by exact rfl)(hu:bM [p,s] 0 r=(r',x::wr):=by exact tv)(JI:Nat.blt s n=true:=by exact rfl)(hf:fresh h (x::wr)=true:=by exact rfl):qv p ⟨n,t,h⟩ s=some ⟨n,t,bk h ((id,some [r'])::x::wr)⟩:=agD hs hid hu JI hf
theorem RW{p s row off:Nat}{id:Id}{r r':List U}(hs:t s= .mp id row off:=by exact rfl)(hid:h id=some (some [r]):=by exact rfl)(hu:bM [p,s] 0 r=(r',[]):=by exact tv):qv p ⟨n,t,h⟩ s=some ⟨n,t,h⟩:=by unfold qv;simp only[hs,hid,hu,List.isEmpty_nil,if_true]
def ad4:U→Bool| .rs _ _ _| .cu| .mr _=>true|_=>false
theorem Bs{s:Nat}{v v':U}{ids:List Id}{wr:List (Id×Option Rows)}(hl:ad4 (t s)=true:=by exact rfl)(hp:pk h 9 (t s)=some (v,ids):=by exact mh)(hf:dJ v=v':=by exact Br)(hn:dQ ids=true:=by exact rfl)(hw:(ids.map fun i=>(i,none))=wr:=by exact spine):nk ⟨n,t,h⟩ s=some ⟨n,ak t s v',bk h wr⟩:=by have e:nU ⟨n,t,h⟩ s=some ⟨n,ak t s v',bk h wr⟩:=by{subst hf hw;simp only[nU,hp,hn,if_true]};rw[←e];cases hts:t s<;>rw[hts]at hl<;>first|(unfold nk;simp only[hts];done)|cases hl
theorem aaF{s:Nat}(hl:t s= .cu:=by exact rfl):nk ⟨n,t,h⟩ s=some ⟨n,ak t s (.sl []),h⟩:=by simp only[nk,hl,nU,pk,dQ,if_true];rfl
/-! ### Names of what arguments lead to -/
def QX:U→Bool| .fn _ as cs=> !(as.isEmpty&&cs.isEmpty)| .rs _ _ _=>true| .mp _ _ _=>true| .mr _=>true| .agg _=>true|_=>false
variable{m j:Nat}{b:Bool}{p i:Id}{acc acc' nM y l:List (Id×Id)}{a:U}{as cs dX:List U}
theorem NX(hx:dX=[])(e:acc=y):dU L m b p j acc dX=y:=by subst hx;cases m<;>exact e
theorem Yg(hx:dX=a::as)(hs:QX a=false)(k:dU L m b p (j+1) acc as=y):dU L (m+1) b p j acc dX=y:=by subst hx;cases a with|fn f xs cs=>(simp only[QX,Bool.not_eq_false',Hd,List.isEmpty_iff]at hs;obtain⟨rfl,rfl⟩:=hs;have e:dU L m true (j::p) 0 acc ([]++[])=acc:=by{cases m<;>rfl};simp only[dU,e];exact k)|_=>first|exact k|cases hs
theorem Ye{o q:Nat}(hx:dX= .rs i o q::as)(hn:(!b||(fU acc i).isSome)=false)(hl:acc++[(i,j::p)]=acc')(k:dU L m b p (j+1) acc' as=y):dU L (m+1) b p j acc dX=y:=by subst hx hl;simp only[dU,hn];exact k
theorem Yf{o q:Nat}(hx:dX= .rs i o q::as)(hn:(!b||(fU acc i).isSome)=true)(k:dU L m b p (j+1) acc as=y):dU L (m+1) b p j acc dX=y:=by subst hx;simp only[dU,hn];exact k
theorem Yc{o q:Nat}(hx:dX= .mp i o q::as)(hn:(fU acc i).isSome=false)(hh:L i=some (some [cs]))(hl:acc++[(i,j::p)]=acc')(h1:dU L m false (j::p) 0 acc' cs=nM)(k:dU L m b p (j+1) nM as=y):dU L (m+1) b p j acc dX=y:=by subst hx hl h1;simp only[dU,hn,hh];exact k
theorem Yd{o q:Nat}(hx:dX= .mp i o q::as)(hn:(fU acc i).isSome=true)(k:dU L m b p (j+1) acc as=y):dU L (m+1) b p j acc dX=y:=by subst hx;simp only[dU,hn];exact k
theorem Ya(hx:dX= .agg cs::as)(h1:dU L m b (j::p) 0 acc cs=nM)(k:dU L m b p (j+1) nM as=y):dU L (m+1) b p j acc dX=y:=by subst hx h1;simp only[dU];exact k
theorem Yb{f:Fn}{xs:List U}(hx:dX= .fn f xs cs::as)(h1:dU L m true (j::p) 0 acc (xs++cs)=nM)(k:dU L m b p (j+1) nM as=y):dU L (m+1) b p j acc dX=y:=by subst hx h1;simp only[dU];exact k
theorem NY(k:dU L m b p j acc dX=y:=by(repeat'(first|((with_reducible apply NX);(with_reducible exact rfl);exact rfl)|((with_reducible apply Yg);exact rfl;first|exact rfl|exact al2|exact al3)|((with_reducible apply Ye);exact rfl;exact rfl;exact spine)|((with_reducible apply Yf);exact rfl;exact rfl)|((with_reducible apply aka);exact rfl;exact rfl;exact spine)|((with_reducible apply akb);exact rfl;exact rfl)|((with_reducible apply Yd);exact rfl;exact rfl)|((with_reducible apply Yc);exact rfl;exact rfl;exact rfl;exact spine)|((with_reducible apply Ya);exact rfl)|((with_reducible apply Yb);exact rfl)|(apply NX;exact rfl;exact rfl)));first|done|fail):dU L m b p j acc dX=y:=k
/-! ### The objects that go -/
variable{o k:Id}{r l':List (Id×Id)}{rows x1 bh:Rows}{i1 i2 gone ids:List Id}{obs outs:List U}{keep:Id→Bool}{back:List (Id×Option Rows)}
theorem YP(hf:ef rows=true):nh L keep rows=some (rows,[]):=by simp only[nh,hf,if_true]
theorem YQ(hf:ef rows=false)(hc:dO (lz L keep) rows=some (bh,ids)):nh L keep rows=some (bh,ids):=by simp[nh,hf,hc]
theorem Ob{y:Option (Rows×List Id)}(k:nh L keep rows=y:=by(repeat'(first|(apply YP;first|exact nT _|exact rfl|exact Ia)|(apply akh;exact rfl;exact rfl;(first|(with_reducible assumption)|assumption);exact inferInstance;rotate_left;exact rfl)|(apply YQ;exact rfl)|exact O5|(apply O6;exact rfl)|exact YO|(apply Oa;exact rfl)|exact HB|exact HC|exact NS|exact HD|(apply NU;exact rfl;exact rfl;exact mh)|(apply HE;exact rfl;exact rfl;exact mh)|(apply NT;exact rfl;exact rfl;exact mh)|(apply A2;first|exact rfl|exact OU|exact OX|exact OV)|exact NR|exact yM|(apply Bl;exact rfl)));first|done|fail):nh L keep rows=y:=k
theorem afR:iE L l []=some ([],[]):=rfl
theorem afQ(h:L o=some (some rows))(hc:nh L (s3 l) rows=some (x1,i1))(hr:mm l x1=some bh)(hy:iE L l r=some (obs,gone)):iE L l ((o,k)::r)=some (.bf k bh::obs,i1++gone):=by simp[iE,h,hc,hr,hy]
theorem RH{y:Option (List U×List Id)}(k:iE L l r=y:=by(repeat'(first|exact afR|(apply afQ;exact rfl;exact Ob;(first|exact Lx|exact Ly|exact Lz))));first|done|fail):iE L l r=y:=k
theorem Xm:iK l' [] []=some []:=rfl
theorem Xk(hr:mm l' rows=some bh)(hy:iK l' r outs=some back):iK l' ((o,k)::r) (.bf k rows::outs)=some ((o,some bh)::back):=by simp[iK,hr,hy]
theorem Xl(hy:iK l' r outs=some back):iK l' ((o,k)::r) (.bp::outs)=some ((o,none)::back):=by simp[iK,hy]
theorem Yj:j3 L []=[]:=rfl
theorem Yi{x:Id×Option Rows}{gK:List (Id×Option Rows)}(hs:rP L x=true)(k:j3 L gK=back):j3 L (x::gK)=back:=by unfold j3 at*;rw[Hm (by simp[hs])];exact k
theorem Yh{x:Id×Option Rows}{gK:List (Id×Option Rows)}(hs:rP L x=false)(k:j3 L gK=back):j3 L (x::gK)=x::back:=by unfold j3 at*;rw[Hn (by simp[hs]),k]
theorem aiF{α:Type}{c:α→List U}[hc:iH c]{q:List α}:rP L (o,some (q.map c))=false:=by cases h:rP L (o,some (q.map c))with|false=>(rfl)|true=>exfalso;unfold rP at h;split at h;·{rename_i h1 h2;simp only[GE]at h2;have:ef (q.map c)=true:=nT q;rw[h2]at this;simp[ef,cK,flat]at this};·cases h
theorem N0{gK:List (Id×Option Rows)}{y:List (Id×Option Rows)}(k:j3 L gK=y:=by(repeat'(first|exact Yj|(apply Yi;exact rfl)|(apply Yh;first|exact aiF|exact rfl)));first|done|fail):j3 L gK=y:=k
theorem Nz{y:Option (List (Id×Option Rows))}(k:iK l' r outs=y:=by(repeat'(first|exact Xm|(apply Xk;(first|exact Lx|exact Ly|exact Lz))|apply Xl));first|done|fail):iK l' r outs=y:=k
/-! Values under other names -/
theorem aij(hf:flat a=true):eY l a=a:=by cases a with|agg cs=>(simp only[flat]at hf;simp[eY,Da hf])|aT cs=>(simp only[flat]at hf;simp[eY,Da hf])|fn f as cs=>(simp only[flat,Hd]at hf;simp[eY,Da hf.1,Da hf.2])|rs _ _ _=>(simp[flat]at hf)|mp _ _ _=>(simp[flat]at hf)|mr _=>(simp[flat]at hf)|c8 _ _=>(simp[flat]at hf)|cu=>(simp[flat]at hf)|_=>simp only[eY,uY,z7];rw[if_pos hf]
theorem ZK(hf:cK cs=true):flat (.agg cs)=true:=hf
theorem ZT(hf:cK cs=true):flat (.aT cs)=true:=hf
theorem ZM{α:Type}{c:α→List U}{x:α}[hc:iH c]:cK (c x)=true:=hc.fl x
theorem Ie{a:U}(k:flat a=true:=by(repeat'(first|exact rfl|exact ZL|exact ZP|exact OW|(with_reducible apply ZK)|(with_reducible apply ZT)|exact ZM|exact ZO|(apply OT;exact rfl)));first|done|fail):flat a=true:=k
theorem LH{a':U}(k:eY l a=a':=by first|(refine aij ?_;exact Ie)|exact rfl):eY l a=a':=k
theorem ah6(hx:dX=[]:=by exact rfl):dX.map (eY l)=[]:=by subst hx;rfl
theorem ah5{a':U}{bs:List U}(hx:dX=a::as)(h:eY l a=a')(k:as.map (eY l)=bs):dX.map (eY l)=a'::bs:=by subst hx h k;rfl
theorem S8{bs:List U}(k:dX.map (eY l)=bs:=by(repeat'(first|exact ah6|(apply ah5;exact rfl;exact LH)));first|done|fail):dX.map (eY l)=bs:=k
end
section
variable{C:aF}{f:FuncId}{call:fO}{S:ah}{g:Bool}{d:Nat}{ty:TypeId}{pos:String}{aV:Array Edge}{bD:Option (Nat×Bool)}
variable{cN:Operand}{ts:Array TypeId}{dr:FuncId}{as bs args z1 obs outs CM amJ:List U}{l:List (Id×Id)}{gone:List Id}{r v v':U}{back Eb jR wr:List (Id×Option Rows)}{xs:Array Operand}
theorem Zy{d':Option Tmp}(hfo:un g (S.get C cN)= .fn (.func dr) as bs)(dY:C.gU dr=true):bC C f call S g ⟨d', .call ⟨.value cN,xs,ts⟩,ty,pos,aV,bD⟩=pZ C f call S ⟨d', .call ⟨.value cN,xs,ts⟩,ty,pos,aV,bD⟩ dr (as++(xs.toList.map fun x=>un g (S.get C x))++bs):=by show(match nq C (un g (S.get C cN))with|some x=>pZ C f call S _ x.1 (x.2.1++(xs.toList.map fun x=>un g (S.get C x))++x.2.2)|none=>_)=_;have:nq C (un g (S.get C cN))=some (dr,as,bs):=by{rw[hfo];simp[nq,dY]};rw[this]
theorem NO(hc:call dr (.aT obs::z1)=some (r,outs))(hfo:un g (S.get C cN)= .fn (.func dr) as bs)(dY:C.gU dr=true)(ha:as++(xs.toList.map fun x=>un g (S.get C x))++bs=args)(hl:dU S.h 60 true [iD] 0 [] args=l)(ho:iE S.h l l=some (obs,gone))(B3:args.map (eY l)=z1)(sM:(dQ (l.map (·.1))&&dQ (l.map (·.2))&&(l.all fun x=>jI x.2)&&dQ gone&&sr gone (l.map (·.1)))=true)(hb:iK (l.map fun x=>(x.2,x.1)) l outs=some back)(hp:zw r=false)(hv:eY (l.map fun x=>(x.2,x.1)) (if eK C f (some d)then(if flat r then dJ r else .bp)else r)=v)(hi:imp [d] v=(v',jR))(hf:fresh S.h jR=true)(hw:jR++(j3 S.h back++gone.map fun i=>(i,none))=wr):bC C f call S g ⟨some d, .call ⟨.value cN,xs,ts⟩,ty,pos,aV,bD⟩=some ⟨[(d,v')],l.map (·.1),wr⟩:=by rw[Zy hfo dY,ha];subst hw;have e:q8 call S.h dr args=some ⟨r,l,back,gone⟩:=by{unfold q8 Bu;rw[hl,ho];simp only[sM,if_true,B3,hc,hb,GT]};unfold pZ;rw[e];simp only[AC,hp,Hk,if_false,iL,hv,hi,hf,if_true];rfl
theorem dz(hc:call dr (.aT obs::z1)=some (r,outs)){rd:List Id}(hfo:un g (S.get C cN)= .fn (.func dr) as bs:=by exact rfl)(dY:C.gU dr=true:=by exact rfl)(ha:as++(xs.toList.map fun x=>un g (S.get C x))++bs=args:=by exact spine)(hl:dU S.h 60 true [iD] 0 [] args=l:=by exact NY)(ho:iE S.h l l=some (CM,gone):=by exact RH)(wP:CM=obs:=by exact rfl)(B3:args.map (eY l)=z1:=by exact S8)(sM:(dQ (l.map (·.1))&&dQ (l.map (·.2))&&(l.all fun x=>jI x.2)&&dQ gone&&sr gone (l.map (·.1)))=true:=by exact rfl)(hb:iK (l.map fun x=>(x.2,x.1)) l outs=some back:=by exact Nz)(hp:zw r=false:=by exact rfl)(hz:(C.eD f).contains d=false:=by exact rfl)(hv:eY (l.map fun x=>(x.2,x.1)) r=v:=by exact LH)(hi:imp [d] v=(v',jR):=by exact wZ)(hf:fresh S.h jR=true:=by exact rfl)(jm:j3 S.h back=Eb:=by exact N0)(hw:jR++(Eb++gone.map fun i=>(i,none))=wr:=by exact spine)(hrd:l.map (·.1)=rd:=by exact spine):bC C f call S g ⟨some d, .call ⟨.value cN,xs,ts⟩,ty,pos,aV,bD⟩=some ⟨[(d,v')],rd,wr⟩:=by subst hrd wP;exact NO hc hfo dY ha hl ho B3 sM hb hp (by simp only[eK,hz,Hk,if_false];exact hv) hi hf (by rw[jm];exact hw)
theorem aW(hc:call dr (.aT obs::z1)=some (r,outs)){rd:List Id}{v0:U}(hfo:un g (S.get C cN)= .fn (.func dr) as bs:=by exact rfl)(dY:C.gU dr=true:=by exact rfl)(ha:as++(xs.toList.map fun x=>un g (S.get C x))++bs=args:=by exact spine)(hl:dU S.h 60 true [iD] 0 [] args=l:=by exact NY)(ho:iE S.h l l=some (CM,gone):=by exact RH)(wP:CM=obs:=by exact rfl)(B3:args.map (eY l)=z1:=by exact S8)(sM:(dQ (l.map (·.1))&&dQ (l.map (·.2))&&(l.all fun x=>jI x.2)&&dQ gone&&sr gone (l.map (·.1)))=true:=by exact rfl)(hb:iK (l.map fun x=>(x.2,x.1)) l outs=some back:=by exact Nz)(hp:zw r=false:=by exact rfl)(hz:(C.eD f).contains d=true:=by exact rfl)(hfl:flat r=true:=by exact Ie)(hfz:dJ r=v0:=by exact Br)(hv:eY (l.map fun x=>(x.2,x.1)) v0=v:=by exact LH)(hi:imp [d] v=(v',jR):=by exact wZ)(hf:fresh S.h jR=true:=by exact rfl)(jm:j3 S.h back=Eb:=by exact N0)(hw:jR++(Eb++gone.map fun i=>(i,none))=wr:=by exact spine)(hrd:l.map (·.1)=rd:=by exact spine):bC C f call S g ⟨some d, .call ⟨.value cN,xs,ts⟩,ty,pos,aV,bD⟩=some ⟨[(d,v')],rd,wr⟩:=by subst hrd wP;exact NO hc hfo dY ha hl ho B3 sM hb hp (by simp only[eK,hz,if_true,hfl,hfz];exact hv) hi hf (by rw[jm];exact hw)
end
/-! ### Functions -/
def vn:Nat→List U→List (Nat×U)|_,[]=>[]|i,p::ps=>(i,p)::vn (i+1) ps
theorem Mv:∀(ps:List U)(i t:Nat),cT (fun _=> .bp) (vn i ps) t=if t<i then .bp else ps.getD (t-i) .bp|[],i,t=>by{simp[vn,cT]}|p::ps,i,t=>by simp only[vn,cT,ak];by_cases e:t=i;·{subst e;simp};·rw[if_neg e,Mv ps (i+1) t];by_cases h1:t<i;·{rw[if_pos h1,if_pos (by omega)]};·rw[if_neg h1,if_neg (by omega),show t-i=(t-(i+1))+1 by omega];rfl
def xW(C:aF)(f:FuncId)(rv:List ResultVar)(ks:List Id)(r:U)(outs:List U)(x:Exit×ah):Prop:=(x.1= .ret∨x.1= .normal)∧∃S al vs i1 i2,n7 (C.q3 f) x.2=S∧(ks.filter fun k=>mb (S.h k))=al∧lP C S (mC S.h fun i=>al.contains i) rv=some (vs,i1)∧k5 S.h (fun i=>al.contains i) ks=some (outs,i2)∧dQ (al++(i1++i2))=true∧uT vs=r
section
variable{C:aF}{f:FuncId}{S:ah}{rv:List ResultVar}{ks al:List Id}{vs outs outs' cs cs':List U}{ids is i1 i2:List Id}{r v v' x:U}{p:U→Option (U×List Id)}{L:Id→Option (Option Rows)}{keep:Id→Bool}{rows bh:Rows}{k:Id}{T:TypeId}
theorem aib:lP C S p []=some ([],[]):=rfl
theorem aid{t:Nat}(h:p (un true (S.t t))=some (v,ids))(hr:lP C S p rv=some (vs,is)):lP C S p (.tmp t::rv)=some (v::vs,ids++is):=by show(u0 C S p (.tmp t)).bind _=_;simp only[u0,h,AC,hr,GT]
theorem aic{a m:Nat}{id:Id}{bb:Bool}{r:List U}[ha:cR C T bb m](hx:un true (S.t a)= .mp id 0 0)(hh:S.h id=some (some [r]))(hl:Ha m r.length=true)(hv:iR bb (r.take m)=some v)(h:p v=some (v',ids))(hr:lP C S p rv=some (vs,is)):lP C S p (.cell a T::rv)=some (v'::vs,id::ids++is):=by show(u0 C S p (.cell a T)).bind _=_;have hl':0+m≤r.length:=by{have:=Hb hl;omega};simp only[u0,ha.jZ,ha.sz,hx,hh,List.getElem?_cons_zero,if_pos hl',List.drop_zero,hv,AC,h,hr,GT]
theorem N1:∀{cs:List U},cK cs=true→dN (gL L keep) cs=some (cs,[])|[],_=>rfl|c::cs,h=>by simp only[cK,Hd]at h;simp only[dN,A2 h.1,AC,N1 h.2,GT];rfl
theorem YY(hf:flat x=true):mC L keep x=some (x,[]):=by cases x with|agg cs=>(simp only[flat]at hf;simp only[mC,N1 hf,GT])|_=>exact A2 (h:=L) (keep:=keep) hf
theorem YW(hx:x= .agg cs:=by exact rfl)(h:dN (gL L keep) cs=some (cs',ids)):mC L keep x=some (.agg cs',ids):=by subst hx;simp only[mC,h,GT]
def isAgg:U→Bool| .agg _=>true|_=>false
theorem Y2(hx:isAgg x=false)(h:gL L keep x=some (v,ids)):mC L keep x=some (v,ids):=by cases x<;>first|exact h|cases hx
theorem HN{y:Option (U×List Id)}(k:mC L keep x=y:=by(repeat'(first|(refine YY ?_;exact Ie)|(apply YW;exact rfl)|(apply Y2;exact rfl)|exact HB|exact HC|exact NS|exact HD|(apply NU;exact rfl;exact rfl;exact mh)|(apply HE;exact rfl;exact rfl;exact mh)|(apply NT;exact rfl;exact rfl;exact mh)|(apply A2;first|exact rfl|exact OU|exact OX|exact OV)|exact NR|exact yM|(apply Bl;exact rfl)));first|done|fail):mC L keep x=y:=k
theorem SV{y:Option (List U×List Id)}(h:lP C S (mC L keep) rv=y:=by repeat'(first|with_reducible exact aib|((with_reducible apply aid);exact HN)|((with_reducible apply aic);exact rfl;exact rfl;exact rfl;(first|exact FA|exact FB rfl);exact HN)|((with_reducible apply amT);exact rfl;exact rfl;(first|exact FA|exact FB rfl);exact HN))):lP C S (mC L keep) rv=y:=h
theorem afL:k5 L keep []=some ([],[]):=rfl
theorem afJ(h:L k=some (some rows))(hc:nh L keep rows=some (bh,i1))(hy:k5 L keep ks=some (outs,i2)):k5 L keep (k::ks)=some (.bf k bh::outs,i1++i2):=by simp[k5,h,hc,hy]
theorem afK(h:mb (L k)=false)(hy:k5 L keep ks=some (outs,i2)):k5 L keep (k::ks)=some (.bp::outs,i2):=by unfold k5;split;·{rename_i rows e;rw[e]at h;cases h};·rw[hy];rfl
theorem RG{y:Option (List U×List Id)}(h:k5 L keep ks=y:=by(repeat'(first|exact afL|(apply afJ;exact rfl;exact Ob)|(apply afK;exact rfl)));first|done|fail):k5 L keep ks=y:=h
theorem ZN{p:Id→Bool}:Do p []=([]:List Id):=rfl
theorem ZS{p:Id→Bool}{k:Id}{ks al:List Id}(h:p k=true)(hy:Do p ks=al):Do p (k::ks)=k::al:=by rw[Hn h,hy]
theorem ZU{p:Id→Bool}{k:Id}{ks al:List Id}(h:p k=false)(hy:Do p ks=al):Do p (k::ks)=al:=by rw[Hm (by simp[h]),hy]
theorem O3{p:Id→Bool}{y:List Id}(h:Do p ks=y:=by(repeat'(first|exact ZN|(apply ZS;exact rfl)|(apply ZU;exact rfl)));first|done|fail):Do p ks=y:=h
theorem ael{S:ah}{l:List Id}(hl:l=[]:=by exact rfl):n7 l S=S:=by subst hl;rfl
theorem aem{n:Nat}{t:Nat→U}{h:Id→Option (Option Rows)}{l l2:List Id}(hl:l=l2:=by exact spine):n7 l ⟨n,t,h⟩=⟨n,t,bk h (l2.map fun i=>(i,none))⟩:=by subst hl;rfl
theorem QM{S S':ah}{l:List Id}(k:n7 l S=S':=by first|exact ael|exact aem):n7 l S=S':=k
theorem dc{fH:ah}(hk:n7 (C.q3 f) fH=S:=by exact QM)(ha:(ks.filter fun k=>mb (S.h k))=al:=by exact O3)(h:lP C S (mC S.h fun i=>al.contains i) rv=some (vs,i1):=by exact SV)(ho:k5 S.h (fun i=>al.contains i) ks=some (outs',i2):=by exact RG)(wP:outs'=outs:=by exact rfl)(hn:dQ (al++(i1++i2))=true:=by exact rfl)(hr:uT vs=r:=by exact rfl):xW C f rv ks r outs (.ret,fH):=by subst wP;exact⟨.inl rfl,S,al,vs,i1,i2,hk,ha,h,ho,hn,hr⟩
theorem Ip{fH:ah}(hk:n7 (C.q3 f) fH=S:=by exact QM)(ha:(ks.filter fun k=>mb (S.h k))=al:=by exact O3)(h:lP C S (mC S.h fun i=>al.contains i) rv=some (vs,i1):=by exact SV)(ho:k5 S.h (fun i=>al.contains i) ks=some (outs',i2):=by exact RG)(wP:outs'=outs:=by exact rfl)(hn:dQ (al++(i1++i2))=true:=by exact rfl)(hr:uT vs=r:=by exact rfl):xW C f rv ks r outs (.normal,fH):=by subst wP;exact⟨.inr rfl,S,al,vs,i1,i2,hk,ha,h,ho,hn,hr⟩
theorem e9{fn:Func}{c:Code}{obs args:List U}{hl:List (Id×Rows)}{zs:List (Nat×U)}{nn N:Nat}(hf:C.P.funcs[f]? =some fn)(hn:fn.ntmps=N)(hr:fn.results.toList=rv)(k:mT iD (C.iT f iD) [] (fun fH=>W C f (den C nn) c fH (xW C f rv ks r outs)) ⟨N,cT (fun _=> .bp) zs,jq hl⟩)(hb:fn.body=some c:=by exact rfl)(he:C.ext f=none:=by exact rfl)(dY:C.gU f=true:=by exact rfl)(hl':Ha args.length N=true:=by exact rfl)(hN:Ha N iD=true:=by exact rfl)(ho:uN obs=some hl:=by exact rfl)(hz:vn 0 args=zs:=by exact spine)(hk:hl.map (·.1)=ks:=by exact spine)(hdf:oR C f c=false:=by exact rfl):den C (nn+1) f (.aT obs::args)=some (r,outs):=by obtain⟨fH,h0,bE,h1,⟨e,s⟩,h2,h3,VI,al,vs,i1,i2,BR,h4,h5,h6,h7,h8⟩:=k;simp only[kO,GE]at h1;subst h1;subst hr hn hz hk;show q4 C (den C nn) jJ f _=_;unfold q4;simp only[he,hf,hb,dY,if_true];unfold Bf;simp only[ho];rw[if_pos ⟨Hb hl',Hb hN⟩,hdf];simp only[Hk,if_false];have e0:xJ fn.ntmps args hl=⟨fn.ntmps,cT (fun _=> .bp) (vn 0 args),jq hl⟩:=by{unfold xJ;congr 1;funext t;rw[Mv];simp};rw[e0,h0];simp only[AC,h2];have cW:sG C fn (hl.map (·.1)) (n7 (C.q3 f) s)=some (r,outs):=by{simp only at BR;rw[BR];unfold sG;simp only[h4,h5,h6,h7,if_true];rw[←h8];congr 2;cases vs with|nil=>(rfl)|cons a l=>cases l<;>rfl};rcases h3 with h3|h3;·{simp only at h3;subst h3;exact cW};·simp only at h3;subst h3;exact cW
end
end Go.Ab
namespace Go.Ab
open Go
section
variable{C:aF}{f:FuncId}{call:fO}{S:ah}{A b c:Code}{o0 o1:Oper}{d:Nat}{Q:Exit×ah→Prop}
def DT(C:aF)(f:FuncId)(call:fO)(o0 o1:Oper)(d:Nat)(b:Code)(Q:Exit×ah→Prop)(x:Exit×ah):Prop:=match x.1 with| .normal=>dI C f call #[o0,o1] 0 [o0] [] x.2 fun _ bE=>∃k xs cs,bE.t d= .fn (.func k) xs cs∧C.nw k=true∧W C f call b bE Q|_=>Q x
theorem ahH(h:dI C f call #[o0,o1] 0 [o0] [] S fun _ bE=>∃k xs cs,bE.t d= .fn (.func k) xs cs∧C.nw k=true∧W C f call b bE Q):DT C f call o0 o1 d b Q (.normal,S):=h
theorem ahI(h:Q (.ret,S)):DT C f call o0 o1 d b Q (.ret,S):=h
theorem afg{ks:List iI}{i:Nat}{ops:Array Oper}{k:FuncId}{xs cs:List U}(h:W C f call b S Q)(hd:S.t d= .fn (.func k) xs cs:=by exact rfl)(hk:C.nw k=true:=by exact rfl):dI C f call ops i [] ks S fun _ bE=>∃k xs cs,bE.t d= .fn (.func k) xs cs∧C.nw k=true∧W C f call b bE Q:=nl ⟨k,xs,cs,hd,hk,h⟩
theorem Zd(k:W C f call A S (DT C f call o0 o1 d b Q))(hs:tn C f c=some (A,o0,o1,d,b))(hb:oR C f b=false):∃x,ji C f call jJ c S=some x∧Q x:=by obtain⟨⟨x,bE⟩,h1,h2⟩:=k;rw[ZD c hs,h1];simp only[AC];cases x with|normal=>(obtain⟨⟨cU,ks⟩,h3,k,xs,cs,h4,h5,y,h6,h7⟩:=h2;refine⟨y, ?_,h7⟩;simp only[Ex,h3,AC];simp only at h4;rw[h4];simp only[h5,if_true];rw[ZC b hb];exact h6)|_=>exact⟨_,rfl,h2⟩
theorem Z1{rv:List ResultVar}{ks:List Id}{r:U}{outs:List U}{fn:Func}{obs args:List U}{hl:List (Id×Rows)}{zs:List (Nat×U)}{nn N:Nat}(hf:C.P.funcs[f]? =some fn)(hn:fn.ntmps=N)(hr:fn.results.toList=rv)(k:mT iD (C.iT f iD) [] (fun fH=>W C f (den C nn) A fH (DT C f (den C nn) o0 o1 d b (xW C f rv ks r outs))) ⟨N,cT (fun _=> .bp) zs,jq hl⟩)(hb:fn.body=some c:=by exact rfl)(he:C.ext f=none:=by exact rfl)(dY:C.gU f=true:=by exact rfl)(hl':Ha args.length N=true:=by exact rfl)(hN:Ha N iD=true:=by exact rfl)(ho:uN obs=some hl:=by exact rfl)(hz:vn 0 args=zs:=by exact spine)(hk:hl.map (·.1)=ks:=by exact spine)(hs:tn C f c=some (A,o0,o1,d,b):=by exact rfl)(hdf:oR C f c=true:=by exact rfl)(hdb:oR C f b=false:=by exact rfl):den C (nn+1) f (.aT obs::args)=some (r,outs):=by obtain⟨fH,h0,bE,h1,h2⟩:=k;simp only[kO,GE]at h1;subst h1;obtain⟨⟨e,s⟩,aa6,h3,VI,al,vs,i1,i2,BR,h4,h5,h6,h7,h8⟩:=Zd h2 hs hdb;subst hr hn hz hk;show q4 C (den C nn) jJ f _=_;unfold q4;simp only[he,hf,hb,dY,if_true];unfold Bf;simp only[ho];rw[if_pos ⟨Hb hl',Hb hN⟩,hdf];simp only[if_true];have e0:xJ fn.ntmps args hl=⟨fn.ntmps,cT (fun _=> .bp) (vn 0 args),jq hl⟩:=by{unfold xJ;congr 1;funext t;rw[Mv];simp};rw[e0,h0];simp only[AC];rw[aa6];simp only[AC];have cW:sG C fn (hl.map (·.1)) (n7 (C.q3 f) s)=some (r,outs):=by{simp only at BR;rw[BR];unfold sG;simp only[h4,h5,h6,h7,if_true];rw[←h8];congr 2;cases vs with|nil=>(rfl)|cons a l=>cases l<;>rfl};rcases h3 with h3|h3;·{simp only at h3;subst h3;exact cW};·simp only at h3;subst h3;exact cW
end
end Go.Ab
namespace Go.Ab
open Go
theorem aaC{n s:Nat}{t:Nat→U}{h:Id→Option (Option Rows)}{rows:Rows}(hs:t s= .sl rows:=by exact rfl):nk ⟨n,t,h⟩ s=some ⟨n,t,h⟩:=by unfold nk;simp only[hs]
section
variable{C:aF}{f:FuncId}{call:fO}{S:ah}{g:Bool}{d:Nat}{t ty:TypeId}{pos:String}{aV:Array Edge}{bD:Option (Nat×Bool)}{x:Operand}
def qc(l:List ByteArray):U:= .sl (l.map fun s=>[.val (.string s)])
theorem Rs{α:Type}{c:α→U}{T:TypeId}{y:Operand}{k:IntKind}{e:TypeId}{m len:Nat}{bb:Bool}{i:Int}{r:α}{q:List α}(hi:idx q i=some r)[hu:c9 C T (.array len e)][hs:cR C e bb m](hx:un g (S.get C x)= .aI (q.map c):=by exact rfl)(hy:un g (S.get C y)= .val (.int k i):=by first|exact rfl|exact ck)(hm:m=1:=by exact rfl)(hl:q.length=len:=by exact rfl):bC C f call S g ⟨some d, .indexAddr T x y,ty,pos,aV,bD⟩=some ⟨[(d, .aI (c r::(q.map c).drop (i.toNat+1)))],[],[]⟩:=by show mD C S _ T (un g (S.get C x)) (ei (un g (S.get C y)))=_;have hb:=zm hi;have hn:=kf hi;subst hm hl;have hlt:i.toNat<q.length:=by{omega};have e1:(q.map c).drop (i.toNat*1)=c r::(q.map c).drop (i.toNat+1):=by{have:q[i.toNat]=r:=by{rw[List.getElem?_eq_getElem hlt]at hn;simpa using hn};rw[Nat.mul_one,List.drop_eq_getElem_cons (by simpa using hlt)];simp[this]};simp only[hx,hy,ei,mD,hu.ul,hs.sz];rw[if_pos ⟨hb.1,hb.2,by simp;omega⟩,e1];rfl
end
end Go.Ab
