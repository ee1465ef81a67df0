import Derived.Test.YtbbhbdlljfffdaaGreatDoorAbL0
import Derived.Test.YtbbhbdlljfffdaaGreatDoorAbGens
open ByteArray renaming mk->AC
open List renaming ext_getElem?->GE,getElem?_eq_none->GT
open Option renaming bind_some->Do
set_option linter.all false
namespace Go.Ab
open Go Go.Proofs
@[simp]theorem aoh{cv ρ β:Type}(f:cv->Option β)(g:ρ->Option β)(x:cv):cH.go f g (.dP x)=f x:=rfl
@[simp]theorem go_ret{cv ρ β:Type}(f:cv->Option β)(g:ρ->Option β)(x:ρ):cH.go f g (.ret x)=g x:=rfl
def gF(a lo hi:Int):Bool:=decide (lo<=a)&&decide (a<=hi)
theorem ID(a b:Bool):(if a then b else false)=(a&&b):=by cases a<;>rfl
theorem Ss(a b:Bool):(if a then true else b)=(a||b):=by cases a<;>rfl
@[simp]theorem akf(a b c:Int):AP a b c=some (gF a b c):=by simp only[AP,gF,ID]
@[simp]theorem Qv(a b:Int):qN a b=some ⟨a,b⟩:=rfl
@[simp]theorem ake(a b:Int):sR a b=some ⟨a,b⟩:=rfl
theorem IS:maxLen=9223372036854775807:=rfl
theorem xu{i:Nat}{n:Nat}(h:i<n):decide ((i:Int)<(n:Int))=true:=by simp[h]
theorem xw{n:Nat}:decide ((n:Int)<(n:Int))=false:=by simp
theorem mW{α:Type}{a b:List α}(h:a.length+b.length<=4294967296):app a b=some (a++b):=if_pos h
theorem ZZ(a b:Bool):(if a=true then some true else some b)=some (a||b):=by cases a<;>rfl
/-! ### Names -/
def IM(c:Int):Bool:=gF c 97 122||gF c 65 90||c==95
def y2(c:Int):Bool:=gF c 48 57
def KB(c:UInt8):Bool:=IM c.toNat||y2 c.toNat
def sB(s:ByteArray):Bool:=gF s.size 1 12&&(match s.data.toList with|[]=>false|c::_=> !y2 c.toNat)&&s.data.toList.all KB
@[simp]theorem aqn(c:Int):vT c=some (IM c):=by simp only[vT,IM,gF,ID,Ss]
@[simp]theorem aqg(c:Int):rA c=some (y2 c):=by simp only[rA,y2,gF,ID]
def mB(k:Int):Bool:=gF k 31 40
def sW(k:Int):Bool:=gF k 11 18||gF k 21 24
def IK(k:Int):Bool:=gF k 1 4||gF k 11 24||mB k
def tR(k:Int):Bool:=k==2||k==3||k==4||k==12||k==32||k==33
def MJ(k:Int):Int×Int:=if k==1||k==11||k==33 then(0,1099511627776)else if k==3||k==18 then(1,1099511627776)else if k==2 then(0,200)else if k==12||k==23 then(0,1)else if k==13||k==19||k==35||k==40 then(1,1)else if k==14 then(2,3)else if k==15||k==16||k==34||k==36||k==37||k==39 then(2,2)else if k==38 then(3,3)else if k==17 then(4,4)else(0,0)
def wK(k m:Int):Bool:=decide ((MJ k).1<=m)&&((MJ k).2==1099511627776||decide (m<=(MJ k).2))
def nN(k i m c:Int):Bool:=if k==1 then c==2||c==3 else if k==3 then(if i==bw (m-1)then c==11 else c==4)else if k==11 then sW c else if k==18&&decide (0<i)then sW c||c==19||c==20 else if(((k==14||k==15)&&decide (0<i))||(k==16&&i==0))||(k==17&&i==3)then c==11 else if k==17&&i==0 then c==12||c==13||c==24 else if k==17&&i==1 then mB c||c==24 else if k==17&&i==2 then c==13||c==24 else mB c
/-! ### Numbers -/
def sF(n:aE):Bool:=if n.Kind==2&&n.N==3 then gF n.nK 1 200&&decide ((n.Kids.length:Int)<=n.nK)else if n.nK !=0 then false else if n.Kind==2 then gF n.N 1 2&&decide ((n.Kids.length:Int)<2)else if n.Kind==3 then gF n.N 0 2 else if n.Kind==4||n.Kind==12 then gF n.N 1 2 else if n.Kind==31 then decide (0<=n.N)else if n.Kind==40 then gF n.N 0 1 else n.N==0
def kY(l:List ByteArray)(s:ByteArray):Bool:=l.any fun x=>x.toList==s.toList
theorem BM{α ρ:Type}(p:α->Bool)(r:ρ):∀(l:List α)(i:Nat),p5 (fun _ x=>if p x then some r else none) i l=if l.any p then some r else none|[],_=>rfl|x::l,i=>by simp only[p5,List.any_cons];by_cases hp:p x=true;·{simp[hp]};·simpa[hp]using BM p r l (i+1)
theorem Jp(l:List ByteArray)(s:ByteArray)(hl:l.length<=maxLen):nA l s=some (kY l s):=by have hm:=IS;have:Loop (fun i=>oR l s i) 0=some (Hy (if kY l s then some true else none)):=by{unfold kY;rw[<-BM _ true l 0];refine Bc (l:=l) (fun _ x=>if x.toList==s.toList then some true else none) (fun i h=> ?_) ?_;·{unfold oR;simp only[xu h,if_true,pn h,Do,iy (i:=i) (by omega)];cases l[i].toList==s.toList<;>rfl};·unfold oR;simp only[xw];rfl};unfold nA;rw[this];cases kY l s<;>rfl
abbrev GD:List ByteArray:=[(AC #[43]),(AC #[45]),(AC #[42]),(AC #[47]),(AC #[37]),(AC #[38]),(AC #[124]),(AC #[94]),(AC #[60,60]),(AC #[62,62])]
abbrev QB:List ByteArray:=[(AC #[61,61]),(AC #[33,61]),(AC #[60]),(AC #[60,61]),(AC #[62]),(AC #[62,61])]
abbrev TR:List ByteArray:=[(AC #[45]),(AC #[33]),(AC #[126]),(AC #[42]),(AC #[38])]
theorem alu{s:ByteArray}{n:Nat}(h:n<=s.size):fc s none (some (n:Int))=some (s.extract 0 n):=by unfold fc bounds;simp[h]
def nE(k:Int)(s:ByteArray):Bool:=if k==35 then kY TR s else if k==36 then kY GD s||kY QB s else if k==37 then(s.toList==(AC #[38,38]).toList||s.toList==(AC #[124,124]).toList)else if k==39 then(s.toList==(AC #[61]).toList||(decide (1<s.size)&&(match s[s.size-1]? with|some c=>c.toNat==61|none=>false)&&kY GD (s.extract 0 (s.size-1))))else if k==40 then(s.toList==(AC #[43,43]).toList||s.toList==(AC #[45,45]).toList)else s.toList==(AC #[]).toList
theorem ali{s:ByteArray}(h:0<s.size)(hl:s.size<=maxLen):∃c,cr s (bw ((s.size:Int)-1))=some c∧s[s.size-1]? =some c:=by have hm:=IS;rw[jC (by omega) (by omega)];unfold cr;rw[if_pos (by omega),show((s.size:Int)-1).toNat=s.size-1 by omega];rw[getElem?_pos s (s.size-1) (by omega)];exact⟨_,rfl,rfl⟩
theorem akz(k:Int)(s:ByteArray)(hl:s.size<=maxLen):CT k s=some (nE k s):=by have hm:=IS;unfold CT nE;rw[Jp TR s (by decide),Jp GD s (by decide),Jp QB s (by decide)];simp only[Do,ZZ,Ss];split;·{rfl};·split;·{rfl};·split;·{rfl};·split;·{by_cases h1:(s.toList==(AC #[61]).toList)=true;·{simp only[h1,if_true,Bool.true_or,Do]};·have h1':(s.toList==(AC #[61]).toList)=false:=by{simpa using h1};simp only[h1',Bool.false_eq_true,if_false,Bool.false_or];by_cases h2:1<s.size;·{obtain⟨c,hc,jI⟩:=ali (s:=s) (by omega) hl;rw[if_pos (by simp only[decide_eq_true_eq];omega),hc,jI,Option.bind_some];by_cases h3:c.toNat=61;·{have qR:((c.toNat:Int)==61)=true:=by{simpa using(by omega:(c.toNat:Int)=61)};have e:bw ((s.size:Int)-1)=((s.size-1:Nat):Int):=by{rw[jC (by omega) (by omega)];omega};rw[if_pos qR,e,alu (by omega),Option.bind_some,Jp GD _ (by decide)];simp[h2,h3]};·have qR:((c.toNat:Int)==61)=false:=by{simpa using(by omega:¬(c.toNat:Int)=61)};simp[qR,h3]};·have:¬(1<(s.size:Int)):=by{omega};simp[h2,this]};·split<;>rfl
theorem Ds{S cv:Type}{step:S->Option (cx S cv)}{iw:S}(st:Nat->S)(n:Nat)(r:cv)(h0:st 0=iw)(hs:∀i,i<n->step (st i)=some (.next (st (i+1))))(he:step (st n)=some (.out r)):Loop step iw=some r:=by subst h0;have key:∀k i,n-i=k->i<=n->Loop step (st i)=some r:=by{intro k;induction k with|zero=>(intro i hk hi;obtain rfl:i=n:=by{omega};rw[cC,he];rfl)|succ k ih=>intro i hk hi;rw[cC,hs i (by omega)];exact ih (i+1) (by omega) (by omega)};exact key _ 0 rfl (by omega)
abbrev cE:=List aE
def nd(N:cE)(k:Nat):aE:=N.getD k default
theorem Nb{N:cE}{k:Nat}(h:k<N.length):idx N (k:Int)=some (nd N k):=by rw[pn h];simp[nd,h]
def V5(N:cE):Nat->Nat->Nat|0,_=>0|f+1,k=>1+((nd N k).Kids.map fun x=>V5 N f x.toNat).sum
def A8(N:cE):Nat->Nat->Nat|0,_=>0|f+1,k=>((nd N k).Kids.map fun x=>A8 N f x.toNat).foldl max 0+1
def D(N:cE)(k:Nat):Nat:=A8 N (k+1) k
def Gh(n:aE):Int:=if tR n.Kind&& !sB n.Text then 12 else if !tR n.Kind&& !nE n.Kind n.Text then 1 else if !sF n||decide (n.aQ<0)then 3 else 0
theorem K5{g:Int->Nat}{l:List Int}{i:Nat}(h:i<l.length):((l.take (i+1)).map g).foldl max 0=max (((l.take i).map g).foldl max 0) (g (l.getD i 0)):=by rw[List.take_add_one,List.getElem?_eq_getElem h,List.map_append,List.foldl_append];simp[h]
/-! ### What is wrong with a node -/
def lB(N:cE)(i:Nat)(v:Int):List Int:=(List.range N.length).map fun j=>if j<i then(D N j:Int)else if j=i then v else 0
theorem HK(N:cE)(i:Nat)(v:Int):(lB N i v).length=N.length:=by simp[lB]
theorem KM{N:cE}{i j:Nat}{v:Int}(h:j<N.length):idx (lB N i v) (j:Int)=some (if j<i then(D N j:Int)else if j=i then v else 0):=by rw[pn (by rw[HK];exact h)];simp[lB]
theorem QZ{N:cE}{i:Nat}{v w:Int}:(lB N i v).set i w=lB N i w:=by apply GE ;intro j;rw[List.getElem?_set];by_cases hj:j<N.length;·{simp only[lB,List.getElem?_map,List.getElem?_range hj,Option.map_some,List.length_map,List.length_range];by_cases e:i=j;·{subst e;simp[hj]};·have:j≠i:=fun h=>e h.symm;simp[e,this]};·have h1:(lB N i w)[j]? =none:=GT (by rw[HK];omega);have h2:(lB N i v)[j]? =none:=GT (by rw[HK];omega);rw[h1,h2,HK];split;·{rw[if_neg (by omega)]};·rfl
theorem abM{N:cE}{i:Nat}:lB N i (D N i:Int)=lB N (i+1) 0:=by refine List.map_congr_left fun j _=> ?_;by_cases h1:j<i;·{rw[if_pos h1,if_pos (by omega)]};·by_cases h2:j=i;·{subst h2;simp};·rw[if_neg h1,if_neg h2,if_neg (by omega)];simp
theorem abL{N:cE}:List.replicate N.length (0:Int)=lB N 0 0:=by apply GE ;intro j;by_cases hj:j<N.length;·{simp[lB,hj]};·simp[lB,hj]
def qj(N:cE):Nat->Nat|0=>0|i+1=>max (qj N i) (D N i)
theorem Qy{α:Type}{l:List α}(h:l.length<=4294967296):clone l=some l:=if_pos h
end Go.Ab
