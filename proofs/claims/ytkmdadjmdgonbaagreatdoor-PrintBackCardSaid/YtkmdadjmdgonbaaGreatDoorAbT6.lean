import Derived.Test.YtkmdadjmdgonbaaGreatDoorAbL0
import Derived.Test.YtkmdadjmdgonbaaGreatDoorAbGens
open Bool renaming true->bv,false->ci
open Option renaming some->ac,none->am
open Bool renaming false_eq_true->Do,not_true->Ha,eq_iff_iff->Hb,false_and->Hc,and_eq_true->H1,false_or->H3,and_false->H4,and_true->H5
open ByteArray renaming mk->AC
open Int renaming toNat_natCast->GE
open List renaming any_cons->Hd,take_length->Hm,foldl_cons->Hn,all_cons->H2,take_add_one->IH,getElem?_eq_getElem->If,map_append->Ix,map_congr_left->Nm,ext_getElem?->PH,getElem?_eq_none->PP,map_cons->PQ
open Nat renaming le_refl->GT,strongRecOn->Hk
open Option renaming bind_some->A0
open Option.some renaming injEq->Kd
set_option linter.all false
namespace Go.Ab
open Go Go.Proofs
@[simp]theorem RJ{b9 ρ β:Type}(f:b9->Option β)(g:ρ->Option β)(x:b9):cF.go f g (.dh x)=f x:=rfl
@[simp]theorem go_ret{b9 ρ β:Type}(f:b9->Option β)(g:ρ->Option β)(x:ρ):cF.go f g (.ret x)=g x:=rfl
abbrev GD:Nat:=9223372036854775807
def eA(a lo hi:Int):Bool:=decide (lo<=a)&&decide (a<=hi)
theorem rI(a b:Bool):(if a then b else ci)=(a&&b):=by cases a<;>rfl
theorem s3(a b:Bool):(if a then bv else b)=(a||b):=by cases a<;>rfl
@[simp]theorem akf(a b c:Int):Fi a b c=ac (eA a b c):=by simp only[Fi,eA,rI]
@[simp]theorem cin(a b c:Int):p8 a b c=ac (eA a b c):=by simp only[p8,eA,rI]
@[simp]theorem J2(a b:Int):ki a b=ac ⟨a,b⟩:=rfl
theorem HT:maxLen=9223372036854775807:=rfl
theorem qm{i:Nat}{n:Nat}(h:i<n):decide ((i:Int)<(n:Int))=true:=by simp[h]
theorem s9{n:Nat}:decide ((n:Int)<(n:Int))=false:=by simp
theorem ox{α:Type}{a b:List α}(h:a.length+b.length<=4294967296):app a b=ac (a++b):=if_pos h
theorem Z1(a b:Bool):(if a=bv then ac bv else ac b)=ac (a||b):=by cases a<;>rfl
theorem Wf{σ b9 S:Type}(pack:σ->Int->S)(f:Nat->σ->b9){step:S->Option (cM S b9)}(N:Nat)(Inv:Nat->σ->Prop)(hs:∀k s,k<N->Inv (k+1) s->step (pack s (k:Int))=ac (.out (f (k+1) s))∨∃s',step (pack s (k:Int))=ac (.next (pack s' ((k:Int)-1)))∧f (k+1) s=f k s'∧Inv k s')(he:∀s,Inv 0 s->step (pack s (-1))=ac (.out (f 0 s))):∀k s,k<=N->Inv k s->Loop step (pack s ((k:Int)-1))=ac (f k s):=by intro k;induction k with|zero=>(intro s _ hI;rw[fP];simp only[Int.natCast_zero,Int.zero_sub];rw[he s hI];rfl)|succ k ih=>intro s hk hI;rw[fP,show((k+1:Nat):Int)-1=(k:Int)by omega];rcases hs k s (by omega) hI with h|⟨s',h1,h2,h3⟩;·{rw[h];rfl};·rw[h1,h2];exact ih s' (by omega) h3
/-! ### Names -/
def pF(c:Int):Bool:=eA c 97 122||eA c 65 90||c==95
def qa(c:Int):Bool:=eA c 48 57
def vU(c:UInt8):Bool:=pF c.toNat||qa c.toNat
def BI(s:ByteArray):Bool:=eA s.size 1 12&&(match s.data.toList with|[]=>ci|c::_=> !qa c.toNat)&&s.data.toList.all vU
theorem Vd{s:ByteArray}{i:Nat}(h:i<s.data.toList.length):dD s (i:Int)=ac s.data.toList[i]:=by unfold dD;rw[if_pos (by omega)];simp only[GE];have h':i<s.size:=by{simpa using h};rw[getElem?_pos s i h'];rfl
theorem N1(s:ByteArray):s.size=s.data.toList.length:=by simp
theorem abz(s:ByteArray)(h12:s.size<=12):Loop (λi=>uq s i) 0=ac (Az (ko (λi c=>if pF c.toNat||(decide (0<i)&&qa c.toNat)then am else ac ci) 0 s.data.toList)):=by refine CT (l:=s.data.toList) _ (λi h=> ?_) ?_;·{have hlt:i<s.size:=by{rw[N1];exact h};unfold uq;simp only[Vd h,A0,jq (i:=i) (by omega),rI,s3];rw[if_pos (by simp;omega)];have e:(decide (97<=(s.data.toList[i].toNat:Int))&&decide ((s.data.toList[i].toNat:Int)<=122)||decide (65<=(s.data.toList[i].toNat:Int))&&decide ((s.data.toList[i].toNat:Int)<=90)||(s.data.toList[i].toNat:Int)==95||decide (0<(i:Int))&&decide (48<=(s.data.toList[i].toNat:Int))&&decide ((s.data.toList[i].toNat:Int)<=57))=(pF s.data.toList[i].toNat||(decide (0<i)&&qa s.data.toList[i].toNat)):=by{simp only[pF,qa,eA,Bool.and_assoc];congr 2;simp};rw[e];cases pF s.data.toList[i].toNat||(decide (0<i)&&qa s.data.toList[i].toNat)<;>rfl};·unfold uq;rw[if_neg (by simp)]
theorem aby(s:ByteArray):vW s=ac (BI s):=by unfold vW BI;simp only[s3];by_cases hs:eA s.size 1 12=bv;·{have hb:1<=s.size∧s.size<=12:=by{simp only[eA,H1,decide_eq_true_eq]at hs;omega};have hc0:(decide ((s.size:Int)<1)||decide (12<(s.size:Int)))=false:=by{simp;omega};simp only[hs,hc0,abz s hb.2];cases hc:s.data.toList with|nil=>(rw[N1,hc]at hb;simp at hb)|cons c l=>have key:∀(l:List UInt8)(i:Nat),0<i->ko (λi(c:UInt8)=>if pF c.toNat||(decide (0<i)&&qa c.toNat)then am else ac ci) i l=if l.all vU then am else ac false:=by{intro l;induction l with|nil=>(intro i _;rfl)|cons x l ih=>intro i hi;have e:(pF x.toNat||(decide (0<i)&&qa x.toNat))=vU x:=by{simp[vU,hi]};rw[ko,ih (i+1) (by omega),H2,e];by_cases hx:vU x=bv<;>simp[hx]};have ae5:pF c.toNat=bv->qa c.toNat=false:=by{simp only[pF,qa,eA];simp;omega};have e0:(pF c.toNat||(decide (0<0)&&qa c.toNat))=pF c.toNat:=by{simp};rw[ko,key l 1 (by omega),e0,H2];by_cases h1:pF c.toNat=bv;·{by_cases hl:l.all vU=bv<;>simp[h1,ae5 h1,hl,Az,vU]<;>simpa using hl};·have h1':pF c.toNat=false:=by{simpa using h1};cases h2:qa c.toNat<;>simp[h1',h2,Az,vU]};·have:(decide ((s.size:Int)<1)||decide (12<(s.size:Int)))=true:=by{simp only[eA,H1,decide_eq_true_eq]at hs;simp;omega};simp[hs,this]
def gC(k:Int):Bool:=eA k 31 40
def zV(k:Int):Bool:=eA k 11 18||eA k 21 24
def By(k:Int):Bool:=eA k 1 4||eA k 11 24||gC k
def tf(k:Int):Bool:=k==2||k==3||k==4||k==12||k==32||k==33
@[simp]theorem rexpr(k:Int):Fh k=ac (gC k):=by simp only[Fh,akf,A0,gC]
@[simp]theorem Gw(k:Int):p0 k=ac (gC k):=by simp only[p0,gC,eA,rI]
@[simp]theorem ZJ(k:Int):x6 k=ac (zV k):=by simp only[x6,zV,eA,rI,s3]
@[simp]theorem al9(k:Int):FW k=ac (By k):=by simp only[FW,Gw,A0,rI,s3,Z1,By,eA]
@[simp]theorem ama(k:Int):CA k=ac (tf k):=by simp only[CA,s3,tf]
def gY(k:Int):Int×Int:=if k==1||k==11||k==33 then(0,1099511627776)else if k==3||k==18 then(1,1099511627776)else if k==2 then(0,200)else if k==12||k==23 then(0,1)else if k==13||k==19||k==35||k==40 then(1,1)else if k==14 then(2,3)else if k==15||k==16||k==34||k==36||k==37||k==39 then(2,2)else if k==38 then(3,3)else if k==17 then(4,4)else(0,0)
theorem agv{P:Int->Prop}{k:Int}(h:∀n:_root_.Fin 41,P ((n:Nat):Int))(h2:k<0∨40<k->P k):P k:=by by_cases hk:0<=k∧k<=40;·{have:=h ⟨k.toNat,by omega⟩;simpa[Int.toNat_of_nonneg hk.1]using this};·exact h2 (by omega)
theorem amq(k:Int):CC k=ac ((gY k).1,if(gY k).2=1099511627776 then-1 else(gY k).2):=by refine agv (P:=λk=>CC k=ac ((gY k).1,if(gY k).2=1099511627776 then-1 else(gY k).2)) (by decide+kernel) λh=> ?_;have hn:∀c:Int,0<=c->c<=40->(k==c)=false:=λc h1 h2=>by{simp;omega};simp[CC,z6,CD,CE,xw,tM,gY,hn]
theorem ags(k:Int):(gY k).2=1099511627776∨(0<=(gY k).2∧(gY k).2<=200):=by
 unfold gY
 repeat' split
 all_goals simp
def l5(k m:Int):Bool:=decide ((gY k).1<=m)&&((gY k).2==1099511627776||decide (m<=(gY k).2))
theorem agu{k m:Int}:(if(decide (m<(gY k).1))then bv else(if(decide (0<=(if(gY k).2=1099511627776 then-1 else(gY k).2)))then(decide ((if(gY k).2=1099511627776 then-1 else(gY k).2)<m))else ci))= !l5 k m:=by simp only[s3,rI,l5];rcases ags k with h|h;·{rw[h,Hb];simp};·rw[if_neg (by omega)];have:((gY k).2==1099511627776)=false:=by{simp;omega};rw[this,Hb];simp;omega
def gb(k i m c:Int):Bool:=if k==1 then c==2||c==3 else if k==3 then(if i==bE (m-1)then c==11 else c==4)else if k==11 then zV c else if k==18&&decide (0<i)then zV c||c==19||c==20 else if(((k==14||k==15)&&decide (0<i))||(k==16&&i==0))||(k==17&&i==3)then c==11 else if k==17&&i==0 then c==12||c==13||c==24 else if k==17&&i==1 then gC c||c==24 else if k==17&&i==2 then c==13||c==24 else gC c
theorem al8(n:az)(i c:Int)(hi:0<=i)(hl:i<n.Kids.length)(hs:l5 n.Kind n.Kids.length=bv):FV n i c=ac (gb n.Kind i n.Kids.length c):=by unfold FV Cz gb;simp only[ZJ,Gw,A0,s3,rI];generalize n.Kids.length=m at*;generalize n.Kind=k at*;by_cases h1:k=1;·{subst h1;rfl};by_cases h3:k=3;·{subst h3;by_cases hx:i=bE ((m:Int)-1);·{simp[<-hx]};·have hb:(i==bE ((m:Int)-1))=false:=beq_eq_false_iff_ne.2 hx;simp[hb]};by_cases h11:k=11;·{subst h11;rfl};have b1:(k==1)=false:=by{simpa using h1};have b3:(k==3)=false:=by{simpa using h3};have JH:(k==11)=false:=by{simpa using h11};simp only[b1,b3,JH,Do,if_false];by_cases kS:k=18;·{subst kS;by_cases h0:i=0;·{subst h0;simp;cases gC c<;>rfl};·have:0<i:=by{omega};simp[h0,this]};have ZR:(k==18)=false:=by{simpa using kS};simp only[ZR,Do,if_false,Hc];by_cases iy:k=14;·{subst iy;by_cases h0:i=0;·{subst h0;simp};·have:0<i:=by{omega};simp[h0,this]};by_cases jv:k=15;·{subst jv;by_cases h0:i=0;·{subst h0;simp};·have:0<i:=by{omega};simp[h0,this]};have JJ:(k==14)=false:=by{simpa using iy};have JK:(k==15)=false:=by{simpa using jv};simp only[JJ,JK,Do,if_false,Hc,H3];by_cases ic:k=16;·{subst ic;have hm:(m:Int)=2:=by{have:gY 16=(2,2):=by{decide+kernel};simp[l5,this]at hs;omega};have:i=0∨i=1:=by{omega};rcases this with rfl|rfl<;>simp};by_cases kR:k=17;·{subst kR;have hm:(m:Int)=4:=by{have:gY 17=(4,4):=by{decide+kernel};simp[l5,this]at hs;omega};have:i=0∨i=1∨i=2∨i=3:=by{omega};rcases this with rfl|rfl|rfl|rfl<;>simp};have JL:(k==16)=false:=by{simpa using ic};have ZQ:(k==17)=false:=by{simpa using kR};simp[JL,ZQ]
/-! ### Numbers -/
def iT(n:az):Bool:=if n.Kind==2&&n.N==3 then eA n.e9 1 200&&decide ((n.Kids.length:Int)<=n.e9)else if n.e9 !=0 then ci else if n.Kind==2 then eA n.N 1 2&&decide ((n.Kids.length:Int)<2)else if n.Kind==3 then eA n.N 0 2 else if n.Kind==4||n.Kind==12 then eA n.N 1 2 else if n.Kind==31 then decide (0<=n.N)else if n.Kind==40 then eA n.N 0 1 else n.N==0
@[simp]theorem amb(n:az):FX n=ac (iT n):=by
 unfold FX CB iT
 simp only[cin,A0,s3,rI]
 generalize n.Kids.length=m
 generalize n.Kind=k
 generalize n.N=x
 generalize n.e9=z
 by_cases h2:k=2
 ·subst h2
  by_cases hx:x=3
  ·subst hx;simp
  ·have :(x==3)=false:=by simpa using hx
   simp only[this,H4,Do,if_false,beq_self_eq_true,if_true]
   by_cases hz:z=0
   ·subst hz
    simp only[beq_self_eq_true,bne,Ha,Do,if_false,H5,eA]
    congr 1
    rw[Hb];simp;omega
   ·have uU:(z==0)=false:=by simpa using hz
    simp[uU,bne]
 have b2:(k==2)=false:=by simpa using h2
 simp only[b2,Do,if_false,Hc]
 by_cases hz:z=0
 ·subst hz
  simp only[bne,beq_self_eq_true,Ha,H5,Do,if_false]
  by_cases h4:k=4
  ·subst h4;rfl
  have b4:(k==4)=false:=by simpa using h4
  by_cases h12:k=12
  ·subst h12;rfl
  have JI:(k==12)=false:=by simpa using h12
  simp only[b4,JI,Do,if_false,Bool.or_self]
  repeat' split
  all_goals rfl
 ·have uU:(z==0)=false:=by simpa using hz
  simp only[uU,bne,Bool.not_false,if_true,H4]
  repeat' split
  all_goals rfl
def gU(l:List ByteArray)(s:ByteArray):Bool:=l.any λx=>x.toList==s.toList
theorem G3{α ρ:Type}(p:α->Bool)(r:ρ):∀(l:List α)(i:Nat),ko (λ_ x=>if p x then ac r else am) i l=if l.any p then ac r else am|[],_=>rfl|x::l,i=>by simp only[ko,Hd];by_cases hp:p x=bv;·{simp[hp]};·simpa[hp]using G3 p r l (i+1)
theorem alp(l:List ByteArray)(s:ByteArray)(hl:l.length<=maxLen):∃n:Int,Fv l s=ac n∧decide (0<=n)=gU l s:=by have hm:=HT;have h:Loop (λi=>Cm l s i) 0=ac (Az (ko (λi(x:ByteArray)=>if s.toList==x.toList then ac (i:Int)else am) 0 l)):=by{refine CT (l:=l) (λi x=>if s.toList==x.toList then ac (i:Int)else am) (λi h=> ?_) ?_;·{unfold Cm;simp only[qm h,if_true,lF h,A0,jq (i:=i) (by omega)];cases s.toList==l[i].toList<;>rfl};·unfold Cm;simp only[s9];rfl};have h2:∀(l:List ByteArray)(i:Nat),match ko (λi(x:ByteArray)=>if s.toList==x.toList then ac (i:Int)else am) i l with|some n=>0<=n∧gU l s=bv|none=>gU l s=false:=by{intro l;induction l with|nil=>(intro i;rfl)|cons x l ih=>intro i;simp only[ko];by_cases hx:(s.toList==x.toList)=bv;·{have:s.toList=x.toList:=by{simpa using hx};simp[this,gU]};·have hx':(s.toList==x.toList)=false:=by{simpa using hx};have hx2:(x.toList==s.toList)=false:=by{rw[BEq.comm];exact hx'};simp only[hx',Do,if_false];have:=ih (i+1);simp only[gU,Hd,hx2,H3];exact this};unfold Fv;rw[h];have:=h2 l 0;generalize ko (λi(x:ByteArray)=>if s.toList==x.toList then ac (i:Int)else am) 0 l=o at this;cases o with|some n=>(exact⟨n,rfl,by rw[this.2];simpa using this.1⟩)|none=>exact⟨-1,rfl,by simp only at this;rw[this];rfl⟩
theorem alb(l:List ByteArray)(s:ByteArray)(hl:l.length<=maxLen):Fs l s=ac (gU l s):=by obtain⟨n,h1,h2⟩:=alp l s hl;unfold Fs;rw[h1,A0,h2]
abbrev nJ:List ByteArray:=[(AC #[43]),(AC #[45]),(AC #[42]),(AC #[47]),(AC #[37]),(AC #[38]),(AC #[124]),(AC #[94]),(AC #[60,60]),(AC #[62,62])]
abbrev o3:List ByteArray:=[(AC #[61,61]),(AC #[33,61]),(AC #[60]),(AC #[60,61]),(AC #[62]),(AC #[62,61])]
abbrev Ij:List ByteArray:=[(AC #[45]),(AC #[33]),(AC #[126]),(AC #[42]),(AC #[38])]
theorem VE(s:ByteArray):∃t,At s=ac (t,gU nJ s||gU o3 s)∧((gU nJ s||gU o3 s)&&decide (t.Op<=11))=gU nJ s:=by have hc:∀x:ByteArray,(x.toList==s.toList)=(s.toList==x.toList):=λx=>BEq.comm;unfold At gU;simp only[Hd,List.any_nil,Bool.or_false,hc];generalize(s.toList==(AC #[43]).toList)=b1;generalize(s.toList==(AC #[45]).toList)=b2;generalize(s.toList==(AC #[42]).toList)=b3;generalize(s.toList==(AC #[47]).toList)=b4;generalize(s.toList==(AC #[37]).toList)=x7;generalize(s.toList==(AC #[38]).toList)=JM;generalize(s.toList==(AC #[124]).toList)=JN;generalize(s.toList==(AC #[94]).toList)=ZS;generalize(s.toList==(AC #[60,60]).toList)=ZT;generalize(s.toList==(AC #[62,62]).toList)=ZM;generalize(s.toList==(AC #[61,61]).toList)=JH;generalize(s.toList==(AC #[33,61]).toList)=JI;generalize(s.toList==(AC #[60]).toList)=ZP;generalize(s.toList==(AC #[60,61]).toList)=JJ;generalize(s.toList==(AC #[62]).toList)=JK;generalize(s.toList==(AC #[62,61]).toList)=JL;cases b1;cases b2;cases b3;cases b4;cases x7;cases JM;cases JN;cases ZS;cases ZT;cases ZM;cases JH;cases JI;cases ZP;cases JJ;cases JK;cases JL;all_goals exact⟨_,rfl,rfl⟩
theorem alE{s:ByteArray}{n:Nat}(h:n<=s.size):fJ s am (ac (n:Int))=ac (s.extract 0 n):=by unfold fJ bounds;simp[h]
theorem ahr{s:ByteArray}(h:s.toList=[]):gU nJ s=ci∧gU o3 s=false:=by unfold gU;rw[h];exact⟨by decide+kernel,by decide+kernel⟩
theorem acJ(s:ByteArray):(s.extract 0 0).toList=[]:=by have:s.extract 0 0=ByteArray.empty:=by{apply ByteArray.ext;simp};rw[this];decide+kernel
def tJ(k:Int)(s:ByteArray):Bool:=if k==35 then gU Ij s else if k==36 then gU nJ s||gU o3 s else if k==37 then(s.toList==(AC #[38,38]).toList||s.toList==(AC #[124,124]).toList)else if k==39 then(s.toList==(AC #[61]).toList||(decide (1<s.size)&&(match s[s.size-1]? with|some c=>c.toNat==61|none=>ci)&&gU nJ (s.extract 0 (s.size-1))))else if k==40 then(s.toList==(AC #[43,43]).toList||s.toList==(AC #[45,45]).toList)else s.toList==(AC #[]).toList
theorem alj{s:ByteArray}(h:0<s.size)(hl:s.size<=maxLen):∃c,dD s (bE ((s.size:Int)-1))=ac c∧s[s.size-1]? =ac c:=by have hm:=HT;rw[jR (by omega) (by omega)];unfold dD;rw[if_pos (by omega),show((s.size:Int)-1).toNat=s.size-1 by omega];rw[getElem?_pos s (s.size-1) (by omega)];exact⟨_,rfl,rfl⟩
theorem amr(k:Int)(s:ByteArray)(hl:s.size<=maxLen):FY k s=ac (tJ k s):=by have hm:=HT;obtain⟨t,ht,_⟩:=VE s;unfold FY tJ;rw[ht,alb Ij s (by decide)];simp only[A0,s3];split;·{rfl};·split;·{rfl};·split;·{rfl};·split;·{by_cases h1:(s.toList==(AC #[61]).toList)=bv;·{simp only[h1,if_true,Bool.true_or,A0]};·have h1':(s.toList==(AC #[61]).toList)=false:=by{simpa using h1};simp only[h1',Bool.false_eq_true,if_false,Bool.false_or];have e:max 0 (bE ((s.size:Int)-1))=((s.size-1:Nat):Int):=by{rw[jR (by omega) (by omega)];omega};rw[e,alE (by omega),Option.bind_some];obtain⟨t2,Ef,LO⟩:=VE (s.extract 0 (s.size-1));rw[Ef,Option.bind_some];by_cases h2:1<s.size;·{obtain⟨c,hc,lE⟩:=alj (s:=s) (by omega) hl;rw[hc,lE,Option.bind_some];simp only;have hT:((c.toNat:Int)==61)=(c.toNat==61):=by{rw[Bool.eq_iff_iff];simp;omega};rw[hT,decide_eq_true h2];generalize(c.toNat==61)=T;generalize gU nJ (s.extract 0 (s.size-1))=A at*;generalize gU o3 (s.extract 0 (s.size-1))=B at*;generalize decide (t2.Op<=11)=D at*;revert LO;cases A<;>cases B<;>cases D<;>cases T<;>decide};·have h0:s.size-1=0:=by{omega};obtain⟨n1,n2⟩:=ahr (acJ s);rw[h0];simp only[h2,n1,n2,decide_false,Bool.false_and,Bool.or_self,Bool.false_eq_true,if_false,Option.bind_some]};·split<;>rfl
theorem sn{S b9:Type}{step:S->Option (cM S b9)}{fX:S}(st:Nat->S)(n:Nat)(r:b9)(h0:st 0=fX)(hs:∀i,i<n->step (st i)=ac (.next (st (i+1))))(he:step (st n)=ac (.out r)):Loop step fX=ac r:=by subst h0;have key:∀k i,n-i=k->i<=n->Loop step (st i)=ac r:=by{intro k;induction k with|zero=>(intro i hk hi;obtain rfl:i=n:=by{omega};rw[fP,he];rfl)|succ k ih=>intro i hk hi;rw[fP,hs i (by omega)];exact ih (i+1) (by omega) (by omega)};exact key _ 0 rfl (by omega)
abbrev bh:=List az
def nd(N:bh)(k:Nat):az:=N.getD k default
theorem rP{N:bh}{k:Nat}(h:k<N.length):idx N (k:Int)=ac (nd N k):=by rw[lF h];simp[nd,h]
def pY(N:bh):Nat->Nat->Nat|0,_=>0|f+1,k=>1+((nd N k).Kids.map λx=>pY N f x.toNat).sum
def M(N:bh)(k:Nat):Nat:=pY N (k+1) k
def qO(N:bh):Nat->Nat->Nat|0,_=>0|f+1,k=>((nd N k).Kids.map λx=>qO N f x.toNat).foldl max 0+1
def D(N:bh)(k:Nat):Nat:=qO N (k+1) k
def jk(N:bh)(n:az):Nat->Nat->Option Nat|0,a=>ac a|i+1,a=>if a=0∨n.Kids.getD i 0≠(a:Int)-1∨gb n.Kind i n.Kids.length (nd N (a-1)).Kind=ci then am else jk N n i (a-M N (a-1))
def Fp(n:az):Int:=if tf n.Kind&& !BI n.Text then 12 else if !tf n.Kind&& !tJ n.Kind n.Text then 1 else if !iT n||decide (n.bI<0)then 3 else 0
def k4(N:bh)(k:Nat):Int:=if !By (nd N k).Kind then 4 else if !l5 (nd N k).Kind (nd N k).Kids.length then 9 else match jk N (nd N k) (nd N k).Kids.length k with|none=>5|some _=>Fp (nd N k)
def eL(N:bh)(k:Nat):Prop:=∀j,j<k->k4 N j=0
theorem eL.le{N:bh}{j k:Nat}(h:eL N k)(hj:j<=k):eL N j:=λi hi=>h i (by omega)
theorem Vw{g:Int->Nat}{l:List Int}{i:Nat}(h:i<l.length):((l.take (i+1)).map g).sum=((l.take i).map g).sum+g (l.getD i 0):=by rw[IH,If h,Ix,List.sum_append];simp[h]
theorem S1{g:Int->Nat}:∀{l:List Int},(∀t,t<l.length->1<=g (l.getD t 0))->l.length<=(l.map g).sum|[],_=>by{simp}|x::l,h=>by have h0:=h 0 (by simp);have:=S1 (l:=l) λt ht=>by{simpa using h (t+1) (by simpa using ht)};simp at h0|-;omega
theorem SR{N:bh}{n:az}:∀{i a b:Nat},jk N n i a=ac b->(∀j,j<a->1<=M N j∧M N j<=j+1)->i<=n.Kids.length->b<=a∧(∀t,t<i->∃c:Nat,n.Kids.getD t 0=(c:Int)∧b<=c∧c<a)∧((n.Kids.take i).map λx=>M N x.toNat).sum+b=a|0,a,b,h,_,_=>by{simp only[jk,Kd]at h;subst h;exact⟨GT _,λt ht=>by omega,by simp⟩}|i+1,a,b,h,hM,hi=>by unfold jk at h;split at h;·{cases h};·rename_i hc;have ha:a≠0:=λe=>hc (.inl e);have hk:n.Kids.getD i 0=(a:Int)-1:=by{by_cases hk:n.Kids.getD i 0=(a:Int)-1;·{exact hk};·exact absurd (.inr (.inl hk)) hc};obtain⟨h1,h2⟩:=hM (a-1) (by omega);obtain⟨e1,e2,bn⟩:=SR h (λj hj=>hM j (by omega)) (by omega);refine⟨by omega,λt ht=> ?_, ?_⟩;·{by_cases afB:t=i;·{subst afB;exact⟨a-1,by rw[hk];omega,by omega,by omega⟩};·obtain⟨c,q1,aT,bu⟩:=e2 t (by omega);exact⟨c,q1,aT,by omega⟩};·rw[Vw (by omega),hk,show((a:Int)-1).toNat=a-1 by omega];omega
theorem MR{N:bh}{k:Nat}(h:k4 N k=0):∃b,jk N (nd N k) (nd N k).Kids.length k=ac b∧Fp (nd N k)=0∧By (nd N k).Kind=bv∧l5 (nd N k).Kind (nd N k).Kids.length=true:=by unfold k4 at h;split at h;·{cases h};·split at h;·{cases h};·rename_i h1 h2;split at h;·{cases h};·rename_i b hb;exact⟨b,hb,h,by simpa using h1,by simpa using h2⟩
theorem RF(l:List Int)(g g':Int->Nat)(h:∀t,t<l.length->g (l.getD t 0)=g' (l.getD t 0)):l.map g=l.map g':=by refine Nm λx hx=> ?_;obtain⟨t,ht,rfl⟩:=List.mem_iff_getElem.1 hx;have:=h t ht;simpa[ht]using this
theorem gv{N:bh}{k:Nat}(h:eL N k):∀j,j<k->(∀f,j<f->pY N f j=M N j∧qO N f j=D N j)∧1<=M N j∧M N j<=j+1∧jk N (nd N j) (nd N j).Kids.length j=ac (j+1-M N j)∧M N j=1+((nd N j).Kids.map λx=>M N x.toNat).sum∧D N j=((nd N j).Kids.map λx=>D N x.toNat).foldl max 0+1∧∀t,t<(nd N j).Kids.length->∃c:Nat,(nd N j).Kids.getD t 0=(c:Int)∧j+1-M N j<=c∧c<j:=by intro j;induction j using Hk with|ind j ih=>intro hj;obtain⟨b,hb,_⟩:=MR (h j hj);obtain⟨e1,e2,bn⟩:=SR hb (λi hi=>⟨(ih i hi (by omega)).2.1,(ih i hi (by omega)).2.2.1⟩) (GT _);rw[Hm]at bn;have hf:∀f,j<f->pY N f j=1+((nd N j).Kids.map λx=>M N x.toNat).sum∧qO N f j=((nd N j).Kids.map λx=>D N x.toNat).foldl max 0+1:=by{intro f hf;obtain⟨f,rfl⟩:∃g,f=g+1:=⟨f-1,by omega⟩;constructor;·{rw[pY,RF _ _ (λx=>M N x.toNat)];intro t ht;obtain⟨c,q1,aT,bu⟩:=e2 t ht;rw[q1,GE];exact((ih c bu (by omega)).1 f (by omega)).1};·rw[qO,RF _ _ (λx=>D N x.toNat)];intro t ht;obtain⟨c,q1,aT,bu⟩:=e2 t ht;rw[q1,GE];exact((ih c bu (by omega)).1 f (by omega)).2};have hM:=(hf (j+1) (by omega)).1;have hD:=(hf (j+1) (by omega)).2;have aoK:M N j+b=j+1:=by{unfold M;omega};have e:j+1-M N j=b:=by{omega};refine⟨λf h1=>⟨(hf f h1).1.trans hM.symm,(hf f h1).2.trans hD.symm⟩,by omega,by omega,by rw[e];exact hb,hM,hD,λt ht=> ?_⟩;rw[e];exact e2 t ht
theorem rM{N:bh}{k:Nat}(h:eL N k){j:Nat}(hj:j<k):(nd N j).Kids.length<=j:=by obtain⟨_,h1,h2,_,hM,_,hk⟩:=gv h j hj;have:=S1 (g:=λx=>M N x.toNat) (l:=(nd N j).Kids) λt ht=>by{obtain⟨c,q1,aT,bu⟩:=hk t ht;rw[q1,GE];exact(gv h c (by omega)).2.1};omega
theorem RA{g:Int->Nat}{l:List Int}{i:Nat}(h:i<l.length):((l.take (i+1)).map g).foldl max 0=max (((l.take i).map g).foldl max 0) (g (l.getD i 0)):=by rw[IH,If h,Ix,List.foldl_append];simp[h]
theorem V7{N:bh}{k:Nat}(h:eL N k):∀j,j<k->1<=D N j∧D N j<=j+1:=by intro j;induction j using Hk with|ind j ih=>intro hj;obtain⟨_,h1,h2,_,_,hD,hk⟩:=gv h j hj;have:∀i,i<=(nd N j).Kids.length->(((nd N j).Kids.take i).map λx=>D N x.toNat).foldl max 0<=j:=by{intro i;induction i with|zero=>(intro _;simp)|succ i ih2=>intro hi;obtain⟨c,q1,aT,bu⟩:=hk i (by omega);rw[RA (by omega),q1,GE];have:=ih2 (by omega);have:=(ih c bu (by omega)).2;omega};have:=this _ (GT _);rw[Hm]at this;omega
/-! ### What is wrong with a node -/
def su(N:bh):Prop:=N.length<=GD∧∀n∈N,n.Kids.length<=GD∧n.Text.size<=maxLen
theorem ahm{N:bh}{k:Nat}(h:k<N.length):nd N k∈N:=by have:nd N k=N[k]:=by{simp[nd,h]};rw[this];exact List.getElem_mem _
theorem afP{α:Type}{a:Bool}{x y:α}:(if a=bv then ac x else ac y)=ac (if a=bv then x else y):=by cases a<;>rfl
def I9(N:bh)(F:List Int)(k:Nat):Prop:=F.length=N.length∧∀j,j<k->F[j]? =ac ((j+1-M N j:Nat):Int)
def x9(F:List Int):Option Nat->cF Int (Int×List Int)|none=> .ret (5,F)|some b=> .dh (b:Int)
theorem ahA{N:bh}{k:Nat}{F:List Int}(h:eL N k)(hF:I9 N F k)(hk:k<N.length)(hb:N.length<=GD)(n:az)(hl:n.Kids.length<=GD)(hs:l5 n.Kind n.Kids.length=bv):∀i a,i<=n.Kids.length->a<=k->Loop (λs=>Cy F ⟨N⟩ n s.1 s.2) ((a:Int),(i:Int)-1)=ac (x9 F (jk N n i a)):=by have Hp:N.length<=9223372036854775807:=hb;have ae6:n.Kids.length<=9223372036854775807:=hl;refine Wf (pack:=λ(a:Nat)(i:Int)=>((a:Int),i)) (λi a=>x9 F (jk N n i a)) n.Kids.length (λ_ a=>a<=k) (λi a hi ha=> ?_) (λa ha=> ?_);·{unfold Cy;rw[if_pos (by simp)];simp only[jk];by_cases ha0:a=0;·{subst ha0;exact .inl (by simp[x9])};·have hx:((a:Int)==0)=false:=by{simpa using ha0};have hw:bE ((a:Int)-1)=((a-1:Nat):Int):=by{rw[jR (by omega) (by omega)];omega};have yT:bE ((i:Int)-1)=(i:Int)-1:=jR (by omega) (by omega);have hgd:n.Kids.getD i 0=n.Kids[i]:=by{simp[hi]};simp only[hx,Do,if_false,lF hi,A0,hw,hgd];by_cases hq:n.Kids[i]=(a:Int)-1;·{have afn:n.Kids[i]=((a-1:Nat):Int):=by{omega};have LV:(n.Kids[i] !=((a-1:Nat):Int))=false:=by{simp;omega};have aeO:idx F ((a-1:Nat):Int)=ac ((a-1+1-M N (a-1):Nat):Int):=by{unfold idx;rw[if_pos (by omega),GE];exact hF.2 (a-1) (by omega)};rw[LV];simp only[Do,if_false,aeO,A0,afn,rP (show a-1<N.length by omega),al8 n (i:Int) _ (by omega) (by omega) hs,ha0,false_or];have afo:¬(((a-1:Nat):Int)≠(a:Int)-1):=by{omega};simp only[afo,false_or];cases hg:gb n.Kind i n.Kids.length (nd N (a-1)).Kind;·{exact .inl (by simp[x9])};·obtain⟨_,h1,h2,_⟩:=gv h (a-1) (by omega);refine .inr ⟨a-M N (a-1), ?_,by simp,by omega⟩;simp only[Ha,Do,if_false,yT];congr 3;omega};·have LV:(n.Kids[i] !=((a-1:Nat):Int))=true:=by{simp;omega};rw[LV];exact .inl (by simp[x9,hq,ha0])};·unfold Cy;rw[if_neg (by simp)];rfl
theorem ahz{N:bh}{k:Nat}{F:List Int}(h:eL N k)(hF:I9 N F k)(hk:k<N.length)(hN:su N):∃F',FU F ⟨N⟩ (k:Int)=ac (k4 N k,F')∧F'.length=N.length∧(k4 N k=0->F'=F.set k ((k+1-M N k:Nat):Int)):=by obtain⟨hl,ht⟩:=hN.2 _ (ahm hk);have ae6:(nd N k).Kids.length<=9223372036854775807:=hl;have hml:=HT;have hb:=hN.1;have Hp:N.length<=9223372036854775807:=hb;unfold FU k4;simp only[rP hk,A0,al9,amq,agu];by_cases hkn:By (nd N k).Kind=bv;·{simp only[hkn,Ha,Do,if_false];by_cases hin:l5 (nd N k).Kind (nd N k).Kids.length=bv;·{simp only[hin,Ha,Do,if_false];rw[jR (by omega) (by omega),ahA h hF hk hN.1 (nd N k) hl hin _ _ (GT _) (GT _),A0];cases hkc:jk N (nd N k) (nd N k).Kids.length k with|none=>(exact⟨F,by simp[x9],hF.1,λh0=>by simp at h0⟩)|some b=>have aeL:idx F (k:Int)=ac (F[k]'(by rw[hF.1];exact hk)):=lF _;simp only[x9,RJ,aeL,A0,ama,aby,amr _ _ ht,amb,s3,rI,afP,GE];refine⟨F.set k (b:Int), ?_,by rw[List.length_set];exact hF.1,λh0=> ?_⟩;·{unfold Fp;cases(tf (nd N k).Kind&& !BI (nd N k).Text)<;>cases(!tf (nd N k).Kind&& !tJ (nd N k).Kind (nd N k).Text)<;>cases(!iT (nd N k)||decide ((nd N k).bI<0))<;>rfl};·have hg:k4 N k=0:=by{unfold k4;simp only[hkn,hin,hkc,Ha,Do,if_false];exact h0};have di:eL N (k+1):=λj hj=>by{by_cases e:j=k;·{rw[e];exact hg};·exact h j (by omega)};obtain⟨_,_,_,e,_⟩:=gv di k (by omega);rw[hkc]at e;rw[Option.some.inj e]};·exact⟨F,by simp[hin],hF.1,λh0=>by simp[hin]at h0⟩};·exact⟨F,by simp[hkn],hF.1,λh0=>by simp[hkn]at h0⟩
def kO(N:bh)(i:Nat)(v:Int):List Int:=(List.range N.length).map λj=>if j<i then(D N j:Int)else if j=i then v else 0
theorem GU(N:bh)(i:Nat)(v:Int):(kO N i v).length=N.length:=by simp[kO]
theorem Kh{N:bh}{i j:Nat}{v:Int}(h:j<N.length):idx (kO N i v) (j:Int)=ac (if j<i then(D N j:Int)else if j=i then v else 0):=by rw[lF (by rw[GU];exact h)];simp[kO]
theorem Q2{N:bh}{i:Nat}{v w:Int}:(kO N i v).set i w=kO N i w:=by apply PH ;intro j;rw[List.getElem?_set];by_cases hj:j<N.length;·{simp only[kO,List.getElem?_map,List.getElem?_range hj,Option.map_some,List.length_map,List.length_range];by_cases e:i=j;·{subst e;simp[hj]};·have:j≠i:=λh=>e h.symm;simp[e,this]};·have h1:(kO N i w)[j]? =none:=PP (by rw[GU];omega);have h2:(kO N i v)[j]? =none:=PP (by rw[GU];omega);rw[h1,h2,GU];split;·{rw[if_neg (by omega)]};·rfl
theorem ab5{N:bh}{i:Nat}:kO N i (D N i:Int)=kO N (i+1) 0:=by refine Nm λj _=> ?_;by_cases h1:j<i;·{rw[if_pos h1,if_pos (by omega)]};·by_cases h2:j=i;·{subst h2;simp};·rw[if_neg h1,if_neg h2,if_neg (by omega)];simp
theorem ab4{N:bh}:List.replicate N.length (0:Int)=kO N 0 0:=by apply PH ;intro j;by_cases hj:j<N.length;·{simp[kO,hj]};·simp[kO,hj]
def qo(N:bh):Nat->Nat|0=>0|i+1=>max (qo N i) (D N i)
theorem QZ{N:bh}(h:eL N N.length)(h6:N.length<=600):vP ⟨N⟩=ac (qo N N.length:Int):=by unfold vP;have hm:wO (N.length:Int) (0:Int)=ac (kO N 0 0):=by{unfold wO;rw[if_pos (by omega),GE,ab4]};rw[hm,A0];have inner:∀i,i<N.length->Loop (λs=>x5 (i:Int) (nd N i) s.1 s.2) (kO N i 0,0)=ac (kO N i (((nd N i).Kids.map λx=>D N x.toNat).foldl max 0:Nat)):=by{intro i hi;obtain⟨_,h1,h2,_,_,hD,hk⟩:=gv h i hi;have hlen:=rM h hi;refine sn (step:=λs=>x5 (i:Int) (nd N i) s.1 s.2) (λt=>(kO N i (((nd N i).Kids.take t|>.map λx=>D N x.toNat).foldl max 0:Nat),(t:Int))) (nd N i).Kids.length _ (by simp) (λt ht=> ?_) ?_;·{obtain⟨c,q1,aT,bu⟩:=hk t ht;have hg:(nd N i).Kids[t]=(c:Int):=by{rw[<-q1];simp[ht]};unfold x5;simp only[qm ht,if_true,lF ht,A0,hg,Kh hi,Kh (show c<N.length by omega),bu,Nat.lt_irrefl,if_false,GE,Q2];rw[RA ht,q1,GE,jq (by omega)];congr 4;omega};·unfold x5;simp only[s9,Do,if_false,Hm]};rw[sn (step:=λs=>Ar ⟨N⟩ s.1 s.2.1 s.2.2) (fX:=(kO N 0 0,0,0)) (λi=>(kO N i 0,(qo N i:Int),(i:Int))) N.length (qo N N.length:Int) (by simp[qo]) (λi hi=> ?_) ?_];·{rfl};·{unfold Ar;simp only[s9,Do,if_false]};·obtain⟨_,h1,h2,_,_,hD,hk⟩:=gv h i hi;have hd:=(V7 h i hi).2;unfold Ar;have e:bE ((((nd N i).Kids.map λx=>D N x.toNat).foldl max 0:Nat)+1)=(D N i:Int):=by{rw[jq (by omega),hD]};simp only[qm hi,if_true,rP hi,A0,inner i hi,Kh hi,Nat.lt_irrefl,if_false,GE,Q2,e];rw[jq (by omega),ab5,qo];congr 4;omega
theorem SQ{N:bh}{n:az}:∀{i a b:Nat},jk N n i a=ac b->∀j,b<=j->j<a->∃t c:Nat,t<i∧n.Kids.getD t 0=(c:Int)∧c+1-M N c<=j∧j<=c|0,a,b,h,j,h1,h2=>by{simp only[jk,Kd]at h;omega}|i+1,a,b,h,j,h1,h2=>by unfold jk at h;split at h;·{cases h};·rename_i hc;have hk:n.Kids.getD i 0=(a:Int)-1:=by{by_cases hk:n.Kids.getD i 0=(a:Int)-1;·{exact hk};·exact absurd (.inr (.inl hk)) hc};by_cases hj:a-M N (a-1)<=j;·{exact⟨i,a-1,by omega,by rw[hk];omega,by omega,by omega⟩};·obtain⟨t,c,e1,e2,bn,c4⟩:=SQ h j h1 (by omega);exact⟨t,c,by omega,e2,bn,c4⟩
theorem adb{g:Int->Nat}:∀{l:List Int}{s t:Nat},t<l.length->g (l.getD t 0)<=(l.map g).foldl max s:=by have mono:∀(l:List Nat)(s:Nat),s<=l.foldl max s:=by{intro l;induction l with|nil=>(intro s;simp)|cons x l ih=>intro s;simp only[Hn];exact Nat.le_trans (Nat.le_max_left ..) (ih _)};intro l;induction l with|nil=>(intro s t h;simp at h)|cons x l ih=>intro s t h;cases t with|zero=>(simp only[List.getD_cons_zero,PQ,Hn];exact Nat.le_trans (Nat.le_max_right ..) (mono _ _))|succ t=>simp only[List.getD_cons_succ,PQ,Hn];exact ih (by simpa using h)
theorem V8{N:bh}{k:Nat}(h:eL N k):∀j,j<k->∀i,j+1-M N j<=i->i<=j->D N i<=D N j:=by intro j;induction j using Hk with|ind j ih=>intro hj i h1 h2;by_cases e:i=j;·{rw[e];exact GT _};·obtain⟨_,_,_,hkc,_,hD,hk⟩:=gv h j hj;obtain⟨t,c,e1,e2,bn,c4⟩:=SQ hkc i h1 (by omega);obtain⟨c',q1,aT,bu⟩:=hk t e1;obtain rfl:c=c':=by{rw[e2]at q1;exact_mod_cast q1};have:=ih c bu (by omega) i bn c4;have hm:=adb (g:=λx=>D N x.toNat) (s:=0) e1;rw[e2,GE]at hm;omega
theorem Tm{N:bh}(h:eL N N.length)(h1:1<=N.length)(hM:M N (N.length-1)=N.length):qo N N.length=D N (N.length-1):=by have:∀i,i<=N.length->qo N i<=D N (N.length-1):=by{intro i;induction i with|zero=>(intro _;simp[qo])|succ i ih=>intro hi;have h1:=ih (by omega);have h2:=V8 h (N.length-1) (by omega) i (by omega) (by omega);rw[qo];omega};have h2:=this N.length (GT _);have h3:D N (N.length-1)<=qo N N.length:=by{rw[show N.length=N.length-1+1 by omega,qo];simp only[Nat.add_sub_cancel];omega};omega
def Whole(N:bh):Prop:=1<=N.length∧N.length<=600∧eL N N.length∧M N (N.length-1)=N.length∧D N (N.length-1)<=40
theorem Rk(N:bh):∀n,eL N n∨∃k,k<n∧eL N k∧k4 N k≠0|0=> .inl λj hj=>by{omega}|n+1=>by rcases Rk N n with h|⟨k,h1,h2,h3⟩;·{by_cases e:k4 N n=0;·{exact .inl λj hj=>by by_cases ej:j=n;·{rw[ej];exact e};·exact h j (by omega)};·exact .inr ⟨n,by omega,h,e⟩};·exact .inr ⟨k,by omega,h2,h3⟩
end Go.Ab
