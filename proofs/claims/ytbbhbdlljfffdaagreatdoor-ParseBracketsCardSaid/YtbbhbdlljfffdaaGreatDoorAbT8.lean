import Derived.Test.YtbbhbdlljfffdaaGreatDoorAbL0
import Derived.Test.YtbbhbdlljfffdaaGreatDoorAbGens
open Bool renaming false_eq_true->GE,eq_iff_iff->Ha,false_and->Hb,and_false->Hk,not_true->Hm,and_true->Hn
open ByteArray renaming mk->AC
open Int renaming toNat_natCast->GT
open List renaming take_length->Hd,any_cons->H0,take_add_one->H1,getElem?_eq_getElem->H2,map_append->H3,map_congr_left->H4,ext_getElem?->IH,getElem?_eq_none->If
open Nat renaming le_refl->Hc,strongRecOn->H5
open Option renaming bind_some->Do
set_option linter.all false
namespace Go.Ab
open Go Go.Proofs
@[simp]theorem TC{b7 ρ β:Type}(f:b7->Option β)(g:ρ->Option β)(x:b7):cj.go f g (.dz x)=f x:=rfl
@[simp]theorem go_ret{b7 ρ β:Type}(f:b7->Option β)(g:ρ->Option β)(x:ρ):cj.go f g (.ret x)=g x:=rfl
abbrev Eh:Nat:=9223372036854775807
def eU(a lo hi:Int):Bool:=decide (lo<=a)&&decide (a<=hi)
theorem um(a b:Bool):(if a then b else false)=(a&&b):=by cases a<;>rfl
theorem sO(a b:Bool):(if a then true else b)=(a||b):=by cases a<;>rfl
@[simp]theorem WW(a b c:Int):Dc a b c=some (eU a b c):=by simp only[Dc,eU,um]
@[simp]theorem cin(a b c:Int):tM a b c=some (eU a b c):=by simp only[tM,eU,um]
@[simp]theorem Iv(a b:Int):nJ a b=some ⟨a,b⟩:=rfl
@[simp]theorem amK(a b:Int):Pq a b=some ⟨a,b⟩:=rfl
theorem xS:maxLen=9223372036854775807:=rfl
theorem ry{i:Nat}{n:Nat}(h:i<n):decide ((i:Int)<(n:Int))=true:=by simp[h]
theorem rz{n:Nat}:decide ((n:Int)<(n:Int))=false:=by simp
theorem lN{α:Type}{a b:List α}(h:a.length+b.length<=4294967296):app a b=some (a++b):=if_pos h
theorem R7(a b:Bool):(if a=true then some true else some b)=some (a||b):=by cases a<;>rfl
theorem Ys{σ b7 S:Type}(pack:σ->Int->S)(f:Nat->σ->b7){step:S->Option (b8 S b7)}(N:Nat)(Inv:Nat->σ->Prop)(hs:∀k s,k<N->Inv (k+1) s->step (pack s (k:Int))=some (.out (f (k+1) s))∨∃s',step (pack s (k:Int))=some (.next (pack s' ((k:Int)-1)))∧f (k+1) s=f k s'∧Inv k s')(he:∀s,Inv 0 s->step (pack s (-1))=some (.out (f 0 s))):∀k s,k<=N->Inv k s->Loop step (pack s ((k:Int)-1))=some (f k s):=by intro k;induction k with|zero=>(intro s _ hI;rw[cK];simp only[Int.natCast_zero,Int.zero_sub];rw[he s hI];rfl)|succ k ih=>intro s hk hI;rw[cK,show((k+1:Nat):Int)-1=(k:Int)by omega];rcases hs k s (by omega) hI with h|⟨s',h1,h2,h3⟩;·{rw[h];rfl};·rw[h1,h2];exact ih s' (by omega) h3
/-! ### Names -/
def pJ(c:Int):Bool:=eU c 97 122||eU c 65 90||c==95
def ow(c:Int):Bool:=eU c 48 57
def tL(c:UInt8):Bool:=pJ c.toNat||ow c.toNat
def nU(s:ByteArray):Bool:=eU s.size 1 12&&(match s.data.toList with|[]=>false|c::_=> !ow c.toNat)&&s.data.toList.all tL
theorem anY{s:ByteArray}{i:Nat}(h:i<s.data.toList.length):dP s (i:Int)=some s.data.toList[i]:=by unfold dP;rw[if_pos (by omega)];simp only[GT];have h':i<s.size:=by{simpa using h};rw[getElem?_pos s i h'];rfl
theorem Xq(s:ByteArray):s.size=s.data.toList.length:=by simp
theorem adz(s:ByteArray)(h12:s.size<=12):Loop (fun i=>vg s i) 0=some (ze (kK (fun i c=>if pJ c.toNat||(decide (0<i)&&ow c.toNat)then none else some false) 0 s.data.toList)):=by refine Bl (l:=s.data.toList) _ (fun i h=> ?_) ?_;·{have hlt:i<s.size:=by{rw[Xq];exact h};unfold vg;simp only[anY h,Option.bind_some,iQ (i:=i) (by omega),um,sO];rw[if_pos (by simp;omega)];have e:(decide (97<=(s.data.toList[i].toNat:Int))&&decide ((s.data.toList[i].toNat:Int)<=122)||decide (65<=(s.data.toList[i].toNat:Int))&&decide ((s.data.toList[i].toNat:Int)<=90)||(s.data.toList[i].toNat:Int)==95||decide (0<(i:Int))&&decide (48<=(s.data.toList[i].toNat:Int))&&decide ((s.data.toList[i].toNat:Int)<=57))=(pJ s.data.toList[i].toNat||(decide (0<i)&&ow s.data.toList[i].toNat)):=by{simp only[pJ,ow,eU,Bool.and_assoc];congr 2;simp};rw[e];cases pJ s.data.toList[i].toNat||(decide (0<i)&&ow s.data.toList[i].toNat)<;>rfl};·unfold vg;rw[if_neg (by simp)]
theorem ady(s:ByteArray):xe s=some (nU s):=by unfold xe nU;simp only[sO];by_cases hs:eU s.size 1 12=true;·{have hb:1<=s.size∧s.size<=12:=by{simp only[eU,Bool.and_eq_true,decide_eq_true_eq]at hs;omega};have hc0:(decide ((s.size:Int)<1)||decide (12<(s.size:Int)))=false:=by{simp;omega};simp only[hs,hc0,adz s hb.2];cases hc:s.data.toList with|nil=>(rw[Xq,hc]at hb;simp at hb)|cons c l=>have key:∀(l:List UInt8)(i:Nat),0<i->kK (fun i(c:UInt8)=>if pJ c.toNat||(decide (0<i)&&ow c.toNat)then none else some false) i l=if l.all tL then none else some false:=by{intro l;induction l with|nil=>(intro i _;rfl)|cons x l ih=>intro i hi;have e:(pJ x.toNat||(decide (0<i)&&ow x.toNat))=tL x:=by{simp[tL,hi]};rw[kK,ih (i+1) (by omega),List.all_cons,e];by_cases hx:tL x=true<;>simp[hx]};have ahk:pJ c.toNat=true->ow c.toNat=false:=by{simp only[pJ,ow,eU];simp;omega};have e0:(pJ c.toNat||(decide (0<0)&&ow c.toNat))=pJ c.toNat:=by{simp};rw[kK,key l 1 (by omega),e0,List.all_cons];by_cases h1:pJ c.toNat=true;·{by_cases hl:l.all tL=true<;>simp[h1,ahk h1,hl,ze,tL]<;>simpa using hl};·have h1':pJ c.toNat=false:=by{simpa using h1};cases h2:ow c.toNat<;>simp[h1',h2,ze,tL]};·have:(decide ((s.size:Int)<1)||decide (12<(s.size:Int)))=true:=by{simp only[eU,Bool.and_eq_true,decide_eq_true_eq]at hs;simp;omega};simp[hs,this]
def iX(k:Int):Bool:=eU k 31 40
def qJ(k:Int):Bool:=eU k 11 18||eU k 21 24
def vV(k:Int):Bool:=eU k 1 4||eU k 11 24||iX k
def oJ(k:Int):Bool:=k==2||k==3||k==4||k==12||k==32||k==33
@[simp]theorem rexpr(k:Int):Gz k=some (iX k):=by simp only[Gz,WW,Do,iX]
@[simp]theorem RJ(k:Int):tG k=some (iX k):=by simp only[tG,iX,eU,um]
@[simp]theorem abz(k:Int):y8 k=some (qJ k):=by simp only[y8,qJ,eU,um,sO]
@[simp]theorem aow(k:Int):Hs k=some (vV k):=by simp only[Hs,RJ,Do,um,sO,R7,vV,eU]
@[simp]theorem aox(k:Int):DF k=some (oJ k):=by simp only[DF,sO,oJ]
def ki(k:Int):Int×Int:=if k==1||k==11||k==33 then(0,1099511627776)else if k==3||k==18 then(1,1099511627776)else if k==2 then(0,200)else if k==12||k==23 then(0,1)else if k==13||k==19||k==35||k==40 then(1,1)else if k==14 then(2,3)else if k==15||k==16||k==34||k==36||k==37||k==39 then(2,2)else if k==38 then(3,3)else if k==17 then(4,4)else(0,0)
theorem aiO{P:Int->Prop}{k:Int}(h:∀n:_root_.Fin 41,P ((n:Nat):Int))(h2:k<0∨40<k->P k):P k:=by by_cases hk:0<=k∧k<=40;·{have:=h ⟨k.toNat,by omega⟩;simpa[Int.toNat_of_nonneg hk.1]using this};·exact h2 (by omega)
theorem aoG(k:Int):DH k=some ((ki k).1,if(ki k).2=1099511627776 then-1 else(ki k).2):=by refine aiO (P:=fun k=>DH k=some ((ki k).1,if(ki k).2=1099511627776 then-1 else(ki k).2)) (by decide+kernel) fun h=> ?_;have hn:∀c:Int,0<=c->c<=40->(k==c)=false:=fun c h1 h2=>by{simp;omega};simp[DH,Bb,DI,DJ,yI,uK,ki,hn]
theorem aiL(k:Int):(ki k).2=1099511627776∨(0<=(ki k).2∧(ki k).2<=200):=by
 unfold ki
 repeat' split
 all_goals simp
def mT(k m:Int):Bool:=decide ((ki k).1<=m)&&((ki k).2==1099511627776||decide (m<=(ki k).2))
theorem aiN{k m:Int}:(if(decide (m<(ki k).1))then true else(if(decide (0<=(if(ki k).2=1099511627776 then-1 else(ki k).2)))then(decide ((if(ki k).2=1099511627776 then-1 else(ki k).2)<m))else false))= !mT k m:=by simp only[sO,um,mT];rcases aiL k with h|h;·{rw[h,Ha];simp};·rw[if_neg (by omega)];have:((ki k).2==1099511627776)=false:=by{simp;omega};rw[this,Ha];simp;omega
def kP(k i m c:Int):Bool:=if k==1 then c==2||c==3 else if k==3 then(if i==bG (m-1)then c==11 else c==4)else if k==11 then qJ c else if k==18&&decide (0<i)then qJ c||c==19||c==20 else if(((k==14||k==15)&&decide (0<i))||(k==16&&i==0))||(k==17&&i==3)then c==11 else if k==17&&i==0 then c==12||c==13||c==24 else if k==17&&i==1 then iX c||c==24 else if k==17&&i==2 then c==13||c==24 else iX c
theorem aou(n:aA)(i c:Int)(hi:0<=i)(hl:i<n.Kids.length)(hs:mT n.Kind n.Kids.length=true):Hr n i c=some (kP n.Kind i n.Kids.length c):=by unfold Hr DE kP;simp only[abz,RJ,Do,sO,um];generalize n.Kids.length=m at*;generalize n.Kind=k at*;by_cases h1:k=1;·{subst h1;rfl};by_cases h3:k=3;·{subst h3;by_cases hx:i=bG ((m:Int)-1);·{simp[<-hx]};·have hb:(i==bG ((m:Int)-1))=false:=beq_eq_false_iff_ne.2 hx;simp[hb]};by_cases h11:k=11;·{subst h11;rfl};have b1:(k==1)=false:=by{simpa using h1};have b3:(k==3)=false:=by{simpa using h3};have Lj:(k==11)=false:=by{simpa using h11};simp only[b1,b3,Lj,GE,if_false];by_cases pn:k=18;·{subst pn;by_cases h0:i=0;·{subst h0;simp;cases iX c<;>rfl};·have:0<i:=by{omega};simp[h0,this]};have abF:(k==18)=false:=by{simpa using pn};simp only[abF,GE,if_false,Hb];by_cases j8:k=14;·{subst j8;by_cases h0:i=0;·{subst h0;simp};·have:0<i:=by{omega};simp[h0,this]};by_cases mA:k=15;·{subst mA;by_cases h0:i=0;·{subst h0;simp};·have:0<i:=by{omega};simp[h0,this]};have Lm:(k==14)=false:=by{simpa using j8};have Ln:(k==15)=false:=by{simpa using mA};simp only[Lm,Ln,GE,if_false,Hb,Bool.false_or];by_cases jR:k=16;·{subst jR;have hm:(m:Int)=2:=by{have:ki 16=(2,2):=by{decide+kernel};simp[mT,this]at hs;omega};have:i=0∨i=1:=by{omega};rcases this with rfl|rfl<;>simp};by_cases pg:k=17;·{subst pg;have hm:(m:Int)=4:=by{have:ki 17=(4,4):=by{decide+kernel};simp[mT,this]at hs;omega};have:i=0∨i=1∨i=2∨i=3:=by{omega};rcases this with rfl|rfl|rfl|rfl<;>simp};have Lo:(k==16)=false:=by{simpa using jR};have abE:(k==17)=false:=by{simpa using pg};simp[Lo,abE]
/-! ### Numbers -/
def pL(n:aA):Bool:=if n.Kind==2&&n.N==3 then eU n.gG 1 200&&decide ((n.Kids.length:Int)<=n.gG)else if n.gG !=0 then false else if n.Kind==2 then eU n.N 1 2&&decide ((n.Kids.length:Int)<2)else if n.Kind==3 then eU n.N 0 2 else if n.Kind==4||n.Kind==12 then eU n.N 1 2 else if n.Kind==31 then decide (0<=n.N)else if n.Kind==40 then eU n.N 0 1 else n.N==0
@[simp]theorem aoy(n:aA):Ht n=some (pL n):=by
 unfold Ht DG pL
 simp only[cin,Do,sO,um]
 generalize n.Kids.length=m
 generalize n.Kind=k
 generalize n.N=x
 generalize n.gG=z
 by_cases h2:k=2
 ·subst h2
  by_cases hx:x=3
  ·subst hx;simp
  ·have :(x==3)=false:=by simpa using hx
   simp only[this,Hk,GE,if_false,beq_self_eq_true,if_true]
   by_cases hz:z=0
   ·subst hz
    simp only[beq_self_eq_true,bne,Hm,GE,if_false,Hn,eU]
    congr 1
    rw[Ha];simp;omega
   ·have vQ:(z==0)=false:=by simpa using hz
    simp[vQ,bne]
 have b2:(k==2)=false:=by simpa using h2
 simp only[b2,GE,if_false,Hb]
 by_cases hz:z=0
 ·subst hz
  simp only[bne,beq_self_eq_true,Hm,Hn,GE,if_false]
  by_cases h4:k=4
  ·subst h4;rfl
  have b4:(k==4)=false:=by simpa using h4
  by_cases h12:k=12
  ·subst h12;rfl
  have Ll:(k==12)=false:=by simpa using h12
  simp only[b4,Ll,GE,if_false,Bool.or_self]
  repeat' split
  all_goals rfl
 ·have vQ:(z==0)=false:=by simpa using hz
  simp only[vQ,bne,Bool.not_false,if_true,Hk]
  repeat' split
  all_goals rfl
def gh(l:List ByteArray)(s:ByteArray):Bool:=l.any fun x=>x.toList==s.toList
theorem EM{α ρ:Type}(p:α->Bool)(r:ρ):∀(l:List α)(i:Nat),kK (fun _ x=>if p x then some r else none) i l=if l.any p then some r else none|[],_=>rfl|x::l,i=>by simp only[kK,H0];by_cases hp:p x=true;·{simp[hp]};·simpa[hp]using EM p r l (i+1)
theorem Km(l:List ByteArray)(s:ByteArray)(hl:l.length<=maxLen):wD l s=some (gh l s):=by have hm:=xS;have:Loop (fun i=>uE l s i) 0=some (ze (if gh l s then some true else none)):=by{unfold gh;rw[<-EM _ true l 0];refine Bl (l:=l) (fun _ x=>if x.toList==s.toList then some true else none) (fun i h=> ?_) ?_;·{unfold uE;simp only[ry h,if_true,nQ h,Do,iQ (i:=i) (by omega)];cases l[i].toList==s.toList<;>rfl};·unfold uE;simp only[rz];rfl};unfold wD;rw[this];cases gh l s<;>rfl
theorem an1(l:List ByteArray)(s:ByteArray)(hl:l.length<=maxLen):∃n:Int,GX l s=some n∧decide (0<=n)=gh l s:=by have hm:=xS;have h:Loop (fun i=>Dq l s i) 0=some (ze (kK (fun i(x:ByteArray)=>if s.toList==x.toList then some (i:Int)else none) 0 l)):=by{refine Bl (l:=l) (fun i x=>if s.toList==x.toList then some (i:Int)else none) (fun i h=> ?_) ?_;·{unfold Dq;simp only[ry h,if_true,nQ h,Do,iQ (i:=i) (by omega)];cases s.toList==l[i].toList<;>rfl};·unfold Dq;simp only[rz];rfl};have h2:∀(l:List ByteArray)(i:Nat),match kK (fun i(x:ByteArray)=>if s.toList==x.toList then some (i:Int)else none) i l with|some n=>0<=n∧gh l s=true|none=>gh l s=false:=by{intro l;induction l with|nil=>(intro i;rfl)|cons x l ih=>intro i;simp only[kK];by_cases hx:(s.toList==x.toList)=true;·{have:s.toList=x.toList:=by{simpa using hx};simp[this,gh]};·have hx':(s.toList==x.toList)=false:=by{simpa using hx};have hx2:(x.toList==s.toList)=false:=by{rw[BEq.comm];exact hx'};simp only[hx',Bool.false_eq_true,if_false];have:=ih (i+1);simp only[gh,List.any_cons,hx2,Bool.false_or];exact this};unfold GX;rw[h];have:=h2 l 0;generalize kK (fun i(x:ByteArray)=>if s.toList==x.toList then some (i:Int)else none) 0 l=o at this;cases o with|some n=>(exact⟨n,rfl,by rw[this.2];simpa using this.1⟩)|none=>exact⟨-1,rfl,by simp only at this;rw[this];rfl⟩
theorem anR(l:List ByteArray)(s:ByteArray)(hl:l.length<=maxLen):GS l s=some (gh l s):=by obtain⟨n,h1,h2⟩:=an1 l s hl;unfold GS;rw[h1,Do,h2]
abbrev uL:List ByteArray:=[(AC #[43]),(AC #[45]),(AC #[42]),(AC #[47]),(AC #[37]),(AC #[38]),(AC #[124]),(AC #[94]),(AC #[60,60]),(AC #[62,62])]
abbrev BH:List ByteArray:=[(AC #[61,61]),(AC #[33,61]),(AC #[60]),(AC #[60,61]),(AC #[62]),(AC #[62,61])]
abbrev OT:List ByteArray:=[(AC #[45]),(AC #[33]),(AC #[126]),(AC #[42]),(AC #[38])]
theorem XS(s:ByteArray):∃t,BB s=some (t,gh uL s||gh BH s)∧((gh uL s||gh BH s)&&decide (t.Op<=11))=gh uL s:=by have hc:∀x:ByteArray,(x.toList==s.toList)=(s.toList==x.toList):=fun x=>BEq.comm;unfold BB gh;simp only[H0,List.any_nil,Bool.or_false,hc];generalize(s.toList==(AC #[43]).toList)=b1;generalize(s.toList==(AC #[45]).toList)=b2;generalize(s.toList==(AC #[42]).toList)=b3;generalize(s.toList==(AC #[47]).toList)=b4;generalize(s.toList==(AC #[37]).toList)=BC;generalize(s.toList==(AC #[38]).toList)=Lp;generalize(s.toList==(AC #[124]).toList)=Lq;generalize(s.toList==(AC #[94]).toList)=abG;generalize(s.toList==(AC #[60,60]).toList)=abH;generalize(s.toList==(AC #[62,62]).toList)=abA;generalize(s.toList==(AC #[61,61]).toList)=Lj;generalize(s.toList==(AC #[33,61]).toList)=Ll;generalize(s.toList==(AC #[60]).toList)=abD;generalize(s.toList==(AC #[60,61]).toList)=Lm;generalize(s.toList==(AC #[62]).toList)=Ln;generalize(s.toList==(AC #[62,61]).toList)=Lo;cases b1;cases b2;cases b3;cases b4;cases BC;cases Lp;cases Lq;cases abG;cases abH;cases abA;cases Lj;cases Ll;cases abD;cases Lm;cases Ln;cases Lo;all_goals exact⟨_,rfl,rfl⟩
theorem XF{s:ByteArray}{n:Nat}(h:n<=s.size):fG s none (some (n:Int))=some (s.extract 0 n):=by unfold fG bounds;simp[h]
theorem ajQ{s:ByteArray}(h:s.toList=[]):gh uL s=false∧gh BH s=false:=by unfold gh;rw[h];exact⟨by decide+kernel,by decide+kernel⟩
theorem aey(s:ByteArray):(s.extract 0 0).toList=[]:=by have:s.extract 0 0=ByteArray.empty:=by{apply ByteArray.ext;simp};rw[this];decide+kernel
def kD(k:Int)(s:ByteArray):Bool:=if k==35 then gh OT s else if k==36 then gh uL s||gh BH s else if k==37 then(s.toList==(AC #[38,38]).toList||s.toList==(AC #[124,124]).toList)else if k==39 then(s.toList==(AC #[61]).toList||(decide (1<s.size)&&(match s[s.size-1]? with|some c=>c.toNat==61|none=>false)&&gh uL (s.extract 0 (s.size-1))))else if k==40 then(s.toList==(AC #[43,43]).toList||s.toList==(AC #[45,45]).toList)else s.toList==(AC #[]).toList
theorem Xo{s:ByteArray}(h:0<s.size)(hl:s.size<=maxLen):∃c,dP s (bG ((s.size:Int)-1))=some c∧s[s.size-1]? =some c:=by have hm:=xS;rw[kF (by omega) (by omega)];unfold dP;rw[if_pos (by omega),show((s.size:Int)-1).toNat=s.size-1 by omega];rw[getElem?_pos s (s.size-1) (by omega)];exact⟨_,rfl,rfl⟩
theorem am2(k:Int)(s:ByteArray)(hl:s.size<=maxLen):Kr k s=some (kD k s):=by have hm:=xS;unfold Kr kD;rw[Km OT s (by decide),Km uL s (by decide),Km BH s (by decide)];simp only[Do,R7,sO];split;·{rfl};·split;·{rfl};·split;·{rfl};·split;·{by_cases h1:(s.toList==(AC #[61]).toList)=true;·{simp only[h1,if_true,Bool.true_or,Do]};·have h1':(s.toList==(AC #[61]).toList)=false:=by{simpa using h1};simp only[h1',Bool.false_eq_true,if_false,Bool.false_or];by_cases h2:1<s.size;·{obtain⟨c,hc,jx⟩:=Xo (s:=s) (by omega) hl;rw[if_pos (by simp only[decide_eq_true_eq];omega),hc,jx,Option.bind_some];by_cases h3:c.toNat=61;·{have q4:((c.toNat:Int)==61)=true:=by{simpa using(by omega:(c.toNat:Int)=61)};have e:bG ((s.size:Int)-1)=((s.size-1:Nat):Int):=by{rw[kF (by omega) (by omega)];omega};rw[if_pos q4,e,XF (by omega),Option.bind_some,Km uL _ (by decide)];simp[h2,h3]};·have q4:((c.toNat:Int)==61)=false:=by{simpa using(by omega:¬(c.toNat:Int)=61)};simp[q4,h3]};·have:¬(1<(s.size:Int)):=by{omega};simp[h2,this]};·split<;>rfl
theorem aoH(k:Int)(s:ByteArray)(hl:s.size<=maxLen):Hu k s=some (kD k s):=by have hm:=xS;obtain⟨t,ht,_⟩:=XS s;unfold Hu kD;rw[ht,anR OT s (by decide)];simp only[Do,sO];split;·{rfl};·split;·{rfl};·split;·{rfl};·split;·{by_cases h1:(s.toList==(AC #[61]).toList)=true;·{simp only[h1,if_true,Bool.true_or,Do]};·have h1':(s.toList==(AC #[61]).toList)=false:=by{simpa using h1};simp only[h1',Bool.false_eq_true,if_false,Bool.false_or];have e:max 0 (bG ((s.size:Int)-1))=((s.size-1:Nat):Int):=by{rw[kF (by omega) (by omega)];omega};rw[e,XF (by omega),Option.bind_some];obtain⟨t2,FF,Fx⟩:=XS (s.extract 0 (s.size-1));rw[FF,Option.bind_some];by_cases h2:1<s.size;·{obtain⟨c,hc,jx⟩:=Xo (s:=s) (by omega) hl;rw[hc,jx,Option.bind_some];simp only;have hT:((c.toNat:Int)==61)=(c.toNat==61):=by{rw[Bool.eq_iff_iff];simp;omega};rw[hT,decide_eq_true h2];generalize(c.toNat==61)=T;generalize gh uL (s.extract 0 (s.size-1))=A at*;generalize gh BH (s.extract 0 (s.size-1))=B at*;generalize decide (t2.Op<=11)=D at*;revert Fx;cases A<;>cases B<;>cases D<;>cases T<;>decide};·have h0:s.size-1=0:=by{omega};obtain⟨n1,n2⟩:=ajQ (aey s);rw[h0];simp only[h2,n1,n2,decide_false,Bool.false_and,Bool.or_self,Bool.false_eq_true,if_false,Option.bind_some]};·split<;>rfl
theorem uT{S b7:Type}{step:S->Option (b8 S b7)}{gC:S}(st:Nat->S)(n:Nat)(r:b7)(h0:st 0=gC)(hs:∀i,i<n->step (st i)=some (.next (st (i+1))))(he:step (st n)=some (.out r)):Loop step gC=some r:=by subst h0;have key:∀k i,n-i=k->i<=n->Loop step (st i)=some r:=by{intro k;induction k with|zero=>(intro i hk hi;obtain rfl:i=n:=by{omega};rw[cK,he];rfl)|succ k ih=>intro i hk hi;rw[cK,hs i (by omega)];exact ih (i+1) (by omega) (by omega)};exact key _ 0 rfl (by omega)
abbrev bz:=List aA
def nd(N:bz)(k:Nat):aA:=N.getD k default
theorem uu{N:bz}{k:Nat}(h:k<N.length):idx N (k:Int)=some (nd N k):=by rw[nQ h];simp[nd,h]
def wS(N:bz):Nat->Nat->Nat|0,_=>0|f+1,k=>1+((nd N k).Kids.map fun x=>wS N f x.toNat).sum
def M(N:bz)(k:Nat):Nat:=wS N (k+1) k
def p6(N:bz):Nat->Nat->Nat|0,_=>0|f+1,k=>((nd N k).Kids.map fun x=>p6 N f x.toNat).foldl max 0+1
def D(N:bz)(k:Nat):Nat:=p6 N (k+1) k
def nR(N:bz)(n:aA):Nat->Nat->Option Nat|0,a=>some a|i+1,a=>if a=0∨n.Kids.getD i 0≠(a:Int)-1∨kP n.Kind i n.Kids.length (nd N (a-1)).Kind=false then none else nR N n i (a-M N (a-1))
def uI(n:aA):Int:=if oJ n.Kind&& !nU n.Text then 12 else if !oJ n.Kind&& !kD n.Kind n.Text then 1 else if !pL n||decide (n.aQ<0)then 3 else 0
def nV(N:bz)(k:Nat):Int:=if !vV (nd N k).Kind then 4 else if !mT (nd N k).Kind (nd N k).Kids.length then 9 else match nR N (nd N k) (nd N k).Kids.length k with|none=>5|some _=>uI (nd N k)
def mO(N:bz)(k:Nat):Prop:=∀j,j<k->nV N j=0
theorem mO.le{N:bz}{j k:Nat}(h:mO N k)(hj:j<=k):mO N j:=fun i hi=>h i (by omega)
theorem aoq{g:Int->Nat}{l:List Int}{i:Nat}(h:i<l.length):((l.take (i+1)).map g).sum=((l.take i).map g).sum+g (l.getD i 0):=by rw[H1,H2 h,H3,List.sum_append];simp[h]
theorem U4{g:Int->Nat}:∀{l:List Int},(∀t,t<l.length->1<=g (l.getD t 0))->l.length<=(l.map g).sum|[],_=>by{simp}|x::l,h=>by have h0:=h 0 (by simp);have:=U4 (l:=l) fun t ht=>by{simpa using h (t+1) (by simpa using ht)};simp at h0|-;omega
theorem UU{N:bz}{n:aA}:∀{i a b:Nat},nR N n i a=some b->(∀j,j<a->1<=M N j∧M N j<=j+1)->i<=n.Kids.length->b<=a∧(∀t,t<i->∃c:Nat,n.Kids.getD t 0=(c:Int)∧b<=c∧c<a)∧((n.Kids.take i).map fun x=>M N x.toNat).sum+b=a|0,a,b,h,_,_=>by{simp only[nR,Option.some.injEq]at h;subst h;exact⟨Hc _,fun t ht=>by omega,by simp⟩}|i+1,a,b,h,iq,hi=>by unfold nR at h;split at h;·{cases h};·rename_i hc;have ha:a≠0:=fun e=>hc (.inl e);have hk:n.Kids.getD i 0=(a:Int)-1:=by{by_cases hk:n.Kids.getD i 0=(a:Int)-1;·{exact hk};·exact absurd (.inr (.inl hk)) hc};obtain⟨h1,h2⟩:=iq (a-1) (by omega);obtain⟨e1,e2,bY⟩:=UU h (fun j hj=>iq j (by omega)) (by omega);refine⟨by omega,fun t ht=> ?_, ?_⟩;·{by_cases ahS:t=i;·{subst ahS;exact⟨a-1,by rw[hk];omega,by omega,by omega⟩};·obtain⟨c,q1,cq,dO⟩:=e2 t (by omega);exact⟨c,q1,cq,by omega⟩};·rw[aoq (by omega),hk,show((a:Int)-1).toNat=a-1 by omega];omega
theorem ajZ{N:bz}{k:Nat}(h:nV N k=0):∃b,nR N (nd N k) (nd N k).Kids.length k=some b∧uI (nd N k)=0∧vV (nd N k).Kind=true∧mT (nd N k).Kind (nd N k).Kids.length=true:=by unfold nV at h;split at h;·{cases h};·split at h;·{cases h};·rename_i h1 h2;split at h;·{cases h};·rename_i b hb;exact⟨b,hb,h,by simpa using h1,by simpa using h2⟩
theorem Tx(l:List Int)(g g':Int->Nat)(h:∀t,t<l.length->g (l.getD t 0)=g' (l.getD t 0)):l.map g=l.map g':=by refine H4 fun x hx=> ?_;obtain⟨t,ht,rfl⟩:=List.mem_iff_getElem.1 hx;have:=h t ht;simpa[ht]using this
theorem vw{N:bz}{k:Nat}(h:mO N k):∀j,j<k->(∀f,j<f->wS N f j=M N j∧p6 N f j=D N j)∧1<=M N j∧M N j<=j+1∧nR N (nd N j) (nd N j).Kids.length j=some (j+1-M N j)∧M N j=1+((nd N j).Kids.map fun x=>M N x.toNat).sum∧D N j=((nd N j).Kids.map fun x=>D N x.toNat).foldl max 0+1∧∀t,t<(nd N j).Kids.length->∃c:Nat,(nd N j).Kids.getD t 0=(c:Int)∧j+1-M N j<=c∧c<j:=by intro j;induction j using H5 with|ind j ih=>intro hj;obtain⟨b,hb,_⟩:=ajZ (h j hj);obtain⟨e1,e2,bY⟩:=UU hb (fun i hi=>⟨(ih i hi (by omega)).2.1,(ih i hi (by omega)).2.2.1⟩) (Hc _);rw[Hd]at bY;have hf:∀f,j<f->wS N f j=1+((nd N j).Kids.map fun x=>M N x.toNat).sum∧p6 N f j=((nd N j).Kids.map fun x=>D N x.toNat).foldl max 0+1:=by{intro f hf;obtain⟨f,rfl⟩:∃g,f=g+1:=⟨f-1,by omega⟩;constructor;·{rw[wS,Tx _ _ (fun x=>M N x.toNat)];intro t ht;obtain⟨c,q1,cq,dO⟩:=e2 t ht;rw[q1,GT];exact((ih c dO (by omega)).1 f (by omega)).1};·rw[p6,Tx _ _ (fun x=>D N x.toNat)];intro t ht;obtain⟨c,q1,cq,dO⟩:=e2 t ht;rw[q1,GT];exact((ih c dO (by omega)).1 f (by omega)).2};have iq:=(hf (j+1) (by omega)).1;have hD:=(hf (j+1) (by omega)).2;have aq5:M N j+b=j+1:=by{unfold M;omega};have e:j+1-M N j=b:=by{omega};refine⟨fun f h1=>⟨(hf f h1).1.trans iq.symm,(hf f h1).2.trans hD.symm⟩,by omega,by omega,by rw[e];exact hb,iq,hD,fun t ht=> ?_⟩;rw[e];exact e2 t ht
theorem aiM{N:bz}{k:Nat}(h:mO N k){j:Nat}(hj:j<k):(nd N j).Kids.length<=j:=by obtain⟨_,h1,h2,_,iq,_,hk⟩:=vw h j hj;have:=U4 (g:=fun x=>M N x.toNat) (l:=(nd N j).Kids) fun t ht=>by{obtain⟨c,q1,cq,dO⟩:=hk t ht;rw[q1,GT];exact(vw h c (by omega)).2.1};omega
theorem ES{g:Int->Nat}{l:List Int}{i:Nat}(h:i<l.length):((l.take (i+1)).map g).foldl max 0=max (((l.take i).map g).foldl max 0) (g (l.getD i 0)):=by rw[H1,H2 h,H3,List.foldl_append];simp[h]
theorem Yk{N:bz}{k:Nat}(h:mO N k):∀j,j<k->1<=D N j∧D N j<=j+1:=by intro j;induction j using H5 with|ind j ih=>intro hj;obtain⟨_,h1,h2,_,_,hD,hk⟩:=vw h j hj;have:∀i,i<=(nd N j).Kids.length->(((nd N j).Kids.take i).map fun x=>D N x.toNat).foldl max 0<=j:=by{intro i;induction i with|zero=>(intro _;simp)|succ i ih2=>intro hi;obtain⟨c,q1,cq,dO⟩:=hk i (by omega);rw[ES (by omega),q1,GT];have:=ih2 (by omega);have:=(ih c dO (by omega)).2;omega};have:=this _ (Hc _);rw[Hd]at this;omega
/-! ### What is wrong with a node -/
def H7(N:bz):Prop:=N.length<=Eh∧∀n∈N,n.Kids.length<=Eh∧n.Text.size<=maxLen
def jh(N:bz)(i:Nat)(v:Int):List Int:=(List.range N.length).map fun j=>if j<i then(D N j:Int)else if j=i then v else 0
theorem IF(N:bz)(i:Nat)(v:Int):(jh N i v).length=N.length:=by simp[jh]
theorem BM{N:bz}{i j:Nat}{v:Int}(h:j<N.length):idx (jh N i v) (j:Int)=some (if j<i then(D N j:Int)else if j=i then v else 0):=by rw[nQ (by rw[IF];exact h)];simp[jh]
theorem IG{N:bz}{i:Nat}{v w:Int}:(jh N i v).set i w=jh N i w:=by apply IH ;intro j;rw[List.getElem?_set];by_cases hj:j<N.length;·{simp only[jh,List.getElem?_map,List.getElem?_range hj,Option.map_some,List.length_map,List.length_range];by_cases e:i=j;·{subst e;simp[hj]};·have:j≠i:=fun h=>e h.symm;simp[e,this]};·have h1:(jh N i w)[j]? =none:=If (by rw[IF];omega);have h2:(jh N i v)[j]? =none:=If (by rw[IF];omega);rw[h1,h2,IF];split;·{rw[if_neg (by omega)]};·rfl
theorem SP{N:bz}{i:Nat}:jh N i (D N i:Int)=jh N (i+1) 0:=by refine H4 fun j _=> ?_;by_cases h1:j<i;·{rw[if_pos h1,if_pos (by omega)]};·by_cases h2:j=i;·{subst h2;simp};·rw[if_neg h1,if_neg h2,if_neg (by omega)];simp
theorem SO{N:bz}:List.replicate N.length (0:Int)=jh N 0 0:=by apply IH ;intro j;by_cases hj:j<N.length;·{simp[jh,hj]};·simp[jh,hj]
def iM(N:bz):Nat->Nat|0=>0|i+1=>max (iM N i) (D N i)
theorem adY{N:bz}(h:mO N N.length)(h6:N.length<=600):qe ⟨N⟩=some (iM N N.length:Int):=by unfold qe;have hm:ur (N.length:Int) (0:Int)=some (jh N 0 0):=by{unfold ur;rw[if_pos (by omega),GT,SO]};rw[hm,Do];have inner:∀i,i<N.length->Loop (fun s=>r8 (i:Int) (nd N i) s.1 s.2) (jh N i 0,0)=some (jh N i (((nd N i).Kids.map fun x=>D N x.toNat).foldl max 0:Nat)):=by{intro i hi;obtain⟨_,h1,h2,_,_,hD,hk⟩:=vw h i hi;have hlen:=aiM h hi;refine uT (step:=fun s=>r8 (i:Int) (nd N i) s.1 s.2) (fun t=>(jh N i (((nd N i).Kids.take t|>.map fun x=>D N x.toNat).foldl max 0:Nat),(t:Int))) (nd N i).Kids.length _ (by simp) (fun t ht=> ?_) ?_;·{obtain⟨c,q1,cq,dO⟩:=hk t ht;have hg:(nd N i).Kids[t]=(c:Int):=by{rw[<-q1];simp[ht]};unfold r8;simp only[ry ht,if_true,nQ ht,Option.bind_some,hg,BM hi,BM (show c<N.length by omega),dO,Nat.lt_irrefl,if_false,Int.toNat_natCast,IG];rw[ES ht,q1,Int.toNat_natCast,iQ (by omega)];congr 4;omega};·unfold r8;simp only[rz,GE,if_false,Hd]};rw[uT (step:=fun s=>vb ⟨N⟩ s.1 s.2.1 s.2.2) (gC:=(jh N 0 0,0,0)) (fun i=>(jh N i 0,(iM N i:Int),(i:Int))) N.length (iM N N.length:Int) (by simp[iM]) (fun i hi=> ?_) ?_];·{rfl};·{unfold vb;simp only[rz,GE,if_false]};·obtain⟨_,h1,h2,_,_,hD,hk⟩:=vw h i hi;have hd:=(Yk h i hi).2;unfold vb;have e:bG ((((nd N i).Kids.map fun x=>D N x.toNat).foldl max 0:Nat)+1)=(D N i:Int):=by{rw[iQ (by omega),hD]};simp only[ry hi,if_true,uu hi,Do,inner i hi,BM hi,Nat.lt_irrefl,if_false,GT,IG,e];rw[iQ (by omega),SP,iM];congr 4;omega
theorem Sr{α:Type}{l:List α}(h:l.length<=4294967296):clone l=some l:=if_pos h
end Go.Ab
