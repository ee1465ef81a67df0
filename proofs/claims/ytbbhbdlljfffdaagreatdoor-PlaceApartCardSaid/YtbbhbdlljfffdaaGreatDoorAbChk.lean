import Derived.Test.YtbbhbdlljfffdaaGreatDoorAbGens
open Bool renaming false_eq_true→Ha,not_true→Hd,eq_iff_iff→Hn,false_and→H0,and_eq_true→H5,and_false→IH,and_true→If
open ByteArray renaming mk→GE
open Int renaming toNat_natCast→Hb
open List renaming ext_getElem?→Hm,take_length→H2,getElem?_eq_none→H3,foldl_cons→H4,take_add_one→Ix,getElem?_eq_getElem→Kd,map_append→Lk,map_congr_left→PH,getElem?_set→PP,getElem?_map→PQ,getElem?_range→Pi,length_map→QP,length_range→QQ,replicate→QR,map_cons→RK,mem_cons_self→R0,mem_cons_of_mem→Sp
open Nat renaming le_refl→Hc,strongRecOn→H1
open Option renaming bind_some→GT,map_some→Ps
open Option.some renaming injEq→Hk
set_option linter.all false
namespace Go.Ab
open Go
theorem fj{n:Int}(h1:-9223372036854775808≤n)(h2:n<9223372036854775808):aR n=n:=by simp only[aR,IntKind.wrap,IntKind.bits,IntKind.signed];simp;split<;>omega
theorem kM{i:Nat}(h:i<9223372036854775807):aR ((i:Int)+1)=((i+1:Nat):Int):=by rw[fj (by omega) (by omega)];rfl
theorem pR{α:Type}{l:List α}{i:Nat}(h:i<l.length):idx l (i:Int)=some l[i]:=by unfold idx;rw[AC (by omega)];simp[h]
def run{σ bY α:Type}(f:Nat→σ→α→bY⊕σ)(e:σ→bY):Nat→σ→List α→bY|_,s,[]=>e s|i,s,x::l=>match f i s x with| .inl o=>o| .inr s'=>run f e (i+1) s' l
theorem Vu{σ bY α S:Type}{l:List α}(pack:σ→Int→S)(f:Nat→σ→α→bY⊕σ)(e:σ→bY)(Inv:Nat→σ→Prop){step:S→Option (cE S bY)}(hs:∀i s(h:i<l.length),Inv i s→match f i s l[i]with| .inl o=>step (pack s (i:Int))=some (.out o)| .inr s'=>step (pack s (i:Int))=some (.next (pack s' ((i+1:Nat):Int)))∧Inv (i+1) s')(he:∀s,Inv l.length s→step (pack s (l.length:Int))=some (.out (e s))){fh:σ}(h0:Inv 0 fh):Loop step (pack fh 0)=some (run f e 0 fh l):=by have key:∀k i s,l.length-i=k→i≤l.length→Inv i s→Loop step (pack s (i:Int))=some (run f e i s (l.drop i)):=by{intro k;induction k with|zero=>(intro i s hk hi hI;obtain rfl:i=l.length:=by{omega};rw[j7,he s hI,List.drop_length];rfl)|succ k ih=>intro i s hk hi hI;have hlt:i<l.length:=by{omega};have h1:=hs i s hlt hI;rw[j7,List.drop_eq_getElem_cons hlt];unfold run;split at h1;·{rw[h1];rfl};·rename_i s' ho;rw[h1.1];exact ih (i+1) s' (by omega) (by omega) h1.2};exact key _ 0 fh rfl (by omega) h0
def jx{α ρ:Type}(g:Nat→α→Option ρ):Nat→List α→Option ρ|_,[]=>none|i,x::l=>match g i x with|some r=>some r|none=>jx g (i+1) l
def uj{ρ:Type}:Option ρ→cL Unit ρ|some r=> .ret r|none=> .ep ()
theorem BB{α ρ:Type}{l:List α}(g:Nat→α→Option ρ){step:Int→Option (cE Int (cL Unit ρ))}(hs:∀i(h:i<l.length),step (i:Int)=some (match g i l[i]with|some r=> .out (.ret r)|none=> .next ((i+1:Nat):Int)))(he:step (l.length:Int)=some (.out (.ep ()))):Loop (fun s=>step s) 0=some (uj (jx g 0 l)):=by have:=Vu (l:=l) (σ:=Unit) (bY:=cL Unit ρ) (fun _ i=>i) (fun i _ x=>match g i x with|some r=> .inl (.ret r)|none=> .inr ()) (fun _=> .ep ()) (fun _ _=>True) (step:=step) (fun i s h _=>by have:=hs i h;cases hg:g i l[i]with|some r=>(simp only[hg]at this⊢;exact this)|none=>simp only[hg]at this⊢;exact⟨this,trivial⟩) (fun s _=>he) (fh:=()) trivial;rw[this];congr 1;generalize 0=i;clear this hs he;induction l generalizing i with|nil=>(rfl)|cons x l ih=>simp only[run,jx];cases g i x with|some r=>(rfl)|none=>exact ih (i+1)
end Go.Ab
namespace Go.Ab
open Go Go.Proofs
@[simp]theorem Qv{bY ρ β:Type}(f:bY→Option β)(g:ρ→Option β)(x:bY):cL.go f g (.ep x)=f x:=rfl
@[simp]theorem go_ret{bY ρ β:Type}(f:bY→Option β)(g:ρ→Option β)(x:ρ):cL.go f g (.ret x)=g x:=rfl
abbrev Fc:Nat:=9223372036854775807
def eG(a lo hi:Int):Bool:=decide (lo≤a)&&decide (a≤hi)
theorem tn(a b:Bool):(if a then b else false)=(a&&b):=by cases a<;>rfl
theorem mY(a b:Bool):(if a then true else b)=(a||b):=by cases a<;>rfl
@[simp]theorem cin(a b c:Int):qm a b c=some (eG a b c):=by simp only[qm,eG,tn]
@[simp]theorem kT(a b:Int):fJ a b=some ⟨a,b⟩:=rfl
theorem Dt:maxLen=9223372036854775807:=rfl
theorem k4{i:Nat}{n:Nat}(h:i<n):decide ((i:Int)<(n:Int))=true:=by simp[h]
theorem mu{n:Nat}:decide ((n:Int)<(n:Int))=false:=by simp
theorem E9{α:Type}{a b:List α}(h:a.length+b.length≤4294967296):app a b=some (a++b):=AC h
theorem YX(a b:Bool):(if a=true then some true else some b)=some (a||b):=by cases a<;>rfl
theorem Vs{σ bY S:Type}(pack:σ→Int→S)(f:Nat→σ→bY){step:S→Option (cE S bY)}(N:Nat)(Inv:Nat→σ→Prop)(hs:∀k s,k<N→Inv (k+1) s→step (pack s (k:Int))=some (.out (f (k+1) s))∨∃s',step (pack s (k:Int))=some (.next (pack s' ((k:Int)-1)))∧f (k+1) s=f k s'∧Inv k s')(he:∀s,Inv 0 s→step (pack s (-1))=some (.out (f 0 s))):∀k s,k≤N→Inv k s→Loop step (pack s ((k:Int)-1))=some (f k s):=by intro k;induction k with|zero=>(intro s _ hI;rw[j7];simp only[Int.natCast_zero,Int.zero_sub];rw[he s hI];rfl)|succ k ih=>intro s hk hI;rw[j7,show((k+1:Nat):Int)-1=(k:Int)by omega];rcases hs k s (by omega) hI with h|⟨s',h1,h2,h3⟩;·{rw[h];rfl};·rw[h1,h2];exact ih s' (by omega) h3
/-! ### Names -/
def oI(c:Int):Bool:=eG c 97 122||eG c 65 90||c==95
def pE(c:Int):Bool:=eG c 48 57
def uo(c:UInt8):Bool:=oI c.toNat||pE c.toNat
def GM(s:ByteArray):Bool:=eG s.size 1 12&&(match s.data.toList with|[]=>false|c::_=> !pE c.toNat)&&s.data.toList.all uo
theorem akd{s:ByteArray}{i:Nat}(h:i<s.data.toList.length):en s (i:Int)=some s.data.toList[i]:=by unfold en;rw[AC (by omega)];simp only[Hb];have h':i<s.size:=by{simpa using h};rw[getElem?_pos s i h'];rfl
theorem Ut(s:ByteArray):s.size=s.data.toList.length:=by simp
theorem aal(s:ByteArray)(h12:s.size≤12):Loop (fun i=>zm s i) 0=some (uj (jx (fun i c=>if oI c.toNat||(decide (0<i)&&pE c.toNat)then none else some false) 0 s.data.toList)):=by refine BB (l:=s.data.toList) _ (fun i h=> ?_) ?_;·{have hlt:i<s.size:=by{rw[Ut];exact h};unfold zm;simp only[akd h,Option.bind_some,kM (i:=i) (by omega),tn,mY];rw[AC (by simp;omega)];have e:(decide (97≤(s.data.toList[i].toNat:Int))&&decide ((s.data.toList[i].toNat:Int)≤122)||decide (65≤(s.data.toList[i].toNat:Int))&&decide ((s.data.toList[i].toNat:Int)≤90)||(s.data.toList[i].toNat:Int)==95||decide (0<(i:Int))&&decide (48≤(s.data.toList[i].toNat:Int))&&decide ((s.data.toList[i].toNat:Int)≤57))=(oI s.data.toList[i].toNat||(decide (0<i)&&pE s.data.toList[i].toNat)):=by{simp only[oI,pE,eG,Bool.and_assoc];congr 2;simp};rw[e];cases oI s.data.toList[i].toNat||(decide (0<i)&&pE s.data.toList[i].toNat)<;>rfl};·unfold zm;rw[Do (by simp)]
theorem aak(s:ByteArray):zl s=some (GM s):=by unfold zl GM;simp only[mY];by_cases hs:eG s.size 1 12=true;·{have hb:1≤s.size∧s.size≤12:=by{simp only[eG,Bool.and_eq_true,decide_eq_true_eq]at hs;omega};have hc0:(decide ((s.size:Int)<1)||decide (12<(s.size:Int)))=false:=by{simp;omega};simp only[hs,hc0,aal s hb.2];cases hc:s.data.toList with|nil=>(rw[Ut,hc]at hb;simp at hb)|cons c l=>have key:∀(l:List UInt8)(i:Nat),0<i→jx (fun i(c:UInt8)=>if oI c.toNat||(decide (0<i)&&pE c.toNat)then none else some false) i l=if l.all uo then none else some false:=by{intro l;induction l with|nil=>(intro i _;rfl)|cons x l ih=>intro i hi;have e:(oI x.toNat||(decide (0<i)&&pE x.toNat))=uo x:=by{simp[uo,hi]};rw[jx,ih (i+1) (by omega),List.all_cons,e];by_cases hx:uo x=true<;>simp[hx]};have aep:oI c.toNat=true→pE c.toNat=false:=by{simp only[oI,pE,eG];simp;omega};have e0:(oI c.toNat||(decide (0<0)&&pE c.toNat))=oI c.toNat:=by{simp};rw[jx,key l 1 (by omega),e0,List.all_cons];by_cases h1:oI c.toNat=true;·{by_cases hl:l.all uo=true<;>simp[h1,aep h1,hl,uj,uo]<;>simpa using hl};·have h1':oI c.toNat=false:=by{simpa using h1};cases h2:pE c.toNat<;>simp[h1',h2,uj,uo]};·have:(decide ((s.size:Int)<1)||decide (12<(s.size:Int)))=true:=by{simp only[eG,H5,decide_eq_true_eq]at hs;simp;omega};simp[hs,this]
end Go.Ab
namespace Go.Ab
open Go Go.Proofs
def lE(k:Int):Bool:=eG k 31 40
def A8(k:Int):Bool:=eG k 11 18||eG k 21 24
def xN(k:Int):Bool:=eG k 1 4||eG k 11 24||lE k
def xS(k:Int):Bool:=k==2||k==3||k==4||k==12||k==32||k==33
@[simp]theorem E6(k:Int):o9 k=some (lE k):=by simp only[o9,lE,eG,tn]
@[simp]theorem YL(k:Int):wm k=some (A8 k):=by simp only[wm,A8,eG,tn,mY]
@[simp]theorem aky(k:Int):Eo k=some (xN k):=by simp only[Eo,E6,GT,tn,mY,YX,xN,eG]
@[simp]theorem akz(k:Int):Bc k=some (xS k):=by simp only[Bc,mY,xS]
def gZ(k:Int):Int×Int:=if k==1||k==11||k==33 then(0,1099511627776)else if k==3||k==18 then(1,1099511627776)else if k==2 then(0,200)else if k==12||k==23 then(0,1)else if k==13||k==19||k==35||k==40 then(1,1)else if k==14 then(2,3)else if k==15||k==16||k==34||k==36||k==37||k==39 then(2,2)else if k==38 then(3,3)else if k==17 then(4,4)else(0,0)
theorem afW{P:Int→Prop}{k:Int}(h:∀n:_root_.Fin 41,P ((n:Nat):Int))(h2:k<0∨40<k→P k):P k:=by by_cases hk:0≤k∧k≤40;·{have:=h ⟨k.toNat,by omega⟩;simpa[Int.toNat_of_nonneg hk.1]using this};·exact h2 (by omega)
theorem akH(k:Int):Be k=some ((gZ k).1,if(gZ k).2=1099511627776 then-1 else(gZ k).2):=by refine afW (P:=fun k=>Be k=some ((gZ k).1,if(gZ k).2=1099511627776 then-1 else(gZ k).2)) (by decide+kernel) fun h=> ?_;have hn:∀c:Int,0≤c→c≤40→(k==c)=false:=fun c h1 h2=>by{simp;omega};simp[Be,yz,Bf,Bg,vv,sn,gZ,hn]
theorem afS(k:Int):(gZ k).2=1099511627776∨(0≤(gZ k).2∧(gZ k).2≤200):=by
 unfold gZ
 repeat' split
 all_goals simp
def lB(k m:Int):Bool:=decide ((gZ k).1≤m)&&((gZ k).2==1099511627776||decide (m≤(gZ k).2))
theorem afT{k m:Int}:(if(decide (m<(gZ k).1))then true else(if(decide (0≤(if(gZ k).2=1099511627776 then-1 else(gZ k).2)))then(decide ((if(gZ k).2=1099511627776 then-1 else(gZ k).2)<m))else false))= !lB k m:=by simp only[mY,tn,lB];rcases afS k with h|h;·{rw[h,Hn];simp};·rw[Do (by omega)];have:((gZ k).2==1099511627776)=false:=by{simp;omega};rw[this,Hn];simp;omega
def nJ(k i m c:Int):Bool:=if k==1 then c==2||c==3 else if k==3 then(if i==aR (m-1)then c==11 else c==4)else if k==11 then A8 c else if k==18&&decide (0<i)then A8 c||c==19||c==20 else if(((k==14||k==15)&&decide (0<i))||(k==16&&i==0))||(k==17&&i==3)then c==11 else if k==17&&i==0 then c==12||c==13||c==24 else if k==17&&i==1 then lE c||c==24 else if k==17&&i==2 then c==13||c==24 else lE c
theorem akx(n:aI)(i c:Int)(hi:0≤i)(hl:i<n.Kids.length)(hs:lB n.Kind n.Kids.length=true):En n i c=some (nJ n.Kind i n.Kids.length c):=by unfold En Bb nJ;simp only[YL,E6,GT,mY,tn];generalize n.Kids.length=m at*;generalize n.Kind=k at*;by_cases h1:k=1;·{subst h1;rfl};by_cases h3:k=3;·{subst h3;by_cases hx:i=aR ((m:Int)-1);·{simp[←hx]};·have hb:(i==aR ((m:Int)-1))=false:=beq_eq_false_iff_ne.2 hx;simp[hb]};by_cases h11:k=11;·{subst h11;rfl};have b1:(k==1)=false:=by{simpa using h1};have b3:(k==3)=false:=by{simpa using h3};have Iv:(k==11)=false:=by{simpa using h11};simp only[b1,b3,Iv,Ha,if_false];by_cases ie:k=18;·{subst ie;by_cases h0:i=0;·{subst h0;simp;cases lE c<;>rfl};·have:0<i:=by{omega};simp[h0,this]};have YP:(k==18)=false:=by{simpa using ie};simp only[YP,Ha,if_false,H0];by_cases gF:k=14;·{subst gF;by_cases h0:i=0;·{subst h0;simp};·have:0<i:=by{omega};simp[h0,this]};by_cases iG:k=15;·{subst iG;by_cases h0:i=0;·{subst h0;simp};·have:0<i:=by{omega};simp[h0,this]};have Iy:(k==14)=false:=by{simpa using gF};have Iz:(k==15)=false:=by{simpa using iG};simp only[Iy,Iz,Ha,if_false,H0,Bool.false_or];by_cases jS:k=16;·{subst jS;have hm:(m:Int)=2:=by{have:gZ 16=(2,2):=by{decide+kernel};simp[lB,this]at hs;omega};have:i=0∨i=1:=by{omega};rcases this with rfl|rfl<;>simp};by_cases iH:k=17;·{subst iH;have hm:(m:Int)=4:=by{have:gZ 17=(4,4):=by{decide+kernel};simp[lB,this]at hs;omega};have:i=0∨i=1∨i=2∨i=3:=by{omega};rcases this with rfl|rfl|rfl|rfl<;>simp};have IA:(k==16)=false:=by{simpa using jS};have YO:(k==17)=false:=by{simpa using iH};simp[IA,YO]
/-! ### Numbers -/
def tB(n:aI):Bool:=if n.Kind==2&&n.N==3 then eG n.eJ 1 200&&decide ((n.Kids.length:Int)≤n.eJ)else if n.eJ !=0 then false else if n.Kind==2 then eG n.N 1 2&&decide ((n.Kids.length:Int)<2)else if n.Kind==3 then eG n.N 0 2 else if n.Kind==4||n.Kind==12 then eG n.N 1 2 else if n.Kind==31 then decide (0≤n.N)else if n.Kind==40 then eG n.N 0 1 else n.N==0
@[simp]theorem akA(n:aI):Ep n=some (tB n):=by
 unfold Ep Bd tB
 simp only[cin,GT,mY,tn]
 generalize n.Kids.length=m
 generalize n.Kind=k
 generalize n.N=x
 generalize n.eJ=z
 by_cases h2:k=2
 ·subst h2
  by_cases hx:x=3
  ·subst hx;simp
  ·have :(x==3)=false:=by simpa using hx
   simp only[this,IH,Ha,if_false,beq_self_eq_true,if_true]
   by_cases hz:z=0
   ·subst hz
    simp only[beq_self_eq_true,bne,Hd,Ha,if_false,If,eG]
    congr 1
    rw[Hn];simp;omega
   ·have xB:(z==0)=false:=by simpa using hz
    simp[xB,bne]
 have b2:(k==2)=false:=by simpa using h2
 simp only[b2,Ha,if_false,H0]
 by_cases hz:z=0
 ·subst hz
  simp only[bne,beq_self_eq_true,Hd,If,Ha,if_false]
  by_cases h4:k=4
  ·subst h4;rfl
  have b4:(k==4)=false:=by simpa using h4
  by_cases h12:k=12
  ·subst h12;rfl
  have Iw:(k==12)=false:=by simpa using h12
  simp only[b4,Iw,Ha,if_false,Bool.or_self]
  repeat' split
  all_goals rfl
 ·have xB:(z==0)=false:=by simpa using hz
  simp only[xB,bne,Bool.not_false,if_true,IH]
  repeat' split
  all_goals rfl
end Go.Ab
namespace Go.Ab
open Go Go.Proofs
def iz(l:List ByteArray)(s:ByteArray):Bool:=l.any fun x=>x.toList==s.toList
theorem ake(l:List ByteArray)(s:ByteArray)(hl:l.length≤maxLen):∃n:Int,Eh l s=some n∧decide (0≤n)=iz l s:=by have hm:=Dt;have h:Loop (fun i=>A5 l s i) 0=some (uj (jx (fun i(x:ByteArray)=>if s.toList==x.toList then some (i:Int)else none) 0 l)):=by{refine BB (l:=l) (fun i x=>if s.toList==x.toList then some (i:Int)else none) (fun i h=> ?_) ?_;·{unfold A5;simp only[k4 h,if_true,pR h,GT,kM (i:=i) (by omega)];cases s.toList==l[i].toList<;>rfl};·unfold A5;simp only[mu];rfl};have h2:∀(l:List ByteArray)(i:Nat),match jx (fun i(x:ByteArray)=>if s.toList==x.toList then some (i:Int)else none) i l with|some n=>0≤n∧iz l s=true|none=>iz l s=false:=by{intro l;induction l with|nil=>(intro i;rfl)|cons x l ih=>intro i;simp only[jx];by_cases hx:(s.toList==x.toList)=true;·{have:s.toList=x.toList:=by{simpa using hx};simp[this,iz]};·have hx':(s.toList==x.toList)=false:=by{simpa using hx};have hx2:(x.toList==s.toList)=false:=by{rw[BEq.comm];exact hx'};simp only[hx',Bool.false_eq_true,if_false];have:=ih (i+1);simp only[iz,List.any_cons,hx2,Bool.false_or];exact this};unfold Eh;rw[h];have:=h2 l 0;generalize jx (fun i(x:ByteArray)=>if s.toList==x.toList then some (i:Int)else none) 0 l=o at this;cases o with|some n=>(exact⟨n,rfl,by rw[this.2];simpa using this.1⟩)|none=>exact⟨-1,rfl,by simp only at this;rw[this];rfl⟩
theorem aj4(l:List ByteArray)(s:ByteArray)(hl:l.length≤maxLen):Ef l s=some (iz l s):=by obtain⟨n,h1,h2⟩:=ake l s hl;unfold Ef;rw[h1,GT,h2]
abbrev yA:List ByteArray:=[(GE #[43]),(GE #[45]),(GE #[42]),(GE #[47]),(GE #[37]),(GE #[38]),(GE #[124]),(GE #[94]),(GE #[60,60]),(GE #[62,62])]
abbrev BU:List ByteArray:=[(GE #[61,61]),(GE #[33,61]),(GE #[60]),(GE #[60,61]),(GE #[62]),(GE #[62,61])]
abbrev DE:List ByteArray:=[(GE #[45]),(GE #[33]),(GE #[126]),(GE #[42]),(GE #[38])]
theorem M4(s:ByteArray):∃t,qh s=some (t,iz yA s||iz BU s)∧((iz yA s||iz BU s)&&decide (t.Op≤11))=iz yA s:=by have hc:∀x:ByteArray,(x.toList==s.toList)=(s.toList==x.toList):=fun x=>BEq.comm;unfold qh iz;simp only[List.any_cons,List.any_nil,Bool.or_false,hc];generalize(s.toList==(GE #[43]).toList)=b1;generalize(s.toList==(GE #[45]).toList)=b2;generalize(s.toList==(GE #[42]).toList)=b3;generalize(s.toList==(GE #[47]).toList)=b4;generalize(s.toList==(GE #[37]).toList)=qi;generalize(s.toList==(GE #[38]).toList)=BP;generalize(s.toList==(GE #[124]).toList)=BQ;generalize(s.toList==(GE #[94]).toList)=YQ;generalize(s.toList==(GE #[60,60]).toList)=YR;generalize(s.toList==(GE #[62,62]).toList)=YM;generalize(s.toList==(GE #[61,61]).toList)=Iv;generalize(s.toList==(GE #[33,61]).toList)=Iw;generalize(s.toList==(GE #[60]).toList)=YN;generalize(s.toList==(GE #[60,61]).toList)=Iy;generalize(s.toList==(GE #[62]).toList)=Iz;generalize(s.toList==(GE #[62,61]).toList)=IA;cases b1;cases b2;cases b3;cases b4;cases qi;cases BP;cases BQ;cases YQ;cases YR;cases YM;cases Iv;cases Iw;cases YN;cases Iy;cases Iz;cases IA;all_goals exact⟨_,rfl,rfl⟩
theorem Uy{s:ByteArray}{n:Nat}(h:n≤s.size):jk s none (some (n:Int))=some (s.extract 0 n):=by unfold jk bounds;simp[h]
theorem agL{s:ByteArray}(h:s.toList=[]):iz yA s=false∧iz BU s=false:=by unfold iz;rw[h];exact⟨by decide+kernel,by decide+kernel⟩
theorem abo(s:ByteArray):(s.extract 0 0).toList=[]:=by have:s.extract 0 0=ByteArray.empty:=by{apply ByteArray.ext;simp};rw[this];decide+kernel
def yt(k:Int)(s:ByteArray):Bool:=if k==35 then iz DE s else if k==36 then iz yA s||iz BU s else if k==37 then(s.toList==(GE #[38,38]).toList||s.toList==(GE #[124,124]).toList)else if k==39 then(s.toList==(GE #[61]).toList||(decide (1<s.size)&&(match s[s.size-1]? with|some c=>c.toNat==61|none=>false)&&iz yA (s.extract 0 (s.size-1))))else if k==40 then(s.toList==(GE #[43,43]).toList||s.toList==(GE #[45,45]).toList)else s.toList==(GE #[]).toList
theorem akc{s:ByteArray}(h:0<s.size)(hl:s.size≤maxLen):∃c,en s (aR ((s.size:Int)-1))=some c∧s[s.size-1]? =some c:=by have hm:=Dt;rw[fj (by omega) (by omega)];unfold en;rw[AC (by omega),show((s.size:Int)-1).toNat=s.size-1 by omega];rw[getElem?_pos s (s.size-1) (by omega)];exact⟨_,rfl,rfl⟩
theorem akI(k:Int)(s:ByteArray)(hl:s.size≤maxLen):Er k s=some (yt k s):=by have hm:=Dt;obtain⟨t,ht,_⟩:=M4 s;unfold Er yt;rw[ht,aj4 DE s (by decide)];simp only[GT,mY];split;·{rfl};·split;·{rfl};·split;·{rfl};·split;·{by_cases h1:(s.toList==(GE #[61]).toList)=true;·{simp only[h1,if_true,Bool.true_or,GT]};·have h1':(s.toList==(GE #[61]).toList)=false:=by{simpa using h1};simp only[h1',Bool.false_eq_true,if_false,Bool.false_or];have e:max 0 (aR ((s.size:Int)-1))=((s.size-1:Nat):Int):=by{rw[fj (by omega) (by omega)];omega};rw[e,Uy (by omega),Option.bind_some];obtain⟨t2,CV,CM⟩:=M4 (s.extract 0 (s.size-1));rw[CV,Option.bind_some];by_cases h2:1<s.size;·{obtain⟨c,hc,kC⟩:=akc (s:=s) (by omega) hl;rw[hc,kC,Option.bind_some];simp only;have hT:((c.toNat:Int)==61)=(c.toNat==61):=by{rw[Bool.eq_iff_iff];simp;omega};rw[hT,decide_eq_true h2];generalize(c.toNat==61)=T;generalize iz yA (s.extract 0 (s.size-1))=A at*;generalize iz BU (s.extract 0 (s.size-1))=B at*;generalize decide (t2.Op≤11)=D at*;revert CM;cases A<;>cases B<;>cases D<;>cases T<;>decide};·have h0:s.size-1=0:=by{omega};obtain⟨n1,n2⟩:=agL (abo s);rw[h0];simp only[h2,n1,n2,decide_false,Bool.false_and,Bool.or_self,Bool.false_eq_true,if_false,Option.bind_some]};·split<;>rfl
end Go.Ab
namespace Go.Ab
open Go Go.Proofs
theorem rf{S bY:Type}{step:S→Option (cE S bY)}{fh:S}(st:Nat→S)(n:Nat)(r:bY)(h0:st 0=fh)(hs:∀i,i<n→step (st i)=some (.next (st (i+1))))(he:step (st n)=some (.out r)):Loop step fh=some r:=by subst h0;have key:∀k i,n-i=k→i≤n→Loop step (st i)=some r:=by{intro k;induction k with|zero=>(intro i hk hi;obtain rfl:i=n:=by{omega};rw[j7,he];rfl)|succ k ih=>intro i hk hi;rw[j7,hs i (by omega)];exact ih (i+1) (by omega) (by omega)};exact key _ 0 rfl (by omega)
abbrev bE:=List aI
def nd(N:bE)(k:Nat):aI:=N.getD k default
theorem eM{N:bE}{k:Nat}(h:k<N.length):idx N (k:Int)=some (nd N k):=by rw[pR h];simp[nd,h]
def BC(N:bE):Nat→Nat→Nat|0,_=>0|f+1,k=>1+((nd N k).Kids.map fun x=>BC N f x.toNat).sum
def M(N:bE)(k:Nat):Nat:=BC N (k+1) k
def Bx(N:bE):Nat→Nat→Nat|0,_=>0|f+1,k=>((nd N k).Kids.map fun x=>Bx N f x.toNat).foldl max 0+1
def D(N:bE)(k:Nat):Nat:=Bx N (k+1) k
def lR(N:bE)(n:aI):Nat→Nat→Option Nat|0,a=>some a|i+1,a=>if a=0∨n.Kids.getD i 0≠(a:Int)-1∨nJ n.Kind i n.Kids.length (nd N (a-1)).Kind=false then none else lR N n i (a-M N (a-1))
def A1(n:aI):Int:=if xS n.Kind&& !GM n.Text then 12 else if !xS n.Kind&& !yt n.Kind n.Text then 1 else if !tB n||decide (n.cx<0)then 3 else 0
def ng(N:bE)(k:Nat):Int:=if !xN (nd N k).Kind then 4 else if !lB (nd N k).Kind (nd N k).Kids.length then 9 else match lR N (nd N k) (nd N k).Kids.length k with|none=>5|some _=>A1 (nd N k)
def eS(N:bE)(k:Nat):Prop:=∀j,j<k→ng N j=0
theorem eS.le{N:bE}{j k:Nat}(h:eS N k)(hj:j≤k):eS N j:=fun i hi=>h i (by omega)
theorem akt{g:Int→Nat}{l:List Int}{i:Nat}(h:i<l.length):((l.take (i+1)).map g).sum=((l.take i).map g).sum+g (l.getD i 0):=by rw[Ix,Kd h,Lk,List.sum_append];simp[h]
theorem RY{g:Int→Nat}:∀{l:List Int},(∀t,t<l.length→1≤g (l.getD t 0))→l.length≤(l.map g).sum|[],_=>by{simp}|x::l,h=>by have h0:=h 0 (by simp);have:=RY (l:=l) fun t ht=>by{simpa using h (t+1) (by simpa using ht)};simp at h0⊢;omega
theorem RJ{N:bE}{n:aI}:∀{i a b:Nat},lR N n i a=some b→(∀j,j<a→1≤M N j∧M N j≤j+1)→i≤n.Kids.length→b≤a∧(∀t,t<i→∃c:Nat,n.Kids.getD t 0=(c:Int)∧b≤c∧c<a)∧((n.Kids.take i).map fun x=>M N x.toNat).sum+b=a|0,a,b,h,_,_=>by{simp only[lR,Hk]at h;subst h;exact⟨Hc _,fun t ht=>by omega,by simp⟩}|i+1,a,b,h,lJ,hi=>by unfold lR at h;split at h;·{cases h};·rename_i hc;have ha:a≠0:=fun e=>hc (.inl e);have hk:n.Kids.getD i 0=(a:Int)-1:=by{by_cases hk:n.Kids.getD i 0=(a:Int)-1;·{exact hk};·exact absurd (.inr (.inl hk)) hc};obtain⟨h1,h2⟩:=lJ (a-1) (by omega);obtain⟨e1,e2,cm⟩:=RJ h (fun j hj=>lJ j (by omega)) (by omega);refine⟨by omega,fun t ht=> ?_, ?_⟩;·{by_cases aeZ:t=i;·{subst aeZ;exact⟨a-1,by rw[hk];omega,by omega,by omega⟩};·obtain⟨c,q1,cv,cW⟩:=e2 t (by omega);exact⟨c,q1,cv,by omega⟩};·rw[akt (by omega),hk,show((a:Int)-1).toNat=a-1 by omega];omega
theorem qL{N:bE}{k:Nat}(h:ng N k=0):∃b,lR N (nd N k) (nd N k).Kids.length k=some b∧A1 (nd N k)=0∧xN (nd N k).Kind=true∧lB (nd N k).Kind (nd N k).Kids.length=true:=by unfold ng at h;split at h;·{cases h};·split at h;·{cases h};·rename_i h1 h2;split at h;·{cases h};·rename_i b hb;exact⟨b,hb,h,by simpa using h1,by simpa using h2⟩
theorem Qs(l:List Int)(g g':Int→Nat)(h:∀t,t<l.length→g (l.getD t 0)=g' (l.getD t 0)):l.map g=l.map g':=by refine PH fun x hx=> ?_;obtain⟨t,ht,rfl⟩:=List.mem_iff_getElem.1 hx;have:=h t ht;simpa[ht]using this
theorem jR{N:bE}{k:Nat}(h:eS N k):∀j,j<k→(∀f,j<f→BC N f j=M N j∧Bx N f j=D N j)∧1≤M N j∧M N j≤j+1∧lR N (nd N j) (nd N j).Kids.length j=some (j+1-M N j)∧M N j=1+((nd N j).Kids.map fun x=>M N x.toNat).sum∧D N j=((nd N j).Kids.map fun x=>D N x.toNat).foldl max 0+1∧∀t,t<(nd N j).Kids.length→∃c:Nat,(nd N j).Kids.getD t 0=(c:Int)∧j+1-M N j≤c∧c<j:=by intro j;induction j using H1 with|ind j ih=>intro hj;obtain⟨b,hb,_⟩:=qL (h j hj);obtain⟨e1,e2,cm⟩:=RJ hb (fun i hi=>⟨(ih i hi (by omega)).2.1,(ih i hi (by omega)).2.2.1⟩) (Hc _);rw[H2]at cm;have hf:∀f,j<f→BC N f j=1+((nd N j).Kids.map fun x=>M N x.toNat).sum∧Bx N f j=((nd N j).Kids.map fun x=>D N x.toNat).foldl max 0+1:=by{intro f hf;obtain⟨f,rfl⟩:∃g,f=g+1:=⟨f-1,by omega⟩;constructor;·{rw[BC,Qs _ _ (fun x=>M N x.toNat)];intro t ht;obtain⟨c,q1,cv,cW⟩:=e2 t ht;rw[q1,Hb];exact((ih c cW (by omega)).1 f (by omega)).1};·rw[Bx,Qs _ _ (fun x=>D N x.toNat)];intro t ht;obtain⟨c,q1,cv,cW⟩:=e2 t ht;rw[q1,Hb];exact((ih c cW (by omega)).1 f (by omega)).2};have lJ:=(hf (j+1) (by omega)).1;have hD:=(hf (j+1) (by omega)).2;have amR:M N j+b=j+1:=by{unfold M;omega};have e:j+1-M N j=b:=by{omega};refine⟨fun f h1=>⟨(hf f h1).1.trans lJ.symm,(hf f h1).2.trans hD.symm⟩,by omega,by omega,by rw[e];exact hb,lJ,hD,fun t ht=> ?_⟩;rw[e];exact e2 t ht
theorem jc{N:bE}{k:Nat}(h:eS N k){j:Nat}(hj:j<k):(nd N j).Kids.length≤j:=by obtain⟨_,h1,h2,_,lJ,_,hk⟩:=jR h j hj;have:=RY (g:=fun x=>M N x.toNat) (l:=(nd N j).Kids) fun t ht=>by{obtain⟨c,q1,cv,cW⟩:=hk t ht;rw[q1,Hb];exact(jR h c (by omega)).2.1};omega
theorem Qg{g:Int→Nat}{l:List Int}{i:Nat}(h:i<l.length):((l.take (i+1)).map g).foldl max 0=max (((l.take i).map g).foldl max 0) (g (l.getD i 0)):=by rw[Ix,Kd h,Lk,List.foldl_append];simp[h]
theorem Vl{N:bE}{k:Nat}(h:eS N k):∀j,j<k→1≤D N j∧D N j≤j+1:=by intro j;induction j using H1 with|ind j ih=>intro hj;obtain⟨_,h1,h2,_,_,hD,hk⟩:=jR h j hj;have:∀i,i≤(nd N j).Kids.length→(((nd N j).Kids.take i).map fun x=>D N x.toNat).foldl max 0≤j:=by{intro i;induction i with|zero=>(intro _;simp)|succ i ih2=>intro hi;obtain⟨c,q1,cv,cW⟩:=hk i (by omega);rw[Qg (by omega),q1,Hb];have:=ih2 (by omega);have:=(ih c cW (by omega)).2;omega};have:=this _ (Hc _);rw[H2]at this;omega
/-! ### What is wrong with a node -/
end Go.Ab
namespace Go.Ab
open Go Go.Proofs
def nA(N:bE):Prop:=N.length≤Fc∧∀n∈N,n.Kids.length≤Fc∧n.Text.size≤maxLen
theorem Sk{N:bE}{k:Nat}(h:k<N.length):nd N k∈N:=by have:nd N k=N[k]:=by{simp[nd,h]};rw[this];exact List.getElem_mem _
theorem afh{α:Type}{a:Bool}{x y:α}:(if a=true then some x else some y)=some (if a=true then x else y):=by cases a<;>rfl
def HS(N:bE)(F:List Int)(k:Nat):Prop:=F.length=N.length∧∀j,j<k→F[j]? =some ((j+1-M N j:Nat):Int)
def wu(N:bE)(F:List Int):Option Nat→cL Int (Int×js)|none=> .ret (5,⟨⟨N⟩,F⟩)|some b=> .ep (b:Int)
theorem agW{N:bE}{k:Nat}{F:List Int}(h:eS N k)(hF:HS N F k)(hk:k<N.length)(hb:N.length≤Fc)(n:aI)(hl:n.Kids.length≤Fc)(hs:lB n.Kind n.Kids.length=true):∀i a,i≤n.Kids.length→a≤k→Loop (fun s=>Ba ⟨⟨N⟩,F⟩ n s.1 s.2) ((a:Int),(i:Int)-1)=some (wu N F (lR N n i a)):=by have JO:N.length≤9223372036854775807:=hb;have aeq:n.Kids.length≤9223372036854775807:=hl;refine Vs (pack:=fun(a:Nat)(i:Int)=>((a:Int),i)) (fun i a=>wu N F (lR N n i a)) n.Kids.length (fun _ a=>a≤k) (fun i a hi ha=> ?_) (fun a ha=> ?_);·{unfold Ba;rw[AC (by simp)];simp only[lR];by_cases ha0:a=0;·{subst ha0;exact .inl (by simp[wu])};·have hx:((a:Int)==0)=false:=by{simpa using ha0};have hw:aR ((a:Int)-1)=((a-1:Nat):Int):=by{rw[fj (by omega) (by omega)];omega};have th:aR ((i:Int)-1)=(i:Int)-1:=fj (by omega) (by omega);have hgd:n.Kids.getD i 0=n.Kids[i]:=by{simp[hi]};simp only[hx,Bool.false_eq_true,if_false,pR hi,Option.bind_some,hw,hgd];by_cases hq:n.Kids[i]=(a:Int)-1;·{have s8:n.Kids[i]=((a-1:Nat):Int):=by{omega};have Ko:(n.Kids[i] !=((a-1:Nat):Int))=false:=by{simp;omega};have ad8:idx F ((a-1:Nat):Int)=some ((a-1+1-M N (a-1):Nat):Int):=by{unfold idx;rw[AC (by omega),Int.toNat_natCast];exact hF.2 (a-1) (by omega)};rw[Ko];simp only[Bool.false_eq_true,if_false,ad8,Option.bind_some,s8,eM (show a-1<N.length by omega),akx n (i:Int) _ (by omega) (by omega) hs,ha0,false_or];have aeJ:¬(((a-1:Nat):Int)≠(a:Int)-1):=by{omega};simp only[aeJ,false_or];cases hg:nJ n.Kind i n.Kids.length (nd N (a-1)).Kind;·{exact .inl (by simp[wu])};·obtain⟨_,h1,h2,_⟩:=jR h (a-1) (by omega);refine .inr ⟨a-M N (a-1), ?_,by simp,by omega⟩;simp only[Bool.not_true,Bool.false_eq_true,if_false,th];congr 3;omega};·have Ko:(n.Kids[i] !=((a-1:Nat):Int))=true:=by{simp;omega};rw[Ko];exact .inl (by simp[wu,hq,ha0])};·unfold Ba;rw[Do (by simp)];rfl
theorem agV{N:bE}{k:Nat}{F:List Int}(h:eS N k)(hF:HS N F k)(hk:k<N.length)(hN:nA N):∃F',Em ⟨⟨N⟩,F⟩ (k:Int)=some (ng N k,⟨⟨N⟩,F'⟩)∧F'.length=N.length∧(ng N k=0→F'=F.set k ((k+1-M N k:Nat):Int)):=by obtain⟨hl,ht⟩:=hN.2 _ (Sk hk);have aeq:(nd N k).Kids.length≤9223372036854775807:=hl;have hml:=Dt;have hb:=hN.1;have JO:N.length≤9223372036854775807:=hb;unfold Em ng;simp only[eM hk,GT,aky,akH,afT];by_cases hkn:xN (nd N k).Kind=true;·{simp only[hkn,Hd,Ha,if_false];by_cases hin:lB (nd N k).Kind (nd N k).Kids.length=true;·{simp only[hin,Hd,Ha,if_false];rw[fj (by omega) (by omega),agW h hF hk hN.1 (nd N k) hl hin _ _ (Hc _) (Hc _),GT];cases hkc:lR N (nd N k) (nd N k).Kids.length k with|none=>(exact⟨F,by simp[wu],hF.1,fun h0=>by simp at h0⟩)|some b=>have Gi:idx F (k:Int)=some (F[k]'(by rw[hF.1];exact hk)):=pR _;simp only[wu,Qv,Gi,GT,akz,aak,akI _ _ ht,akA,mY,tn,afh,Hb];refine⟨F.set k (b:Int), ?_,by rw[List.length_set];exact hF.1,fun h0=> ?_⟩;·{unfold A1;cases(xS (nd N k).Kind&& !GM (nd N k).Text)<;>cases(!xS (nd N k).Kind&& !yt (nd N k).Kind (nd N k).Text)<;>cases(!tB (nd N k)||decide ((nd N k).cx<0))<;>rfl};·have hg:ng N k=0:=by{unfold ng;simp only[hkn,hin,hkc,Bool.not_true,Bool.false_eq_true,if_false];exact h0};have dN:eS N (k+1):=fun j hj=>by{by_cases e:j=k;·{rw[e];exact hg};·exact h j (by omega)};obtain⟨_,_,_,e,_⟩:=jR dN k (by omega);rw[hkc]at e;rw[Option.some.inj e]};·exact⟨F,by simp[hin],hF.1,fun h0=>by simp[hin]at h0⟩};·exact⟨F,by simp[hkn],hF.1,fun h0=>by simp[hkn]at h0⟩
end Go.Ab
namespace Go.Ab
open Go Go.Proofs
def kg(N:bE)(i:Nat)(v:Int):List Int:=(List.range N.length).map fun j=>if j<i then(D N j:Int)else if j=i then v else 0
theorem Fw(N:bE)(i:Nat)(v:Int):(kg N i v).length=N.length:=by simp[kg]
theorem I4{N:bE}{i j:Nat}{v:Int}(h:j<N.length):idx (kg N i v) (j:Int)=some (if j<i then(D N j:Int)else if j=i then v else 0):=by rw[pR (by rw[Fw];exact h)];simp[kg]
theorem Pu{N:bE}{i:Nat}{v w:Int}:(kg N i v).set i w=kg N i w:=by apply Hm ;intro j;rw[PP];by_cases hj:j<N.length;·{simp only[kg,PQ,Pi hj,Ps,QP,QQ];by_cases e:i=j;·{subst e;simp[hj]};·have:j≠i:=fun h=>e h.symm;simp[e,this]};·have h1:(kg N i w)[j]? =none:=H3 (by rw[Fw];omega);have h2:(kg N i v)[j]? =none:=H3 (by rw[Fw];omega);rw[h1,h2,Fw];split;·{rw[Do (by omega)]};·rfl
theorem aaZ{N:bE}{i:Nat}:kg N i (D N i:Int)=kg N (i+1) 0:=by refine PH fun j _=> ?_;by_cases h1:j<i;·{rw[AC h1,AC (by omega)]};·by_cases h2:j=i;·{subst h2;simp};·rw[Do h1,Do h2,Do (by omega)];simp
theorem aaY{N:bE}:QR N.length (0:Int)=kg N 0 0:=by apply Hm ;intro j;by_cases hj:j<N.length;·{simp[kg,hj]};·simp[kg,hj]
def pW(N:bE):Nat→Nat|0=>0|i+1=>max (pW N i) (D N i)
theorem aaV{N:bE}(h:eS N N.length)(h6:N.length≤600):zb ⟨N⟩=some (pW N N.length:Int):=by unfold zb;have hm:lS (N.length:Int) (0:Int)=some (kg N 0 0):=by{unfold lS;rw[AC (by omega),Hb,aaY]};rw[hm,GT];have inner:∀i,i<N.length→Loop (fun s=>wj (i:Int) (nd N i) s.1 s.2) (kg N i 0,0)=some (kg N i (((nd N i).Kids.map fun x=>D N x.toNat).foldl max 0:Nat)):=by{intro i hi;obtain⟨_,h1,h2,_,_,hD,hk⟩:=jR h i hi;have hlen:=jc h hi;refine rf (step:=fun s=>wj (i:Int) (nd N i) s.1 s.2) (fun t=>(kg N i (((nd N i).Kids.take t|>.map fun x=>D N x.toNat).foldl max 0:Nat),(t:Int))) (nd N i).Kids.length _ (by simp) (fun t ht=> ?_) ?_;·{obtain⟨c,q1,cv,cW⟩:=hk t ht;have hg:(nd N i).Kids[t]=(c:Int):=by{rw[←q1];simp[ht]};unfold wj;simp only[k4 ht,if_true,pR ht,Option.bind_some,hg,I4 hi,I4 (show c<N.length by omega),cW,Nat.lt_irrefl,if_false,Int.toNat_natCast,Pu];rw[Qg ht,q1,Int.toNat_natCast,kM (by omega)];congr 4;omega};·unfold wj;simp only[mu,Ha,if_false,H2]};rw[rf (step:=fun s=>zc ⟨N⟩ s.1 s.2.1 s.2.2) (fh:=(kg N 0 0,0,0)) (fun i=>(kg N i 0,(pW N i:Int),(i:Int))) N.length (pW N N.length:Int) (by simp[pW]) (fun i hi=> ?_) ?_];·{rfl};·{unfold zc;simp only[mu,Ha,if_false]};·obtain⟨_,h1,h2,_,_,hD,hk⟩:=jR h i hi;have hd:=(Vl h i hi).2;unfold zc;have e:aR ((((nd N i).Kids.map fun x=>D N x.toNat).foldl max 0:Nat)+1)=(D N i:Int):=by{rw[kM (by omega),hD]};simp only[k4 hi,if_true,eM hi,GT,inner i hi,I4 hi,Nat.lt_irrefl,if_false,Hb,Pu,e];rw[kM (by omega),aaZ,pW];congr 4;omega
theorem RI{N:bE}{n:aI}:∀{i a b:Nat},lR N n i a=some b→∀j,b≤j→j<a→∃t c:Nat,t<i∧n.Kids.getD t 0=(c:Int)∧c+1-M N c≤j∧j≤c|0,a,b,h,j,h1,h2=>by{simp only[lR,Hk]at h;omega}|i+1,a,b,h,j,h1,h2=>by unfold lR at h;split at h;·{cases h};·rename_i hc;have hk:n.Kids.getD i 0=(a:Int)-1:=by{by_cases hk:n.Kids.getD i 0=(a:Int)-1;·{exact hk};·exact absurd (.inr (.inl hk)) hc};by_cases hj:a-M N (a-1)≤j;·{exact⟨i,a-1,by omega,by rw[hk];omega,by omega,by omega⟩};·obtain⟨t,c,e1,e2,cm,gy⟩:=RI h j h1 (by omega);exact⟨t,c,by omega,e2,cm,gy⟩
theorem abL{g:Int→Nat}:∀{l:List Int}{s t:Nat},t<l.length→g (l.getD t 0)≤(l.map g).foldl max s:=by have mono:∀(l:List Nat)(s:Nat),s≤l.foldl max s:=by{intro l;induction l with|nil=>(intro s;simp)|cons x l ih=>intro s;simp only[H4];exact Nat.le_trans (Nat.le_max_left ..) (ih _)};intro l;induction l with|nil=>(intro s t h;simp at h)|cons x l ih=>intro s t h;cases t with|zero=>(simp only[List.getD_cons_zero,RK,H4];exact Nat.le_trans (Nat.le_max_right ..) (mono _ _))|succ t=>simp only[List.getD_cons_succ,RK,H4];exact ih (by simpa using h)
theorem Vm{N:bE}{k:Nat}(h:eS N k):∀j,j<k→∀i,j+1-M N j≤i→i≤j→D N i≤D N j:=by intro j;induction j using H1 with|ind j ih=>intro hj i h1 h2;by_cases e:i=j;·{rw[e];exact Hc _};·obtain⟨_,_,_,hkc,_,hD,hk⟩:=jR h j hj;obtain⟨t,c,e1,e2,cm,gy⟩:=RI hkc i h1 (by omega);obtain⟨c',q1,cv,cW⟩:=hk t e1;obtain rfl:c=c':=by{rw[e2]at q1;exact_mod_cast q1};have:=ih c cW (by omega) i cm gy;have hm:=abL (g:=fun x=>D N x.toNat) (s:=0) e1;rw[e2,Hb]at hm;omega
theorem agD{N:bE}(h:eS N N.length)(h1:1≤N.length)(lJ:M N (N.length-1)=N.length):pW N N.length=D N (N.length-1):=by have:∀i,i≤N.length→pW N i≤D N (N.length-1):=by{intro i;induction i with|zero=>(intro _;simp[pW])|succ i ih=>intro hi;have h1:=ih (by omega);have h2:=Vm h (N.length-1) (by omega) i (by omega) (by omega);rw[pW];omega};have h2:=this N.length (Hc _);have h3:D N (N.length-1)≤pW N N.length:=by{rw[show N.length=N.length-1+1 by omega,pW];simp only[Nat.add_sub_cancel];omega};omega
def Whole(N:bE):Prop:=1≤N.length∧N.length≤600∧eS N N.length∧M N (N.length-1)=N.length∧D N (N.length-1)≤40
theorem PS(N:bE):∀n,eS N n∨∃k,k<n∧eS N k∧ng N k≠0|0=> .inl fun j hj=>by{omega}|n+1=>by rcases PS N n with h|⟨k,h1,h2,h3⟩;·{by_cases e:ng N n=0;·{exact .inl fun j hj=>by by_cases ej:j=n;·{rw[ej];exact e};·exact h j (by omega)};·exact .inr ⟨n,by omega,h,e⟩};·exact .inr ⟨k,by omega,h2,h3⟩
end Go.Ab
namespace Go.Ab
open Go Go.Proofs
def fl(N:bE)(i:Nat):List Int:=(List.range N.length).map fun j=>if j<i then((j+1-M N j:Nat):Int)else 0
theorem PY(N:bE)(i:Nat):i≤N.length→HS N (fl N i) i:=fun hi=>by refine⟨by simp[fl],fun j hj=> ?_⟩;have:j<N.length:=by{omega};simp[fl,this,hj]
theorem abE{N:bE}{i:Nat}:(fl N i).set i ((i+1-M N i:Nat):Int)=fl N (i+1):=by apply Hm ;intro j;rw[PP];by_cases hj:j<N.length;·{simp only[fl,PQ,Pi hj,Ps,QP,QQ];by_cases e:i=j;·{subst e;simp[hj]};·have h2:(j<i+1)=(j<i):=by{rw[eq_iff_iff];omega};simp[e,h2]};·have hl:∀i,(fl N i).length=N.length:=fun i=>by{simp[fl]};have h1:∀i,(fl N i)[j]? =none:=fun i=>H3 (by rw[hl];omega);rw[h1,h1,hl];split;·{rw[Do (by omega)]};·rfl
theorem abD{N:bE}:QR N.length (0:Int)=fl N 0:=by apply Hm ;intro j;by_cases hj:j<N.length;·{simp[fl,hj]};·simp[fl,hj]
theorem IS{N:bE}{i:Nat}(h:eS N i)(hi:i<N.length)(hN:nA N):qW ⟨N⟩ ⟨⟨N⟩,fl N i⟩ (i:Int)=if ng N i=0 then some (.next (⟨⟨N⟩,fl N (i+1)⟩,((i+1:Nat):Int)))else some (.out (.ret ⟨ng N i,(i:Int)⟩)):=by have JO:N.length≤9223372036854775807:=hN.1;obtain⟨F',h1,h2,h3⟩:=agV h (PY N i (by omega)) hi hN;unfold qW;have he:B5 F' (fl N i)=some ():=by{unfold B5;rw[AC (by rw[h2];simp[fl])]};simp only[k4 hi,if_true,h1,GT,he,kT];by_cases e:ng N i=0;·{rw[AC e,h3 e,abE,kM (by omega)];simp[e]};·rw[Do e,AC (by simpa using e)]
end Go.Ab
namespace Go.Ab
open Go Go.Proofs
theorem PA(a:ByteArray):jv a a=true:=Py.2 rfl
theorem Pz{a b:ByteArray}(h:a≠b):jv a b=false:=by cases e:jv a b with|true=>(exact absurd (Py.1 e) h)|false=>rfl
theorem I8(a b:ByteArray):jv a b=decide (a=b):=by by_cases h:a=b;·{subst h;simp[PA]};·simp[h,Pz h]
theorem R9{V:Type}:∀(l:List (ByteArray×V))(k s:ByteArray)(v:V),gI jv (qH jv l k v) s=if s=k then some v else gI jv l s|[],k,s,v=>by{simp only[qH,gI,I8];by_cases h:s=k<;>simp[h]}|e::l,k,s,v=>by by_cases h:k=e.1;·{subst h;simp only[qH,PA,if_true,gI,I8];by_cases h2:s=e.1<;>simp[h2]};·simp only[qH,Pz h,Ha,if_false,gI,I8,R9 l k s v];by_cases h2:s=e.1;·{subst h2;simp only[decide_true,if_true];rw[Do (fun e=>h (Eq.symm e))]};·simp[h2]
def lk(N:bE)(j:Int)(s:ByteArray):List (Int×Int)→Option Int|[]=>none|p::l=>if p.2=j∧(nd N p.1.toNat).Text=s then some p.1 else lk N j s l
theorem K4{N:bE}{j:Int}{s:ByteArray}:∀(l l':List (Int×Int)),lk N j s (l++l')=match lk N j s l with|some h=>some h|none=>lk N j s l'
 |[],l'=>rfl
 |p::l,l'=>by
  simp only[List.cons_append,lk]
  split
  ·rfl
  ·exact K4 l l'
theorem tv{N:bE}{j:Int}{s:ByteArray}:∀{l:List (Int×Int)}{h:Int},lk N j s l=some h→(h,j)∈l∧(nd N h.toNat).Text=s|p::l,h,e=>by unfold lk at e;split at e;·{rename_i hc;simp only[Hk]at e;subst e;exact⟨by rw[←hc.1];exact R0 ..,hc.2⟩};·obtain⟨h1,h2⟩:=tv e;exact⟨Sp _ h1,h2⟩
theorem K5{N:bE}{j:Int}{s:ByteArray}:∀{l:List (Int×Int)},lk N j s l=none↔∀p∈l,¬(p.2=j∧(nd N p.1.toNat).Text=s)|[]=>by{simp[lk]}|p::l=>by unfold lk;split;·{rename_i hc;constructor;·{intro h;cases h};·intro h;exact absurd hc (h p (R0 ..))};·rename_i hc;rw[K5];constructor;·{intro h q hq;rcases List.mem_cons.1 hq with rfl|hq;·{exact hc};·exact h q hq};·intro h q hq;exact h q (Sp _ hq)
def y4(N:bE)(l:List (Int×Int)):Prop:=l.Pairwise fun p q=>¬(p.2=q.2∧(nd N p.1.toNat).Text=(nd N q.1.toNat).Text)
theorem y4.snoc{N:bE}{l:List (Int×Int)}{p:Int×Int}(h:y4 N l)(hp:lk N p.2 (nd N p.1.toNat).Text l=none):y4 N (l++[p]):=by unfold y4;rw[List.pairwise_append];refine⟨h,List.pairwise_singleton ..,fun q hq r hr=> ?_⟩;simp only[List.mem_singleton]at hr;subst hr;intro⟨h1,h2⟩;exact K5.1 hp q hq ⟨h1,h2⟩
/-! ### Where kids stand -/
def dI(N:bE)(k:Nat):Nat:=k+1-M N k
theorem RM{N:bE}{n:aI}:∀{i a b:Nat},lR N n i a=some b→(∀j,j<a→1≤M N j∧M N j≤j+1)→i≤n.Kids.length→∃P:Nat→Nat,P i=a∧P 0=b∧∀t,t<i→n.Kids.getD t 0=((P (t+1)-1:Nat):Int)∧P t<P (t+1)∧P (t+1)≤a∧P t=dI N (P (t+1)-1)∧nJ n.Kind t n.Kids.length (nd N (P (t+1)-1)).Kind=true|0,a,b,h,_,_=>by{simp only[lR,Hk]at h;subst h;exact⟨fun _=>a,rfl,rfl,fun t ht=>by omega⟩}|i+1,a,b,h,lJ,hi=>by unfold lR at h;split at h;·{cases h};·rename_i hc;simp only[not_or,Decidable.not_not,Bool.not_eq_false]at hc;obtain⟨h0,h1,h2⟩:=hc;obtain⟨m1,m2⟩:=lJ (a-1) (by omega);obtain⟨P,p1,p2,p3⟩:=RM h (fun j hj=>lJ j (by omega)) (by omega);obtain⟨Q,hQ⟩:∃Q:Nat→Nat,∀t,Q t=if t=i+1 then a else P t:=⟨_,fun _=>rfl⟩;refine⟨Q,by rw[hQ,AC rfl],by rw[hQ,Do (by omega)];exact p2,fun t ht=> ?_⟩;by_cases e:t=i;·{subst e;rw[hQ t,hQ (t+1),AC rfl,Do (show¬t=t+1 by omega),p1];refine⟨by rw[h1];omega,by omega,Hc _,by unfold dI;omega,h2⟩};·rw[hQ t,hQ (t+1),Do (show¬t+1=i+1 by omega),Do (show¬t=i+1 by omega)];obtain⟨q1,cv,cW,hG,iQ⟩:=p3 t (by omega);exact⟨q1,cv,by omega,hG,iQ⟩
theorem rN{N:bE}{k:Nat}(h:eS N k){j:Nat}(hj:j<k):∃P:Nat→Nat,P (nd N j).Kids.length=j∧P 0=dI N j∧∀t,t<(nd N j).Kids.length→(nd N j).Kids.getD t 0=((P (t+1)-1:Nat):Int)∧P t<P (t+1)∧P (t+1)≤j∧P t=dI N (P (t+1)-1)∧nJ (nd N j).Kind t (nd N j).Kids.length (nd N (P (t+1)-1)).Kind=true:=by obtain⟨_,h1,h2,h3,_⟩:=jR h j hj;exact RM h3 (fun i hi=>⟨(jR h i (by omega)).2.1,(jR h i (by omega)).2.2.1⟩) (Hc _)
end Go.Ab
namespace Go.Ab
open Go Go.Proofs
theorem OU{N:bE}(hN:nA N):∃r,vu ⟨N⟩=some r∧(r.Code=0↔Whole N)∧(r.Code=0→r=⟨0,0⟩):=by have JO:N.length≤9223372036854775807:=hN.1;unfold vu;simp only[cin,GT,kT];by_cases h6:eG (N.length:Int) 1 600=true;·{have zN:1≤N.length∧N.length≤600:=by{simp only[eG,Bool.and_eq_true,decide_eq_true_eq]at h6;omega};have hm:lS (N.length:Int) (0:Int)=some (fl N 0):=by{unfold lS;rw[AC (by omega),Int.toNat_natCast,abD]};simp only[h6,Bool.not_true,Bool.false_eq_true,if_false,hm,Option.bind_some];have hw:aR ((N.length:Int)-1)=((N.length-1:Nat):Int):=by{rw[fj (by omega) (by omega)];omega};rcases PS N N.length with dN|⟨k,hk,dN,F9⟩;·{have c1:=rf (step:=fun s=>qW ⟨N⟩ s.1 s.2) (fh:=(⟨⟨N⟩,fl N 0⟩,0)) (fun i=>(⟨⟨N⟩,fl N i⟩,(i:Int))) N.length (.ep ⟨⟨N⟩,fl N N.length⟩) rfl (fun i hi=>by show qW ⟨N⟩ ⟨⟨N⟩,fl N i⟩ (i:Int)=_;rw[IS (dN.le (by omega)) hi hN,AC (dN i hi)]) (by unfold qW;simp only[mu,Bool.false_eq_true,if_false]);have aeo:idx (fl N N.length) ((N.length-1:Nat):Int)=some ((N.length-M N (N.length-1):Nat):Int):=by{unfold idx;rw[AC (by omega),Int.toNat_natCast,(PY N N.length (Nat.le_refl _)).2 _ (by omega)];congr 3;omega};obtain⟨_,m1,m2,_⟩:=jR dN (N.length-1) (by omega);simp only[c1,Option.bind_some,Qv,hw,aeo];by_cases lJ:M N (N.length-1)=N.length;·{have e1:(((N.length-M N (N.length-1):Nat):Int) !=0)=false:=by{simp;omega};simp only[e1,Bool.false_eq_true,if_false,aaV dN zN.2,Option.bind_some,agD dN zN.1 lJ];by_cases hD:D N (N.length-1)≤40;·{refine⟨⟨0,0⟩,by rw[Do (by simp;omega)],⟨fun _=>⟨zN.1,zN.2,dN,lJ,hD⟩,fun _=>rfl⟩,fun _=>rfl⟩};·refine⟨⟨10,0⟩,by rw[AC (by simp;omega)],⟨fun h=>by simp at h,fun h=>absurd h.2.2.2.2 hD⟩,fun h=>by simp at h⟩};·have e1:(((N.length-M N (N.length-1):Nat):Int) !=0)=true:=by{simp;omega};simp only[e1,if_true];refine⟨⟨5,((N.length-1:Nat):Int)⟩,rfl,⟨fun h=>by simp at h,fun h=>absurd h.2.2.2.1 lJ⟩,fun h=>by simp at h⟩};·have c1:=rf (step:=fun s=>qW ⟨N⟩ s.1 s.2) (fh:=(⟨⟨N⟩,fl N 0⟩,0)) (fun i=>(⟨⟨N⟩,fl N i⟩,(i:Int))) k (.ret ⟨ng N k,(k:Int)⟩) rfl (fun i hi=>by show qW ⟨N⟩ ⟨⟨N⟩,fl N i⟩ (i:Int)=_;rw[IS (dN.le (by omega)) (by omega) hN,AC (dN i hi)]) (by show qW ⟨N⟩ ⟨⟨N⟩,fl N k⟩ (k:Int)=_;rw[IS dN hk hN,Do F9]);refine⟨⟨ng N k,(k:Int)⟩,by rw[c1];rfl,⟨fun h=>absurd h F9,fun h=>absurd (h.2.2.1 k hk) F9⟩,fun h=>absurd h F9⟩};·have zN:eG (N.length:Int) 1 600=false:=by{simpa using h6};refine⟨⟨2,0⟩,by simp[zN],⟨fun h=>by simp at h,fun h=> ?_⟩,fun h=>by simp at h⟩;exact absurd (by simp only[eG,H5,decide_eq_true_eq];exact⟨by have:=h.1;omega,by have:=h.2.1;omega⟩) h6
end Go.Ab
