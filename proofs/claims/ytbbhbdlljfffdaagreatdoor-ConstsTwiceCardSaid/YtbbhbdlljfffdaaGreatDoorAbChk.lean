import Derived.Test.YtbbhbdlljfffdaaGreatDoorAbGens
open Bool renaming false_eq_true→Ha,not_true→Hd,eq_iff_iff→Hm,false_and→Hn,and_eq_true→H4,and_false→H5,and_true→IH
open ByteArray renaming mk→GE
open Int renaming toNat_natCast→Hb
open List renaming ext_getElem?→Hk,take_length→H1,getElem?_eq_none→H2,foldl_cons→H3,take_add_one→If,getElem?_eq_getElem→Ix,map_append→Kd,map_congr_left→PH,getElem?_set→PP,getElem?_map→PQ,getElem?_range→Pi,length_map→QP,length_range→QQ,replicate→QR,map_cons→RK
open Nat renaming le_refl→Hc,strongRecOn→H0
open Option renaming bind_some→GT,map_some→Ps
open Option.some renaming injEq→Lk
set_option linter.all false
namespace Go.Ab
open Go
theorem jM{n:Int}(h1:-9223372036854775808≤n)(h2:n<9223372036854775808):aU n=n:=by simp only[aU,IntKind.wrap,IntKind.bits,IntKind.signed];simp;split<;>omega
theorem nE{i:Nat}(h:i<9223372036854775807):aU ((i:Int)+1)=((i+1:Nat):Int):=by rw[jM (by omega) (by omega)];rfl
theorem qO{α:Type}{l:List α}{i:Nat}(h:i<l.length):idx l (i:Int)=some l[i]:=by unfold idx;rw[AC (by omega)];simp[h]
def run{σ bH α:Type}(f:Nat→σ→α→bH⊕σ)(e:σ→bH):Nat→σ→List α→bH|_,s,[]=>e s|i,s,x::l=>match f i s x with| .inl o=>o| .inr s'=>run f e (i+1) s' l
theorem Ox{σ bH α S:Type}{l:List α}(pack:σ→Int→S)(f:Nat→σ→α→bH⊕σ)(e:σ→bH)(Inv:Nat→σ→Prop){step:S→Option (cn S bH)}(hs:∀i s(h:i<l.length),Inv i s→match f i s l[i]with| .inl o=>step (pack s (i:Int))=some (.out o)| .inr s'=>step (pack s (i:Int))=some (.next (pack s' ((i+1:Nat):Int)))∧Inv (i+1) s')(he:∀s,Inv l.length s→step (pack s (l.length:Int))=some (.out (e s))){eO:σ}(h0:Inv 0 eO):Loop step (pack eO 0)=some (run f e 0 eO l):=by have key:∀k i s,l.length-i=k→i≤l.length→Inv i s→Loop step (pack s (i:Int))=some (run f e i s (l.drop i)):=by{intro k;induction k with|zero=>(intro i s hk hi hI;obtain rfl:i=l.length:=by{omega};rw[p7,he s hI,List.drop_length];rfl)|succ k ih=>intro i s hk hi hI;have hlt:i<l.length:=by{omega};have h1:=hs i s hlt hI;rw[p7,List.drop_eq_getElem_cons hlt];unfold run;split at h1;·{rw[h1];rfl};·rename_i s' ho;rw[h1.1];exact ih (i+1) s' (by omega) (by omega) h1.2};exact key _ 0 eO rfl (by omega) h0
def kC{α ρ:Type}(g:Nat→α→Option ρ):Nat→List α→Option ρ|_,[]=>none|i,x::l=>match g i x with|some r=>some r|none=>kC g (i+1) l
def ux{ρ:Type}:Option ρ→cO Unit ρ|some r=> .ret r|none=> .fV ()
theorem CM{α ρ:Type}{l:List α}(g:Nat→α→Option ρ){step:Int→Option (cn Int (cO Unit ρ))}(hs:∀i(h:i<l.length),step (i:Int)=some (match g i l[i]with|some r=> .out (.ret r)|none=> .next ((i+1:Nat):Int)))(he:step (l.length:Int)=some (.out (.fV ()))):Loop (fun s=>step s) 0=some (ux (kC g 0 l)):=by have:=Ox (l:=l) (σ:=Unit) (bH:=cO Unit ρ) (fun _ i=>i) (fun i _ x=>match g i x with|some r=> .inl (.ret r)|none=> .inr ()) (fun _=> .fV ()) (fun _ _=>True) (step:=step) (fun i s h _=>by have:=hs i h;cases hg:g i l[i]with|some r=>(simp only[hg]at this⊢;exact this)|none=>simp only[hg]at this⊢;exact⟨this,trivial⟩) (fun s _=>he) (eO:=()) trivial;rw[this];congr 1;generalize 0=i;clear this hs he;induction l generalizing i with|nil=>(rfl)|cons x l ih=>simp only[run,kC];cases g i x with|some r=>(rfl)|none=>exact ih (i+1)
end Go.Ab
namespace Go.Ab
open Go Go.Proofs
@[simp]theorem J6{bH ρ β:Type}(f:bH→Option β)(g:ρ→Option β)(x:bH):cO.go f g (.fV x)=f x:=rfl
@[simp]theorem go_ret{bH ρ β:Type}(f:bH→Option β)(g:ρ→Option β)(x:ρ):cO.go f g (.ret x)=g x:=rfl
abbrev AA:Nat:=9223372036854775807
def dD(a lo hi:Int):Bool:=decide (lo≤a)&&decide (a≤hi)
theorem od(a b:Bool):(if a then b else false)=(a&&b):=by cases a<;>rfl
theorem nk(a b:Bool):(if a then true else b)=(a||b):=by cases a<;>rfl
@[simp]theorem abF(a b c:Int):zu a b c=some (dD a b c):=by simp only[zu,dD,od]
@[simp]theorem cin(a b c:Int):nS a b c=some (dD a b c):=by simp only[nS,dD,od]
@[simp]theorem Du(a b:Int):jS a b=some ⟨a,b⟩:=rfl
theorem BG:maxLen=9223372036854775807:=rfl
theorem pJ{i:Nat}{n:Nat}(h:i<n):decide ((i:Int)<(n:Int))=true:=by simp[h]
theorem pK{n:Nat}:decide ((n:Int)<(n:Int))=false:=by simp
theorem C8{α:Type}{a b:List α}(h:a.length+b.length≤4294967296):app a b=some (a++b):=AC h
theorem RB(a b:Bool):(if a=true then some true else some b)=some (a||b):=by cases a<;>rfl
theorem Ow{σ bH S:Type}(pack:σ→Int→S)(f:Nat→σ→bH){step:S→Option (cn S bH)}(N:Nat)(Inv:Nat→σ→Prop)(hs:∀k s,k<N→Inv (k+1) s→step (pack s (k:Int))=some (.out (f (k+1) s))∨∃s',step (pack s (k:Int))=some (.next (pack s' ((k:Int)-1)))∧f (k+1) s=f k s'∧Inv k s')(he:∀s,Inv 0 s→step (pack s (-1))=some (.out (f 0 s))):∀k s,k≤N→Inv k s→Loop step (pack s ((k:Int)-1))=some (f k s):=by intro k;induction k with|zero=>(intro s _ hI;rw[p7];simp only[Int.natCast_zero,Int.zero_sub];rw[he s hI];rfl)|succ k ih=>intro s hk hI;rw[p7,show((k+1:Nat):Int)-1=(k:Int)by omega];rcases hs k s (by omega) hI with h|⟨s',h1,h2,h3⟩;·{rw[h];rfl};·rw[h1,h2];exact ih s' (by omega) h3
/-! ### Names -/
def lu(c:Int):Bool:=dD c 97 122||dD c 65 90||c==95
def lW(c:Int):Bool:=dD c 48 57
def qg(c:UInt8):Bool:=lu c.toNat||lW c.toNat
def BO(s:ByteArray):Bool:=dD s.size 1 12&&(match s.data.toList with|[]=>false|c::_=> !lW c.toNat)&&s.data.toList.all qg
theorem ach{s:ByteArray}{i:Nat}(h:i<s.data.toList.length):cU s (i:Int)=some s.data.toList[i]:=by unfold cU;rw[AC (by omega)];simp only[Hb];have h':i<s.size:=by{simpa using h};rw[getElem?_pos s i h'];rfl
theorem Nu(s:ByteArray):s.size=s.data.toList.length:=by simp
theorem SX(s:ByteArray)(h12:s.size≤12):Loop (fun i=>uG s i) 0=some (ux (kC (fun i c=>if lu c.toNat||(decide (0<i)&&lW c.toNat)then none else some false) 0 s.data.toList)):=by refine CM (l:=s.data.toList) _ (fun i h=> ?_) ?_;·{have hlt:i<s.size:=by{rw[Nu];exact h};unfold uG;simp only[ach h,Option.bind_some,nE (i:=i) (by omega),od,nk];rw[AC (by simp;omega)];have e:(decide (97≤(s.data.toList[i].toNat:Int))&&decide ((s.data.toList[i].toNat:Int)≤122)||decide (65≤(s.data.toList[i].toNat:Int))&&decide ((s.data.toList[i].toNat:Int)≤90)||(s.data.toList[i].toNat:Int)==95||decide (0<(i:Int))&&decide (48≤(s.data.toList[i].toNat:Int))&&decide ((s.data.toList[i].toNat:Int)≤57))=(lu s.data.toList[i].toNat||(decide (0<i)&&lW s.data.toList[i].toNat)):=by{simp only[lu,lW,dD,Bool.and_assoc];congr 2;simp};rw[e];cases lu s.data.toList[i].toNat||(decide (0<i)&&lW s.data.toList[i].toNat)<;>rfl};·unfold uG;rw[Do (by simp)]
theorem SW(s:ByteArray):uF s=some (BO s):=by unfold uF BO;simp only[nk];by_cases hs:dD s.size 1 12=true;·{have hb:1≤s.size∧s.size≤12:=by{simp only[dD,Bool.and_eq_true,decide_eq_true_eq]at hs;omega};have hc0:(decide ((s.size:Int)<1)||decide (12<(s.size:Int)))=false:=by{simp;omega};simp only[hs,hc0,SX s hb.2];cases hc:s.data.toList with|nil=>(rw[Nu,hc]at hb;simp at hb)|cons c l=>have key:∀(l:List UInt8)(i:Nat),0<i→kC (fun i(c:UInt8)=>if lu c.toNat||(decide (0<i)&&lW c.toNat)then none else some false) i l=if l.all qg then none else some false:=by{intro l;induction l with|nil=>(intro i _;rfl)|cons x l ih=>intro i hi;have e:(lu x.toNat||(decide (0<i)&&lW x.toNat))=qg x:=by{simp[qg,hi]};rw[kC,ih (i+1) (by omega),List.all_cons,e];by_cases hx:qg x=true<;>simp[hx]};have WM:lu c.toNat=true→lW c.toNat=false:=by{simp only[lu,lW,dD];simp;omega};have e0:(lu c.toNat||(decide (0<0)&&lW c.toNat))=lu c.toNat:=by{simp};rw[kC,key l 1 (by omega),e0,List.all_cons];by_cases h1:lu c.toNat=true;·{by_cases hl:l.all qg=true<;>simp[h1,WM h1,hl,ux,qg]<;>simpa using hl};·have h1':lu c.toNat=false:=by{simpa using h1};cases h2:lW c.toNat<;>simp[h1',h2,ux,qg]};·have:(decide ((s.size:Int)<1)||decide (12<(s.size:Int)))=true:=by{simp only[dD,H4,decide_eq_true_eq]at hs;simp;omega};simp[hs,this]
end Go.Ab
namespace Go.Ab
open Go Go.Proofs
def jx(k:Int):Bool:=dD k 31 40
def Co(k:Int):Bool:=dD k 11 18||dD k 21 24
def yV(k:Int):Bool:=dD k 1 4||dD k 11 24||jx k
def tg(k:Int):Bool:=k==2||k==3||k==4||k==12||k==32||k==33
@[simp]theorem rexpr(k:Int):vV k=some (jx k):=by simp only[vV,abF,GT,jx]
@[simp]theorem C4(k:Int):mN k=some (jx k):=by simp only[mN,jx,dD,od]
@[simp]theorem Rn(k:Int):rV k=some (Co k):=by simp only[rV,Co,dD,od,nk]
@[simp]theorem acG(k:Int):zN k=some (yV k):=by simp only[zN,C4,GT,od,nk,RB,yV,dD]
@[simp]theorem acI(k:Int):wA k=some (tg k):=by simp only[wA,nk,tg]
def gl(k:Int):Int×Int:=if k==1||k==11||k==33 then(0,1099511627776)else if k==3||k==18 then(1,1099511627776)else if k==2 then(0,200)else if k==12||k==23 then(0,1)else if k==13||k==19||k==35||k==40 then(1,1)else if k==14 then(2,3)else if k==15||k==16||k==34||k==36||k==37||k==39 then(2,2)else if k==38 then(3,3)else if k==17 then(4,4)else(0,0)
theorem X8{P:Int→Prop}{k:Int}(h:∀n:_root_.Fin 41,P ((n:Nat):Int))(h2:k<0∨40<k→P k):P k:=by by_cases hk:0≤k∧k≤40;·{have:=h ⟨k.toNat,by omega⟩;simpa[Int.toNat_of_nonneg hk.1]using this};·exact h2 (by omega)
theorem acN(k:Int):wC k=some ((gl k).1,if(gl k).2=1099511627776 then-1 else(gl k).2):=by refine X8 (P:=fun k=>wC k=some ((gl k).1,if(gl k).2=1099511627776 then-1 else(gl k).2)) (by decide+kernel) fun h=> ?_;have hn:∀c:Int,0≤c→c≤40→(k==c)=false:=fun c h1 h2=>by{simp;omega};simp[wC,tO,wD,wE,rz,ou,gl,hn]
theorem X5(k:Int):(gl k).2=1099511627776∨(0≤(gl k).2∧(gl k).2≤200):=by
 unfold gl
 repeat' split
 all_goals simp
def mS(k m:Int):Bool:=decide ((gl k).1≤m)&&((gl k).2==1099511627776||decide (m≤(gl k).2))
theorem X6{k m:Int}:(if(decide (m<(gl k).1))then true else(if(decide (0≤(if(gl k).2=1099511627776 then-1 else(gl k).2)))then(decide ((if(gl k).2=1099511627776 then-1 else(gl k).2)<m))else false))= !mS k m:=by simp only[nk,od,mS];rcases X5 k with h|h;·{rw[h,Hm];simp};·rw[Do (by omega)];have:((gl k).2==1099511627776)=false:=by{simp;omega};rw[this,Hm];simp;omega
def Bb(k i m c:Int):Bool:=if k==1 then c==2||c==3 else if k==3 then(if i==aU (m-1)then c==11 else c==4)else if k==11 then Co c else if k==18&&decide (0<i)then Co c||c==19||c==20 else if(((k==14||k==15)&&decide (0<i))||(k==16&&i==0))||(k==17&&i==3)then c==11 else if k==17&&i==0 then c==12||c==13||c==24 else if k==17&&i==1 then jx c||c==24 else if k==17&&i==2 then c==13||c==24 else jx c
theorem acE(n:br)(i c:Int)(hi:0≤i)(hl:i<n.Kids.length)(hs:mS n.Kind n.Kids.length=true):zM n i c=some (Bb n.Kind i n.Kids.length c):=by unfold zM wz Bb;simp only[Rn,C4,GT,nk,od];generalize n.Kids.length=m at*;generalize n.Kind=k at*;by_cases h1:k=1;·{subst h1;rfl};by_cases h3:k=3;·{subst h3;by_cases hx:i=aU ((m:Int)-1);·{simp[←hx]};·have hb:(i==aU ((m:Int)-1))=false:=beq_eq_false_iff_ne.2 hx;simp[hb]};by_cases h11:k=11;·{subst h11;rfl};have b1:(k==1)=false:=by{simpa using h1};have b3:(k==3)=false:=by{simpa using h3};have Da:(k==11)=false:=by{simpa using h11};simp only[b1,b3,Da,Ha,if_false];by_cases qw:k=18;·{subst qw;by_cases h0:i=0;·{subst h0;simp;cases jx c<;>rfl};·have:0<i:=by{omega};simp[h0,this]};have Rr:(k==18)=false:=by{simpa using qw};simp only[Rr,Ha,if_false,Hn];by_cases n3:k=14;·{subst n3;by_cases h0:i=0;·{subst h0;simp};·have:0<i:=by{omega};simp[h0,this]};by_cases qt:k=15;·{subst qt;by_cases h0:i=0;·{subst h0;simp};·have:0<i:=by{omega};simp[h0,this]};have Dc:(k==14)=false:=by{simpa using n3};have Dd:(k==15)=false:=by{simpa using qt};simp only[Dc,Dd,Ha,if_false,Hn,Bool.false_or];by_cases qu:k=16;·{subst qu;have hm:(m:Int)=2:=by{have:gl 16=(2,2):=by{decide+kernel};simp[mS,this]at hs;omega};have:i=0∨i=1:=by{omega};rcases this with rfl|rfl<;>simp};by_cases qv:k=17;·{subst qv;have hm:(m:Int)=4:=by{have:gl 17=(4,4):=by{decide+kernel};simp[mS,this]at hs;omega};have:i=0∨i=1∨i=2∨i=3:=by{omega};rcases this with rfl|rfl|rfl|rfl<;>simp};have De:(k==16)=false:=by{simpa using qu};have Rq:(k==17)=false:=by{simpa using qv};simp[De,Rq]
/-! ### Numbers -/
def vG(n:br):Bool:=if n.Kind==2&&n.N==3 then dD n.fC 1 200&&decide ((n.Kids.length:Int)≤n.fC)else if n.fC !=0 then false else if n.Kind==2 then dD n.N 1 2&&decide ((n.Kids.length:Int)<2)else if n.Kind==3 then dD n.N 0 2 else if n.Kind==4||n.Kind==12 then dD n.N 1 2 else if n.Kind==31 then decide (0≤n.N)else if n.Kind==40 then dD n.N 0 1 else n.N==0
@[simp]theorem acJ(n:br):zO n=some (vG n):=by
 unfold zO wB vG
 simp only[cin,GT,nk,od]
 generalize n.Kids.length=m
 generalize n.Kind=k
 generalize n.N=x
 generalize n.fC=z
 by_cases h2:k=2
 ·subst h2
  by_cases hx:x=3
  ·subst hx;simp
  ·have :(x==3)=false:=by simpa using hx
   simp only[this,H5,Ha,if_false,beq_self_eq_true,if_true]
   by_cases hz:z=0
   ·subst hz
    simp only[beq_self_eq_true,bne,Hd,Ha,if_false,IH,dD]
    congr 1
    rw[Hm];simp;omega
   ·have s4:(z==0)=false:=by simpa using hz
    simp[s4,bne]
 have b2:(k==2)=false:=by simpa using h2
 simp only[b2,Ha,if_false,Hn]
 by_cases hz:z=0
 ·subst hz
  simp only[bne,beq_self_eq_true,Hd,IH,Ha,if_false]
  by_cases h4:k=4
  ·subst h4;rfl
  have b4:(k==4)=false:=by simpa using h4
  by_cases h12:k=12
  ·subst h12;rfl
  have Db:(k==12)=false:=by simpa using h12
  simp only[b4,Db,Ha,if_false,Bool.or_self]
  repeat' split
  all_goals rfl
 ·have s4:(z==0)=false:=by simpa using hz
  simp only[s4,bne,Bool.not_false,if_true,H5]
  repeat' split
  all_goals rfl
end Go.Ab
namespace Go.Ab
open Go Go.Proofs
def fU(l:List ByteArray)(s:ByteArray):Bool:=l.any fun x=>x.toList==s.toList
theorem aci(l:List ByteArray)(s:ByteArray)(hl:l.length≤maxLen):∃n:Int,zH l s=some n∧decide (0≤n)=fU l s:=by have hm:=BG;have h:Loop (fun i=>wm l s i) 0=some (ux (kC (fun i(x:ByteArray)=>if s.toList==x.toList then some (i:Int)else none) 0 l)):=by{refine CM (l:=l) (fun i x=>if s.toList==x.toList then some (i:Int)else none) (fun i h=> ?_) ?_;·{unfold wm;simp only[pJ h,if_true,qO h,GT,nE (i:=i) (by omega)];cases s.toList==l[i].toList<;>rfl};·unfold wm;simp only[pK];rfl};have h2:∀(l:List ByteArray)(i:Nat),match kC (fun i(x:ByteArray)=>if s.toList==x.toList then some (i:Int)else none) i l with|some n=>0≤n∧fU l s=true|none=>fU l s=false:=by{intro l;induction l with|nil=>(intro i;rfl)|cons x l ih=>intro i;simp only[kC];by_cases hx:(s.toList==x.toList)=true;·{have:s.toList=x.toList:=by{simpa using hx};simp[this,fU]};·have hx':(s.toList==x.toList)=false:=by{simpa using hx};have hx2:(x.toList==s.toList)=false:=by{rw[BEq.comm];exact hx'};simp only[hx',Bool.false_eq_true,if_false];have:=ih (i+1);simp only[fU,List.any_cons,hx2,Bool.false_or];exact this};unfold zH;rw[h];have:=h2 l 0;generalize kC (fun i(x:ByteArray)=>if s.toList==x.toList then some (i:Int)else none) 0 l=o at this;cases o with|some n=>(exact⟨n,rfl,by rw[this.2];simpa using this.1⟩)|none=>exact⟨-1,rfl,by simp only at this;rw[this];rfl⟩
theorem ab3(l:List ByteArray)(s:ByteArray)(hl:l.length≤maxLen):zG l s=some (fU l s):=by obtain⟨n,h1,h2⟩:=aci l s hl;unfold zG;rw[h1,GT,h2]
abbrev tP:List ByteArray:=[(GE #[43]),(GE #[45]),(GE #[42]),(GE #[47]),(GE #[37]),(GE #[38]),(GE #[124]),(GE #[94]),(GE #[60,60]),(GE #[62,62])]
abbrev xj:List ByteArray:=[(GE #[61,61]),(GE #[33,61]),(GE #[60]),(GE #[60,61]),(GE #[62]),(GE #[62,61])]
abbrev B2:List ByteArray:=[(GE #[45]),(GE #[33]),(GE #[126]),(GE #[42]),(GE #[38])]
theorem Hr(s:ByteArray):∃t,mO s=some (t,fU tP s||fU xj s)∧((fU tP s||fU xj s)&&decide (t.Op≤11))=fU tP s:=by have hc:∀x:ByteArray,(x.toList==s.toList)=(s.toList==x.toList):=fun x=>BEq.comm;unfold mO fU;simp only[List.any_cons,List.any_nil,Bool.or_false,hc];generalize(s.toList==(GE #[43]).toList)=b1;generalize(s.toList==(GE #[45]).toList)=b2;generalize(s.toList==(GE #[42]).toList)=b3;generalize(s.toList==(GE #[47]).toList)=b4;generalize(s.toList==(GE #[37]).toList)=rW;generalize(s.toList==(GE #[38]).toList)=Df;generalize(s.toList==(GE #[124]).toList)=Dg;generalize(s.toList==(GE #[94]).toList)=Rs;generalize(s.toList==(GE #[60,60]).toList)=Rt;generalize(s.toList==(GE #[62,62]).toList)=Ro;generalize(s.toList==(GE #[61,61]).toList)=Da;generalize(s.toList==(GE #[33,61]).toList)=Db;generalize(s.toList==(GE #[60]).toList)=Rp;generalize(s.toList==(GE #[60,61]).toList)=Dc;generalize(s.toList==(GE #[62]).toList)=Dd;generalize(s.toList==(GE #[62,61]).toList)=De;cases b1;cases b2;cases b3;cases b4;cases rW;cases Df;cases Dg;cases Rs;cases Rt;cases Ro;cases Da;cases Db;cases Rp;cases Dc;cases Dd;cases De;all_goals exact⟨_,rfl,rfl⟩
theorem acs{s:ByteArray}{n:Nat}(h:n≤s.size):gT s none (some (n:Int))=some (s.extract 0 n):=by unfold gT bounds;simp[h]
theorem YU{s:ByteArray}(h:s.toList=[]):fU tP s=false∧fU xj s=false:=by unfold fU;rw[h];exact⟨by decide+kernel,by decide+kernel⟩
theorem TU(s:ByteArray):(s.extract 0 0).toList=[]:=by have:s.extract 0 0=ByteArray.empty:=by{apply ByteArray.ext;simp};rw[this];decide+kernel
def wj(k:Int)(s:ByteArray):Bool:=if k==35 then fU B2 s else if k==36 then fU tP s||fU xj s else if k==37 then(s.toList==(GE #[38,38]).toList||s.toList==(GE #[124,124]).toList)else if k==39 then(s.toList==(GE #[61]).toList||(decide (1<s.size)&&(match s[s.size-1]? with|some c=>c.toNat==61|none=>false)&&fU tP (s.extract 0 (s.size-1))))else if k==40 then(s.toList==(GE #[43,43]).toList||s.toList==(GE #[45,45]).toList)else s.toList==(GE #[]).toList
theorem acg{s:ByteArray}(h:0<s.size)(hl:s.size≤maxLen):∃c,cU s (aU ((s.size:Int)-1))=some c∧s[s.size-1]? =some c:=by have hm:=BG;rw[jM (by omega) (by omega)];unfold cU;rw[AC (by omega),show((s.size:Int)-1).toNat=s.size-1 by omega];rw[getElem?_pos s (s.size-1) (by omega)];exact⟨_,rfl,rfl⟩
theorem acO(k:Int)(s:ByteArray)(hl:s.size≤maxLen):zP k s=some (wj k s):=by have hm:=BG;obtain⟨t,ht,_⟩:=Hr s;unfold zP wj;rw[ht,ab3 B2 s (by decide)];simp only[GT,nk];split;·{rfl};·split;·{rfl};·split;·{rfl};·split;·{by_cases h1:(s.toList==(GE #[61]).toList)=true;·{simp only[h1,if_true,Bool.true_or,GT]};·have h1':(s.toList==(GE #[61]).toList)=false:=by{simpa using h1};simp only[h1',Bool.false_eq_true,if_false,Bool.false_or];have e:max 0 (aU ((s.size:Int)-1))=((s.size-1:Nat):Int):=by{rw[jM (by omega) (by omega)];omega};rw[e,acs (by omega),Option.bind_some];obtain⟨t2,yt,yf⟩:=Hr (s.extract 0 (s.size-1));rw[yt,Option.bind_some];by_cases h2:1<s.size;·{obtain⟨c,hc,ji⟩:=acg (s:=s) (by omega) hl;rw[hc,ji,Option.bind_some];simp only;have hT:((c.toNat:Int)==61)=(c.toNat==61):=by{rw[Bool.eq_iff_iff];simp;omega};rw[hT,decide_eq_true h2];generalize(c.toNat==61)=T;generalize fU tP (s.extract 0 (s.size-1))=A at*;generalize fU xj (s.extract 0 (s.size-1))=B at*;generalize decide (t2.Op≤11)=D at*;revert yf;cases A<;>cases B<;>cases D<;>cases T<;>decide};·have h0:s.size-1=0:=by{omega};obtain⟨n1,n2⟩:=YU (TU s);rw[h0];simp only[h2,n1,n2,decide_false,Bool.false_and,Bool.or_self,Bool.false_eq_true,if_false,Option.bind_some]};·split<;>rfl
end Go.Ab
namespace Go.Ab
open Go Go.Proofs
theorem rM{S bH:Type}{step:S→Option (cn S bH)}{eO:S}(st:Nat→S)(n:Nat)(r:bH)(h0:st 0=eO)(hs:∀i,i<n→step (st i)=some (.next (st (i+1))))(he:step (st n)=some (.out r)):Loop step eO=some r:=by subst h0;have key:∀k i,n-i=k→i≤n→Loop step (st i)=some r:=by{intro k;induction k with|zero=>(intro i hk hi;obtain rfl:i=n:=by{omega};rw[p7,he];rfl)|succ k ih=>intro i hk hi;rw[p7,hs i (by omega)];exact ih (i+1) (by omega) (by omega)};exact key _ 0 rfl (by omega)
abbrev aF:=List br
def nd(N:aF)(k:Nat):br:=N.getD k default
theorem th{N:aF}{k:Nat}(h:k<N.length):idx N (k:Int)=some (nd N k):=by rw[qO h];simp[nd,h]
def wV(N:aF):Nat→Nat→Nat|0,_=>0|f+1,k=>1+((nd N k).Kids.map fun x=>wV N f x.toNat).sum
def M(N:aF)(k:Nat):Nat:=wV N (k+1) k
def wQ(N:aF):Nat→Nat→Nat|0,_=>0|f+1,k=>((nd N k).Kids.map fun x=>wQ N f x.toNat).foldl max 0+1
def D(N:aF)(k:Nat):Nat:=wQ N (k+1) k
def kM(N:aF)(n:br):Nat→Nat→Option Nat|0,a=>some a|i+1,a=>if a=0∨n.Kids.getD i 0≠(a:Int)-1∨Bb n.Kind i n.Kids.length (nd N (a-1)).Kind=false then none else kM N n i (a-M N (a-1))
def we(n:br):Int:=if tg n.Kind&& !BO n.Text then 12 else if !tg n.Kind&& !wj n.Kind n.Text then 1 else if !vG n||decide (n.c4<0)then 3 else 0
def j8(N:aF)(k:Nat):Int:=if !yV (nd N k).Kind then 4 else if !mS (nd N k).Kind (nd N k).Kids.length then 9 else match kM N (nd N k) (nd N k).Kids.length k with|none=>5|some _=>we (nd N k)
def dx(N:aF)(k:Nat):Prop:=∀j,j<k→j8 N j=0
theorem dx.le{N:aF}{j k:Nat}(h:dx N k)(hj:j≤k):dx N j:=fun i hi=>h i (by omega)
theorem acA{g:Int→Nat}{l:List Int}{i:Nat}(h:i<l.length):((l.take (i+1)).map g).sum=((l.take i).map g).sum+g (l.getD i 0):=by rw[If,Ix h,Kd,List.sum_append];simp[h]
theorem Lr{g:Int→Nat}:∀{l:List Int},(∀t,t<l.length→1≤g (l.getD t 0))→l.length≤(l.map g).sum|[],_=>by{simp}|x::l,h=>by have h0:=h 0 (by simp);have:=Lr (l:=l) fun t ht=>by{simpa using h (t+1) (by simpa using ht)};simp at h0⊢;omega
theorem Ld{N:aF}{n:br}:∀{i a b:Nat},kM N n i a=some b→(∀j,j<a→1≤M N j∧M N j≤j+1)→i≤n.Kids.length→b≤a∧(∀t,t<i→∃c:Nat,n.Kids.getD t 0=(c:Int)∧b≤c∧c<a)∧((n.Kids.take i).map fun x=>M N x.toNat).sum+b=a|0,a,b,h,_,_=>by{simp only[kM,Lk]at h;subst h;exact⟨Hc _,fun t ht=>by omega,by simp⟩}|i+1,a,b,h,kG,hi=>by unfold kM at h;split at h;·{cases h};·rename_i hc;have ha:a≠0:=fun e=>hc (.inl e);have hk:n.Kids.getD i 0=(a:Int)-1:=by{by_cases hk:n.Kids.getD i 0=(a:Int)-1;·{exact hk};·exact absurd (.inr (.inl hk)) hc};obtain⟨h1,h2⟩:=kG (a-1) (by omega);obtain⟨e1,e2,bQ⟩:=Ld h (fun j hj=>kG j (by omega)) (by omega);refine⟨by omega,fun t ht=> ?_, ?_⟩;·{by_cases Xj:t=i;·{subst Xj;exact⟨a-1,by rw[hk];omega,by omega,by omega⟩};·obtain⟨c,q1,dj,ez⟩:=e2 t (by omega);exact⟨c,q1,dj,by omega⟩};·rw[acA (by omega),hk,show((a:Int)-1).toNat=a-1 by omega];omega
theorem y6{N:aF}{k:Nat}(h:j8 N k=0):∃b,kM N (nd N k) (nd N k).Kids.length k=some b∧we (nd N k)=0∧yV (nd N k).Kind=true∧mS (nd N k).Kind (nd N k).Kids.length=true:=by unfold j8 at h;split at h;·{cases h};·split at h;·{cases h};·rename_i h1 h2;split at h;·{cases h};·rename_i b hb;exact⟨b,hb,h,by simpa using h1,by simpa using h2⟩
theorem J4(l:List Int)(g g':Int→Nat)(h:∀t,t<l.length→g (l.getD t 0)=g' (l.getD t 0)):l.map g=l.map g':=by refine PH fun x hx=> ?_;obtain⟨t,ht,rfl⟩:=List.mem_iff_getElem.1 hx;have:=h t ht;simpa[ht]using this
theorem jW{N:aF}{k:Nat}(h:dx N k):∀j,j<k→(∀f,j<f→wV N f j=M N j∧wQ N f j=D N j)∧1≤M N j∧M N j≤j+1∧kM N (nd N j) (nd N j).Kids.length j=some (j+1-M N j)∧M N j=1+((nd N j).Kids.map fun x=>M N x.toNat).sum∧D N j=((nd N j).Kids.map fun x=>D N x.toNat).foldl max 0+1∧∀t,t<(nd N j).Kids.length→∃c:Nat,(nd N j).Kids.getD t 0=(c:Int)∧j+1-M N j≤c∧c<j:=by intro j;induction j using H0 with|ind j ih=>intro hj;obtain⟨b,hb,_⟩:=y6 (h j hj);obtain⟨e1,e2,bQ⟩:=Ld hb (fun i hi=>⟨(ih i hi (by omega)).2.1,(ih i hi (by omega)).2.2.1⟩) (Hc _);rw[H1]at bQ;have hf:∀f,j<f→wV N f j=1+((nd N j).Kids.map fun x=>M N x.toNat).sum∧wQ N f j=((nd N j).Kids.map fun x=>D N x.toNat).foldl max 0+1:=by{intro f hf;obtain⟨f,rfl⟩:∃g,f=g+1:=⟨f-1,by omega⟩;constructor;·{rw[wV,J4 _ _ (fun x=>M N x.toNat)];intro t ht;obtain⟨c,q1,dj,ez⟩:=e2 t ht;rw[q1,Hb];exact((ih c ez (by omega)).1 f (by omega)).1};·rw[wQ,J4 _ _ (fun x=>D N x.toNat)];intro t ht;obtain⟨c,q1,dj,ez⟩:=e2 t ht;rw[q1,Hb];exact((ih c ez (by omega)).1 f (by omega)).2};have kG:=(hf (j+1) (by omega)).1;have hD:=(hf (j+1) (by omega)).2;have ae9:M N j+b=j+1:=by{unfold M;omega};have e:j+1-M N j=b:=by{omega};refine⟨fun f h1=>⟨(hf f h1).1.trans kG.symm,(hf f h1).2.trans hD.symm⟩,by omega,by omega,by rw[e];exact hb,kG,hD,fun t ht=> ?_⟩;rw[e];exact e2 t ht
theorem yU{N:aF}{k:Nat}(h:dx N k){j:Nat}(hj:j<k):(nd N j).Kids.length≤j:=by obtain⟨_,h1,h2,_,kG,_,hk⟩:=jW h j hj;have:=Lr (g:=fun x=>M N x.toNat) (l:=(nd N j).Kids) fun t ht=>by{obtain⟨c,q1,dj,ez⟩:=hk t ht;rw[q1,Hb];exact(jW h c (by omega)).2.1};omega
theorem J0{g:Int→Nat}{l:List Int}{i:Nat}(h:i<l.length):((l.take (i+1)).map g).foldl max 0=max (((l.take i).map g).foldl max 0) (g (l.getD i 0)):=by rw[If,Ix h,Kd,List.foldl_append];simp[h]
theorem Ol{N:aF}{k:Nat}(h:dx N k):∀j,j<k→1≤D N j∧D N j≤j+1:=by intro j;induction j using H0 with|ind j ih=>intro hj;obtain⟨_,h1,h2,_,_,hD,hk⟩:=jW h j hj;have:∀i,i≤(nd N j).Kids.length→(((nd N j).Kids.take i).map fun x=>D N x.toNat).foldl max 0≤j:=by{intro i;induction i with|zero=>(intro _;simp)|succ i ih2=>intro hi;obtain⟨c,q1,dj,ez⟩:=hk i (by omega);rw[J0 (by omega),q1,Hb];have:=ih2 (by omega);have:=(ih c ez (by omega)).2;omega};have:=this _ (Hc _);rw[H1]at this;omega
/-! ### What is wrong with a node -/
end Go.Ab
namespace Go.Ab
open Go Go.Proofs
def mL(N:aF):Prop:=N.length≤AA∧∀n∈N,n.Kids.length≤AA∧n.Text.size≤maxLen
theorem LJ{N:aF}{k:Nat}(h:k<N.length):nd N k∈N:=by have:nd N k=N[k]:=by{simp[nd,h]};rw[this];exact List.getElem_mem _
theorem XE{α:Type}{a:Bool}{x y:α}:(if a=true then some x else some y)=some (if a=true then x else y):=by cases a<;>rfl
def CI(N:aF)(F:List Int)(k:Nat):Prop:=F.length=N.length∧∀j,j<k→F[j]? =some ((j+1-M N j:Nat):Int)
def rZ(N:aF)(F:List Int):Option Nat→cO Int (Int×gu)|none=> .ret (5,⟨⟨N⟩,F⟩)|some b=> .fV (b:Int)
theorem Y4{N:aF}{k:Nat}{F:List Int}(h:dx N k)(hF:CI N F k)(hk:k<N.length)(hb:N.length≤AA)(n:br)(hl:n.Kids.length≤AA)(hs:mS n.Kind n.Kids.length=true):∀i a,i≤n.Kids.length→a≤k→Loop (fun s=>wv ⟨⟨N⟩,F⟩ n s.1 s.2) ((a:Int),(i:Int)-1)=some (rZ N F (kM N n i a)):=by have Er:N.length≤9223372036854775807:=hb;have WN:n.Kids.length≤9223372036854775807:=hl;refine Ow (pack:=fun(a:Nat)(i:Int)=>((a:Int),i)) (fun i a=>rZ N F (kM N n i a)) n.Kids.length (fun _ a=>a≤k) (fun i a hi ha=> ?_) (fun a ha=> ?_);·{unfold wv;rw[AC (by simp)];simp only[kM];by_cases ha0:a=0;·{subst ha0;exact .inl (by simp[rZ])};·have hx:((a:Int)==0)=false:=by{simpa using ha0};have hw:aU ((a:Int)-1)=((a-1:Nat):Int):=by{rw[jM (by omega) (by omega)];omega};have pF:aU ((i:Int)-1)=(i:Int)-1:=jM (by omega) (by omega);have hgd:n.Kids.getD i 0=n.Kids[i]:=by{simp[hi]};simp only[hx,Bool.false_eq_true,if_false,qO hi,Option.bind_some,hw,hgd];by_cases hq:n.Kids[i]=(a:Int)-1;·{have W3:n.Kids[i]=((a-1:Nat):Int):=by{omega};have EX:(n.Kids[i] !=((a-1:Nat):Int))=false:=by{simp;omega};have Wv:idx F ((a-1:Nat):Int)=some ((a-1+1-M N (a-1):Nat):Int):=by{unfold idx;rw[AC (by omega),Int.toNat_natCast];exact hF.2 (a-1) (by omega)};rw[EX];simp only[Bool.false_eq_true,if_false,Wv,Option.bind_some,W3,th (show a-1<N.length by omega),acE n (i:Int) _ (by omega) (by omega) hs,ha0,false_or];have W4:¬(((a-1:Nat):Int)≠(a:Int)-1):=by{omega};simp only[W4,false_or];cases hg:Bb n.Kind i n.Kids.length (nd N (a-1)).Kind;·{exact .inl (by simp[rZ])};·obtain⟨_,h1,h2,_⟩:=jW h (a-1) (by omega);refine .inr ⟨a-M N (a-1), ?_,by simp,by omega⟩;simp only[Bool.not_true,Bool.false_eq_true,if_false,pF];congr 3;omega};·have EX:(n.Kids[i] !=((a-1:Nat):Int))=true:=by{simp;omega};rw[EX];exact .inl (by simp[rZ,hq,ha0])};·unfold wv;rw[Do (by simp)];rfl
theorem Y3{N:aF}{k:Nat}{F:List Int}(h:dx N k)(hF:CI N F k)(hk:k<N.length)(hN:mL N):∃F',zL ⟨⟨N⟩,F⟩ (k:Int)=some (j8 N k,⟨⟨N⟩,F'⟩)∧F'.length=N.length∧(j8 N k=0→F'=F.set k ((k+1-M N k:Nat):Int)):=by obtain⟨hl,ht⟩:=hN.2 _ (LJ hk);have WN:(nd N k).Kids.length≤9223372036854775807:=hl;have hml:=BG;have hb:=hN.1;have Er:N.length≤9223372036854775807:=hb;unfold zL j8;simp only[th hk,GT,acG,acN,X6];by_cases hkn:yV (nd N k).Kind=true;·{simp only[hkn,Hd,Ha,if_false];by_cases hin:mS (nd N k).Kind (nd N k).Kids.length=true;·{simp only[hin,Hd,Ha,if_false];rw[jM (by omega) (by omega),Y4 h hF hk hN.1 (nd N k) hl hin _ _ (Hc _) (Hc _),GT];cases hkc:kM N (nd N k) (nd N k).Kids.length k with|none=>(exact⟨F,by simp[rZ],hF.1,fun h0=>by simp at h0⟩)|some b=>have Wr:idx F (k:Int)=some (F[k]'(by rw[hF.1];exact hk)):=qO _;simp only[rZ,J6,Wr,GT,acI,SW,acO _ _ ht,acJ,nk,od,XE,Hb];refine⟨F.set k (b:Int), ?_,by rw[List.length_set];exact hF.1,fun h0=> ?_⟩;·{unfold we;cases(tg (nd N k).Kind&& !BO (nd N k).Text)<;>cases(!tg (nd N k).Kind&& !wj (nd N k).Kind (nd N k).Text)<;>cases(!vG (nd N k)||decide ((nd N k).c4<0))<;>rfl};·have hg:j8 N k=0:=by{unfold j8;simp only[hkn,hin,hkc,Bool.not_true,Bool.false_eq_true,if_false];exact h0};have c8:dx N (k+1):=fun j hj=>by{by_cases e:j=k;·{rw[e];exact hg};·exact h j (by omega)};obtain⟨_,_,_,e,_⟩:=jW c8 k (by omega);rw[hkc]at e;rw[Option.some.inj e]};·exact⟨F,by simp[hin],hF.1,fun h0=>by simp[hin]at h0⟩};·exact⟨F,by simp[hkn],hF.1,fun h0=>by simp[hkn]at h0⟩
end Go.Ab
namespace Go.Ab
open Go Go.Proofs
def hG(N:aF)(i:Nat)(v:Int):List Int:=(List.range N.length).map fun j=>if j<i then(D N j:Int)else if j=i then v else 0
theorem AU(N:aF)(i:Nat)(v:Int):(hG N i v).length=N.length:=by simp[hG]
theorem DH{N:aF}{i j:Nat}{v:Int}(h:j<N.length):idx (hG N i v) (j:Int)=some (if j<i then(D N j:Int)else if j=i then v else 0):=by rw[qO (by rw[AU];exact h)];simp[hG]
theorem Jl{N:aF}{i:Nat}{v w:Int}:(hG N i v).set i w=hG N i w:=by apply Hk ;intro j;rw[PP];by_cases hj:j<N.length;·{simp only[hG,PQ,Pi hj,Ps,QP,QQ];by_cases e:i=j;·{subst e;simp[hj]};·have:j≠i:=fun h=>e h.symm;simp[e,this]};·have h1:(hG N i w)[j]? =none:=H2 (by rw[AU];omega);have h2:(hG N i v)[j]? =none:=H2 (by rw[AU];omega);rw[h1,h2,AU];split;·{rw[Do (by omega)]};·rfl
theorem Tw{N:aF}{i:Nat}:hG N i (D N i:Int)=hG N (i+1) 0:=by refine PH fun j _=> ?_;by_cases h1:j<i;·{rw[AC h1,AC (by omega)]};·by_cases h2:j=i;·{subst h2;simp};·rw[Do h1,Do h2,Do (by omega)];simp
theorem Tv{N:aF}:QR N.length (0:Int)=hG N 0 0:=by apply Hk ;intro j;by_cases hj:j<N.length;·{simp[hG,hj]};·simp[hG,hj]
def mq(N:aF):Nat→Nat|0=>0|i+1=>max (mq N i) (D N i)
theorem Ts{N:aF}(h:dx N N.length)(h6:N.length≤600):uv ⟨N⟩=some (mq N N.length:Int):=by unfold uv;have hm:nr (N.length:Int) (0:Int)=some (hG N 0 0):=by{unfold nr;rw[AC (by omega),Hb,Tv]};rw[hm,GT];have inner:∀i,i<N.length→Loop (fun s=>rU (i:Int) (nd N i) s.1 s.2) (hG N i 0,0)=some (hG N i (((nd N i).Kids.map fun x=>D N x.toNat).foldl max 0:Nat)):=by{intro i hi;obtain⟨_,h1,h2,_,_,hD,hk⟩:=jW h i hi;have hlen:=yU h hi;refine rM (step:=fun s=>rU (i:Int) (nd N i) s.1 s.2) (fun t=>(hG N i (((nd N i).Kids.take t|>.map fun x=>D N x.toNat).foldl max 0:Nat),(t:Int))) (nd N i).Kids.length _ (by simp) (fun t ht=> ?_) ?_;·{obtain⟨c,q1,dj,ez⟩:=hk t ht;have hg:(nd N i).Kids[t]=(c:Int):=by{rw[←q1];simp[ht]};unfold rU;simp only[pJ ht,if_true,qO ht,Option.bind_some,hg,DH hi,DH (show c<N.length by omega),ez,Nat.lt_irrefl,if_false,Int.toNat_natCast,Jl];rw[J0 ht,q1,Int.toNat_natCast,nE (by omega)];congr 4;omega};·unfold rU;simp only[pK,Ha,if_false,H1]};rw[rM (step:=fun s=>uw ⟨N⟩ s.1 s.2.1 s.2.2) (eO:=(hG N 0 0,0,0)) (fun i=>(hG N i 0,(mq N i:Int),(i:Int))) N.length (mq N N.length:Int) (by simp[mq]) (fun i hi=> ?_) ?_];·{rfl};·{unfold uw;simp only[pK,Ha,if_false]};·obtain⟨_,h1,h2,_,_,hD,hk⟩:=jW h i hi;have hd:=(Ol h i hi).2;unfold uw;have e:aU ((((nd N i).Kids.map fun x=>D N x.toNat).foldl max 0:Nat)+1)=(D N i:Int):=by{rw[nE (by omega),hD]};simp only[pJ hi,if_true,th hi,GT,inner i hi,DH hi,Nat.lt_irrefl,if_false,Hb,Jl,e];rw[nE (by omega),Tw,mq];congr 4;omega
theorem Lc{N:aF}{n:br}:∀{i a b:Nat},kM N n i a=some b→∀j,b≤j→j<a→∃t c:Nat,t<i∧n.Kids.getD t 0=(c:Int)∧c+1-M N c≤j∧j≤c|0,a,b,h,j,h1,h2=>by{simp only[kM,Lk]at h;omega}|i+1,a,b,h,j,h1,h2=>by unfold kM at h;split at h;·{cases h};·rename_i hc;have hk:n.Kids.getD i 0=(a:Int)-1:=by{by_cases hk:n.Kids.getD i 0=(a:Int)-1;·{exact hk};·exact absurd (.inr (.inl hk)) hc};by_cases hj:a-M N (a-1)≤j;·{exact⟨i,a-1,by omega,by rw[hk];omega,by omega,by omega⟩};·obtain⟨t,c,e1,e2,bQ,eV⟩:=Lc h j h1 (by omega);exact⟨t,c,by omega,e2,bQ,eV⟩
theorem Up{g:Int→Nat}:∀{l:List Int}{s t:Nat},t<l.length→g (l.getD t 0)≤(l.map g).foldl max s:=by have mono:∀(l:List Nat)(s:Nat),s≤l.foldl max s:=by{intro l;induction l with|nil=>(intro s;simp)|cons x l ih=>intro s;simp only[H3];exact Nat.le_trans (Nat.le_max_left ..) (ih _)};intro l;induction l with|nil=>(intro s t h;simp at h)|cons x l ih=>intro s t h;cases t with|zero=>(simp only[List.getD_cons_zero,RK,H3];exact Nat.le_trans (Nat.le_max_right ..) (mono _ _))|succ t=>simp only[List.getD_cons_succ,RK,H3];exact ih (by simpa using h)
theorem Om{N:aF}{k:Nat}(h:dx N k):∀j,j<k→∀i,j+1-M N j≤i→i≤j→D N i≤D N j:=by intro j;induction j using H0 with|ind j ih=>intro hj i h1 h2;by_cases e:i=j;·{rw[e];exact Hc _};·obtain⟨_,_,_,hkc,_,hD,hk⟩:=jW h j hj;obtain⟨t,c,e1,e2,bQ,eV⟩:=Lc hkc i h1 (by omega);obtain⟨c',q1,dj,ez⟩:=hk t e1;obtain rfl:c=c':=by{rw[e2]at q1;exact_mod_cast q1};have:=ih c ez (by omega) i bQ eV;have hm:=Up (g:=fun x=>D N x.toNat) (s:=0) e1;rw[e2,Hb]at hm;omega
theorem YO{N:aF}(h:dx N N.length)(h1:1≤N.length)(kG:M N (N.length-1)=N.length):mq N N.length=D N (N.length-1):=by have:∀i,i≤N.length→mq N i≤D N (N.length-1):=by{intro i;induction i with|zero=>(intro _;simp[mq])|succ i ih=>intro hi;have h1:=ih (by omega);have h2:=Om h (N.length-1) (by omega) i (by omega) (by omega);rw[mq];omega};have h2:=this N.length (Hc _);have h3:D N (N.length-1)≤mq N N.length:=by{rw[show N.length=N.length-1+1 by omega,mq];simp only[Nat.add_sub_cancel];omega};omega
def Whole(N:aF):Prop:=1≤N.length∧N.length≤600∧dx N N.length∧M N (N.length-1)=N.length∧D N (N.length-1)≤40
theorem JD(N:aF):∀n,dx N n∨∃k,k<n∧dx N k∧j8 N k≠0|0=> .inl fun j hj=>by{omega}|n+1=>by rcases JD N n with h|⟨k,h1,h2,h3⟩;·{by_cases e:j8 N n=0;·{exact .inl fun j hj=>by by_cases ej:j=n;·{rw[ej];exact e};·exact h j (by omega)};·exact .inr ⟨n,by omega,h,e⟩};·exact .inr ⟨k,by omega,h2,h3⟩
end Go.Ab
namespace Go.Ab
open Go Go.Proofs
def fl(N:aF)(i:Nat):List Int:=(List.range N.length).map fun j=>if j<i then((j+1-M N j:Nat):Int)else 0
theorem JL(N:aF)(i:Nat):i≤N.length→CI N (fl N i) i:=fun hi=>by refine⟨by simp[fl],fun j hj=> ?_⟩;have:j<N.length:=by{omega};simp[fl,this,hj]
theorem Uc{N:aF}{i:Nat}:(fl N i).set i ((i+1-M N i:Nat):Int)=fl N (i+1):=by apply Hk ;intro j;rw[PP];by_cases hj:j<N.length;·{simp only[fl,PQ,Pi hj,Ps,QP,QQ];by_cases e:i=j;·{subst e;simp[hj]};·have h2:(j<i+1)=(j<i):=by{rw[eq_iff_iff];omega};simp[e,h2]};·have hl:∀i,(fl N i).length=N.length:=fun i=>by{simp[fl]};have h1:∀i,(fl N i)[j]? =none:=fun i=>H2 (by rw[hl];omega);rw[h1,h1,hl];split;·{rw[Do (by omega)]};·rfl
theorem Ub{N:aF}:QR N.length (0:Int)=fl N 0:=by apply Hk ;intro j;by_cases hj:j<N.length;·{simp[fl,hj]};·simp[fl,hj]
theorem Dv{N:aF}{i:Nat}(h:dx N i)(hi:i<N.length)(hN:mL N):nC ⟨N⟩ ⟨⟨N⟩,fl N i⟩ (i:Int)=if j8 N i=0 then some (.next (⟨⟨N⟩,fl N (i+1)⟩,((i+1:Nat):Int)))else some (.out (.ret ⟨j8 N i,(i:Int)⟩)):=by have Er:N.length≤9223372036854775807:=hN.1;obtain⟨F',h1,h2,h3⟩:=Y3 h (JL N i (by omega)) hi hN;unfold nC;have he:xw F' (fl N i)=some ():=by{unfold xw;rw[AC (by rw[h2];simp[fl])]};simp only[pJ hi,if_true,h1,GT,he,Du];by_cases e:j8 N i=0;·{rw[AC e,h3 e,Uc,nE (by omega)];simp[e]};·rw[Do e,AC (by simpa using e)]
end Go.Ab
namespace Go.Ab
open Go Go.Proofs
def lk(N:aF)(j:Int)(s:ByteArray):List (Int×Int)→Option Int|[]=>none|p::l=>if p.2=j∧(nd N p.1.toNat).Text=s then some p.1 else lk N j s l
def Q5(N:aF)(l:List (Int×Int)):Prop:=l.Pairwise fun p q=>¬(p.2=q.2∧(nd N p.1.toNat).Text=(nd N q.1.toNat).Text)
/-! ### Where kids stand -/
end Go.Ab
namespace Go.Ab
open Go Go.Proofs
theorem AL{N:aF}(hN:mL N):∃r,ry ⟨N⟩=some r∧(r.Code=0↔Whole N)∧(r.Code=0→r=⟨0,0⟩):=by have Er:N.length≤9223372036854775807:=hN.1;unfold ry;simp only[cin,GT,Du];by_cases h6:dD (N.length:Int) 1 600=true;·{have uS:1≤N.length∧N.length≤600:=by{simp only[dD,Bool.and_eq_true,decide_eq_true_eq]at h6;omega};have hm:nr (N.length:Int) (0:Int)=some (fl N 0):=by{unfold nr;rw[AC (by omega),Int.toNat_natCast,Ub]};simp only[h6,Bool.not_true,Bool.false_eq_true,if_false,hm,Option.bind_some];have hw:aU ((N.length:Int)-1)=((N.length-1:Nat):Int):=by{rw[jM (by omega) (by omega)];omega};rcases JD N N.length with c8|⟨k,hk,c8,Bj⟩;·{have c1:=rM (step:=fun s=>nC ⟨N⟩ s.1 s.2) (eO:=(⟨⟨N⟩,fl N 0⟩,0)) (fun i=>(⟨⟨N⟩,fl N i⟩,(i:Int))) N.length (.fV ⟨⟨N⟩,fl N N.length⟩) rfl (fun i hi=>by show nC ⟨N⟩ ⟨⟨N⟩,fl N i⟩ (i:Int)=_;rw[Dv (c8.le (by omega)) hi hN,AC (c8 i hi)]) (by unfold nC;simp only[pK,Bool.false_eq_true,if_false]);have WL:idx (fl N N.length) ((N.length-1:Nat):Int)=some ((N.length-M N (N.length-1):Nat):Int):=by{unfold idx;rw[AC (by omega),Int.toNat_natCast,(JL N N.length (Nat.le_refl _)).2 _ (by omega)];congr 3;omega};obtain⟨_,m1,m2,_⟩:=jW c8 (N.length-1) (by omega);simp only[c1,Option.bind_some,J6,hw,WL];by_cases kG:M N (N.length-1)=N.length;·{have e1:(((N.length-M N (N.length-1):Nat):Int) !=0)=false:=by{simp;omega};simp only[e1,Bool.false_eq_true,if_false,Ts c8 uS.2,Option.bind_some,YO c8 uS.1 kG];by_cases hD:D N (N.length-1)≤40;·{refine⟨⟨0,0⟩,by rw[Do (by simp;omega)],⟨fun _=>⟨uS.1,uS.2,c8,kG,hD⟩,fun _=>rfl⟩,fun _=>rfl⟩};·refine⟨⟨10,0⟩,by rw[AC (by simp;omega)],⟨fun h=>by simp at h,fun h=>absurd h.2.2.2.2 hD⟩,fun h=>by simp at h⟩};·have e1:(((N.length-M N (N.length-1):Nat):Int) !=0)=true:=by{simp;omega};simp only[e1,if_true];refine⟨⟨5,((N.length-1:Nat):Int)⟩,rfl,⟨fun h=>by simp at h,fun h=>absurd h.2.2.2.1 kG⟩,fun h=>by simp at h⟩};·have c1:=rM (step:=fun s=>nC ⟨N⟩ s.1 s.2) (eO:=(⟨⟨N⟩,fl N 0⟩,0)) (fun i=>(⟨⟨N⟩,fl N i⟩,(i:Int))) k (.ret ⟨j8 N k,(k:Int)⟩) rfl (fun i hi=>by show nC ⟨N⟩ ⟨⟨N⟩,fl N i⟩ (i:Int)=_;rw[Dv (c8.le (by omega)) (by omega) hN,AC (c8 i hi)]) (by show nC ⟨N⟩ ⟨⟨N⟩,fl N k⟩ (k:Int)=_;rw[Dv c8 hk hN,Do Bj]);refine⟨⟨j8 N k,(k:Int)⟩,by rw[c1];rfl,⟨fun h=>absurd h Bj,fun h=>absurd (h.2.2.1 k hk) Bj⟩,fun h=>absurd h Bj⟩};·have uS:dD (N.length:Int) 1 600=false:=by{simpa using h6};refine⟨⟨2,0⟩,by simp[uS],⟨fun h=>by simp at h,fun h=> ?_⟩,fun h=>by simp at h⟩;exact absurd (by simp only[dD,H4,decide_eq_true_eq];exact⟨by have:=h.1;omega,by have:=h.2.1;omega⟩) h6
end Go.Ab
