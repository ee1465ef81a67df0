import Derived.Test.YtbbhbdlljfffdaaGreatDoorAbGens
open Bool renaming false_eq_true→GE,eq_iff_iff→Hb,not_true→Hc,false_and→Hm,and_eq_true→H4,and_false→H5,and_true→IH
open ByteArray renaming mk→AC
open ByteArray.toList renaming loop→H3
open Int renaming toNat_natCast→GT
open List renaming ext_getElem?→Hk,take_length→H0,getElem?_eq_none→H1,foldl_cons→H2,take_add_one→If,getElem?_eq_getElem→Ix,map_append→Kd,map_congr_left→Lk,getElem?_set→PH,getElem?_map→PP,getElem?_range→PQ,length_map→Ps,length_range→QP,replicate→QQ,map_cons→QR,mem_cons_self→RK,mem_cons_of_mem→R0
open Nat renaming le_refl→Ha,strongRecOn→Hn
open Option renaming bind_some→Do,map_some→Pi
open Option.some renaming injEq→Hd
set_option linter.all false
namespace Go.Ab
open Go
theorem fG{n:Int}(h1:-9223372036854775808≤n)(h2:n<9223372036854775808):aS n=n:=by simp only[aS,IntKind.wrap,IntKind.bits,IntKind.signed];simp;split<;>omega
theorem k8{i:Nat}(h:i<9223372036854775807):aS ((i:Int)+1)=((i+1:Nat):Int):=by rw[fG (by omega) (by omega)];rfl
theorem l8{α:Type}{l:List α}{i:Nat}(h:i<l.length):idx l (i:Int)=some l[i]:=by unfold idx;rw[if_pos (by omega)];simp[h]
def run{σ bQ α:Type}(f:Nat→σ→α→bQ⊕σ)(e:σ→bQ):Nat→σ→List α→bQ|_,s,[]=>e s|i,s,x::l=>match f i s x with| .inl o=>o| .inr s'=>run f e (i+1) s' l
theorem Ud{σ bQ α S:Type}{l:List α}(pack:σ→Int→S)(f:Nat→σ→α→bQ⊕σ)(e:σ→bQ)(Inv:Nat→σ→Prop){step:S→Option (cG S bQ)}(hs:∀i s(h:i<l.length),Inv i s→match f i s l[i]with| .inl o=>step (pack s (i:Int))=some (.out o)| .inr s'=>step (pack s (i:Int))=some (.next (pack s' ((i+1:Nat):Int)))∧Inv (i+1) s')(he:∀s,Inv l.length s→step (pack s (l.length:Int))=some (.out (e s))){eZ:σ}(h0:Inv 0 eZ):Loop step (pack eZ 0)=some (run f e 0 eZ l):=by have key:∀k i s,l.length-i=k→i≤l.length→Inv i s→Loop step (pack s (i:Int))=some (run f e i s (l.drop i)):=by{intro k;induction k with|zero=>(intro i s hk hi hI;obtain rfl:i=l.length:=by{omega};rw[gr,he s hI,List.drop_length];rfl)|succ k ih=>intro i s hk hi hI;have hlt:i<l.length:=by{omega};have h1:=hs i s hlt hI;rw[gr,List.drop_eq_getElem_cons hlt];unfold run;split at h1;·{rw[h1];rfl};·rename_i s' ho;rw[h1.1];exact ih (i+1) s' (by omega) (by omega) h1.2};exact key _ 0 eZ rfl (by omega) h0
def nS{α ρ:Type}(g:Nat→α→Option ρ):Nat→List α→Option ρ|_,[]=>none|i,x::l=>match g i x with|some r=>some r|none=>nS g (i+1) l
def yq{ρ:Type}:Option ρ→cP Unit ρ|some r=> .ret r|none=> .dy ()
theorem GN{α ρ:Type}{l:List α}(g:Nat→α→Option ρ){step:Int→Option (cG Int (cP Unit ρ))}(hs:∀i(h:i<l.length),step (i:Int)=some (match g i l[i]with|some r=> .out (.ret r)|none=> .next ((i+1:Nat):Int)))(he:step (l.length:Int)=some (.out (.dy ()))):Loop (fun s=>step s) 0=some (yq (nS g 0 l)):=by have:=Ud (l:=l) (σ:=Unit) (bQ:=cP Unit ρ) (fun _ i=>i) (fun i _ x=>match g i x with|some r=> .inl (.ret r)|none=> .inr ()) (fun _=> .dy ()) (fun _ _=>True) (step:=step) (fun i s h _=>by have:=hs i h;cases hg:g i l[i]with|some r=>(simp only[hg]at this⊢;exact this)|none=>simp only[hg]at this⊢;exact⟨this,trivial⟩) (fun s _=>he) (eZ:=()) trivial;rw[this];congr 1;generalize 0=i;clear this hs he;induction l generalizing i with|nil=>(rfl)|cons x l ih=>simp only[run,nS];cases g i x with|some r=>(rfl)|none=>exact ih (i+1)
end Go.Ab
namespace Go.Ab
open Go Go.Proofs
@[simp]theorem Po{bQ ρ β:Type}(f:bQ→Option β)(g:ρ→Option β)(x:bQ):cP.go f g (.dy x)=f x:=rfl
@[simp]theorem go_ret{bQ ρ β:Type}(f:bQ→Option β)(g:ρ→Option β)(x:ρ):cP.go f g (.ret x)=g x:=rfl
abbrev Ec:Nat:=9223372036854775807
def fh(a lo hi:Int):Bool:=decide (lo≤a)&&decide (a≤hi)
theorem sZ(a b:Bool):(if a then b else false)=(a&&b):=by cases a<;>rfl
theorem o7(a b:Bool):(if a then true else b)=(a||b):=by cases a<;>rfl
@[simp]theorem cin(a b c:Int):q2 a b c=some (fh a b c):=by simp only[q2,fh,sZ]
@[simp]theorem lu(a b:Int):gT a b=some ⟨a,b⟩:=rfl
theorem CE:maxLen=9223372036854775807:=rfl
theorem kg{i:Nat}{n:Nat}(h:i<n):decide ((i:Int)<(n:Int))=true:=by simp[h]
theorem nx{n:Nat}:decide ((n:Int)<(n:Int))=false:=by simp
theorem D9{α:Type}{a b:List α}(h:a.length+b.length≤4294967296):app a b=some (a++b):=if_pos h
theorem Xn(a b:Bool):(if a=true then some true else some b)=some (a||b):=by cases a<;>rfl
theorem Ub{σ bQ S:Type}(pack:σ→Int→S)(f:Nat→σ→bQ){step:S→Option (cG S bQ)}(N:Nat)(Inv:Nat→σ→Prop)(hs:∀k s,k<N→Inv (k+1) s→step (pack s (k:Int))=some (.out (f (k+1) s))∨∃s',step (pack s (k:Int))=some (.next (pack s' ((k:Int)-1)))∧f (k+1) s=f k s'∧Inv k s')(he:∀s,Inv 0 s→step (pack s (-1))=some (.out (f 0 s))):∀k s,k≤N→Inv k s→Loop step (pack s ((k:Int)-1))=some (f k s):=by intro k;induction k with|zero=>(intro s _ hI;rw[gr];simp only[Int.natCast_zero,Int.zero_sub];rw[he s hI];rfl)|succ k ih=>intro s hk hI;rw[gr,show((k+1:Nat):Int)-1=(k:Int)by omega];rcases hs k s (by omega) hI with h|⟨s',h1,h2,h3⟩;·{rw[h];rfl};·rw[h1,h2];exact ih s' (by omega) h3
/-! ### Names -/
def n8(c:Int):Bool:=fh c 97 122||fh c 65 90||c==95
def oS(c:Int):Bool:=fh c 48 57
def tP(c:UInt8):Bool:=n8 c.toNat||oS c.toNat
def FE(s:ByteArray):Bool:=fh s.size 1 12&&(match s.data.toList with|[]=>false|c::_=> !oS c.toNat)&&s.data.toList.all tP
theorem aiz{s:ByteArray}{i:Nat}(h:i<s.data.toList.length):dW s (i:Int)=some s.data.toList[i]:=by unfold dW;rw[if_pos (by omega)];simp only[GT];have h':i<s.size:=by{simpa using h};rw[getElem?_pos s i h'];rfl
theorem Tc(s:ByteArray):s.size=s.data.toList.length:=by simp
theorem YJ(s:ByteArray)(h12:s.size≤12):Loop (fun i=>yB s i) 0=some (yq (nS (fun i c=>if n8 c.toNat||(decide (0<i)&&oS c.toNat)then none else some false) 0 s.data.toList)):=by refine GN (l:=s.data.toList) _ (fun i h=> ?_) ?_;·{have hlt:i<s.size:=by{rw[Tc];exact h};unfold yB;simp only[aiz h,Option.bind_some,k8 (i:=i) (by omega),sZ,o7];rw[if_pos (by simp;omega)];have e:(decide (97≤(s.data.toList[i].toNat:Int))&&decide ((s.data.toList[i].toNat:Int)≤122)||decide (65≤(s.data.toList[i].toNat:Int))&&decide ((s.data.toList[i].toNat:Int)≤90)||(s.data.toList[i].toNat:Int)==95||decide (0<(i:Int))&&decide (48≤(s.data.toList[i].toNat:Int))&&decide ((s.data.toList[i].toNat:Int)≤57))=(n8 s.data.toList[i].toNat||(decide (0<i)&&oS s.data.toList[i].toNat)):=by{simp only[n8,oS,fh,Bool.and_assoc];congr 2;simp};rw[e];cases n8 s.data.toList[i].toNat||(decide (0<i)&&oS s.data.toList[i].toNat)<;>rfl};·unfold yB;rw[if_neg (by simp)]
theorem YI(s:ByteArray):yA s=some (FE s):=by unfold yA FE;simp only[o7];by_cases hs:fh s.size 1 12=true;·{have hb:1≤s.size∧s.size≤12:=by{simp only[fh,Bool.and_eq_true,decide_eq_true_eq]at hs;omega};have hc0:(decide ((s.size:Int)<1)||decide (12<(s.size:Int)))=false:=by{simp;omega};simp only[hs,hc0,YJ s hb.2];cases hc:s.data.toList with|nil=>(rw[Tc,hc]at hb;simp at hb)|cons c l=>have key:∀(l:List UInt8)(i:Nat),0<i→nS (fun i(c:UInt8)=>if n8 c.toNat||(decide (0<i)&&oS c.toNat)then none else some false) i l=if l.all tP then none else some false:=by{intro l;induction l with|nil=>(intro i _;rfl)|cons x l ih=>intro i hi;have e:(n8 x.toNat||(decide (0<i)&&oS x.toNat))=tP x:=by{simp[tP,hi]};rw[nS,ih (i+1) (by omega),List.all_cons,e];by_cases hx:tP x=true<;>simp[hx]};have acO:n8 c.toNat=true→oS c.toNat=false:=by{simp only[n8,oS,fh];simp;omega};have e0:(n8 c.toNat||(decide (0<0)&&oS c.toNat))=n8 c.toNat:=by{simp};rw[nS,key l 1 (by omega),e0,List.all_cons];by_cases h1:n8 c.toNat=true;·{by_cases hl:l.all tP=true<;>simp[h1,acO h1,hl,yq,tP]<;>simpa using hl};·have h1':n8 c.toNat=false:=by{simpa using h1};cases h2:oS c.toNat<;>simp[h1',h2,yq,tP]};·have:(decide ((s.size:Int)<1)||decide (12<(s.size:Int)))=true:=by{simp only[fh,H4,decide_eq_true_eq]at hs;simp;omega};simp[hs,this]
end Go.Ab
namespace Go.Ab
open Go Go.Proofs
def kM(k:Int):Bool:=fh k 31 40
def An(k:Int):Bool:=fh k 11 18||fh k 21 24
def uF(k:Int):Bool:=fh k 1 4||fh k 11 24||kM k
def xl(k:Int):Bool:=k==2||k==3||k==4||k==12||k==32||k==33
@[simp]theorem yh(k:Int):pX k=some (kM k):=by simp only[pX,kM,fh,sZ]
@[simp]theorem Xa(k:Int):vP k=some (An k):=by simp only[vP,An,fh,sZ,o7]
@[simp]theorem aiV(k:Int):Du k=some (uF k):=by simp only[Du,yh,Do,sZ,o7,Xn,uF,fh]
@[simp]theorem aiY(k:Int):As k=some (xl k):=by simp only[As,o7,xl]
def gH(k:Int):Int×Int:=if k==1||k==11||k==33 then(0,1099511627776)else if k==3||k==18 then(1,1099511627776)else if k==2 then(0,200)else if k==12||k==23 then(0,1)else if k==13||k==19||k==35||k==40 then(1,1)else if k==14 then(2,3)else if k==15||k==16||k==34||k==36||k==37||k==39 then(2,2)else if k==38 then(3,3)else if k==17 then(4,4)else(0,0)
theorem aek{P:Int→Prop}{k:Int}(h:∀n:_root_.Fin 41,P ((n:Nat):Int))(h2:k<0∨40<k→P k):P k:=by by_cases hk:0≤k∧k≤40;·{have:=h ⟨k.toNat,by omega⟩;simpa[Int.toNat_of_nonneg hk.1]using this};·exact h2 (by omega)
theorem ai7(k:Int):Au k=some ((gH k).1,if(gH k).2=1099511627776 then-1 else(gH k).2):=by refine aek (P:=fun k=>Au k=some ((gH k).1,if(gH k).2=1099511627776 then-1 else(gH k).2)) (by decide+kernel) fun h=> ?_;have hn:∀c:Int,0≤c→c≤40→(k==c)=false:=fun c h1 h2=>by{simp;omega};simp[Au,xL,Av,Aw,va,rS,gH,hn]
theorem aeh(k:Int):(gH k).2=1099511627776∨(0≤(gH k).2∧(gH k).2≤200):=by
 unfold gH
 repeat' split
 all_goals simp
def ku(k m:Int):Bool:=decide ((gH k).1≤m)&&((gH k).2==1099511627776||decide (m≤(gH k).2))
theorem aei{k m:Int}:(if(decide (m<(gH k).1))then true else(if(decide (0≤(if(gH k).2=1099511627776 then-1 else(gH k).2)))then(decide ((if(gH k).2=1099511627776 then-1 else(gH k).2)<m))else false))= !ku k m:=by simp only[o7,sZ,ku];rcases aeh k with h|h;·{rw[h,Hb];simp};·rw[if_neg (by omega)];have:((gH k).2==1099511627776)=false:=by{simp;omega};rw[this,Hb];simp;omega
def kP(k i m c:Int):Bool:=if k==1 then c==2||c==3 else if k==3 then(if i==aS (m-1)then c==11 else c==4)else if k==11 then An c else if k==18&&decide (0<i)then An c||c==19||c==20 else if(((k==14||k==15)&&decide (0<i))||(k==16&&i==0))||(k==17&&i==3)then c==11 else if k==17&&i==0 then c==12||c==13||c==24 else if k==17&&i==1 then kM c||c==24 else if k==17&&i==2 then c==13||c==24 else kM c
theorem aiU(n:aN)(i c:Int)(hi:0≤i)(hl:i<n.Kids.length)(hs:ku n.Kind n.Kids.length=true):Dt n i c=some (kP n.Kind i n.Kids.length c):=by unfold Dt Ar kP;simp only[Xa,yh,Do,o7,sZ];generalize n.Kids.length=m at*;generalize n.Kind=k at*;by_cases h1:k=1;·{subst h1;rfl};by_cases h3:k=3;·{subst h3;by_cases hx:i=aS ((m:Int)-1);·{simp[←hx]};·have hb:(i==aS ((m:Int)-1))=false:=beq_eq_false_iff_ne.2 hx;simp[hb]};by_cases h11:k=11;·{subst h11;rfl};have b1:(k==1)=false:=by{simpa using h1};have b3:(k==3)=false:=by{simpa using h3};have Hl:(k==11)=false:=by{simpa using h11};simp only[b1,b3,Hl,GE,if_false];by_cases jF:k=18;·{subst jF;by_cases h0:i=0;·{subst h0;simp;cases kM c<;>rfl};·have:0<i:=by{omega};simp[h0,this]};have Xe:(k==18)=false:=by{simpa using jF};simp only[Xe,GE,if_false,Hm];by_cases ia:k=14;·{subst ia;by_cases h0:i=0;·{subst h0;simp};·have:0<i:=by{omega};simp[h0,this]};by_cases j7:k=15;·{subst j7;by_cases h0:i=0;·{subst h0;simp};·have:0<i:=by{omega};simp[h0,this]};have Hp:(k==14)=false:=by{simpa using ia};have Hq:(k==15)=false:=by{simpa using j7};simp only[Hp,Hq,GE,if_false,Hm,Bool.false_or];by_cases kz:k=16;·{subst kz;have hm:(m:Int)=2:=by{have:gH 16=(2,2):=by{decide+kernel};simp[ku,this]at hs;omega};have:i=0∨i=1:=by{omega};rcases this with rfl|rfl<;>simp};by_cases jj:k=17;·{subst jj;have hm:(m:Int)=4:=by{have:gH 17=(4,4):=by{decide+kernel};simp[ku,this]at hs;omega};have:i=0∨i=1∨i=2∨i=3:=by{omega};rcases this with rfl|rfl|rfl|rfl<;>simp};have Hr:(k==16)=false:=by{simpa using kz};have Xd:(k==17)=false:=by{simpa using jj};simp[Hr,Xd]
/-! ### Numbers -/
def uJ(n:aN):Bool:=if n.Kind==2&&n.N==3 then fh n.gd 1 200&&decide ((n.Kids.length:Int)≤n.gd)else if n.gd !=0 then false else if n.Kind==2 then fh n.N 1 2&&decide ((n.Kids.length:Int)<2)else if n.Kind==3 then fh n.N 0 2 else if n.Kind==4||n.Kind==12 then fh n.N 1 2 else if n.Kind==31 then decide (0≤n.N)else if n.Kind==40 then fh n.N 0 1 else n.N==0
@[simp]theorem aiZ(n:aN):Dv n=some (uJ n):=by
 unfold Dv At uJ
 simp only[cin,Do,o7,sZ]
 generalize n.Kids.length=m
 generalize n.Kind=k
 generalize n.N=x
 generalize n.gd=z
 by_cases h2:k=2
 ·subst h2
  by_cases hx:x=3
  ·subst hx;simp
  ·have :(x==3)=false:=by simpa using hx
   simp only[this,H5,GE,if_false,beq_self_eq_true,if_true]
   by_cases hz:z=0
   ·subst hz
    simp only[beq_self_eq_true,bne,Hc,GE,if_false,IH,fh]
    congr 1
    rw[Hb];simp;omega
   ·have wX:(z==0)=false:=by simpa using hz
    simp[wX,bne]
 have b2:(k==2)=false:=by simpa using h2
 simp only[b2,GE,if_false,Hm]
 by_cases hz:z=0
 ·subst hz
  simp only[bne,beq_self_eq_true,Hc,IH,GE,if_false]
  by_cases h4:k=4
  ·subst h4;rfl
  have b4:(k==4)=false:=by simpa using h4
  by_cases h12:k=12
  ·subst h12;rfl
  have Ho:(k==12)=false:=by simpa using h12
  simp only[b4,Ho,GE,if_false,Bool.or_self]
  repeat' split
  all_goals rfl
 ·have wX:(z==0)=false:=by simpa using hz
  simp only[wX,bne,Bool.not_false,if_true,H5]
  repeat' split
  all_goals rfl
end Go.Ab
namespace Go.Ab
open Go Go.Proofs
def iw(l:List ByteArray)(s:ByteArray):Bool:=l.any fun x=>x.toList==s.toList
theorem aiA(l:List ByteArray)(s:ByteArray)(hl:l.length≤maxLen):∃n:Int,Dp l s=some n∧decide (0≤n)=iw l s:=by have hm:=CE;have h:Loop (fun i=>Ak l s i) 0=some (yq (nS (fun i(x:ByteArray)=>if s.toList==x.toList then some (i:Int)else none) 0 l)):=by{refine GN (l:=l) (fun i x=>if s.toList==x.toList then some (i:Int)else none) (fun i h=> ?_) ?_;·{unfold Ak;simp only[kg h,if_true,l8 h,Do,k8 (i:=i) (by omega)];cases s.toList==l[i].toList<;>rfl};·unfold Ak;simp only[nx];rfl};have h2:∀(l:List ByteArray)(i:Nat),match nS (fun i(x:ByteArray)=>if s.toList==x.toList then some (i:Int)else none) i l with|some n=>0≤n∧iw l s=true|none=>iw l s=false:=by{intro l;induction l with|nil=>(intro i;rfl)|cons x l ih=>intro i;simp only[nS];by_cases hx:(s.toList==x.toList)=true;·{have:s.toList=x.toList:=by{simpa using hx};simp[this,iw]};·have hx':(s.toList==x.toList)=false:=by{simpa using hx};have hx2:(x.toList==s.toList)=false:=by{rw[BEq.comm];exact hx'};simp only[hx',Bool.false_eq_true,if_false];have:=ih (i+1);simp only[iw,List.any_cons,hx2,Bool.false_or];exact this};unfold Dp;rw[h];have:=h2 l 0;generalize nS (fun i(x:ByteArray)=>if s.toList==x.toList then some (i:Int)else none) 0 l=o at this;cases o with|some n=>(exact⟨n,rfl,by rw[this.2];simpa using this.1⟩)|none=>exact⟨-1,rfl,by simp only at this;rw[this];rfl⟩
theorem ais(l:List ByteArray)(s:ByteArray)(hl:l.length≤maxLen):Dm l s=some (iw l s):=by obtain⟨n,h1,h2⟩:=aiA l s hl;unfold Dm;rw[h1,Do,h2]
abbrev xM:List ByteArray:=[(AC #[43]),(AC #[45]),(AC #[42]),(AC #[47]),(AC #[37]),(AC #[38]),(AC #[124]),(AC #[94]),(AC #[60,60]),(AC #[62,62])]
abbrev A3:List ByteArray:=[(AC #[61,61]),(AC #[33,61]),(AC #[60]),(AC #[60,61]),(AC #[62]),(AC #[62,61])]
abbrev FZ:List ByteArray:=[(AC #[45]),(AC #[33]),(AC #[126]),(AC #[42]),(AC #[38])]
theorem Mk(s:ByteArray):∃t,tL s=some (t,iw xM s||iw A3 s)∧((iw xM s||iw A3 s)&&decide (t.Op≤11))=iw xM s:=by have hc:∀x:ByteArray,(x.toList==s.toList)=(s.toList==x.toList):=fun x=>BEq.comm;unfold tL iw;simp only[List.any_cons,List.any_nil,Bool.or_false,hc];generalize(s.toList==(AC #[43]).toList)=b1;generalize(s.toList==(AC #[45]).toList)=b2;generalize(s.toList==(AC #[42]).toList)=b3;generalize(s.toList==(AC #[47]).toList)=b4;generalize(s.toList==(AC #[37]).toList)=pY;generalize(s.toList==(AC #[38]).toList)=AY;generalize(s.toList==(AC #[124]).toList)=AZ;generalize(s.toList==(AC #[94]).toList)=Xf;generalize(s.toList==(AC #[60,60]).toList)=Xg;generalize(s.toList==(AC #[62,62]).toList)=Xb;generalize(s.toList==(AC #[61,61]).toList)=Hl;generalize(s.toList==(AC #[33,61]).toList)=Ho;generalize(s.toList==(AC #[60]).toList)=Xc;generalize(s.toList==(AC #[60,61]).toList)=Hp;generalize(s.toList==(AC #[62]).toList)=Hq;generalize(s.toList==(AC #[62,61]).toList)=Hr;cases b1;cases b2;cases b3;cases b4;cases pY;cases AY;cases AZ;cases Xf;cases Xg;cases Xb;cases Hl;cases Ho;cases Xc;cases Hp;cases Hq;cases Hr;all_goals exact⟨_,rfl,rfl⟩
theorem Th{s:ByteArray}{n:Nat}(h:n≤s.size):iV s none (some (n:Int))=some (s.extract 0 n):=by unfold iV bounds;simp[h]
theorem afd{s:ByteArray}(h:s.toList=[]):iw xM s=false∧iw A3 s=false:=by unfold iw;rw[h];exact⟨by decide+kernel,by decide+kernel⟩
theorem ZH(s:ByteArray):(s.extract 0 0).toList=[]:=by have:s.extract 0 0=ByteArray.empty:=by{apply ByteArray.ext;simp};rw[this];decide+kernel
def Ai(k:Int)(s:ByteArray):Bool:=if k==35 then iw FZ s else if k==36 then iw xM s||iw A3 s else if k==37 then(s.toList==(AC #[38,38]).toList||s.toList==(AC #[124,124]).toList)else if k==39 then(s.toList==(AC #[61]).toList||(decide (1<s.size)&&(match s[s.size-1]? with|some c=>c.toNat==61|none=>false)&&iw xM (s.extract 0 (s.size-1))))else if k==40 then(s.toList==(AC #[43,43]).toList||s.toList==(AC #[45,45]).toList)else s.toList==(AC #[]).toList
theorem aiy{s:ByteArray}(h:0<s.size)(hl:s.size≤maxLen):∃c,dW s (aS ((s.size:Int)-1))=some c∧s[s.size-1]? =some c:=by have hm:=CE;rw[fG (by omega) (by omega)];unfold dW;rw[if_pos (by omega),show((s.size:Int)-1).toNat=s.size-1 by omega];rw[getElem?_pos s (s.size-1) (by omega)];exact⟨_,rfl,rfl⟩
theorem ai8(k:Int)(s:ByteArray)(hl:s.size≤maxLen):Dw k s=some (Ai k s):=by have hm:=CE;obtain⟨t,ht,_⟩:=Mk s;unfold Dw Ai;rw[ht,ais FZ s (by decide)];simp only[Do,o7];split;·{rfl};·split;·{rfl};·split;·{rfl};·split;·{by_cases h1:(s.toList==(AC #[61]).toList)=true;·{simp only[h1,if_true,Bool.true_or,Do]};·have h1':(s.toList==(AC #[61]).toList)=false:=by{simpa using h1};simp only[h1',Bool.false_eq_true,if_false,Bool.false_or];have e:max 0 (aS ((s.size:Int)-1))=((s.size-1:Nat):Int):=by{rw[fG (by omega) (by omega)];omega};rw[e,Th (by omega),Option.bind_some];obtain⟨t2,B7,BY⟩:=Mk (s.extract 0 (s.size-1));rw[B7,Option.bind_some];by_cases h2:1<s.size;·{obtain⟨c,hc,jl⟩:=aiy (s:=s) (by omega) hl;rw[hc,jl,Option.bind_some];simp only;have hT:((c.toNat:Int)==61)=(c.toNat==61):=by{rw[Bool.eq_iff_iff];simp;omega};rw[hT,decide_eq_true h2];generalize(c.toNat==61)=T;generalize iw xM (s.extract 0 (s.size-1))=A at*;generalize iw A3 (s.extract 0 (s.size-1))=B at*;generalize decide (t2.Op≤11)=D at*;revert BY;cases A<;>cases B<;>cases D<;>cases T<;>decide};·have h0:s.size-1=0:=by{omega};obtain⟨n1,n2⟩:=afd (ZH s);rw[h0];simp only[h2,n1,n2,decide_false,Bool.false_and,Bool.or_self,Bool.false_eq_true,if_false,Option.bind_some]};·split<;>rfl
end Go.Ab
namespace Go.Ab
open Go Go.Proofs
theorem tJ{S bQ:Type}{step:S→Option (cG S bQ)}{eZ:S}(st:Nat→S)(n:Nat)(r:bQ)(h0:st 0=eZ)(hs:∀i,i<n→step (st i)=some (.next (st (i+1))))(he:step (st n)=some (.out r)):Loop step eZ=some r:=by subst h0;have key:∀k i,n-i=k→i≤n→Loop step (st i)=some r:=by{intro k;induction k with|zero=>(intro i hk hi;obtain rfl:i=n:=by{omega};rw[gr,he];rfl)|succ k ih=>intro i hk hi;rw[gr,hs i (by omega)];exact ih (i+1) (by omega) (by omega)};exact key _ 0 rfl (by omega)
abbrev bw:=List aN
def nd(N:bw)(k:Nat):aN:=N.getD k default
theorem de{N:bw}{k:Nat}(h:k<N.length):idx N (k:Int)=some (nd N k):=by rw[l8 h];simp[nd,h]
def r3(N:bw):Nat→Nat→Nat|0,_=>0|f+1,k=>1+((nd N k).Kids.map fun x=>r3 N f x.toNat).sum
def M(N:bw)(k:Nat):Nat:=r3 N (k+1) k
def rW(N:bw):Nat→Nat→Nat|0,_=>0|f+1,k=>((nd N k).Kids.map fun x=>rW N f x.toNat).foldl max 0+1
def D(N:bw)(k:Nat):Nat:=rW N (k+1) k
def gF(N:bw)(n:aN):Nat→Nat→Option Nat|0,a=>some a|i+1,a=>if a=0∨n.Kids.getD i 0≠(a:Int)-1∨kP n.Kind i n.Kids.length (nd N (a-1)).Kind=false then none else gF N n i (a-M N (a-1))
def rR(n:aN):Int:=if xl n.Kind&& !FE n.Text then 12 else if !xl n.Kind&& !Ai n.Kind n.Text then 1 else if !uJ n||decide (n.cl<0)then 3 else 0
def kY(N:bw)(k:Nat):Int:=if !uF (nd N k).Kind then 4 else if !ku (nd N k).Kind (nd N k).Kids.length then 9 else match gF N (nd N k) (nd N k).Kids.length k with|none=>5|some _=>rR (nd N k)
def fA(N:bw)(k:Nat):Prop:=∀j,j<k→kY N j=0
theorem fA.le{N:bw}{j k:Nat}(h:fA N k)(hj:j≤k):fA N j:=fun i hi=>h i (by omega)
theorem aiQ{g:Int→Nat}{l:List Int}{i:Nat}(h:i<l.length):((l.take (i+1)).map g).sum=((l.take i).map g).sum+g (l.getD i 0):=by rw[If,Ix h,Kd,List.sum_append];simp[h]
theorem QZ{g:Int→Nat}:∀{l:List Int},(∀t,t<l.length→1≤g (l.getD t 0))→l.length≤(l.map g).sum|[],_=>by{simp}|x::l,h=>by have h0:=h 0 (by simp);have:=QZ (l:=l) fun t ht=>by{simpa using h (t+1) (by simpa using ht)};simp at h0⊢;omega
theorem QE{N:bw}{n:aN}:∀{i a b:Nat},gF N n i a=some b→(∀j,j<a→1≤M N j∧M N j≤j+1)→i≤n.Kids.length→b≤a∧(∀t,t<i→∃c:Nat,n.Kids.getD t 0=(c:Int)∧b≤c∧c<a)∧((n.Kids.take i).map fun x=>M N x.toNat).sum+b=a|0,a,b,h,_,_=>by{simp only[gF,Hd]at h;subst h;exact⟨Ha _,fun t ht=>by omega,by simp⟩}|i+1,a,b,h,j8,hi=>by unfold gF at h;split at h;·{cases h};·rename_i hc;have ha:a≠0:=fun e=>hc (.inl e);have hk:n.Kids.getD i 0=(a:Int)-1:=by{by_cases hk:n.Kids.getD i 0=(a:Int)-1;·{exact hk};·exact absurd (.inr (.inl hk)) hc};obtain⟨h1,h2⟩:=j8 (a-1) (by omega);obtain⟨e1,e2,b7⟩:=QE h (fun j hj=>j8 j (by omega)) (by omega);refine⟨by omega,fun t ht=> ?_, ?_⟩;·{by_cases adr:t=i;·{subst adr;exact⟨a-1,by rw[hk];omega,by omega,by omega⟩};·obtain⟨c,q1,cc,cZ⟩:=e2 t (by omega);exact⟨c,q1,cc,by omega⟩};·rw[aiQ (by omega),hk,show((a:Int)-1).toNat=a-1 by omega];omega
theorem zL{N:bw}{k:Nat}(h:kY N k=0):∃b,gF N (nd N k) (nd N k).Kids.length k=some b∧rR (nd N k)=0∧uF (nd N k).Kind=true∧ku (nd N k).Kind (nd N k).Kids.length=true:=by unfold kY at h;split at h;·{cases h};·split at h;·{cases h};·rename_i h1 h2;split at h;·{cases h};·rename_i b hb;exact⟨b,hb,h,by simpa using h1,by simpa using h2⟩
theorem Pm(l:List Int)(g g':Int→Nat)(h:∀t,t<l.length→g (l.getD t 0)=g' (l.getD t 0)):l.map g=l.map g':=by refine Lk fun x hx=> ?_;obtain⟨t,ht,rfl⟩:=List.mem_iff_getElem.1 hx;have:=h t ht;simpa[ht]using this
theorem iB{N:bw}{k:Nat}(h:fA N k):∀j,j<k→(∀f,j<f→r3 N f j=M N j∧rW N f j=D N j)∧1≤M N j∧M N j≤j+1∧gF N (nd N j) (nd N j).Kids.length j=some (j+1-M N j)∧M N j=1+((nd N j).Kids.map fun x=>M N x.toNat).sum∧D N j=((nd N j).Kids.map fun x=>D N x.toNat).foldl max 0+1∧∀t,t<(nd N j).Kids.length→∃c:Nat,(nd N j).Kids.getD t 0=(c:Int)∧j+1-M N j≤c∧c<j:=by intro j;induction j using Hn with|ind j ih=>intro hj;obtain⟨b,hb,_⟩:=zL (h j hj);obtain⟨e1,e2,b7⟩:=QE hb (fun i hi=>⟨(ih i hi (by omega)).2.1,(ih i hi (by omega)).2.2.1⟩) (Ha _);rw[H0]at b7;have hf:∀f,j<f→r3 N f j=1+((nd N j).Kids.map fun x=>M N x.toNat).sum∧rW N f j=((nd N j).Kids.map fun x=>D N x.toNat).foldl max 0+1:=by{intro f hf;obtain⟨f,rfl⟩:∃g,f=g+1:=⟨f-1,by omega⟩;constructor;·{rw[r3,Pm _ _ (fun x=>M N x.toNat)];intro t ht;obtain⟨c,q1,cc,cZ⟩:=e2 t ht;rw[q1,GT];exact((ih c cZ (by omega)).1 f (by omega)).1};·rw[rW,Pm _ _ (fun x=>D N x.toNat)];intro t ht;obtain⟨c,q1,cc,cZ⟩:=e2 t ht;rw[q1,GT];exact((ih c cZ (by omega)).1 f (by omega)).2};have j8:=(hf (j+1) (by omega)).1;have hD:=(hf (j+1) (by omega)).2;have alf:M N j+b=j+1:=by{unfold M;omega};have e:j+1-M N j=b:=by{omega};refine⟨fun f h1=>⟨(hf f h1).1.trans j8.symm,(hf f h1).2.trans hD.symm⟩,by omega,by omega,by rw[e];exact hb,j8,hD,fun t ht=> ?_⟩;rw[e];exact e2 t ht
theorem kW{N:bw}{k:Nat}(h:fA N k){j:Nat}(hj:j<k):(nd N j).Kids.length≤j:=by obtain⟨_,h1,h2,_,j8,_,hk⟩:=iB h j hj;have:=QZ (g:=fun x=>M N x.toNat) (l:=(nd N j).Kids) fun t ht=>by{obtain⟨c,q1,cc,cZ⟩:=hk t ht;rw[q1,GT];exact(iB h c (by omega)).2.1};omega
theorem Pf{g:Int→Nat}{l:List Int}{i:Nat}(h:i<l.length):((l.take (i+1)).map g).foldl max 0=max (((l.take i).map g).foldl max 0) (g (l.getD i 0)):=by rw[If,Ix h,Kd,List.foldl_append];simp[h]
theorem T3{N:bw}{k:Nat}(h:fA N k):∀j,j<k→1≤D N j∧D N j≤j+1:=by intro j;induction j using Hn with|ind j ih=>intro hj;obtain⟨_,h1,h2,_,_,hD,hk⟩:=iB h j hj;have:∀i,i≤(nd N j).Kids.length→(((nd N j).Kids.take i).map fun x=>D N x.toNat).foldl max 0≤j:=by{intro i;induction i with|zero=>(intro _;simp)|succ i ih2=>intro hi;obtain⟨c,q1,cc,cZ⟩:=hk i (by omega);rw[Pf (by omega),q1,GT];have:=ih2 (by omega);have:=(ih c cZ (by omega)).2;omega};have:=this _ (Ha _);rw[H0]at this;omega
/-! ### What is wrong with a node -/
end Go.Ab
namespace Go.Ab
open Go Go.Proofs
def qR(N:bw):Prop:=N.length≤Ec∧∀n∈N,n.Kids.length≤Ec∧n.Text.size≤maxLen
theorem Kv{N:bw}{k:Nat}(h:k<N.length):nd N k∈N:=by have:nd N k=N[k]:=by{simp[nd,h]};rw[this];exact List.getElem_mem _
theorem adK{α:Type}{a:Bool}{x y:α}:(if a=true then some x else some y)=some (if a=true then x else y):=by cases a<;>rfl
def GJ(N:bw)(F:List Int)(k:Nat):Prop:=F.length=N.length∧∀j,j<k→F[j]? =some ((j+1-M N j:Nat):Int)
def vS(N:bw)(F:List Int):Option Nat→cP Int (Int×jf)|none=> .ret (5,⟨⟨N⟩,F⟩)|some b=> .dy (b:Int)
theorem afp{N:bw}{k:Nat}{F:List Int}(h:fA N k)(hF:GJ N F k)(hk:k<N.length)(hb:N.length≤Ec)(n:aN)(hl:n.Kids.length≤Ec)(hs:ku n.Kind n.Kids.length=true):∀i a,i≤n.Kids.length→a≤k→Loop (fun s=>Aq ⟨⟨N⟩,F⟩ n s.1 s.2) ((a:Int),(i:Int)-1)=some (vS N F (gF N n i a)):=by have IW:N.length≤9223372036854775807:=hb;have acP:n.Kids.length≤9223372036854775807:=hl;refine Ub (pack:=fun(a:Nat)(i:Int)=>((a:Int),i)) (fun i a=>vS N F (gF N n i a)) n.Kids.length (fun _ a=>a≤k) (fun i a hi ha=> ?_) (fun a ha=> ?_);·{unfold Aq;rw[if_pos (by simp)];simp only[gF];by_cases ha0:a=0;·{subst ha0;exact .inl (by simp[vS])};·have hx:((a:Int)==0)=false:=by{simpa using ha0};have hw:aS ((a:Int)-1)=((a-1:Nat):Int):=by{rw[fG (by omega) (by omega)];omega};have sX:aS ((i:Int)-1)=(i:Int)-1:=fG (by omega) (by omega);have hgd:n.Kids.getD i 0=n.Kids[i]:=by{simp[hi]};simp only[hx,Bool.false_eq_true,if_false,l8 hi,Option.bind_some,hw,hgd];by_cases hq:n.Kids[i]=(a:Int)-1;·{have adb:n.Kids[i]=((a-1:Nat):Int):=by{omega};have JB:(n.Kids[i] !=((a-1:Nat):Int))=false:=by{simp;omega};have acw:idx F ((a-1:Nat):Int)=some ((a-1+1-M N (a-1):Nat):Int):=by{unfold idx;rw[if_pos (by omega),Int.toNat_natCast];exact hF.2 (a-1) (by omega)};rw[JB];simp only[Bool.false_eq_true,if_false,acw,Option.bind_some,adb,de (show a-1<N.length by omega),aiU n (i:Int) _ (by omega) (by omega) hs,ha0,false_or];have ade:¬(((a-1:Nat):Int)≠(a:Int)-1):=by{omega};simp only[ade,false_or];cases hg:kP n.Kind i n.Kids.length (nd N (a-1)).Kind;·{exact .inl (by simp[vS])};·obtain⟨_,h1,h2,_⟩:=iB h (a-1) (by omega);refine .inr ⟨a-M N (a-1), ?_,by simp,by omega⟩;simp only[Bool.not_true,Bool.false_eq_true,if_false,sX];congr 3;omega};·have JB:(n.Kids[i] !=((a-1:Nat):Int))=true:=by{simp;omega};rw[JB];exact .inl (by simp[vS,hq,ha0])};·unfold Aq;rw[if_neg (by simp)];rfl
theorem afo{N:bw}{k:Nat}{F:List Int}(h:fA N k)(hF:GJ N F k)(hk:k<N.length)(hN:qR N):∃F',Ds ⟨⟨N⟩,F⟩ (k:Int)=some (kY N k,⟨⟨N⟩,F'⟩)∧F'.length=N.length∧(kY N k=0→F'=F.set k ((k+1-M N k:Nat):Int)):=by obtain⟨hl,ht⟩:=hN.2 _ (Kv hk);have acP:(nd N k).Kids.length≤9223372036854775807:=hl;have hml:=CE;have hb:=hN.1;have IW:N.length≤9223372036854775807:=hb;unfold Ds kY;simp only[de hk,Do,aiV,ai7,aei];by_cases hkn:uF (nd N k).Kind=true;·{simp only[hkn,Hc,GE,if_false];by_cases hin:ku (nd N k).Kind (nd N k).Kids.length=true;·{simp only[hin,Hc,GE,if_false];rw[fG (by omega) (by omega),afp h hF hk hN.1 (nd N k) hl hin _ _ (Ha _) (Ha _),Do];cases hkc:gF N (nd N k) (nd N k).Kids.length k with|none=>(exact⟨F,by simp[vS],hF.1,fun h0=>by simp at h0⟩)|some b=>have acr:idx F (k:Int)=some (F[k]'(by rw[hF.1];exact hk)):=l8 _;simp only[vS,Po,acr,Do,aiY,YI,ai8 _ _ ht,aiZ,o7,sZ,adK,GT];refine⟨F.set k (b:Int), ?_,by rw[List.length_set];exact hF.1,fun h0=> ?_⟩;·{unfold rR;cases(xl (nd N k).Kind&& !FE (nd N k).Text)<;>cases(!xl (nd N k).Kind&& !Ai (nd N k).Kind (nd N k).Text)<;>cases(!uJ (nd N k)||decide ((nd N k).cl<0))<;>rfl};·have hg:kY N k=0:=by{unfold kY;simp only[hkn,hin,hkc,Bool.not_true,Bool.false_eq_true,if_false];exact h0};have en:fA N (k+1):=fun j hj=>by{by_cases e:j=k;·{rw[e];exact hg};·exact h j (by omega)};obtain⟨_,_,_,e,_⟩:=iB en k (by omega);rw[hkc]at e;rw[Option.some.inj e]};·exact⟨F,by simp[hin],hF.1,fun h0=>by simp[hin]at h0⟩};·exact⟨F,by simp[hkn],hF.1,fun h0=>by simp[hkn]at h0⟩
end Go.Ab
namespace Go.Ab
open Go Go.Proofs
def j4(N:bw)(i:Nat)(v:Int):List Int:=(List.range N.length).map fun j=>if j<i then(D N j:Int)else if j=i then v else 0
theorem Eu(N:bw)(i:Nat)(v:Int):(j4 N i v).length=N.length:=by simp[j4]
theorem HR{N:bw}{i j:Nat}{v:Int}(h:j<N.length):idx (j4 N i v) (j:Int)=some (if j<i then(D N j:Int)else if j=i then v else 0):=by rw[l8 (by rw[Eu];exact h)];simp[j4]
theorem OB{N:bw}{i:Nat}{v w:Int}:(j4 N i v).set i w=j4 N i w:=by apply Hk ;intro j;rw[PH];by_cases hj:j<N.length;·{simp only[j4,PP,PQ hj,Pi,Ps,QP];by_cases e:i=j;·{subst e;simp[hj]};·have:j≠i:=fun h=>e h.symm;simp[e,this]};·have h1:(j4 N i w)[j]? =none:=H1 (by rw[Eu];omega);have h2:(j4 N i v)[j]? =none:=H1 (by rw[Eu];omega);rw[h1,h2,Eu];split;·{rw[if_neg (by omega)]};·rfl
theorem Zg{N:bw}{i:Nat}:j4 N i (D N i:Int)=j4 N (i+1) 0:=by refine Lk fun j _=> ?_;by_cases h1:j<i;·{rw[if_pos h1,if_pos (by omega)]};·by_cases h2:j=i;·{subst h2;simp};·rw[if_neg h1,if_neg h2,if_neg (by omega)];simp
theorem Zf{N:bw}:QQ N.length (0:Int)=j4 N 0 0:=by apply Hk ;intro j;by_cases hj:j<N.length;·{simp[j4,hj]};·simp[j4,hj]
def pn(N:bw):Nat→Nat|0=>0|i+1=>max (pn N i) (D N i)
theorem Zc{N:bw}(h:fA N N.length)(h6:N.length≤600):yo ⟨N⟩=some (pn N N.length:Int):=by unfold yo;have hm:nA (N.length:Int) (0:Int)=some (j4 N 0 0):=by{unfold nA;rw[if_pos (by omega),GT,Zf]};rw[hm,Do];have inner:∀i,i<N.length→Loop (fun s=>vN (i:Int) (nd N i) s.1 s.2) (j4 N i 0,0)=some (j4 N i (((nd N i).Kids.map fun x=>D N x.toNat).foldl max 0:Nat)):=by{intro i hi;obtain⟨_,h1,h2,_,_,hD,hk⟩:=iB h i hi;have hlen:=kW h hi;refine tJ (step:=fun s=>vN (i:Int) (nd N i) s.1 s.2) (fun t=>(j4 N i (((nd N i).Kids.take t|>.map fun x=>D N x.toNat).foldl max 0:Nat),(t:Int))) (nd N i).Kids.length _ (by simp) (fun t ht=> ?_) ?_;·{obtain⟨c,q1,cc,cZ⟩:=hk t ht;have hg:(nd N i).Kids[t]=(c:Int):=by{rw[←q1];simp[ht]};unfold vN;simp only[kg ht,if_true,l8 ht,Option.bind_some,hg,HR hi,HR (show c<N.length by omega),cZ,Nat.lt_irrefl,if_false,Int.toNat_natCast,OB];rw[Pf ht,q1,Int.toNat_natCast,k8 (by omega)];congr 4;omega};·unfold vN;simp only[nx,GE,if_false,H0]};rw[tJ (step:=fun s=>yp ⟨N⟩ s.1 s.2.1 s.2.2) (eZ:=(j4 N 0 0,0,0)) (fun i=>(j4 N i 0,(pn N i:Int),(i:Int))) N.length (pn N N.length:Int) (by simp[pn]) (fun i hi=> ?_) ?_];·{rfl};·{unfold yp;simp only[nx,GE,if_false]};·obtain⟨_,h1,h2,_,_,hD,hk⟩:=iB h i hi;have hd:=(T3 h i hi).2;unfold yp;have e:aS ((((nd N i).Kids.map fun x=>D N x.toNat).foldl max 0:Nat)+1)=(D N i:Int):=by{rw[k8 (by omega),hD]};simp only[kg hi,if_true,de hi,Do,inner i hi,HR hi,Nat.lt_irrefl,if_false,GT,OB,e];rw[k8 (by omega),Zg,pn];congr 4;omega
theorem QD{N:bw}{n:aN}:∀{i a b:Nat},gF N n i a=some b→∀j,b≤j→j<a→∃t c:Nat,t<i∧n.Kids.getD t 0=(c:Int)∧c+1-M N c≤j∧j≤c|0,a,b,h,j,h1,h2=>by{simp only[gF,Hd]at h;omega}|i+1,a,b,h,j,h1,h2=>by unfold gF at h;split at h;·{cases h};·rename_i hc;have hk:n.Kids.getD i 0=(a:Int)-1:=by{by_cases hk:n.Kids.getD i 0=(a:Int)-1;·{exact hk};·exact absurd (.inr (.inl hk)) hc};by_cases hj:a-M N (a-1)≤j;·{exact⟨i,a-1,by omega,by rw[hk];omega,by omega,by omega⟩};·obtain⟨t,c,e1,e2,b7,gh⟩:=QD h j h1 (by omega);exact⟨t,c,by omega,e2,b7,gh⟩
theorem Z3{g:Int→Nat}:∀{l:List Int}{s t:Nat},t<l.length→g (l.getD t 0)≤(l.map g).foldl max s:=by have mono:∀(l:List Nat)(s:Nat),s≤l.foldl max s:=by{intro l;induction l with|nil=>(intro s;simp)|cons x l ih=>intro s;simp only[H2];exact Nat.le_trans (Nat.le_max_left ..) (ih _)};intro l;induction l with|nil=>(intro s t h;simp at h)|cons x l ih=>intro s t h;cases t with|zero=>(simp only[List.getD_cons_zero,QR,H2];exact Nat.le_trans (Nat.le_max_right ..) (mono _ _))|succ t=>simp only[List.getD_cons_succ,QR,H2];exact ih (by simpa using h)
theorem T4{N:bw}{k:Nat}(h:fA N k):∀j,j<k→∀i,j+1-M N j≤i→i≤j→D N i≤D N j:=by intro j;induction j using Hn with|ind j ih=>intro hj i h1 h2;by_cases e:i=j;·{rw[e];exact Ha _};·obtain⟨_,_,_,hkc,_,hD,hk⟩:=iB h j hj;obtain⟨t,c,e1,e2,b7,gh⟩:=QD hkc i h1 (by omega);obtain⟨c',q1,cc,cZ⟩:=hk t e1;obtain rfl:c=c':=by{rw[e2]at q1;exact_mod_cast q1};have:=ih c cZ (by omega) i b7 gh;have hm:=Z3 (g:=fun x=>D N x.toNat) (s:=0) e1;rw[e2,GT]at hm;omega
theorem ae6{N:bw}(h:fA N N.length)(h1:1≤N.length)(j8:M N (N.length-1)=N.length):pn N N.length=D N (N.length-1):=by have:∀i,i≤N.length→pn N i≤D N (N.length-1):=by{intro i;induction i with|zero=>(intro _;simp[pn])|succ i ih=>intro hi;have h1:=ih (by omega);have h2:=T4 h (N.length-1) (by omega) i (by omega) (by omega);rw[pn];omega};have h2:=this N.length (Ha _);have h3:D N (N.length-1)≤pn N N.length:=by{rw[show N.length=N.length-1+1 by omega,pn];simp only[Nat.add_sub_cancel];omega};omega
def Whole(N:bw):Prop:=1≤N.length∧N.length≤600∧fA N N.length∧M N (N.length-1)=N.length∧D N (N.length-1)≤40
theorem OS(N:bw):∀n,fA N n∨∃k,k<n∧fA N k∧kY N k≠0|0=> .inl fun j hj=>by{omega}|n+1=>by rcases OS N n with h|⟨k,h1,h2,h3⟩;·{by_cases e:kY N n=0;·{exact .inl fun j hj=>by by_cases ej:j=n;·{rw[ej];exact e};·exact h j (by omega)};·exact .inr ⟨n,by omega,h,e⟩};·exact .inr ⟨k,by omega,h2,h3⟩
end Go.Ab
namespace Go.Ab
open Go Go.Proofs
def fl(N:bw)(i:Nat):List Int:=(List.range N.length).map fun j=>if j<i then((j+1-M N j:Nat):Int)else 0
theorem OY(N:bw)(i:Nat):i≤N.length→GJ N (fl N i) i:=fun hi=>by refine⟨by simp[fl],fun j hj=> ?_⟩;have:j<N.length:=by{omega};simp[fl,this,hj]
theorem ZW{N:bw}{i:Nat}:(fl N i).set i ((i+1-M N i:Nat):Int)=fl N (i+1):=by apply Hk ;intro j;rw[PH];by_cases hj:j<N.length;·{simp only[fl,PP,PQ hj,Pi,Ps,QP];by_cases e:i=j;·{subst e;simp[hj]};·have h2:(j<i+1)=(j<i):=by{rw[eq_iff_iff];omega};simp[e,h2]};·have hl:∀i,(fl N i).length=N.length:=fun i=>by{simp[fl]};have h1:∀i,(fl N i)[j]? =none:=fun i=>H1 (by rw[hl];omega);rw[h1,h1,hl];split;·{rw[if_neg (by omega)]};·rfl
theorem ZV{N:bw}:QQ N.length (0:Int)=fl N 0:=by apply Hk ;intro j;by_cases hj:j<N.length;·{simp[fl,hj]};·simp[fl,hj]
theorem HF{N:bw}{i:Nat}(h:fA N i)(hi:i<N.length)(hN:qR N):qE ⟨N⟩ ⟨⟨N⟩,fl N i⟩ (i:Int)=if kY N i=0 then some (.next (⟨⟨N⟩,fl N (i+1)⟩,((i+1:Nat):Int)))else some (.out (.ret ⟨kY N i,(i:Int)⟩)):=by have IW:N.length≤9223372036854775807:=hN.1;obtain⟨F',h1,h2,h3⟩:=afo h (OY N i (by omega)) hi hN;unfold qE;have he:Ba F' (fl N i)=some ():=by{unfold Ba;rw[if_pos (by rw[h2];simp[fl])]};simp only[kg hi,if_true,h1,Do,he,lu];by_cases e:kY N i=0;·{rw[if_pos e,h3 e,ZW,k8 (by omega)];simp[e]};·rw[if_neg e,if_pos (by simpa using e)]
end Go.Ab
namespace Go.Ab
open Go Go.Proofs
theorem Tb(s:ByteArray):s.size=s.data.toList.length:=by cases s;simp[ByteArray.size]
theorem Xh(s:ByteArray):∀(k i:Nat)(r:List UInt8),s.size-i=k→i≤s.size→H3 s i r=r.reverse++s.data.toList.drop i:=by intro k;induction k with|zero=>(intro i r hk hi;unfold H3;rw[if_neg (by omega),List.drop_eq_nil_of_le (by rw[←Tb];omega)];simp)|succ k ih=>intro i r hk hi;unfold H3;have hlt:i<s.size:=by{omega};have hlt':i<s.data.toList.length:=by{rw[←Tb];exact hlt};rw[if_pos hlt,ih (i+1) _ (by omega) (by omega),List.drop_eq_getElem_cons hlt'];have:s.get! i=s.data.toList[i]:=by{have:s.get! i=s.data[i]! :=by{cases s;rfl};rw[this];have h2:i<s.data.size:=hlt;simp only[Array.getElem_toList];exact getElem!_pos s.data i h2};simp[this]
theorem Nw(s:ByteArray):s.toList=s.data.toList:=by unfold ByteArray.toList;rw[Xh s _ 0 [] rfl (Nat.zero_le _)];simp
theorem aiW(a b:ByteArray):(a.toList==b.toList)=iM a b:=by rw[Hb,HV,Nw,Nw];constructor;·{intro h;have h:=eq_of_beq h;cases a;cases b;simp only[ByteArray.mk.injEq];exact Array.ext' h};·intro h;subst h;simp
theorem OF(a:ByteArray):iM a a=true:=HV.2 rfl
theorem HW{a b:ByteArray}(h:a≠b):iM a b=false:=by cases e:iM a b with|true=>(exact absurd (HV.1 e) h)|false=>rfl
theorem HU(a b:ByteArray):iM a b=decide (a=b):=by by_cases h:a=b;·{subst h;simp[OF]};·simp[h,HW h]
theorem Ra{V:Type}:∀(l:List (ByteArray×V))(k s:ByteArray)(v:V),ig iM (rI iM l k v) s=if s=k then some v else ig iM l s|[],k,s,v=>by{simp only[rI,ig,HU];by_cases h:s=k<;>simp[h]}|e::l,k,s,v=>by by_cases h:k=e.1;·{subst h;simp only[rI,OF,if_true,ig,HU];by_cases h2:s=e.1<;>simp[h2]};·simp only[rI,HW h,GE,if_false,ig,HU,Ra l k s v];by_cases h2:s=e.1;·{subst h2;simp only[decide_true,if_true];rw[if_neg (fun e=>h (Eq.symm e))]};·simp[h2]
def lk(N:bw)(j:Int)(s:ByteArray):List (Int×Int)→Option Int|[]=>none|p::l=>if p.2=j∧(nd N p.1.toNat).Text=s then some p.1 else lk N j s l
theorem Kk{N:bw}{j:Int}{s:ByteArray}:∀(l l':List (Int×Int)),lk N j s (l++l')=match lk N j s l with|some h=>some h|none=>lk N j s l'
 |[],l'=>rfl
 |p::l,l'=>by
  simp only[List.cons_append,lk]
  split
  ·rfl
  ·exact Kk l l'
theorem s5{N:bw}{j:Int}{s:ByteArray}:∀{l:List (Int×Int)}{h:Int},lk N j s l=some h→(h,j)∈l∧(nd N h.toNat).Text=s|p::l,h,e=>by unfold lk at e;split at e;·{rename_i hc;simp only[Hd]at e;subst e;exact⟨by rw[←hc.1];exact RK ..,hc.2⟩};·obtain⟨h1,h2⟩:=s5 e;exact⟨R0 _ h1,h2⟩
theorem Kl{N:bw}{j:Int}{s:ByteArray}:∀{l:List (Int×Int)},lk N j s l=none↔∀p∈l,¬(p.2=j∧(nd N p.1.toNat).Text=s)|[]=>by{simp[lk]}|p::l=>by unfold lk;split;·{rename_i hc;constructor;·{intro h;cases h};·intro h;exact absurd hc (h p (RK ..))};·rename_i hc;rw[Kl];constructor;·{intro h q hq;rcases List.mem_cons.1 hq with rfl|hq;·{exact hc};·exact h q hq};·intro h q hq;exact h q (R0 _ hq)
def yf(N:bw)(l:List (Int×Int)):Prop:=l.Pairwise fun p q=>¬(p.2=q.2∧(nd N p.1.toNat).Text=(nd N q.1.toNat).Text)
theorem yf.snoc{N:bw}{l:List (Int×Int)}{p:Int×Int}(h:yf N l)(hp:lk N p.2 (nd N p.1.toNat).Text l=none):yf N (l++[p]):=by unfold yf;rw[List.pairwise_append];refine⟨h,List.pairwise_singleton ..,fun q hq r hr=> ?_⟩;simp only[List.mem_singleton]at hr;subst hr;intro⟨h1,h2⟩;exact Kl.1 hp q hq ⟨h1,h2⟩
/-! ### Where kids stand -/
def cM(N:bw)(k:Nat):Nat:=k+1-M N k
theorem QJ{N:bw}{n:aN}:∀{i a b:Nat},gF N n i a=some b→(∀j,j<a→1≤M N j∧M N j≤j+1)→i≤n.Kids.length→∃P:Nat→Nat,P i=a∧P 0=b∧∀t,t<i→n.Kids.getD t 0=((P (t+1)-1:Nat):Int)∧P t<P (t+1)∧P (t+1)≤a∧P t=cM N (P (t+1)-1)∧kP n.Kind t n.Kids.length (nd N (P (t+1)-1)).Kind=true|0,a,b,h,_,_=>by{simp only[gF,Hd]at h;subst h;exact⟨fun _=>a,rfl,rfl,fun t ht=>by omega⟩}|i+1,a,b,h,j8,hi=>by unfold gF at h;split at h;·{cases h};·rename_i hc;simp only[not_or,Decidable.not_not,Bool.not_eq_false]at hc;obtain⟨h0,h1,h2⟩:=hc;obtain⟨m1,m2⟩:=j8 (a-1) (by omega);obtain⟨P,p1,p2,p3⟩:=QJ h (fun j hj=>j8 j (by omega)) (by omega);obtain⟨Q,hQ⟩:∃Q:Nat→Nat,∀t,Q t=if t=i+1 then a else P t:=⟨_,fun _=>rfl⟩;refine⟨Q,by rw[hQ,if_pos rfl],by rw[hQ,if_neg (by omega)];exact p2,fun t ht=> ?_⟩;by_cases e:t=i;·{subst e;rw[hQ t,hQ (t+1),if_pos rfl,if_neg (show¬t=t+1 by omega),p1];refine⟨by rw[h1];omega,by omega,Ha _,by unfold cM;omega,h2⟩};·rw[hQ t,hQ (t+1),if_neg (show¬t+1=i+1 by omega),if_neg (show¬t=i+1 by omega)];obtain⟨q1,cc,cZ,eN,iF⟩:=p3 t (by omega);exact⟨q1,cc,by omega,eN,iF⟩
theorem sH{N:bw}{k:Nat}(h:fA N k){j:Nat}(hj:j<k):∃P:Nat→Nat,P (nd N j).Kids.length=j∧P 0=cM N j∧∀t,t<(nd N j).Kids.length→(nd N j).Kids.getD t 0=((P (t+1)-1:Nat):Int)∧P t<P (t+1)∧P (t+1)≤j∧P t=cM N (P (t+1)-1)∧kP (nd N j).Kind t (nd N j).Kids.length (nd N (P (t+1)-1)).Kind=true:=by obtain⟨_,h1,h2,h3,_⟩:=iB h j hj;exact QJ h3 (fun i hi=>⟨(iB h i (by omega)).2.1,(iB h i (by omega)).2.2.1⟩) (Ha _)
end Go.Ab
namespace Go.Ab
open Go Go.Proofs
theorem NZ{N:bw}(hN:qR N):∃r,xK ⟨N⟩=some r∧(r.Code=0↔Whole N)∧(r.Code=0→r=⟨0,0⟩):=by have IW:N.length≤9223372036854775807:=hN.1;unfold xK;simp only[cin,Do,lu];by_cases h6:fh (N.length:Int) 1 600=true;·{have uc:1≤N.length∧N.length≤600:=by{simp only[fh,Bool.and_eq_true,decide_eq_true_eq]at h6;omega};have hm:nA (N.length:Int) (0:Int)=some (fl N 0):=by{unfold nA;rw[if_pos (by omega),Int.toNat_natCast,ZV]};simp only[h6,Bool.not_true,Bool.false_eq_true,if_false,hm,Option.bind_some];have hw:aS ((N.length:Int)-1)=((N.length-1:Nat):Int):=by{rw[fG (by omega) (by omega)];omega};rcases OS N N.length with en|⟨k,hk,en,EZ⟩;·{have c1:=tJ (step:=fun s=>qE ⟨N⟩ s.1 s.2) (eZ:=(⟨⟨N⟩,fl N 0⟩,0)) (fun i=>(⟨⟨N⟩,fl N i⟩,(i:Int))) N.length (.dy ⟨⟨N⟩,fl N N.length⟩) rfl (fun i hi=>by show qE ⟨N⟩ ⟨⟨N⟩,fl N i⟩ (i:Int)=_;rw[HF (en.le (by omega)) hi hN,if_pos (en i hi)]) (by unfold qE;simp only[nx,Bool.false_eq_true,if_false]);have acN:idx (fl N N.length) ((N.length-1:Nat):Int)=some ((N.length-M N (N.length-1):Nat):Int):=by{unfold idx;rw[if_pos (by omega),Int.toNat_natCast,(OY N N.length (Nat.le_refl _)).2 _ (by omega)];congr 3;omega};obtain⟨_,m1,m2,_⟩:=iB en (N.length-1) (by omega);simp only[c1,Option.bind_some,Po,hw,acN];by_cases j8:M N (N.length-1)=N.length;·{have e1:(((N.length-M N (N.length-1):Nat):Int) !=0)=false:=by{simp;omega};simp only[e1,Bool.false_eq_true,if_false,Zc en uc.2,Option.bind_some,ae6 en uc.1 j8];by_cases hD:D N (N.length-1)≤40;·{refine⟨⟨0,0⟩,by rw[if_neg (by simp;omega)],⟨fun _=>⟨uc.1,uc.2,en,j8,hD⟩,fun _=>rfl⟩,fun _=>rfl⟩};·refine⟨⟨10,0⟩,by rw[if_pos (by simp;omega)],⟨fun h=>by simp at h,fun h=>absurd h.2.2.2.2 hD⟩,fun h=>by simp at h⟩};·have e1:(((N.length-M N (N.length-1):Nat):Int) !=0)=true:=by{simp;omega};simp only[e1,if_true];refine⟨⟨5,((N.length-1:Nat):Int)⟩,rfl,⟨fun h=>by simp at h,fun h=>absurd h.2.2.2.1 j8⟩,fun h=>by simp at h⟩};·have c1:=tJ (step:=fun s=>qE ⟨N⟩ s.1 s.2) (eZ:=(⟨⟨N⟩,fl N 0⟩,0)) (fun i=>(⟨⟨N⟩,fl N i⟩,(i:Int))) k (.ret ⟨kY N k,(k:Int)⟩) rfl (fun i hi=>by show qE ⟨N⟩ ⟨⟨N⟩,fl N i⟩ (i:Int)=_;rw[HF (en.le (by omega)) (by omega) hN,if_pos (en i hi)]) (by show qE ⟨N⟩ ⟨⟨N⟩,fl N k⟩ (k:Int)=_;rw[HF en hk hN,if_neg EZ]);refine⟨⟨kY N k,(k:Int)⟩,by rw[c1];rfl,⟨fun h=>absurd h EZ,fun h=>absurd (h.2.2.1 k hk) EZ⟩,fun h=>absurd h EZ⟩};·have uc:fh (N.length:Int) 1 600=false:=by{simpa using h6};refine⟨⟨2,0⟩,by simp[uc],⟨fun h=>by simp at h,fun h=> ?_⟩,fun h=>by simp at h⟩;exact absurd (by simp only[fh,H4,decide_eq_true_eq];exact⟨by have:=h.1;omega,by have:=h.2.1;omega⟩) h6
end Go.Ab
