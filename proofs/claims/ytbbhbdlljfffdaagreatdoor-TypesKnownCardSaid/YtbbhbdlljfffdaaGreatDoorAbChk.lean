import Derived.Test.YtbbhbdlljfffdaaGreatDoorAbGens
open Bool renaming false_eq_true→GE,eq_iff_iff→Hb,not_true→Hc,false_and→Hm,and_eq_true→H4,and_false→H5,and_true→IH
open ByteArray renaming mk→AC
open ByteArray.toList renaming loop→H3
open Int renaming toNat_natCast→GT
open List renaming ext_getElem?→Hk,take_length→H0,getElem?_eq_none→H1,foldl_cons→H2,take_add_one→If,getElem?_eq_getElem→Ix,map_append→Kd,map_congr_left→Lk,getElem?_set→PH,getElem?_map→PP,getElem?_range→PQ,length_map→Ps,length_range→QP,replicate→QQ,map_cons→QR,mem_cons_self→RK,mem_cons_of_mem→R0
open Nat renaming le_refl→Ha,strongRecOn→Hn
open Option renaming bind_some→Do,map_some→Pi
open Option.some renaming injEq→Hd
set_option linter.all false
namespace Go.Ab
open Go
theorem gh{n:Int}(h1:-9223372036854775808≤n)(h2:n<9223372036854775808):aU n=n:=by simp only[aU,IntKind.wrap,IntKind.bits,IntKind.signed];simp;split<;>omega
theorem lE{i:Nat}(h:i<9223372036854775807):aU ((i:Int)+1)=((i+1:Nat):Int):=by rw[gh (by omega) (by omega)];rfl
theorem mV{α:Type}{l:List α}{i:Nat}(h:i<l.length):idx l (i:Int)=some l[i]:=by unfold idx;rw[if_pos (by omega)];simp[h]
def run{σ bW α:Type}(f:Nat→σ→α→bW⊕σ)(e:σ→bW):Nat→σ→List α→bW|_,s,[]=>e s|i,s,x::l=>match f i s x with| .inl o=>o| .inr s'=>run f e (i+1) s' l
theorem T3{σ bW α S:Type}{l:List α}(pack:σ→Int→S)(f:Nat→σ→α→bW⊕σ)(e:σ→bW)(Inv:Nat→σ→Prop){step:S→Option (cG S bW)}(hs:∀i s(h:i<l.length),Inv i s→match f i s l[i]with| .inl o=>step (pack s (i:Int))=some (.out o)| .inr s'=>step (pack s (i:Int))=some (.next (pack s' ((i+1:Nat):Int)))∧Inv (i+1) s')(he:∀s,Inv l.length s→step (pack s (l.length:Int))=some (.out (e s))){e3:σ}(h0:Inv 0 e3):Loop step (pack e3 0)=some (run f e 0 e3 l):=by have key:∀k i s,l.length-i=k→i≤l.length→Inv i s→Loop step (pack s (i:Int))=some (run f e i s (l.drop i)):=by{intro k;induction k with|zero=>(intro i s hk hi hI;obtain rfl:i=l.length:=by{omega};rw[j5,he s hI,List.drop_length];rfl)|succ k ih=>intro i s hk hi hI;have hlt:i<l.length:=by{omega};have h1:=hs i s hlt hI;rw[j5,List.drop_eq_getElem_cons hlt];unfold run;split at h1;·{rw[h1];rfl};·rename_i s' ho;rw[h1.1];exact ih (i+1) s' (by omega) (by omega) h1.2};exact key _ 0 e3 rfl (by omega) h0
def nF{α ρ:Type}(g:Nat→α→Option ρ):Nat→List α→Option ρ|_,[]=>none|i,x::l=>match g i x with|some r=>some r|none=>nF g (i+1) l
def x7{ρ:Type}:Option ρ→cP Unit ρ|some r=> .ret r|none=> .dS ()
theorem GH{α ρ:Type}{l:List α}(g:Nat→α→Option ρ){step:Int→Option (cG Int (cP Unit ρ))}(hs:∀i(h:i<l.length),step (i:Int)=some (match g i l[i]with|some r=> .out (.ret r)|none=> .next ((i+1:Nat):Int)))(he:step (l.length:Int)=some (.out (.dS ()))):Loop (fun s=>step s) 0=some (x7 (nF g 0 l)):=by have:=T3 (l:=l) (σ:=Unit) (bW:=cP Unit ρ) (fun _ i=>i) (fun i _ x=>match g i x with|some r=> .inl (.ret r)|none=> .inr ()) (fun _=> .dS ()) (fun _ _=>True) (step:=step) (fun i s h _=>by have:=hs i h;cases hg:g i l[i]with|some r=>(simp only[hg]at this⊢;exact this)|none=>simp only[hg]at this⊢;exact⟨this,trivial⟩) (fun s _=>he) (e3:=()) trivial;rw[this];congr 1;generalize 0=i;clear this hs he;induction l generalizing i with|nil=>(rfl)|cons x l ih=>simp only[run,nF];cases g i x with|some r=>(rfl)|none=>exact ih (i+1)
end Go.Ab
namespace Go.Ab
open Go Go.Proofs
@[simp]theorem Pn{bW ρ β:Type}(f:bW→Option β)(g:ρ→Option β)(x:bW):cP.go f g (.dS x)=f x:=rfl
@[simp]theorem go_ret{bW ρ β:Type}(f:bW→Option β)(g:ρ→Option β)(x:ρ):cP.go f g (.ret x)=g x:=rfl
abbrev D8:Nat:=9223372036854775807
def eY(a lo hi:Int):Bool:=decide (lo≤a)&&decide (a≤hi)
theorem q4(a b:Bool):(if a then b else false)=(a&&b):=by cases a<;>rfl
theorem oO(a b:Bool):(if a then true else b)=(a||b):=by cases a<;>rfl
@[simp]theorem ahT(a b c:Int):C2 a b c=some (eY a b c):=by simp only[C2,eY,q4]
@[simp]theorem cin(a b c:Int):qL a b c=some (eY a b c):=by simp only[qL,eY,q4]
@[simp]theorem oy(a b:Int):gL a b=some ⟨a,b⟩:=rfl
theorem zl:maxLen=9223372036854775807:=rfl
theorem kJ{i:Nat}{n:Nat}(h:i<n):decide ((i:Int)<(n:Int))=true:=by simp[h]
theorem mZ{n:Nat}:decide ((n:Int)<(n:Int))=false:=by simp
theorem Hf{α:Type}{a b:List α}(h:a.length+b.length≤4294967296):app a b=some (a++b):=if_pos h
theorem Xo(a b:Bool):(if a=true then some true else some b)=some (a||b):=by cases a<;>rfl
theorem TZ{σ bW S:Type}(pack:σ→Int→S)(f:Nat→σ→bW){step:S→Option (cG S bW)}(N:Nat)(Inv:Nat→σ→Prop)(hs:∀k s,k<N→Inv (k+1) s→step (pack s (k:Int))=some (.out (f (k+1) s))∨∃s',step (pack s (k:Int))=some (.next (pack s' ((k:Int)-1)))∧f (k+1) s=f k s'∧Inv k s')(he:∀s,Inv 0 s→step (pack s (-1))=some (.out (f 0 s))):∀k s,k≤N→Inv k s→Loop step (pack s ((k:Int)-1))=some (f k s):=by intro k;induction k with|zero=>(intro s _ hI;rw[j5];simp only[Int.natCast_zero,Int.zero_sub];rw[he s hI];rfl)|succ k ih=>intro s hk hI;rw[j5,show((k+1:Nat):Int)-1=(k:Int)by omega];rcases hs k s (by omega) hI with h|⟨s',h1,h2,h3⟩;·{rw[h];rfl};·rw[h1,h2];exact ih s' (by omega) h3
/-! ### Names -/
def nT(c:Int):Bool:=eY c 97 122||eY c 65 90||c==95
def oC(c:Int):Bool:=eY c 48 57
def tv(c:UInt8):Bool:=nT c.toNat||oC c.toNat
def Cy(s:ByteArray):Bool:=eY s.size 1 12&&(match s.data.toList with|[]=>false|c::_=> !oC c.toNat)&&s.data.toList.all tv
theorem ais{s:ByteArray}{i:Nat}(h:i<s.data.toList.length):dY s (i:Int)=some s.data.toList[i]:=by unfold dY;rw[if_pos (by omega)];simp only[GT];have h':i<s.size:=by{simpa using h};rw[getElem?_pos s i h'];rfl
theorem S2(s:ByteArray):s.size=s.data.toList.length:=by simp
theorem YJ(s:ByteArray)(h12:s.size≤12):Loop (fun i=>ye s i) 0=some (x7 (nF (fun i c=>if nT c.toNat||(decide (0<i)&&oC c.toNat)then none else some false) 0 s.data.toList)):=by refine GH (l:=s.data.toList) _ (fun i h=> ?_) ?_;·{have hlt:i<s.size:=by{rw[S2];exact h};unfold ye;simp only[ais h,Option.bind_some,lE (i:=i) (by omega),q4,oO];rw[if_pos (by simp;omega)];have e:(decide (97≤(s.data.toList[i].toNat:Int))&&decide ((s.data.toList[i].toNat:Int)≤122)||decide (65≤(s.data.toList[i].toNat:Int))&&decide ((s.data.toList[i].toNat:Int)≤90)||(s.data.toList[i].toNat:Int)==95||decide (0<(i:Int))&&decide (48≤(s.data.toList[i].toNat:Int))&&decide ((s.data.toList[i].toNat:Int)≤57))=(nT s.data.toList[i].toNat||(decide (0<i)&&oC s.data.toList[i].toNat)):=by{simp only[nT,oC,eY,Bool.and_assoc];congr 2;simp};rw[e];cases nT s.data.toList[i].toNat||(decide (0<i)&&oC s.data.toList[i].toNat)<;>rfl};·unfold ye;rw[if_neg (by simp)]
theorem YI(s:ByteArray):yd s=some (Cy s):=by unfold yd Cy;simp only[oO];by_cases hs:eY s.size 1 12=true;·{have hb:1≤s.size∧s.size≤12:=by{simp only[eY,Bool.and_eq_true,decide_eq_true_eq]at hs;omega};have hc0:(decide ((s.size:Int)<1)||decide (12<(s.size:Int)))=false:=by{simp;omega};simp only[hs,hc0,YJ s hb.2];cases hc:s.data.toList with|nil=>(rw[S2,hc]at hb;simp at hb)|cons c l=>have key:∀(l:List UInt8)(i:Nat),0<i→nF (fun i(c:UInt8)=>if nT c.toNat||(decide (0<i)&&oC c.toNat)then none else some false) i l=if l.all tv then none else some false:=by{intro l;induction l with|nil=>(intro i _;rfl)|cons x l ih=>intro i hi;have e:(nT x.toNat||(decide (0<i)&&oC x.toNat))=tv x:=by{simp[tv,hi]};rw[nF,ih (i+1) (by omega),List.all_cons,e];by_cases hx:tv x=true<;>simp[hx]};have acD:nT c.toNat=true→oC c.toNat=false:=by{simp only[nT,oC,eY];simp;omega};have e0:(nT c.toNat||(decide (0<0)&&oC c.toNat))=nT c.toNat:=by{simp};rw[nF,key l 1 (by omega),e0,List.all_cons];by_cases h1:nT c.toNat=true;·{by_cases hl:l.all tv=true<;>simp[h1,acD h1,hl,x7,tv]<;>simpa using hl};·have h1':nT c.toNat=false:=by{simpa using h1};cases h2:oC c.toNat<;>simp[h1',h2,x7,tv]};·have:(decide ((s.size:Int)<1)||decide (12<(s.size:Int)))=true:=by{simp only[eY,H4,decide_eq_true_eq]at hs;simp;omega};simp[hs,this]
end Go.Ab
namespace Go.Ab
open Go Go.Proofs
def jS(k:Int):Bool:=eY k 31 40
def zY(k:Int):Bool:=eY k 11 18||eY k 21 24
def wP(k:Int):Bool:=eY k 1 4||eY k 11 24||jS k
def ur(k:Int):Bool:=k==2||k==3||k==4||k==12||k==32||k==33
@[simp]theorem rexpr(k:Int):zK k=some (jS k):=by simp only[zK,ahT,Do,jS]
@[simp]theorem G8(k:Int):pE k=some (jS k):=by simp only[pE,jS,eY,q4]
@[simp]theorem Xb(k:Int):vq k=some (zY k):=by simp only[vq,zY,eY,q4,oO]
@[simp]theorem aiM(k:Int):Dm k=some (wP k):=by simp only[Dm,G8,Do,q4,oO,Xo,wP,eY]
@[simp]theorem aiO(k:Int):z8 k=some (ur k):=by simp only[z8,oO,ur]
def gG(k:Int):Int×Int:=if k==1||k==11||k==33 then(0,1099511627776)else if k==3||k==18 then(1,1099511627776)else if k==2 then(0,200)else if k==12||k==23 then(0,1)else if k==13||k==19||k==35||k==40 then(1,1)else if k==14 then(2,3)else if k==15||k==16||k==34||k==36||k==37||k==39 then(2,2)else if k==38 then(3,3)else if k==17 then(4,4)else(0,0)
theorem aed{P:Int→Prop}{k:Int}(h:∀n:_root_.Fin 41,P ((n:Nat):Int))(h2:k<0∨40<k→P k):P k:=by by_cases hk:0≤k∧k≤40;·{have:=h ⟨k.toNat,by omega⟩;simpa[Int.toNat_of_nonneg hk.1]using this};·exact h2 (by omega)
theorem aiU(k:Int):Ac k=some ((gG k).1,if(gG k).2=1099511627776 then-1 else(gG k).2):=by refine aed (P:=fun k=>Ac k=some ((gG k).1,if(gG k).2=1099511627776 then-1 else(gG k).2)) (by decide+kernel) fun h=> ?_;have hn:∀c:Int,0≤c→c≤40→(k==c)=false:=fun c h1 h2=>by{simp;omega};simp[Ac,xq,Ad,Ae,uN,rD,gG,hn]
theorem ad8(k:Int):(gG k).2=1099511627776∨(0≤(gG k).2∧(gG k).2≤200):=by
 unfold gG
 repeat' split
 all_goals simp
def kW(k m:Int):Bool:=decide ((gG k).1≤m)&&((gG k).2==1099511627776||decide (m≤(gG k).2))
theorem ad9{k m:Int}:(if(decide (m<(gG k).1))then true else(if(decide (0≤(if(gG k).2=1099511627776 then-1 else(gG k).2)))then(decide ((if(gG k).2=1099511627776 then-1 else(gG k).2)<m))else false))= !kW k m:=by simp only[oO,q4,kW];rcases ad8 k with h|h;·{rw[h,Hb];simp};·rw[if_neg (by omega)];have:((gG k).2==1099511627776)=false:=by{simp;omega};rw[this,Hb];simp;omega
def nI(k i m c:Int):Bool:=if k==1 then c==2||c==3 else if k==3 then(if i==aU (m-1)then c==11 else c==4)else if k==11 then zY c else if k==18&&decide (0<i)then zY c||c==19||c==20 else if(((k==14||k==15)&&decide (0<i))||(k==16&&i==0))||(k==17&&i==3)then c==11 else if k==17&&i==0 then c==12||c==13||c==24 else if k==17&&i==1 then jS c||c==24 else if k==17&&i==2 then c==13||c==24 else jS c
theorem aiL(n:aQ)(i c:Int)(hi:0≤i)(hl:i<n.Kids.length)(hs:kW n.Kind n.Kids.length=true):Dl n i c=some (nI n.Kind i n.Kids.length c):=by unfold Dl z7 nI;simp only[Xb,G8,Do,oO,q4];generalize n.Kids.length=m at*;generalize n.Kind=k at*;by_cases h1:k=1;·{subst h1;rfl};by_cases h3:k=3;·{subst h3;by_cases hx:i=aU ((m:Int)-1);·{simp[←hx]};·have hb:(i==aU ((m:Int)-1))=false:=beq_eq_false_iff_ne.2 hx;simp[hb]};by_cases h11:k=11;·{subst h11;rfl};have b1:(k==1)=false:=by{simpa using h1};have b3:(k==3)=false:=by{simpa using h3};have Ho:(k==11)=false:=by{simpa using h11};simp only[b1,b3,Ho,GE,if_false];by_cases iH:k=18;·{subst iH;by_cases h0:i=0;·{subst h0;simp;cases jS c<;>rfl};·have:0<i:=by{omega};simp[h0,this]};have Xf:(k==18)=false:=by{simpa using iH};simp only[Xf,GE,if_false,Hm];by_cases gE:k=14;·{subst gE;by_cases h0:i=0;·{subst h0;simp};·have:0<i:=by{omega};simp[h0,this]};by_cases jd:k=15;·{subst jd;by_cases h0:i=0;·{subst h0;simp};·have:0<i:=by{omega};simp[h0,this]};have Hq:(k==14)=false:=by{simpa using gE};have Hr:(k==15)=false:=by{simpa using jd};simp only[Hq,Hr,GE,if_false,Hm,Bool.false_or];by_cases jv:k=16;·{subst jv;have hm:(m:Int)=2:=by{have:gG 16=(2,2):=by{decide+kernel};simp[kW,this]at hs;omega};have:i=0∨i=1:=by{omega};rcases this with rfl|rfl<;>simp};by_cases ig:k=17;·{subst ig;have hm:(m:Int)=4:=by{have:gG 17=(4,4):=by{decide+kernel};simp[kW,this]at hs;omega};have:i=0∨i=1∨i=2∨i=3:=by{omega};rcases this with rfl|rfl|rfl|rfl<;>simp};have Hs:(k==16)=false:=by{simpa using jv};have Xe:(k==17)=false:=by{simpa using ig};simp[Hs,Xe]
/-! ### Numbers -/
def rj(n:aQ):Bool:=if n.Kind==2&&n.N==3 then eY n.gj 1 200&&decide ((n.Kids.length:Int)≤n.gj)else if n.gj !=0 then false else if n.Kind==2 then eY n.N 1 2&&decide ((n.Kids.length:Int)<2)else if n.Kind==3 then eY n.N 0 2 else if n.Kind==4||n.Kind==12 then eY n.N 1 2 else if n.Kind==31 then decide (0≤n.N)else if n.Kind==40 then eY n.N 0 1 else n.N==0
@[simp]theorem aiP(n:aQ):Dn n=some (rj n):=by
 unfold Dn Aa rj
 simp only[cin,Do,oO,q4]
 generalize n.Kids.length=m
 generalize n.Kind=k
 generalize n.N=x
 generalize n.gj=z
 by_cases h2:k=2
 ·subst h2
  by_cases hx:x=3
  ·subst hx;simp
  ·have :(x==3)=false:=by simpa using hx
   simp only[this,H5,GE,if_false,beq_self_eq_true,if_true]
   by_cases hz:z=0
   ·subst hz
    simp only[beq_self_eq_true,bne,Hc,GE,if_false,IH,eY]
    congr 1
    rw[Hb];simp;omega
   ·have wF:(z==0)=false:=by simpa using hz
    simp[wF,bne]
 have b2:(k==2)=false:=by simpa using h2
 simp only[b2,GE,if_false,Hm]
 by_cases hz:z=0
 ·subst hz
  simp only[bne,beq_self_eq_true,Hc,IH,GE,if_false]
  by_cases h4:k=4
  ·subst h4;rfl
  have b4:(k==4)=false:=by simpa using h4
  by_cases h12:k=12
  ·subst h12;rfl
  have Hp:(k==12)=false:=by simpa using h12
  simp only[b4,Hp,GE,if_false,Bool.or_self]
  repeat' split
  all_goals rfl
 ·have wF:(z==0)=false:=by simpa using hz
  simp only[wF,bne,Bool.not_false,if_true,H5]
  repeat' split
  all_goals rfl
end Go.Ab
namespace Go.Ab
open Go Go.Proofs
def hY(l:List ByteArray)(s:ByteArray):Bool:=l.any fun x=>x.toList==s.toList
theorem ait(l:List ByteArray)(s:ByteArray)(hl:l.length≤maxLen):∃n:Int,Dh l s=some n∧decide (0≤n)=hY l s:=by have hm:=zl;have h:Loop (fun i=>zV l s i) 0=some (x7 (nF (fun i(x:ByteArray)=>if s.toList==x.toList then some (i:Int)else none) 0 l)):=by{refine GH (l:=l) (fun i x=>if s.toList==x.toList then some (i:Int)else none) (fun i h=> ?_) ?_;·{unfold zV;simp only[kJ h,if_true,mV h,Do,lE (i:=i) (by omega)];cases s.toList==l[i].toList<;>rfl};·unfold zV;simp only[mZ];rfl};have h2:∀(l:List ByteArray)(i:Nat),match nF (fun i(x:ByteArray)=>if s.toList==x.toList then some (i:Int)else none) i l with|some n=>0≤n∧hY l s=true|none=>hY l s=false:=by{intro l;induction l with|nil=>(intro i;rfl)|cons x l ih=>intro i;simp only[nF];by_cases hx:(s.toList==x.toList)=true;·{have:s.toList=x.toList:=by{simpa using hx};simp[this,hY]};·have hx':(s.toList==x.toList)=false:=by{simpa using hx};have hx2:(x.toList==s.toList)=false:=by{rw[BEq.comm];exact hx'};simp only[hx',Bool.false_eq_true,if_false];have:=ih (i+1);simp only[hY,List.any_cons,hx2,Bool.false_or];exact this};unfold Dh;rw[h];have:=h2 l 0;generalize nF (fun i(x:ByteArray)=>if s.toList==x.toList then some (i:Int)else none) 0 l=o at this;cases o with|some n=>(exact⟨n,rfl,by rw[this.2];simpa using this.1⟩)|none=>exact⟨-1,rfl,by simp only at this;rw[this];rfl⟩
theorem aij(l:List ByteArray)(s:ByteArray)(hl:l.length≤maxLen):Df l s=some (hY l s):=by obtain⟨n,h1,h2⟩:=ait l s hl;unfold Df;rw[h1,Do,h2]
abbrev xu:List ByteArray:=[(AC #[43]),(AC #[45]),(AC #[42]),(AC #[47]),(AC #[37]),(AC #[38]),(AC #[124]),(AC #[94]),(AC #[60,60]),(AC #[62,62])]
abbrev AO:List ByteArray:=[(AC #[61,61]),(AC #[33,61]),(AC #[60]),(AC #[60,61]),(AC #[62]),(AC #[62,61])]
abbrev FR:List ByteArray:=[(AC #[45]),(AC #[33]),(AC #[126]),(AC #[42]),(AC #[38])]
theorem Mg(s:ByteArray):∃t,tn s=some (t,hY xu s||hY AO s)∧((hY xu s||hY AO s)&&decide (t.Op≤11))=hY xu s:=by have hc:∀x:ByteArray,(x.toList==s.toList)=(s.toList==x.toList):=fun x=>BEq.comm;unfold tn hY;simp only[List.any_cons,List.any_nil,Bool.or_false,hc];generalize(s.toList==(AC #[43]).toList)=b1;generalize(s.toList==(AC #[45]).toList)=b2;generalize(s.toList==(AC #[42]).toList)=b3;generalize(s.toList==(AC #[47]).toList)=b4;generalize(s.toList==(AC #[37]).toList)=pF;generalize(s.toList==(AC #[38]).toList)=AJ;generalize(s.toList==(AC #[124]).toList)=AK;generalize(s.toList==(AC #[94]).toList)=Xg;generalize(s.toList==(AC #[60,60]).toList)=Xh;generalize(s.toList==(AC #[62,62]).toList)=Xc;generalize(s.toList==(AC #[61,61]).toList)=Ho;generalize(s.toList==(AC #[33,61]).toList)=Hp;generalize(s.toList==(AC #[60]).toList)=Xd;generalize(s.toList==(AC #[60,61]).toList)=Hq;generalize(s.toList==(AC #[62]).toList)=Hr;generalize(s.toList==(AC #[62,61]).toList)=Hs;cases b1;cases b2;cases b3;cases b4;cases pF;cases AJ;cases AK;cases Xg;cases Xh;cases Xc;cases Ho;cases Hp;cases Xd;cases Hq;cases Hr;cases Hs;all_goals exact⟨_,rfl,rfl⟩
theorem S7{s:ByteArray}{n:Nat}(h:n≤s.size):iS s none (some (n:Int))=some (s.extract 0 n):=by unfold iS bounds;simp[h]
theorem ae4{s:ByteArray}(h:s.toList=[]):hY xu s=false∧hY AO s=false:=by unfold hY;rw[h];exact⟨by decide+kernel,by decide+kernel⟩
theorem ZC(s:ByteArray):(s.extract 0 0).toList=[]:=by have:s.extract 0 0=ByteArray.empty:=by{apply ByteArray.ext;simp};rw[this];decide+kernel
def zT(k:Int)(s:ByteArray):Bool:=if k==35 then hY FR s else if k==36 then hY xu s||hY AO s else if k==37 then(s.toList==(AC #[38,38]).toList||s.toList==(AC #[124,124]).toList)else if k==39 then(s.toList==(AC #[61]).toList||(decide (1<s.size)&&(match s[s.size-1]? with|some c=>c.toNat==61|none=>false)&&hY xu (s.extract 0 (s.size-1))))else if k==40 then(s.toList==(AC #[43,43]).toList||s.toList==(AC #[45,45]).toList)else s.toList==(AC #[]).toList
theorem air{s:ByteArray}(h:0<s.size)(hl:s.size≤maxLen):∃c,dY s (aU ((s.size:Int)-1))=some c∧s[s.size-1]? =some c:=by have hm:=zl;rw[gh (by omega) (by omega)];unfold dY;rw[if_pos (by omega),show((s.size:Int)-1).toNat=s.size-1 by omega];rw[getElem?_pos s (s.size-1) (by omega)];exact⟨_,rfl,rfl⟩
theorem aiV(k:Int)(s:ByteArray)(hl:s.size≤maxLen):Dp k s=some (zT k s):=by have hm:=zl;obtain⟨t,ht,_⟩:=Mg s;unfold Dp zT;rw[ht,aij FR s (by decide)];simp only[Do,oO];split;·{rfl};·split;·{rfl};·split;·{rfl};·split;·{by_cases h1:(s.toList==(AC #[61]).toList)=true;·{simp only[h1,if_true,Bool.true_or,Do]};·have h1':(s.toList==(AC #[61]).toList)=false:=by{simpa using h1};simp only[h1',Bool.false_eq_true,if_false,Bool.false_or];have e:max 0 (aU ((s.size:Int)-1))=((s.size-1:Nat):Int):=by{rw[gh (by omega) (by omega)];omega};rw[e,S7 (by omega),Option.bind_some];obtain⟨t2,BX,BO⟩:=Mg (s.extract 0 (s.size-1));rw[BX,Option.bind_some];by_cases h2:1<s.size;·{obtain⟨c,hc,kj⟩:=air (s:=s) (by omega) hl;rw[hc,kj,Option.bind_some];simp only;have hT:((c.toNat:Int)==61)=(c.toNat==61):=by{rw[Bool.eq_iff_iff];simp;omega};rw[hT,decide_eq_true h2];generalize(c.toNat==61)=T;generalize hY xu (s.extract 0 (s.size-1))=A at*;generalize hY AO (s.extract 0 (s.size-1))=B at*;generalize decide (t2.Op≤11)=D at*;revert BO;cases A<;>cases B<;>cases D<;>cases T<;>decide};·have h0:s.size-1=0:=by{omega};obtain⟨n1,n2⟩:=ae4 (ZC s);rw[h0];simp only[h2,n1,n2,decide_false,Bool.false_and,Bool.or_self,Bool.false_eq_true,if_false,Option.bind_some]};·split<;>rfl
end Go.Ab
namespace Go.Ab
open Go Go.Proofs
theorem qy{S bW:Type}{step:S→Option (cG S bW)}{e3:S}(st:Nat→S)(n:Nat)(r:bW)(h0:st 0=e3)(hs:∀i,i<n→step (st i)=some (.next (st (i+1))))(he:step (st n)=some (.out r)):Loop step e3=some r:=by subst h0;have key:∀k i,n-i=k→i≤n→Loop step (st i)=some r:=by{intro k;induction k with|zero=>(intro i hk hi;obtain rfl:i=n:=by{omega};rw[j5,he];rfl)|succ k ih=>intro i hk hi;rw[j5,hs i (by omega)];exact ih (i+1) (by omega) (by omega)};exact key _ 0 rfl (by omega)
abbrev bF:=List aQ
def nd(N:bF)(k:Nat):aQ:=N.getD k default
theorem eG{N:bF}{k:Nat}(h:k<N.length):idx N (k:Int)=some (nd N k):=by rw[mV h];simp[nd,h]
def rK(N:bF):Nat→Nat→Nat|0,_=>0|f+1,k=>1+((nd N k).Kids.map fun x=>rK N f x.toNat).sum
def M(N:bF)(k:Nat):Nat:=rK N (k+1) k
def rF(N:bF):Nat→Nat→Nat|0,_=>0|f+1,k=>((nd N k).Kids.map fun x=>rF N f x.toNat).foldl max 0+1
def D(N:bF)(k:Nat):Nat:=rF N (k+1) k
def iK(N:bF)(n:aQ):Nat→Nat→Option Nat|0,a=>some a|i+1,a=>if a=0∨n.Kids.getD i 0≠(a:Int)-1∨nI n.Kind i n.Kids.length (nd N (a-1)).Kind=false then none else iK N n i (a-M N (a-1))
def sR(n:aQ):Int:=if ur n.Kind&& !Cy n.Text then 12 else if !ur n.Kind&& !zT n.Kind n.Text then 1 else if !rj n||decide (n.cr<0)then 3 else 0
def lR(N:bF)(k:Nat):Int:=if !wP (nd N k).Kind then 4 else if !kW (nd N k).Kind (nd N k).Kids.length then 9 else match iK N (nd N k) (nd N k).Kids.length k with|none=>5|some _=>sR (nd N k)
def gi(N:bF)(k:Nat):Prop:=∀j,j<k→lR N j=0
theorem gi.le{N:bF}{j k:Nat}(h:gi N k)(hj:j≤k):gi N j:=fun i hi=>h i (by omega)
theorem aiH{g:Int→Nat}{l:List Int}{i:Nat}(h:i<l.length):((l.take (i+1)).map g).sum=((l.take i).map g).sum+g (l.getD i 0):=by rw[If,Ix h,Kd,List.sum_append];simp[h]
theorem QL{g:Int→Nat}:∀{l:List Int},(∀t,t<l.length→1≤g (l.getD t 0))→l.length≤(l.map g).sum|[],_=>by{simp}|x::l,h=>by have h0:=h 0 (by simp);have:=QL (l:=l) fun t ht=>by{simpa using h (t+1) (by simpa using ht)};simp at h0⊢;omega
theorem Qy{N:bF}{n:aQ}:∀{i a b:Nat},iK N n i a=some b→(∀j,j<a→1≤M N j∧M N j≤j+1)→i≤n.Kids.length→b≤a∧(∀t,t<i→∃c:Nat,n.Kids.getD t 0=(c:Int)∧b≤c∧c<a)∧((n.Kids.take i).map fun x=>M N x.toNat).sum+b=a|0,a,b,h,_,_=>by{simp only[iK,Hd]at h;subst h;exact⟨Ha _,fun t ht=>by omega,by simp⟩}|i+1,a,b,h,k6,hi=>by unfold iK at h;split at h;·{cases h};·rename_i hc;have ha:a≠0:=fun e=>hc (.inl e);have hk:n.Kids.getD i 0=(a:Int)-1:=by{by_cases hk:n.Kids.getD i 0=(a:Int)-1;·{exact hk};·exact absurd (.inr (.inl hk)) hc};obtain⟨h1,h2⟩:=k6 (a-1) (by omega);obtain⟨e1,e2,cc⟩:=Qy h (fun j hj=>k6 j (by omega)) (by omega);refine⟨by omega,fun t ht=> ?_, ?_⟩;·{by_cases adl:t=i;·{subst adl;exact⟨a-1,by rw[hk];omega,by omega,by omega⟩};·obtain⟨c,q1,cg,cS⟩:=e2 t (by omega);exact⟨c,q1,cg,by omega⟩};·rw[aiH (by omega),hk,show((a:Int)-1).toNat=a-1 by omega];omega
theorem Cz{N:bF}{k:Nat}(h:lR N k=0):∃b,iK N (nd N k) (nd N k).Kids.length k=some b∧sR (nd N k)=0∧wP (nd N k).Kind=true∧kW (nd N k).Kind (nd N k).Kids.length=true:=by unfold lR at h;split at h;·{cases h};·split at h;·{cases h};·rename_i h1 h2;split at h;·{cases h};·rename_i b hb;exact⟨b,hb,h,by simpa using h1,by simpa using h2⟩
theorem Pk(l:List Int)(g g':Int→Nat)(h:∀t,t<l.length→g (l.getD t 0)=g' (l.getD t 0)):l.map g=l.map g':=by refine Lk fun x hx=> ?_;obtain⟨t,ht,rfl⟩:=List.mem_iff_getElem.1 hx;have:=h t ht;simpa[ht]using this
theorem ke{N:bF}{k:Nat}(h:gi N k):∀j,j<k→(∀f,j<f→rK N f j=M N j∧rF N f j=D N j)∧1≤M N j∧M N j≤j+1∧iK N (nd N j) (nd N j).Kids.length j=some (j+1-M N j)∧M N j=1+((nd N j).Kids.map fun x=>M N x.toNat).sum∧D N j=((nd N j).Kids.map fun x=>D N x.toNat).foldl max 0+1∧∀t,t<(nd N j).Kids.length→∃c:Nat,(nd N j).Kids.getD t 0=(c:Int)∧j+1-M N j≤c∧c<j:=by intro j;induction j using Hn with|ind j ih=>intro hj;obtain⟨b,hb,_⟩:=Cz (h j hj);obtain⟨e1,e2,cc⟩:=Qy hb (fun i hi=>⟨(ih i hi (by omega)).2.1,(ih i hi (by omega)).2.2.1⟩) (Ha _);rw[H0]at cc;have hf:∀f,j<f→rK N f j=1+((nd N j).Kids.map fun x=>M N x.toNat).sum∧rF N f j=((nd N j).Kids.map fun x=>D N x.toNat).foldl max 0+1:=by{intro f hf;obtain⟨f,rfl⟩:∃g,f=g+1:=⟨f-1,by omega⟩;constructor;·{rw[rK,Pk _ _ (fun x=>M N x.toNat)];intro t ht;obtain⟨c,q1,cg,cS⟩:=e2 t ht;rw[q1,GT];exact((ih c cS (by omega)).1 f (by omega)).1};·rw[rF,Pk _ _ (fun x=>D N x.toNat)];intro t ht;obtain⟨c,q1,cg,cS⟩:=e2 t ht;rw[q1,GT];exact((ih c cS (by omega)).1 f (by omega)).2};have k6:=(hf (j+1) (by omega)).1;have hD:=(hf (j+1) (by omega)).2;have ak7:M N j+b=j+1:=by{unfold M;omega};have e:j+1-M N j=b:=by{omega};refine⟨fun f h1=>⟨(hf f h1).1.trans k6.symm,(hf f h1).2.trans hD.symm⟩,by omega,by omega,by rw[e];exact hb,k6,hD,fun t ht=> ?_⟩;rw[e];exact e2 t ht
theorem mY{N:bF}{k:Nat}(h:gi N k){j:Nat}(hj:j<k):(nd N j).Kids.length≤j:=by obtain⟨_,h1,h2,_,k6,_,hk⟩:=ke h j hj;have:=QL (g:=fun x=>M N x.toNat) (l:=(nd N j).Kids) fun t ht=>by{obtain⟨c,q1,cg,cS⟩:=hk t ht;rw[q1,GT];exact(ke h c (by omega)).2.1};omega
theorem Pd{g:Int→Nat}{l:List Int}{i:Nat}(h:i<l.length):((l.take (i+1)).map g).foldl max 0=max (((l.take i).map g).foldl max 0) (g (l.getD i 0)):=by rw[If,Ix h,Kd,List.foldl_append];simp[h]
theorem TR{N:bF}{k:Nat}(h:gi N k):∀j,j<k→1≤D N j∧D N j≤j+1:=by intro j;induction j using Hn with|ind j ih=>intro hj;obtain⟨_,h1,h2,_,_,hD,hk⟩:=ke h j hj;have:∀i,i≤(nd N j).Kids.length→(((nd N j).Kids.take i).map fun x=>D N x.toNat).foldl max 0≤j:=by{intro i;induction i with|zero=>(intro _;simp)|succ i ih2=>intro hi;obtain⟨c,q1,cg,cS⟩:=hk i (by omega);rw[Pd (by omega),q1,GT];have:=ih2 (by omega);have:=(ih c cS (by omega)).2;omega};have:=this _ (Ha _);rw[H0]at this;omega
/-! ### What is wrong with a node -/
end Go.Ab
namespace Go.Ab
open Go Go.Proofs
def pz(N:bF):Prop:=N.length≤D8∧∀n∈N,n.Kids.length≤D8∧n.Text.size≤maxLen
theorem Kp{N:bF}{k:Nat}(h:k<N.length):nd N k∈N:=by have:nd N k=N[k]:=by{simp[nd,h]};rw[this];exact List.getElem_mem _
theorem adD{α:Type}{a:Bool}{x y:α}:(if a=true then some x else some y)=some (if a=true then x else y):=by cases a<;>rfl
def GC(N:bF)(F:List Int)(k:Nat):Prop:=F.length=N.length∧∀j,j<k→F[j]? =some ((j+1-M N j:Nat):Int)
def vu(N:bF)(F:List Int):Option Nat→cP Int (Int×ja)|none=> .ret (5,⟨⟨N⟩,F⟩)|some b=> .dS (b:Int)
theorem aff{N:bF}{k:Nat}{F:List Int}(h:gi N k)(hF:GC N F k)(hk:k<N.length)(hb:N.length≤D8)(n:aQ)(hl:n.Kids.length≤D8)(hs:kW n.Kind n.Kids.length=true):∀i a,i≤n.Kids.length→a≤k→Loop (fun s=>z6 ⟨⟨N⟩,F⟩ n s.1 s.2) ((a:Int),(i:Int)-1)=some (vu N F (iK N n i a)):=by have IV:N.length≤9223372036854775807:=hb;have acE:n.Kids.length≤9223372036854775807:=hl;refine TZ (pack:=fun(a:Nat)(i:Int)=>((a:Int),i)) (fun i a=>vu N F (iK N n i a)) n.Kids.length (fun _ a=>a≤k) (fun i a hi ha=> ?_) (fun a ha=> ?_);·{unfold z6;rw[if_pos (by simp)];simp only[iK];by_cases ha0:a=0;·{subst ha0;exact .inl (by simp[vu])};·have hx:((a:Int)==0)=false:=by{simpa using ha0};have hw:aU ((a:Int)-1)=((a-1:Nat):Int):=by{rw[gh (by omega) (by omega)];omega};have sC:aU ((i:Int)-1)=(i:Int)-1:=gh (by omega) (by omega);have hgd:n.Kids.getD i 0=n.Kids[i]:=by{simp[hi]};simp only[hx,Bool.false_eq_true,if_false,mV hi,Option.bind_some,hw,hgd];by_cases hq:n.Kids[i]=(a:Int)-1;·{have ac2:n.Kids[i]=((a-1:Nat):Int):=by{omega};have Jr:(n.Kids[i] !=((a-1:Nat):Int))=false:=by{simp;omega};have ach:idx F ((a-1:Nat):Int)=some ((a-1+1-M N (a-1):Nat):Int):=by{unfold idx;rw[if_pos (by omega),Int.toNat_natCast];exact hF.2 (a-1) (by omega)};rw[Jr];simp only[Bool.false_eq_true,if_false,ach,Option.bind_some,ac2,eG (show a-1<N.length by omega),aiL n (i:Int) _ (by omega) (by omega) hs,ha0,false_or];have ac3:¬(((a-1:Nat):Int)≠(a:Int)-1):=by{omega};simp only[ac3,false_or];cases hg:nI n.Kind i n.Kids.length (nd N (a-1)).Kind;·{exact .inl (by simp[vu])};·obtain⟨_,h1,h2,_⟩:=ke h (a-1) (by omega);refine .inr ⟨a-M N (a-1), ?_,by simp,by omega⟩;simp only[Bool.not_true,Bool.false_eq_true,if_false,sC];congr 3;omega};·have Jr:(n.Kids[i] !=((a-1:Nat):Int))=true:=by{simp;omega};rw[Jr];exact .inl (by simp[vu,hq,ha0])};·unfold z6;rw[if_neg (by simp)];rfl
theorem afe{N:bF}{k:Nat}{F:List Int}(h:gi N k)(hF:GC N F k)(hk:k<N.length)(hN:pz N):∃F',Dk ⟨⟨N⟩,F⟩ (k:Int)=some (lR N k,⟨⟨N⟩,F'⟩)∧F'.length=N.length∧(lR N k=0→F'=F.set k ((k+1-M N k:Nat):Int)):=by obtain⟨hl,ht⟩:=hN.2 _ (Kp hk);have acE:(nd N k).Kids.length≤9223372036854775807:=hl;have hml:=zl;have hb:=hN.1;have IV:N.length≤9223372036854775807:=hb;unfold Dk lR;simp only[eG hk,Do,aiM,aiU,ad9];by_cases hkn:wP (nd N k).Kind=true;·{simp only[hkn,Hc,GE,if_false];by_cases hin:kW (nd N k).Kind (nd N k).Kids.length=true;·{simp only[hin,Hc,GE,if_false];rw[gh (by omega) (by omega),aff h hF hk hN.1 (nd N k) hl hin _ _ (Ha _) (Ha _),Do];cases hkc:iK N (nd N k) (nd N k).Kids.length k with|none=>(exact⟨F,by simp[vu],hF.1,fun h0=>by simp at h0⟩)|some b=>have acd:idx F (k:Int)=some (F[k]'(by rw[hF.1];exact hk)):=mV _;simp only[vu,Pn,acd,Do,aiO,YI,aiV _ _ ht,aiP,oO,q4,adD,GT];refine⟨F.set k (b:Int), ?_,by rw[List.length_set];exact hF.1,fun h0=> ?_⟩;·{unfold sR;cases(ur (nd N k).Kind&& !Cy (nd N k).Text)<;>cases(!ur (nd N k).Kind&& !zT (nd N k).Kind (nd N k).Text)<;>cases(!rj (nd N k)||decide ((nd N k).cr<0))<;>rfl};·have hg:lR N k=0:=by{unfold lR;simp only[hkn,hin,hkc,Bool.not_true,Bool.false_eq_true,if_false];exact h0};have eu:gi N (k+1):=fun j hj=>by{by_cases e:j=k;·{rw[e];exact hg};·exact h j (by omega)};obtain⟨_,_,_,e,_⟩:=ke eu k (by omega);rw[hkc]at e;rw[Option.some.inj e]};·exact⟨F,by simp[hin],hF.1,fun h0=>by simp[hin]at h0⟩};·exact⟨F,by simp[hkn],hF.1,fun h0=>by simp[hkn]at h0⟩
end Go.Ab
namespace Go.Ab
open Go Go.Proofs
def jR(N:bF)(i:Nat)(v:Int):List Int:=(List.range N.length).map fun j=>if j<i then(D N j:Int)else if j=i then v else 0
theorem En(N:bF)(i:Nat)(v:Int):(jR N i v).length=N.length:=by simp[jR]
theorem HU{N:bF}{i j:Nat}{v:Int}(h:j<N.length):idx (jR N i v) (j:Int)=some (if j<i then(D N j:Int)else if j=i then v else 0):=by rw[mV (by rw[En];exact h)];simp[jR]
theorem Oz{N:bF}{i:Nat}{v w:Int}:(jR N i v).set i w=jR N i w:=by apply Hk ;intro j;rw[PH];by_cases hj:j<N.length;·{simp only[jR,PP,PQ hj,Pi,Ps,QP];by_cases e:i=j;·{subst e;simp[hj]};·have:j≠i:=fun h=>e h.symm;simp[e,this]};·have h1:(jR N i w)[j]? =none:=H1 (by rw[En];omega);have h2:(jR N i v)[j]? =none:=H1 (by rw[En];omega);rw[h1,h2,En];split;·{rw[if_neg (by omega)]};·rfl
theorem Zd{N:bF}{i:Nat}:jR N i (D N i:Int)=jR N (i+1) 0:=by refine Lk fun j _=> ?_;by_cases h1:j<i;·{rw[if_pos h1,if_pos (by omega)]};·by_cases h2:j=i;·{subst h2;simp};·rw[if_neg h1,if_neg h2,if_neg (by omega)];simp
theorem Zc{N:bF}:QQ N.length (0:Int)=jR N 0 0:=by apply Hk ;intro j;by_cases hj:j<N.length;·{simp[jR,hj]};·simp[jR,hj]
def oU(N:bF):Nat→Nat|0=>0|i+1=>max (oU N i) (D N i)
theorem Y9{N:bF}(h:gi N N.length)(h6:N.length≤600):x5 ⟨N⟩=some (oU N N.length:Int):=by unfold x5;have hm:ng (N.length:Int) (0:Int)=some (jR N 0 0):=by{unfold ng;rw[if_pos (by omega),GT,Zc]};rw[hm,Do];have inner:∀i,i<N.length→Loop (fun s=>vo (i:Int) (nd N i) s.1 s.2) (jR N i 0,0)=some (jR N i (((nd N i).Kids.map fun x=>D N x.toNat).foldl max 0:Nat)):=by{intro i hi;obtain⟨_,h1,h2,_,_,hD,hk⟩:=ke h i hi;have hlen:=mY h hi;refine qy (step:=fun s=>vo (i:Int) (nd N i) s.1 s.2) (fun t=>(jR N i (((nd N i).Kids.take t|>.map fun x=>D N x.toNat).foldl max 0:Nat),(t:Int))) (nd N i).Kids.length _ (by simp) (fun t ht=> ?_) ?_;·{obtain⟨c,q1,cg,cS⟩:=hk t ht;have hg:(nd N i).Kids[t]=(c:Int):=by{rw[←q1];simp[ht]};unfold vo;simp only[kJ ht,if_true,mV ht,Option.bind_some,hg,HU hi,HU (show c<N.length by omega),cS,Nat.lt_irrefl,if_false,Int.toNat_natCast,Oz];rw[Pd ht,q1,Int.toNat_natCast,lE (by omega)];congr 4;omega};·unfold vo;simp only[mZ,GE,if_false,H0]};rw[qy (step:=fun s=>x6 ⟨N⟩ s.1 s.2.1 s.2.2) (e3:=(jR N 0 0,0,0)) (fun i=>(jR N i 0,(oU N i:Int),(i:Int))) N.length (oU N N.length:Int) (by simp[oU]) (fun i hi=> ?_) ?_];·{rfl};·{unfold x6;simp only[mZ,GE,if_false]};·obtain⟨_,h1,h2,_,_,hD,hk⟩:=ke h i hi;have hd:=(TR h i hi).2;unfold x6;have e:aU ((((nd N i).Kids.map fun x=>D N x.toNat).foldl max 0:Nat)+1)=(D N i:Int):=by{rw[lE (by omega),hD]};simp only[kJ hi,if_true,eG hi,Do,inner i hi,HU hi,Nat.lt_irrefl,if_false,GT,Oz,e];rw[lE (by omega),Zd,oU];congr 4;omega
theorem Qx{N:bF}{n:aQ}:∀{i a b:Nat},iK N n i a=some b→∀j,b≤j→j<a→∃t c:Nat,t<i∧n.Kids.getD t 0=(c:Int)∧c+1-M N c≤j∧j≤c|0,a,b,h,j,h1,h2=>by{simp only[iK,Hd]at h;omega}|i+1,a,b,h,j,h1,h2=>by unfold iK at h;split at h;·{cases h};·rename_i hc;have hk:n.Kids.getD i 0=(a:Int)-1:=by{by_cases hk:n.Kids.getD i 0=(a:Int)-1;·{exact hk};·exact absurd (.inr (.inl hk)) hc};by_cases hj:a-M N (a-1)≤j;·{exact⟨i,a-1,by omega,by rw[hk];omega,by omega,by omega⟩};·obtain⟨t,c,e1,e2,cc,fX⟩:=Qx h j h1 (by omega);exact⟨t,c,by omega,e2,cc,fX⟩
theorem ZY{g:Int→Nat}:∀{l:List Int}{s t:Nat},t<l.length→g (l.getD t 0)≤(l.map g).foldl max s:=by have mono:∀(l:List Nat)(s:Nat),s≤l.foldl max s:=by{intro l;induction l with|nil=>(intro s;simp)|cons x l ih=>intro s;simp only[H2];exact Nat.le_trans (Nat.le_max_left ..) (ih _)};intro l;induction l with|nil=>(intro s t h;simp at h)|cons x l ih=>intro s t h;cases t with|zero=>(simp only[List.getD_cons_zero,QR,H2];exact Nat.le_trans (Nat.le_max_right ..) (mono _ _))|succ t=>simp only[List.getD_cons_succ,QR,H2];exact ih (by simpa using h)
theorem TS{N:bF}{k:Nat}(h:gi N k):∀j,j<k→∀i,j+1-M N j≤i→i≤j→D N i≤D N j:=by intro j;induction j using Hn with|ind j ih=>intro hj i h1 h2;by_cases e:i=j;·{rw[e];exact Ha _};·obtain⟨_,_,_,hkc,_,hD,hk⟩:=ke h j hj;obtain⟨t,c,e1,e2,cc,fX⟩:=Qx hkc i h1 (by omega);obtain⟨c',q1,cg,cS⟩:=hk t e1;obtain rfl:c=c':=by{rw[e2]at q1;exact_mod_cast q1};have:=ih c cS (by omega) i cc fX;have hm:=ZY (g:=fun x=>D N x.toNat) (s:=0) e1;rw[e2,GT]at hm;omega
theorem aeV{N:bF}(h:gi N N.length)(h1:1≤N.length)(k6:M N (N.length-1)=N.length):oU N N.length=D N (N.length-1):=by have:∀i,i≤N.length→oU N i≤D N (N.length-1):=by{intro i;induction i with|zero=>(intro _;simp[oU])|succ i ih=>intro hi;have h1:=ih (by omega);have h2:=TS h (N.length-1) (by omega) i (by omega) (by omega);rw[oU];omega};have h2:=this N.length (Ha _);have h3:D N (N.length-1)≤oU N N.length:=by{rw[show N.length=N.length-1+1 by omega,oU];simp only[Nat.add_sub_cancel];omega};omega
def Whole(N:bF):Prop:=1≤N.length∧N.length≤600∧gi N N.length∧M N (N.length-1)=N.length∧D N (N.length-1)≤40
theorem OQ(N:bF):∀n,gi N n∨∃k,k<n∧gi N k∧lR N k≠0|0=> .inl fun j hj=>by{omega}|n+1=>by rcases OQ N n with h|⟨k,h1,h2,h3⟩;·{by_cases e:lR N n=0;·{exact .inl fun j hj=>by by_cases ej:j=n;·{rw[ej];exact e};·exact h j (by omega)};·exact .inr ⟨n,by omega,h,e⟩};·exact .inr ⟨k,by omega,h2,h3⟩
end Go.Ab
namespace Go.Ab
open Go Go.Proofs
def fl(N:bF)(i:Nat):List Int:=(List.range N.length).map fun j=>if j<i then((j+1-M N j:Nat):Int)else 0
theorem OW(N:bF)(i:Nat):i≤N.length→GC N (fl N i) i:=fun hi=>by refine⟨by simp[fl],fun j hj=> ?_⟩;have:j<N.length:=by{omega};simp[fl,this,hj]
theorem ZR{N:bF}{i:Nat}:(fl N i).set i ((i+1-M N i:Nat):Int)=fl N (i+1):=by apply Hk ;intro j;rw[PH];by_cases hj:j<N.length;·{simp only[fl,PP,PQ hj,Pi,Ps,QP];by_cases e:i=j;·{subst e;simp[hj]};·have h2:(j<i+1)=(j<i):=by{rw[eq_iff_iff];omega};simp[e,h2]};·have hl:∀i,(fl N i).length=N.length:=fun i=>by{simp[fl]};have h1:∀i,(fl N i)[j]? =none:=fun i=>H1 (by rw[hl];omega);rw[h1,h1,hl];split;·{rw[if_neg (by omega)]};·rfl
theorem ZQ{N:bF}:QQ N.length (0:Int)=fl N 0:=by apply Hk ;intro j;by_cases hj:j<N.length;·{simp[fl,hj]};·simp[fl,hj]
theorem HG{N:bF}{i:Nat}(h:gi N i)(hi:i<N.length)(hN:pz N):qn ⟨N⟩ ⟨⟨N⟩,fl N i⟩ (i:Int)=if lR N i=0 then some (.next (⟨⟨N⟩,fl N (i+1)⟩,((i+1:Nat):Int)))else some (.out (.ret ⟨lR N i,(i:Int)⟩)):=by have IV:N.length≤9223372036854775807:=hN.1;obtain⟨F',h1,h2,h3⟩:=afe h (OW N i (by omega)) hi hN;unfold qn;have he:AV F' (fl N i)=some ():=by{unfold AV;rw[if_pos (by rw[h2];simp[fl])]};simp only[kJ hi,if_true,h1,Do,he,oy];by_cases e:lR N i=0;·{rw[if_pos e,h3 e,ZR,lE (by omega)];simp[e]};·rw[if_neg e,if_pos (by simpa using e)]
end Go.Ab
namespace Go.Ab
open Go Go.Proofs
theorem S1(s:ByteArray):s.size=s.data.toList.length:=by cases s;simp[ByteArray.size]
theorem Xi(s:ByteArray):∀(k i:Nat)(r:List UInt8),s.size-i=k→i≤s.size→H3 s i r=r.reverse++s.data.toList.drop i:=by intro k;induction k with|zero=>(intro i r hk hi;unfold H3;rw[if_neg (by omega),List.drop_eq_nil_of_le (by rw[←S1];omega)];simp)|succ k ih=>intro i r hk hi;unfold H3;have hlt:i<s.size:=by{omega};have hlt':i<s.data.toList.length:=by{rw[←S1];exact hlt};rw[if_pos hlt,ih (i+1) _ (by omega) (by omega),List.drop_eq_getElem_cons hlt'];have:s.get! i=s.data.toList[i]:=by{have:s.get! i=s.data[i]! :=by{cases s;rfl};rw[this];have h2:i<s.data.size:=hlt;simp only[Array.getElem_toList];exact getElem!_pos s.data i h2};simp[this]
theorem Nw(s:ByteArray):s.toList=s.data.toList:=by unfold ByteArray.toList;rw[Xi s _ 0 [] rfl (Nat.zero_le _)];simp
theorem aiN(a b:ByteArray):(a.toList==b.toList)=iG a b:=by rw[Hb,HZ,Nw,Nw];constructor;·{intro h;have h:=eq_of_beq h;cases a;cases b;simp only[ByteArray.mk.injEq];exact Array.ext' h};·intro h;subst h;simp
theorem OE(a:ByteArray):iG a a=true:=HZ.2 rfl
theorem H6{a b:ByteArray}(h:a≠b):iG a b=false:=by cases e:iG a b with|true=>(exact absurd (HZ.1 e) h)|false=>rfl
theorem HY(a b:ByteArray):iG a b=decide (a=b):=by by_cases h:a=b;·{subst h;simp[OE]};·simp[h,H6 h]
theorem Q0{V:Type}:∀(l:List (ByteArray×V))(k s:ByteArray)(v:V),hJ iG (q9 iG l k v) s=if s=k then some v else hJ iG l s|[],k,s,v=>by{simp only[q9,hJ,HY];by_cases h:s=k<;>simp[h]}|e::l,k,s,v=>by by_cases h:k=e.1;·{subst h;simp only[q9,OE,if_true,hJ,HY];by_cases h2:s=e.1<;>simp[h2]};·simp only[q9,H6 h,GE,if_false,hJ,HY,Q0 l k s v];by_cases h2:s=e.1;·{subst h2;simp only[decide_true,if_true];rw[if_neg (fun e=>h (Eq.symm e))]};·simp[h2]
def lk(N:bF)(j:Int)(s:ByteArray):List (Int×Int)→Option Int|[]=>none|p::l=>if p.2=j∧(nd N p.1.toNat).Text=s then some p.1 else lk N j s l
theorem Kf{N:bF}{j:Int}{s:ByteArray}:∀(l l':List (Int×Int)),lk N j s (l++l')=match lk N j s l with|some h=>some h|none=>lk N j s l'
 |[],l'=>rfl
 |p::l,l'=>by
  simp only[List.cons_append,lk]
  split
  ·rfl
  ·exact Kf l l'
theorem sI{N:bF}{j:Int}{s:ByteArray}:∀{l:List (Int×Int)}{h:Int},lk N j s l=some h→(h,j)∈l∧(nd N h.toNat).Text=s|p::l,h,e=>by unfold lk at e;split at e;·{rename_i hc;simp only[Hd]at e;subst e;exact⟨by rw[←hc.1];exact RK ..,hc.2⟩};·obtain⟨h1,h2⟩:=sI e;exact⟨R0 _ h1,h2⟩
theorem Kg{N:bF}{j:Int}{s:ByteArray}:∀{l:List (Int×Int)},lk N j s l=none↔∀p∈l,¬(p.2=j∧(nd N p.1.toNat).Text=s)|[]=>by{simp[lk]}|p::l=>by unfold lk;split;·{rename_i hc;constructor;·{intro h;cases h};·intro h;exact absurd hc (h p (RK ..))};·rename_i hc;rw[Kg];constructor;·{intro h q hq;rcases List.mem_cons.1 hq with rfl|hq;·{exact hc};·exact h q hq};·intro h q hq;exact h q (R0 _ hq)
def xW(N:bF)(l:List (Int×Int)):Prop:=l.Pairwise fun p q=>¬(p.2=q.2∧(nd N p.1.toNat).Text=(nd N q.1.toNat).Text)
theorem xW.snoc{N:bF}{l:List (Int×Int)}{p:Int×Int}(h:xW N l)(hp:lk N p.2 (nd N p.1.toNat).Text l=none):xW N (l++[p]):=by unfold xW;rw[List.pairwise_append];refine⟨h,List.pairwise_singleton ..,fun q hq r hr=> ?_⟩;simp only[List.mem_singleton]at hr;subst hr;intro⟨h1,h2⟩;exact Kg.1 hp q hq ⟨h1,h2⟩
/-! ### Where kids stand -/
def dx(N:bF)(k:Nat):Nat:=k+1-M N k
theorem QB{N:bF}{n:aQ}:∀{i a b:Nat},iK N n i a=some b→(∀j,j<a→1≤M N j∧M N j≤j+1)→i≤n.Kids.length→∃P:Nat→Nat,P i=a∧P 0=b∧∀t,t<i→n.Kids.getD t 0=((P (t+1)-1:Nat):Int)∧P t<P (t+1)∧P (t+1)≤a∧P t=dx N (P (t+1)-1)∧nI n.Kind t n.Kids.length (nd N (P (t+1)-1)).Kind=true|0,a,b,h,_,_=>by{simp only[iK,Hd]at h;subst h;exact⟨fun _=>a,rfl,rfl,fun t ht=>by omega⟩}|i+1,a,b,h,k6,hi=>by unfold iK at h;split at h;·{cases h};·rename_i hc;simp only[not_or,Decidable.not_not,Bool.not_eq_false]at hc;obtain⟨h0,h1,h2⟩:=hc;obtain⟨m1,m2⟩:=k6 (a-1) (by omega);obtain⟨P,p1,p2,p3⟩:=QB h (fun j hj=>k6 j (by omega)) (by omega);obtain⟨Q,hQ⟩:∃Q:Nat→Nat,∀t,Q t=if t=i+1 then a else P t:=⟨_,fun _=>rfl⟩;refine⟨Q,by rw[hQ,if_pos rfl],by rw[hQ,if_neg (by omega)];exact p2,fun t ht=> ?_⟩;by_cases e:t=i;·{subst e;rw[hQ t,hQ (t+1),if_pos rfl,if_neg (show¬t=t+1 by omega),p1];refine⟨by rw[h1];omega,by omega,Ha _,by unfold dx;omega,h2⟩};·rw[hQ t,hQ (t+1),if_neg (show¬t+1=i+1 by omega),if_neg (show¬t=i+1 by omega)];obtain⟨q1,cg,cS,fq,iR⟩:=p3 t (by omega);exact⟨q1,cg,by omega,fq,iR⟩
theorem tM{N:bF}{k:Nat}(h:gi N k){j:Nat}(hj:j<k):∃P:Nat→Nat,P (nd N j).Kids.length=j∧P 0=dx N j∧∀t,t<(nd N j).Kids.length→(nd N j).Kids.getD t 0=((P (t+1)-1:Nat):Int)∧P t<P (t+1)∧P (t+1)≤j∧P t=dx N (P (t+1)-1)∧nI (nd N j).Kind t (nd N j).Kids.length (nd N (P (t+1)-1)).Kind=true:=by obtain⟨_,h1,h2,h3,_⟩:=ke h j hj;exact QB h3 (fun i hi=>⟨(ke h i (by omega)).2.1,(ke h i (by omega)).2.2.1⟩) (Ha _)
end Go.Ab
namespace Go.Ab
open Go Go.Proofs
theorem NZ{N:bF}(hN:pz N):∃r,xp ⟨N⟩=some r∧(r.Code=0↔Whole N)∧(r.Code=0→r=⟨0,0⟩):=by have IV:N.length≤9223372036854775807:=hN.1;unfold xp;simp only[cin,Do,oy];by_cases h6:eY (N.length:Int) 1 600=true;·{have yC:1≤N.length∧N.length≤600:=by{simp only[eY,Bool.and_eq_true,decide_eq_true_eq]at h6;omega};have hm:ng (N.length:Int) (0:Int)=some (fl N 0):=by{unfold ng;rw[if_pos (by omega),Int.toNat_natCast,ZQ]};simp only[h6,Bool.not_true,Bool.false_eq_true,if_false,hm,Option.bind_some];have hw:aU ((N.length:Int)-1)=((N.length-1:Nat):Int):=by{rw[gh (by omega) (by omega)];omega};rcases OQ N N.length with eu|⟨k,hk,eu,EU⟩;·{have c1:=qy (step:=fun s=>qn ⟨N⟩ s.1 s.2) (e3:=(⟨⟨N⟩,fl N 0⟩,0)) (fun i=>(⟨⟨N⟩,fl N i⟩,(i:Int))) N.length (.dS ⟨⟨N⟩,fl N N.length⟩) rfl (fun i hi=>by show qn ⟨N⟩ ⟨⟨N⟩,fl N i⟩ (i:Int)=_;rw[HG (eu.le (by omega)) hi hN,if_pos (eu i hi)]) (by unfold qn;simp only[mZ,Bool.false_eq_true,if_false]);have acC:idx (fl N N.length) ((N.length-1:Nat):Int)=some ((N.length-M N (N.length-1):Nat):Int):=by{unfold idx;rw[if_pos (by omega),Int.toNat_natCast,(OW N N.length (Nat.le_refl _)).2 _ (by omega)];congr 3;omega};obtain⟨_,m1,m2,_⟩:=ke eu (N.length-1) (by omega);simp only[c1,Option.bind_some,Pn,hw,acC];by_cases k6:M N (N.length-1)=N.length;·{have e1:(((N.length-M N (N.length-1):Nat):Int) !=0)=false:=by{simp;omega};simp only[e1,Bool.false_eq_true,if_false,Y9 eu yC.2,Option.bind_some,aeV eu yC.1 k6];by_cases hD:D N (N.length-1)≤40;·{refine⟨⟨0,0⟩,by rw[if_neg (by simp;omega)],⟨fun _=>⟨yC.1,yC.2,eu,k6,hD⟩,fun _=>rfl⟩,fun _=>rfl⟩};·refine⟨⟨10,0⟩,by rw[if_pos (by simp;omega)],⟨fun h=>by simp at h,fun h=>absurd h.2.2.2.2 hD⟩,fun h=>by simp at h⟩};·have e1:(((N.length-M N (N.length-1):Nat):Int) !=0)=true:=by{simp;omega};simp only[e1,if_true];refine⟨⟨5,((N.length-1:Nat):Int)⟩,rfl,⟨fun h=>by simp at h,fun h=>absurd h.2.2.2.1 k6⟩,fun h=>by simp at h⟩};·have c1:=qy (step:=fun s=>qn ⟨N⟩ s.1 s.2) (e3:=(⟨⟨N⟩,fl N 0⟩,0)) (fun i=>(⟨⟨N⟩,fl N i⟩,(i:Int))) k (.ret ⟨lR N k,(k:Int)⟩) rfl (fun i hi=>by show qn ⟨N⟩ ⟨⟨N⟩,fl N i⟩ (i:Int)=_;rw[HG (eu.le (by omega)) (by omega) hN,if_pos (eu i hi)]) (by show qn ⟨N⟩ ⟨⟨N⟩,fl N k⟩ (k:Int)=_;rw[HG eu hk hN,if_neg EU]);refine⟨⟨lR N k,(k:Int)⟩,by rw[c1];rfl,⟨fun h=>absurd h EU,fun h=>absurd (h.2.2.1 k hk) EU⟩,fun h=>absurd h EU⟩};·have yC:eY (N.length:Int) 1 600=false:=by{simpa using h6};refine⟨⟨2,0⟩,by simp[yC],⟨fun h=>by simp at h,fun h=> ?_⟩,fun h=>by simp at h⟩;exact absurd (by simp only[eY,H4,decide_eq_true_eq];exact⟨by have:=h.1;omega,by have:=h.2.1;omega⟩) h6
end Go.Ab
