import Derived.Test.YtkmdadjmdgonbaaGreatDoorAbPr30
open Bool renaming true->bv,false->ci
open Option renaming some->ac,none->am
open Bool renaming false_eq_true->Do,true_and->Ha,false_and->Hb,not_eq_true'->Hd,and_eq_true->IH,not_true->If,not_false->Kd
open ByteArray renaming mk->AC
open Int renaming toNat_natCast->Hk
open List renaming map_cons->GE,mem_cons_self->Hc,length_append->Hm,length_cons->Hn,mem_cons_of_mem->H2,map_append->H3,take_add_one->H4,getElem?_eq_getElem->H5,append_assoc->Ix
open List.cons renaming injEq->H1
open Nat renaming le_refl->GT
open Option renaming bind_some->A0
set_option linter.all false
namespace Go.Ab
open Go Go.Proofs Go.Ab.Tk
abbrev dm:=aO
theorem abt{α:Type}{l:List α}(h:l.length<=4294967296):clone l=ac l:=if_pos h
def ay(l:List dm)(e:Int):dm:=match l with|[]=>⟨0,AC #[],0,e⟩|t::_=>t
def aM(t:dm)(s:ByteArray):Bool:=(t.Kind==4||t.Kind==3)&&t.Text.toList==s.toList
abbrev aN(N:bh)(l:List dm)(e:Int):aj:=⟨⟨N⟩,l,e⟩
def jx(t:dm)(ls:List ByteArray):ByteArray:=if(t.Kind==4&&gL ls t.Text)=bv then t.Text else AC #[]
section
variable{N:bh}{l:List dm}{e k:Int}{s:ByteArray}
theorem fq:iV (aN N l e)=ac (ay l e):=by unfold iV;cases l with|nil=>(rfl)|cons t l=>rw[if_neg (by simp;omega)];rfl
theorem jn:lN (aN N l e) s=ac (aM (ay l e) s):=by unfold lN;rw[fq,A0];unfold aM;cases(ay l e).Kind==4<;>cases(ay l e).Kind==3<;>simp
theorem rW:oM (aN N l e)=ac (ay l e,aN N l.tail e):=by unfold oM BS;rw[fq,A0];cases l with|nil=>(rfl)|cons t l=>rw[if_pos (by simp),Vh];rfl
theorem ey:gp (aN N l e) s=ac (aM (ay l e) s,if aM (ay l e) s=bv then aN N l.tail e else aN N l e):=by unfold gp;rw[jn,A0,rW];cases aM (ay l e) s<;>rfl
theorem hG(h:aM (ay l e) s=bv):iW (aN N l e) s=ac (.ok (aN N l.tail e)):=by unfold iW;rw[ey,A0,h];rfl
theorem aiV(h:(ay l e).Kind=1):tv (aN N l e)=ac (.ok (ay l e,aN N l.tail e)):=by unfold tv BR;rw[fq,A0,h];rw[if_neg (by decide),rW];rfl
theorem BQ{ls:List ByteArray}(hl:ls.length<=1000):qw (aN N l e) ls=ac (jx (ay l e) ls):=by have key:∀d i,i+d=ls.length->Loop (λ(s:Int)=>vi (aN N l e) ls s) (i:Int)=ac (if((ay l e).Kind==4&&gL (ls.drop i) (ay l e).Text)=bv then .ret (ay l e).Text else .dh ()):=by{intro d;induction d with|zero=>(intro i hi;simp only[Nat.add_zero]at hi;subst hi;have h1:vi (aN N l e) ls (ls.length:Int)=ac (.out (.dh ())):=by{unfold vi;simp only[s9,Do,if_false]};rw[fP,h1,List.drop_length];simp[gL])|succ d ih=>intro i hi;have pq:i<ls.length:=by{omega};have hd:ls.drop i=ls[i]::ls.drop (i+1):=List.drop_eq_getElem_cons pq;have hh:gL (ls.drop i) (ay l e).Text=((ay l e).Text.toList==ls[i].toList||gL (ls.drop (i+1)) (ay l e).Text):=by{rw[hd];unfold gL;rw[List.any_cons]};have h1:vi (aN N l e) ls (i:Int)=ac (if((ay l e).Kind==4&&(ay l e).Text.toList==ls[i].toList)=bv then .out (.ret ls[i])else .next ((i+1:Nat):Int)):=by{unfold vi;simp only[qm pq,if_true,lF pq,A0,fq,jn,aM,jq (show i<9223372036854775807 by omega)];cases h4:(ay l e).Kind==4 with|false=>(simp)|true=>simp only[Bool.true_or,Ha,if_true];cases(ay l e).Text.toList==ls[i].toList<;>simp};rw[fP,h1,hh];cases h4:(ay l e).Kind==4 with|false=>(simp only[Hb,Do,if_false,A0];rw[ih (i+1) (by omega),h4];simp)|true=>cases ht:(ay l e).Text.toList==ls[i].toList with|true=>(simp only[Ha,Bool.true_or,if_true,A0];rw[lV (beq_iff_eq.1 ht)])|false=>simp only[Ha,Bool.false_or,Do,if_false,A0];rw[ih (i+1) (by omega),h4];simp};unfold qw;have:=key ls.length 0 (by omega);rw[List.drop_zero]at this;have h0:Loop (λ(s:Int)=>vi (aN N l e) ls s) 0=_:=this;rw[h0];unfold jx;cases(ay l e).Kind==4&&gL ls (ay l e).Text<;>rfl
def vN(N:bh)(n:az)(ks:List Int):bh:=N++[⟨n.Kind,n.Text,n.N,n.e9,ks,n.bI⟩]
theorem amT{m:Nat}(h:m<=1000000):bE (((m+1:Nat):Int)-1)=(m:Int):=by rw[jR (by omega) (by omega)];omega
theorem aiT{n:az}{ks:List Int}(h:N.length<=1000000)(hk:ks.length<=1000000):jd (aN N l e) n ks=ac ((N.length:Int),aN (vN N n ks) l e):=by unfold jd;rw[abt (by omega),A0,ox (by simp;omega),A0];simp only[Hm,Hn,List.length_nil];rw[amT h];rfl
theorem ET{n:az}:vQ (aN N l e) n=jd (aN N l e) n []:=rfl
theorem aiU{a c d f:Int}{b:ByteArray}{ks:List Int}:GB (aN N l e) a b c d f ks=jd (aN N l e) ⟨a,b,c,d,[],f⟩ ks:=rfl
theorem Im{a c d f:Int}{b:ByteArray}{ks q:List Int}:GC (aN N l e) q a b c d f ks=jd (aN N l e) ⟨a,b,c,d,[],f⟩ ks:=rfl
end
/-! ### Alike but for places -/
def oI(n:az):az:=⟨n.Kind,n.Text,n.N,n.e9,n.Kids,0⟩
def Lk(A N:bh):Prop:=A.map oI=N.map oI∧∀n∈A,0<=n.bI
def bB(l:List dm)(w:bF):Prop:=l.map Dc=w.map Dc∧∀t∈l,0<=t.bI
def mj(w:bF):dm:=ay w 0
theorem Lk.len{A N:bh}(h:Lk A N):A.length=N.length:=by have:=congrArg List.length h.1;simpa using this
theorem bB.tail{l:List dm}{t:dm}{r:bF}(h:bB l (t::r)):bB l.tail r:=by obtain⟨h1,h2⟩:=h;cases l with|nil=>(simp at h1)|cons x l=>rw[GE,GE,H1]at h1;exact⟨h1.2,λy hy=>h2 y (H2 _ hy)⟩
theorem bB.hd{l:List dm}{w:bF}(h:bB l w)(e:Int):(ay l e).Kind=(mj w).Kind∧(ay l e).Text=(mj w).Text∧(ay l e).N=(mj w).N:=by obtain⟨h1,_⟩:=h;cases l with|nil=>(cases w with|nil=>(exact⟨rfl,rfl,rfl⟩)|cons _ _=>simp at h1)|cons x l=>cases w with|nil=>(simp at h1)|cons y w=>rw[GE,GE,H1]at h1;have:=h1.1;unfold Dc at this;simp only[aO.mk.injEq,and_true]at this;exact this
theorem bB.at{l:List dm}{w:bF}(h:bB l w){e:Int}(he:0<=e):0<=(ay l e).bI:=by cases l with|nil=>(exact he)|cons x l=>exact h.2 x (Hc ..)
theorem bB.is{l:List dm}{w:bF}(h:bB l w)(e:Int)(s:ByteArray):aM (ay l e) s=aM (mj w) s:=by obtain⟨h1,h2,_⟩:=h.hd e;unfold aM;rw[h1,h2]
theorem bB.of{l:List dm}{w:bF}(h:bB l w)(e:Int)(ls:List ByteArray):jx (ay l e) ls=jx (mj w) ls:=by obtain⟨h1,h2,_⟩:=h.hd e;unfold jx;rw[h1,h2]
theorem bB.nil{l:List dm}(h:bB l []):l=[]:=by have:=h.1;cases l with|nil=>(rfl)|cons _ _=>simp at this
theorem bB.ne{l:List dm}{t:dm}{w:bF}(h:bB l (t::w)):l≠[]:=λe=>by have:=h.1;rw[e]at this;simp at this
theorem s6(s s':ByteArray):aM (dH s) s'=(s.toList==s'.toList):=by unfold aM dH;simp only;cases low s<;>rfl
theorem Lk.add{A N:bh}{j:Nat}{n:az}{ks:List Int}(h:Lk A (N.take j))(hj:j<N.length)(hn:n.Kind=(nd N j).Kind∧n.Text=(nd N j).Text∧n.N=(nd N j).N∧n.e9=(nd N j).e9∧ks=(nd N j).Kids)(ha:0<=n.bI):Lk (vN A n ks) (N.take (j+1)):=by obtain⟨h1,h2⟩:=h;refine⟨?_,λx hx=> ?_⟩;·{unfold vN;rw[H3,h1,H4,H5 hj,H3];have:nd N j=N[j]:=by{simp[nd,hj]};rw[<-this];obtain⟨q1,aT,bu,jO,lP⟩:=hn;simp only[GE,List.map_nil,Option.toList_some,oI,q1,aT,bu,jO,lP]};·unfold vN at hx;rcases List.mem_append.1 hx with hx|hx;·{exact h2 x hx};·simp only[List.mem_cons,List.not_mem_nil,or_false]at hx;rw[hx];exact ha
theorem Lk.add_eq{A N:bh}{j:Nat}{l:List dm}{e:Int}{n:az}{ks:List Int}(h:Lk A (N.take j))(hj:j<N.length)(h6:N.length<=600)(hk:ks.length<=1000000):jd (aN A l e) n ks=ac ((j:Int),aN (vN A n ks) l e):=by have hl:=h.len;rw[List.length_take]at hl;rw[aiT (by omega) hk];congr 2;omega
/-! ### Kids side by side -/
inductive gS(N:bh):Nat->List Int->Nat->Prop|nil{a:Nat}:gS N a [] a|cons{a c:Nat}{ks:List Int}{b:Nat}(ha:a=c+1-M N c)(h:gS N (c+1) ks b):gS N a ((c:Int)::ks) b
def e5(N:bh)(k:Nat):Nat:=k+1-M N k
theorem gS.snoc{N:bh}{a b c:Nat}{ks:List Int}(h:gS N a ks b)(hb:b=c+1-M N c):gS N a (ks++[(c:Int)]) (c+1):=by induction h with|nil=>(exact .cons hb .nil)|cons ha _ ih=>exact .cons ha (ih hb)
theorem SP{N:bh}{n:az}:∀{i a b:Nat},jk N n i a=ac b->i<=n.Kids.length->gS N b (n.Kids.take i) a|0,a,b,h,_=>by{simp only[jk,Option.some.injEq]at h;subst h;simp only[List.take_zero];exact .nil}|i+1,a,b,h,hi=>by unfold jk at h;split at h;·{cases h};·rename_i hn;have ha:a≠0:=λe=>hn (.inl e);have hk:n.Kids.getD i 0=(a:Int)-1:=by{by_cases hk:n.Kids.getD i 0=(a:Int)-1;·{exact hk};·exact absurd (.inr (.inl hk)) hn};obtain⟨c,rfl⟩:∃c,a=c+1:=⟨a-1,by omega⟩;have h2:=SP h (by omega);have e:n.Kids[i]=(c:Int):=by{have:n.Kids.getD i 0=n.Kids[i]:=by{simp[show i<n.Kids.length by omega]};rw[<-this,hk];omega};rw[H4,H5 (by omega),e];exact h2.snoc (by simp)
theorem ju{N:bh}{k:Nat}(h:eL N k){j:Nat}(hj:j<k):gS N (e5 N j) (nd N j).Kids j:=by obtain⟨_,_,_,hkc,_⟩:=gv h j hj;have:=SP hkc (GT _);rwa[List.take_length]at this
theorem RL{N:bh}{n:az}:∀{i a b:Nat},jk N n i a=ac b->∀t,t<i->gb n.Kind t n.Kids.length (nd N (n.Kids.getD t 0).toNat).Kind=bv|0,_,_,_,t,ht=>by{omega}|i+1,a,b,h,t,ht=>by unfold jk at h;split at h;·{cases h};·rename_i hc;by_cases e:t=i;·{subst e;have hk:n.Kids.getD t 0=(a:Int)-1:=by{by_cases hk:n.Kids.getD t 0=(a:Int)-1;·{exact hk};·exact absurd (.inr (.inl hk)) hc};have ha:a≠0:=λe=>hc (.inl e);rw[hk,show((a:Int)-1).toNat=a-1 by omega];cases hg:gb n.Kind t n.Kids.length (nd N (a-1)).Kind with|true=>(rfl)|false=>exact absurd (.inr (.inr hg)) hc};·exact RL h t (by omega)
theorem jt{N:bh}{k:Nat}(h:eL N k){j:Nat}(hj:j<k){t:Nat}(ht:t<(nd N j).Kids.length):gb (nd N j).Kind t (nd N j).Kids.length (nd N (kd (nd N j) t)).Kind=true:=by obtain⟨_,_,_,hk,_⟩:=gv h j hj;exact RL hk t ht
open Go Go.Proofs Go.Ab.Tk
abbrev ua:=Nat->aj->Option (au (Int×aj) Unit)
abbrev CX:=Nat->Int->bh->List dm->Int->Option (au (Int×aj) Unit)
def l8:CX:=λ_ k A l e=>ac (.ok (k,aN A l e))
def Pre(N:bh)(p:ua)(q:CX)(c:Nat)(H9:dm->Prop)(w:bF)(j:Nat):Prop:=∀(A:bh)(l:List dm)(e:Int)(r:bF)(f:Nat),c<=f->Lk A (N.take (e5 N j))->bB l (w++r)->0<=e->H9 (mj r)->∃A' l',p f (aN A l e)=q f (j:Int) A' l' e∧Lk A' (N.take (j+1))∧bB l' r
theorem Pre.mono{N:bh}{p:ua}{q:CX}{c c':Nat}{H9 TA:dm->Prop}{w:bF}{j:Nat}(h:Pre N p q c H9 w j)(hc:c<=c')(hn:∀t,TA t->H9 t):Pre N p q c' TA w j:=λA l e r f hf hL hT he hx=>h A l e r f (by omega) hL hT he (hn _ hx)
noncomputable def Ax:ua:=λf p=>ai5 f p
noncomputable def vO:ua:=λf p=>ai4 f p
noncomputable def ql(n:Nat):ua:=λf p=>ai7 f p (n:Int)
noncomputable def DA:ua:=λf p=>k6 f p
noncomputable def qU:CX:=λf k A l e=>(Loop (λ(s:(Int×(List aO)×Int×(List az)))=>va (cm.at (f-1)) s.1 s.2.1 s.2.2.1 s.2.2.2) (k,l,e,A)).bind (cF.go (λ_=>am) (λr1=>ac r1))
noncomputable def lvl(n:Nat):CX:=λf k A l e=>(Loop (λ(s:(Int×ByteArray×(List aO)×Int×(List az)))=>zy (cm.at (f-1)) (n:Int) s.1 s.2.1 s.2.2.1 s.2.2.2.1 s.2.2.2.2) (k,jx (ay l e) (gI.getD n []),l,e,A)).bind (cF.go (λv1=>ac (.ok (v1.1,(aj.mk (bX.mk v1.2.2.2) v1.2.1 v1.2.2.1)))) (λr1=>ac r1))
/-! ### What may follow -/
def tY(t:dm):Prop:=aM t (AC #[40])=ci
structure gT(n:Nat)(t:dm):Prop where
 p:aM t (AC #[40])=ci
 b:aM t (AC #[91])=ci
 i:aM t (AC #[43,43])=ci
 d:aM t (AC #[45,45])=ci
 o:∀i,n<=i->i<10->jx t (gI.getD i [])=AC #[]
theorem gT.mono{n m:Nat}{t:dm}(h:gT n t)(hm:n<=m):gT m t:=⟨h.p,h.b,h.i,h.d,λi hi hi2=>h.o i (by omega) hi2⟩
abbrev tI:List ByteArray:=[(AC #[61]),(AC #[43,61]),(AC #[45,61]),(AC #[42,61]),(AC #[47,61]),(AC #[37,61]),(AC #[38,61]),(AC #[94,61]),(AC #[124,61]),(AC #[60,60,61]),(AC #[62,62,61])]
abbrev tC:List ByteArray:=[(AC #[45]),(AC #[33]),(AC #[126]),(AC #[42]),(AC #[38])]
structure iO(t:dm):Prop where
 n:gT 0 t
 q:aM t (AC #[63])=ci
 s:jx t tI=AC #[]
def EI(n:Nat)(s:ByteArray):Bool:= !(s.toList==(AC #[40]).toList)&&(!(s.toList==(AC #[91]).toList)&&(!(s.toList==(AC #[43,43]).toList)&&(!(s.toList==(AC #[45,45]).toList)&&(List.range 10).all λi=>decide (i<n)|| !gL (gI.getD i []) s)))
theorem Na{s:ByteArray}{ls:List ByteArray}(h:gL ls s=ci):jx (dH s) ls=AC #[]:=by unfold jx;rw[show(dH s).Text=s from rfl,h,Bool.and_false];rfl
theorem gT.ax{n:Nat}{s:ByteArray}(h:EI n s=bv):gT n (dH s):=by unfold EI at h;simp only[IH,Hd]at h;obtain⟨h1,h2,h3,h4,h5⟩:=h;refine⟨by rw[s6];exact h1,by rw[s6];exact h2,by rw[s6];exact h3,by rw[s6];exact h4,λi hi hi2=>Na ?_⟩;have:=List.all_eq_true.1 h5 i (List.mem_range.2 hi2);simp only[Bool.or_eq_true,decide_eq_true_eq,Hd]at this;rcases this with h|h;·{omega};·exact h
theorem gT.hit{n:Nat}{s:ByteArray}(hn:n<10)(h:hit s n=bv):gT (n+1) (dH s):=by have:∀n,n<10->((gI.getD n []).all λs=>EI (n+1) s)=true:=by{decide+kernel};exact gT.ax (List.all_eq_true.1 (this n hn) s (sP h))
def MX(s:ByteArray):Bool:=EI 0 s&&(!(s.toList==(AC #[63]).toList)&& !gL tI s)
theorem iO.ax{s:ByteArray}(h:MX s=bv):iO (dH s):=by unfold MX at h;simp only[IH,Hd]at h;exact⟨gT.ax h.1,by rw[s6];exact h.2.1,Na h.2.2⟩
theorem iO.none:iO (mj []):=⟨⟨rfl,rfl,rfl,rfl,λ_ _ _=>rfl⟩,rfl,rfl⟩
/-! ### What may come first -/
def xN(t:dm):Prop:=t.Kind=1∨t.Kind=2∨t=ax #[40]
theorem y6{t:dm}(h:t.Kind=1∨t.Kind=2)(s:ByteArray):aM t s=false:=by unfold aM;rcases h with h|h<;>rw[h]<;>rfl
theorem TQ{t:dm}(h:t.Kind=1∨t.Kind=2)(ls:List ByteArray):jx t ls=AC #[]:=by unfold jx;rcases h with h|h<;>rw[h]<;>rfl
theorem xN.is{t:dm}(h:xN t){s:ByteArray}(hs:((AC #[40]).toList==s.toList)=ci):aM t s=false:=by rcases h with h|h|rfl;·{exact y6 (.inl h) s};·{exact y6 (.inr h) s};·rw[s6];exact hs
theorem xN.of{t:dm}(h:xN t){ls:List ByteArray}(hs:gL ls (AC #[40])=ci):jx t ls=AC #[]:=by rcases h with h|h|rfl;·{exact TQ (.inl h) ls};·{exact TQ (.inr h) ls};·exact Na hs
def pU(w:bF):Prop:=∃t w',w=t::w'∧xN t
theorem pU.app{w:bF}(h:pU w)(r:bF):xN (mj (w++r))∧pU (w++r):=by obtain⟨t,w',rfl,h⟩:=h;exact⟨h,t,w'++r,rfl,h⟩
theorem pU.par(w:bF):pU (par w):=⟨_,_,rfl, .inr (.inr rfl)⟩
/-! ### Ends of loops -/
theorem Z0{f:Nat}{k:Int}{A:bh}{l:List dm}{e:Int}{r:bF}(h:bB l r)(hx:gT 10 (mj r)):qU f k A l e=ac (.ok (k,aN A l e)):=by have st:va (cm.at (f-1)) k l e A=ac (.out (.ret (.ok (k,aN A l e)))):=by{unfold va;simp only[fq,A0,ey,h.is,hx.b,hx.i,hx.d,Do,if_false,jn]};unfold qU;rw[fP,st];rfl
theorem ag4{n f:Nat}{k:Int}{A:bh}{l:List dm}{e:Int}{r:bF}(h:bB l r)(hx:jx (mj r) (gI.getD n [])=AC #[]):lvl n f k A l e=ac (.ok (k,aN A l e)):=by unfold lvl;rw[h.of,hx,fP];unfold zy;rw[if_neg (by simp)];rfl
section
variable{N:bh}{w:bF}{j c:Nat}
theorem Zy(h:Pre N Ax qU (c+2) tY w j)(hF:pU w):Pre N vO l8 (c+4) (gT 10) w j:=by intro A l e r f hf hL hT he hx;obtain⟨f,rfl⟩:∃g,f=g+1:=⟨f-1,by omega⟩;obtain⟨A',l',h1,h2,h3⟩:=h A l e r f (by omega) hL hT he hx.p;rw[Z0 h3 hx]at h1;refine⟨A',l', ?_,h2,h3⟩;have hq:=(hF.app r).1;show zq f (cm.at f) (aN A l e)=_;unfold zq;have e1:qw (aN A l e) tC=ac (AC #[]):=by{rw[BQ (by decide),hT.of,hq.of (by decide+kernel)]};have h1':(cm.at f).k8 (aN A l e)=ac (.ok ((j:Int),aN A' l' e)):=h1;have i1:=hq.is (s:=AC #[43,43]) (by decide+kernel);have i2:=hq.is (s:=AC #[45,45]) (by decide+kernel);rw[fq,A0,e1,A0,if_neg (by simp)];simp only[jn,A0,hT.is,i1,i2,Do,if_false,h1',au.on];rfl
theorem S3(h:Pre N vO l8 (c+4) (gT 10) w j):Pre N (ql 10) l8 (c+5) (gT 10) w j:=by intro A l e r f hf hL hT he hx;obtain⟨f,rfl⟩:∃g,f=g+1:=⟨f-1,by omega⟩;obtain⟨A',l',h1,h2,h3⟩:=h A l e r f (by omega) hL hT he hx;refine⟨A',l', ?_,h2,h3⟩;show zw f (cm.at f) (aN A l e) ((10:Nat):Int)=_;unfold zw;have h1':(cm.at f).r2 (aN A l e)=ac (.ok ((j:Int),aN A' l' e)):=h1;rw[if_pos (by decide),h1'];rfl
theorem Mw{n:Nat}(hn:n<10)(h:Pre N (ql n) (lvl n) (c+5+(10-n)) (gT (n+1)) w j):Pre N (ql n) l8 (c+5+(10-n)) (gT n) w j:=by intro A l e r f hf hL hT he hx;obtain⟨A',l',h1,h2,h3⟩:=h A l e r f hf hL hT he (hx.mono (by omega));rw[ag4 h3 (hx.o n (GT _) hn)]at h1;exact⟨A',l',h1,h2,h3⟩
theorem S5{n:Nat}(hn:n<10)(h:Pre N (ql (n+1)) l8 (c+5+(10-(n+1))) (gT (n+1)) w j):Pre N (ql n) (lvl n) (c+5+(10-n)) (gT (n+1)) w j:=by intro A l e r f hf hL hT he hx;obtain⟨f,rfl⟩:∃g,f=g+1:=⟨f-1,by omega⟩;obtain⟨A',l',h1,h2,h3⟩:=h A l e r f (by omega) hL hT he hx;refine⟨A',l', ?_,h2,h3⟩;show zw f (cm.at f) (aN A l e) (n:Int)=_;unfold zw;have h1':(cm.at f).r1 (aN A l e) ((n+1:Nat):Int)=ac (.ok ((j:Int),aN A' l' e)):=h1;obtain⟨g1,g2⟩:=MC hn;rw[if_neg (by simp;omega),jq (show n<9223372036854775807 by omega),h1',A0];simp only[au.on];rw[g1,A0,BQ g2,A0];rfl
theorem S4{n:Nat}:∀d,n+d<10->Pre N (ql (n+d)) (lvl (n+d)) (c+5+(10-(n+d))) (gT (n+d+1)) w j->Pre N (ql n) (lvl n) (c+5+(10-n)) (gT (n+1)) w j|0,_,h=>h|d+1,hd,h=>S4 d (by omega) (S5 (by omega) (Mw (n:=n+d+1) hd h))
theorem acI(h:Pre N (ql 0) l8 (c+15) (gT 0) w j):Pre N DA l8 (c+16) iO w j:=by intro A l e r f hf hL hT he hx;obtain⟨f,rfl⟩:∃g,f=g+1:=⟨f-1,by omega⟩;obtain⟨A',l',h1,h2,h3⟩:=h A l e r f (by omega) hL hT he hx.n;refine⟨A',l', ?_,h2,h3⟩;show vc f (cm.at f) (aN A l e)=_;unfold vc;have h1':(cm.at f).r1 (aN A l e) 0=ac (.ok ((j:Int),aN A' l' e)):=h1;have e1:qw (aN A' l' e) tI=ac (AC #[]):=by{rw[BQ (by decide),h3.of,hx.s]};rw[h1',A0];simp only[au.on,fq,A0,ey,h3.is,hx.q,Do,if_false];rw[e1,A0,if_neg (by simp)];rfl
theorem ai1(h:Pre N DA l8 (c+16) iO w j):Pre N Ax qU (c+16+2) tY (par w) j:=by intro A l e r f hf hL hT he hx;obtain⟨f,rfl⟩:∃g,f=g+2:=⟨f-2,by omega⟩;have iI:bB l (ax #[40]::(w++(ax #[41]::r))):=by{have:par w++r=ax #[40]::(w++(ax #[41]::r)):=by{unfold par;simp};rwa[this]at hT};obtain⟨A',l',h1,h2,h3⟩:=h A l.tail e (ax #[41]::r) f (by omega) hL iI.tail he (iO.ax (by decide+kernel));refine⟨A',l'.tail, ?_,h2,h3.tail⟩;show zu (f+1) (cm.at (f+1)) (aN A l e)=_;unfold zu;have wA:(cm.at (f+1)).qC (aN A l e)=ac (.ok ((j:Int),aN A' l'.tail e)):=by{show ve f (cm.at f) (aN A l e)=_;unfold ve;have hk:=(iI.hd e).1;have aeY:(ay l e).Kind=4:=hk.trans (show(ax #[40]).Kind=4 by decide+kernel);have h1':(cm.at f).cD (aN A l.tail e)=ac (.ok ((j:Int),aN A' l' e)):=h1;have i1:aM (ay l e) (AC #[40])=true:=by{rw[iI.is];exact(by decide+kernel:aM (ax #[40]) (AC #[40])=bv)};have i2:aM (ay l' e) (AC #[41])=true:=by{rw[h3.is];exact(by decide+kernel:aM (ax #[41]) (AC #[41])=bv)};rw[fq,A0,aeY];simp only[Int.reduceBEq,Do,if_false,ey,i1,if_true,A0,h1',au.on,hG i2]};rw[wA];rfl
end
/-! ### Expressions of a rank -/
structure kJ(N:bh)(w:bF)(j c:Nat)(rk:Int):Prop where
 b:12<=rk->Pre N Ax qU (c+2) tY w j∧pU w
 a:11<=rk->Pre N vO l8 (c+4) (gT 10) w j
 l:∀n:Nat,n<10->(n:Int)+1<=rk->Pre N (ql n) (lvl n) (c+5+(10-n)) (gT (n+1)) w j
 e:Pre N DA l8 (c+16) iO w j
section
variable{N:bh}{w:bF}{j c:Nat}
theorem kJ.mono{rk UP:Int}{c':Nat}(h:kJ N w j c rk)(hc:c<=c')(hr:UP<=rk):kJ N w j c' UP:=⟨λh1=>⟨(h.b (by omega)).1.mono (by omega) λ_=>id,(h.b (by omega)).2⟩,λh1=>(h.a (by omega)).mono (by omega) λ_=>id,λn hn h1=>(h.l n hn (by omega)).mono (by omega) λ_=>id,h.e.mono (by omega) λ_=>id⟩
theorem kJ.TM(h:Pre N DA l8 (c+16) iO w j):kJ N w j c 0:=⟨λh=>by omega,λh=>by omega,λn _ h=>by omega,h⟩
theorem kJ.TO{m:Nat}(hm:m<10)(h:Pre N (ql m) (lvl m) (c+5+(10-m)) (gT (m+1)) w j):kJ N w j c ((m:Int)+1):=by have hl:∀n:Nat,n<10->(n:Int)+1<=(m:Int)+1->Pre N (ql n) (lvl n) (c+5+(10-n)) (gT (n+1)) w j:=λn hn h1=>by{obtain⟨d,rfl⟩:∃d,m=n+d:=⟨m-n,by omega⟩;exact S4 d hm h};exact⟨λh=>by omega,λh=>by omega,hl,acI (Mw (n:=0) (by omega) (hl 0 (by omega) (by omega)))⟩
theorem kJ.TN(h:Pre N vO l8 (c+4) (gT 10) w j):kJ N w j c 11:=by have h9:=S5 (n:=9) (by omega) (S3 h);have:=kJ.TO (m:=9) (by omega) h9;exact⟨λh=>by omega,λ_=>h,λn hn _=>this.l n hn (by omega),this.e⟩
theorem kJ.wW(h:Pre N Ax qU (c+2) tY w j)(hF:pU w):kJ N w j c 12:=by have h9:=Zy h hF;have:=kJ.TN h9;exact⟨λ_=>⟨h,hF⟩,λ_=>h9,λn hn _=>this.l n hn (by omega),this.e⟩
theorem kJ.par{rk:Int}(h:kJ N w j c rk):kJ N (par w) j (c+16) 12:= .wW (ai1 h.e) (pU.par w)
theorem kJ.at{v:Nat->bF}{lo:Int}(h:kJ N (v j) j c (e3 (nd N j)))(hl:lo<=12):kJ N (fK N v j lo) j (c+16) lo:=by unfold fK;split;·{exact h.par.mono (GT _) hl};·exact h.mono (by omega) (by omega)
end
open Go Go.Proofs Go.Ab.Tk
/-! ### What an expression begins with -/
abbrev AT:List ByteArray:=[(AC #[40]),(AC #[45]),(AC #[33]),(AC #[126]),(AC #[42]),(AC #[38]),(AC #[43,43]),(AC #[45,45])]
def xO(t:dm):Prop:=t.Kind=1∨t.Kind=2∨∃s∈AT,t=dH s
theorem xO.is{t:dm}(h:xO t){s:ByteArray}(hs:gL AT s=ci):aM t s=false:=by rcases h with h|h|⟨x,hx,rfl⟩;·{exact y6 (.inl h) s};·{exact y6 (.inr h) s};·rw[s6];cases he:x.toList==s.toList with|false=>(rfl)|true=>rw[<-lV (beq_iff_eq.1 he),MD hx]at hs;cases hs
def tV(w:bF):Prop:=∃t w',w=t::w'∧xO t
theorem xO.of{t:dm}(h:xN t):xO t:=by rcases h with h|h|rfl;·{exact .inl h};·{exact .inr (.inl h)};·exact .inr (.inr ⟨_,Hc ..,rfl⟩)
theorem tV.of{w:bF}(h:pU w):tV w:=by obtain⟨t,w',e,h⟩:=h;exact⟨t,w',e, .of h⟩
theorem tV.app{w:bF}(h:tV w)(r:bF):xO (mj (w++r))∧tV (w++r):=by obtain⟨t,w',rfl,h⟩:=h;exact⟨h,t,w'++r,rfl,h⟩
structure j9(N:bh)(w:bF)(j c:Nat)(rk:Int):Prop extends kJ N w j c rk where x:tV w
section
variable{N:bh}{w:bF}{j c:Nat}
theorem j9.at{v:Nat->bF}{lo:Int}(h:j9 N (v j) j c (e3 (nd N j)))(hl:lo<=12):j9 N (fK N v j lo) j (c+16) lo:=⟨h.1.at hl,by unfold fK;split;·{exact .of (pU.par _)};·exact h.x⟩
theorem j9.wW(h:Pre N Ax qU (c+2) tY w j)(hF:pU w):j9 N w j c 12:=⟨.wW h hF, .of hF⟩
theorem j9.Mx{rk:Int}(h:j9 N w j c rk){n:Nat}(hn:n<=10)(hr:(n:Int)+1<=rk):Pre N (ql n) l8 (c+5+(10-n)) (gT n) w j:=by by_cases e:n=10;·{subst e;exact S3 (h.a (by omega))};·exact Mw (by omega) (h.l n (by omega) hr)
end
/-! ### Kids -/
section
variable{N:bh}{a b:Nat}
theorem gS.one{x:Int}(h:gS N a [x] b):∃c:Nat,x=c∧a=e5 N c∧b=c+1:=by cases h with|cons ha h=>cases h with|nil=>exact⟨_,rfl,ha,rfl⟩
theorem gS.hd{x:Int}{ks:List Int}(h:gS N a (x::ks) b):∃c:Nat,x=c∧a=e5 N c∧gS N (c+1) ks b:=by cases h with|cons ha h=>exact⟨_,rfl,ha,h⟩
theorem gS.none(h:gS N a [] b):a=b:=by cases h;rfl
theorem yc{n:az}(h:gS N a n.Kids b)(hl:n.Kids.length=1):∃c:Nat,n.Kids=[(c:Int)]∧kd n 0=c∧a=e5 N c∧b=c+1:=by obtain⟨x,hx⟩:=List.length_eq_one_iff.1 hl;rw[hx]at h;obtain⟨c,rfl,h1,h2⟩:=h.one;exact⟨c,hx,by simp[kd,hx],h1,h2⟩
theorem AD{n:az}(h:gS N a n.Kids b)(hl:n.Kids.length=2):∃c d:Nat,n.Kids=[(c:Int),(d:Int)]∧kd n 0=c∧kd n 1=d∧a=e5 N c∧c+1=e5 N d∧b=d+1:=by obtain⟨x,y,hx⟩:∃x y,n.Kids=[x,y]:=by{match n.Kids,hl with|[x,y],_=>exact⟨x,y,rfl⟩};rw[hx]at h;obtain⟨c,rfl,h1,h2⟩:=h.hd;obtain⟨d,rfl,h3,h4⟩:=h2.one;exact⟨c,d,hx,by simp[kd,hx],by simp[kd,hx],h1,h3,h4⟩
theorem Qt{n:az}(h:gS N a n.Kids b)(hl:n.Kids.length=3):∃c d f:Nat,n.Kids=[(c:Int),(d:Int),(f:Int)]∧kd n 0=c∧kd n 1=d∧kd n 2=f∧a=e5 N c∧c+1=e5 N d∧d+1=e5 N f∧b=f+1:=by obtain⟨x,y,z,hx⟩:∃x y z,n.Kids=[x,y,z]:=by{match n.Kids,hl with|[x,y,z],_=>exact⟨x,y,z,rfl⟩};rw[hx]at h;obtain⟨c,rfl,h1,h2⟩:=h.hd;obtain⟨d,rfl,h3,h4⟩:=h2.hd;obtain⟨f,rfl,h5,h6⟩:=h4.one;exact⟨c,d,f,hx,by simp[kd,hx],by simp[kd,hx],by simp[kd,hx],h1,h3,h5,h6⟩
end
theorem iE.size{n:az}(F:iE n)(h:n.Kind≠2):n.e9=0:=by have:=F.num;unfold iT at this;have e:(n.Kind==2)=false:=by{simpa using h};simp only[e,Hb,Do,if_false]at this;cases hz:n.e9 !=0 with|true=>(rw[hz]at this;simp at this)|false=>simpa using hz
theorem iE.n0{n:az}(F:iE n)(h:n.Kind≠2∧n.Kind≠3∧n.Kind≠4∧n.Kind≠12∧n.Kind≠31∧n.Kind≠40):n.N=0:=by have hz:=F.size h.1;have:=F.num;unfold iT at this;obtain⟨h1,h2,h3,h4,h5,h6⟩:=h;have e1:(n.Kind==2)=false:=by{simpa using h1};have e2:(n.Kind==3)=false:=by{simpa using h2};have bn:(n.Kind==4)=false:=by{simpa using h3};have c4:(n.Kind==12)=false:=by{simpa using h4};have fU:(n.Kind==31)=false:=by{simpa using h5};have kn:(n.Kind==40)=false:=by{simpa using h6};rw[hz]at this;simp only[e1,e2,bn,c4,fU,kn,Hb,Bool.or_self,Do,if_false]at this;simpa using this
theorem iE.k0{n:az}(F:iE n)(e:n.Kind=4∨n.Kind=20∨n.Kind=21∨n.Kind=22∨n.Kind=24∨n.Kind=31∨n.Kind=32):n.Kids=[]:=by have:=F.cnt;unfold l5 gY at this;rcases e with e|e|e|e|e|e|e<;>rw[e]at this<;>simp at this<;>first|exact this|exact List.length_eq_zero_iff.1 (by omega)
theorem iE.oh{n:az}(F:iE n)(h:tf n.Kind=ci)(h2:n.Kind≠35∧n.Kind≠36∧n.Kind≠37∧n.Kind≠39∧n.Kind≠40):n.Text=AC #[]:=by have:=F.sign h;unfold tJ at this;obtain⟨h1,h2,h3,h4,h5⟩:=h2;have e1:(n.Kind==35)=false:=by{simpa using h1};have e2:(n.Kind==36)=false:=by{simpa using h2};have bn:(n.Kind==37)=false:=by{simpa using h3};have c4:(n.Kind==39)=false:=by{simpa using h4};have fU:(n.Kind==40)=false:=by{simpa using h5};rw[e1,e2,bn,c4,fU]at this;simp only[Do,if_false]at this;exact lV (beq_iff_eq.1 this)
/-! ### Lists -/
def qY:List bF->bF|[]=>[]|w::l=>ax #[44]::sep (w::l)
theorem IK(w:bF):∀l:List bF,sep (w::l)=w++qY l|[]=>by{simp[sep,qY]}|_::_=>rfl
theorem S7{N:bh}{f:Nat}{kP:ByteArray}{e:Int}{r:bF}(he:0<=e)(h1:aM (dH kP) kP=bv)(h2:aM (ax #[44]) kP=ci)(h3:MX kP=bv)(h4:gL AT kP=ci):∀(ks:List Int)(a b:Nat),gS N a ks b->∀(fst:Bool)(out:List Int)(A:bh)(l:List dm),(∀x∈ks,Pre N DA l8 f iO (bT N x.toNat) x.toNat∧tV (bT N x.toNat))->Lk A (N.take a)->bB l ((if fst=bv then sep (ks.map λx=>bT N x.toNat)else qY (ks.map λx=>bT N x.toNat))++dH kP::r)->out.length+ks.length<=1000000->∃A' l',Loop (λ(s:(Bool×(List aO)×Int×(List az)×(List Int)))=>tr (cm.at f) kP s.1 s.2.1 s.2.2.1 s.2.2.2.1 s.2.2.2.2) (fst,l,e,A,out)=ac (.dh (l',e,A',out++ks))∧Lk A' (N.take b)∧bB l' r:=by intro ks;induction ks with|nil=>(intro a b hc fst out A l _ hL hT _;obtain rfl:=hc.none;have jh:bB l (dH kP::r):=by{cases fst<;>simpa[sep,qY]using hT};refine⟨A,l.tail, ?_,hL,jh.tail⟩;have hi:aM (ay l e) kP=true:=by{rw[jh.is];exact h1};rw[fP];unfold tr;simp only[ey,hi,if_true,A0,If,Do,if_false,List.append_nil])|cons x ks ih=>intro a b hc fst out A l hX hL hT ho;obtain⟨c,rfl,ha,kC⟩:=hc.hd;obtain⟨hP,hF⟩:=hX _ (Hc ..);rw[Hk]at hP hF;rw[Hn]at ho;have rest:∀l,bB l (bT N c++(qY (ks.map λx=>bT N x.toNat)++dH kP::r))->∃x A' l',vf (cm.at f) out l e A=ac (.next x)∧Loop (λ(s:(Bool×(List aO)×Int×(List az)×(List Int)))=>tr (cm.at f) kP s.1 s.2.1 s.2.2.1 s.2.2.2.1 s.2.2.2.2) x=ac (.dh (l',e,A',out++(c:Int)::ks))∧Lk A' (N.take b)∧bB l' r:=by{intro l hT;have hn:iO (mj (qY (ks.map λx=>bT N x.toNat)++dH kP::r)):=by{cases ks with|nil=>(exact iO.ax h3)|cons y ks=>exact iO.ax (s:=AC #[44]) (by decide+kernel)};obtain⟨A1,l1,q1,aT,bu⟩:=hP A l e _ f (GT _) (by rw[<-ha];exact hL) hT he hn;obtain⟨eE,l2,g1,g2,g3⟩:=ih (c+1) b kC ci (out++[(c:Int)]) A1 l1 (λy hy=>hX y (H2 _ hy)) aT bu (by rw[Hm];simp;omega);refine⟨_,eE,l2, ?_,by rw[g1];simp,g2,g3⟩;have j3:(cm.at f).cD (aN A l e)=ac (.ok ((c:Int),aN A1 l1 e)):=q1;unfold vf;rw[j3,A0];simp only[au.on];rw[ox (by simp;omega),A0]};cases fst with|true=>(rw[if_pos rfl,GE,Hk,IK,Ix]at hT;have hi:aM (ay l e) kP=false:=by{rw[hT.is];exact(hF.app _).1.is h4};have st:tr (cm.at f) kP bv l e A out=vf (cm.at f) out l e A:=by{unfold tr;simp only[ey,A0,hi,Do,if_false,Kd,If,if_true]};obtain⟨x,A',l',bw,z2,z3⟩:=rest l hT;rw[fP,st,bw];exact⟨A',l',z2,z3⟩)|false=>rw[if_neg (by simp),GE,Hk,qY,IK,List.cons_append,Ix]at hT;have hi:aM (ay l e) kP=false:=by{rw[hT.is];exact h2};have hm:aM (ay l e) (AC #[44])=true:=by{rw[hT.is];exact(by decide+kernel:aM (ax #[44]) (AC #[44])=bv)};have st:tr (cm.at f) kP ci l e A out=vf (cm.at f) out l.tail e A:=by{unfold tr;simp only[ey,A0,hi,Do,if_false,Kd,if_true,hG hm,au.on]};obtain⟨x,A',l',bw,z2,z3⟩:=rest l.tail hT.tail;rw[fP,st,bw];exact⟨A',l',z2,z3⟩
end Go.Ab
