import Derived.Test.YtkmdadjmdgonbaaGreatDoorAbV7
import Derived.WalkKit
import Derived.ProofKit
import Derived.OpenShut
import Derived.Deep.DeepHandedRow
open Bool renaming true->bv,false->ci
open Option renaming some->ac,none->am
open Bool renaming and_eq_true->AC
open List renaming length_map->GE,all_cons->GT,mem_map_of_mem->Hc
open List.cons renaming injEq->Hb
open Nat renaming beq->A0,lt_or_ge->Ha
open Option.some renaming injEq->Do
set_option linter.all false
namespace Go.Ab
open Go
theorem ajF{P:Program}{T e:TypeId}{x y:Operand}{a:Option Addr}{l c:Nat}(hu:P.underlying T=ac (.slice e)):dA P (do eqGuard .eql T x y (.slice a l c) (.slice am 0 0);binOp .eql T (.slice a l c) (.slice am 0 0))=ac (.bool a.isNone):=by have e:(do eqGuard .eql T x y (.slice a l c) (.slice am 0 0);binOp .eql T (.slice a l c) (.slice am 0 0))=(do pure (.bool (<-Op.equal T (.slice a l c) (.slice am 0 0))):Sem Value):=rfl;rw[e,iY];unfold Op.equal Op.maxDepth;have:∀d,dA P (Op.equalIn (d+1) T (.slice a l c) (.slice am 0 0))=ac a.isNone:=λd=>by{cases a<;>simp[Op.equalIn,iY,pO hu,pN]};rw[this 9999];rfl
def AE(m:Nat):List U->Option (U×List U)|[.sl rows]=>if(rows.all λr=>decide (r.length=m)&&r.all U.cell&&fE r&&dw r)&&decide (rows.length<=4294967296)then ac (.own rows rows.length,[])else am|_=>am
def clone{α:Type}(l:List α):Option (List α):=if l.length<=4294967296 then ac l else am
theorem abu{α:Type}{l r:List α}(h:clone l=ac r):l.length<=4294967296∧r=l:=by unfold clone at h;split at h;·{exact⟨‹_›,by simpa using h.symm⟩};·cases h
theorem abh{α:Type}{c:α->List U}{m:Nat}[hc:tW c][hf:oT c]{l r:List α}(h:clone l=ac r)(hl:∀x,(c x).length=m:=by exact λ_=>rfl):AE m [.sl (l.map c)]=ac (.own (r.map c) r.length,[]):=by obtain⟨h1,rfl⟩:=abu h;rw[show r.length=(r.map c).length by simp];show(if _ then _ else _)=_;rw[if_pos (by simp only[AC,decide_eq_true_eq,GE];refine⟨?_,h1⟩;simp only[List.all_map,List.all_eq_true,Function.comp,AC,decide_eq_true_eq];intro x _;refine⟨⟨⟨hl x, ?_⟩,hc.im x⟩,hf.fl x⟩;exact λy hy=>List.all_eq_true.1 (hc.ce x) y hy)]
def gj(m:Nat):Type:={r:List U//(decide (r.length=m)&&r.all U.cell&&fE r&&dw r)=bv}
def gj.v{m:Nat}(r:gj m):List U:=r.1
theorem GP{m:Nat}(r:gj m):r.v.length=m∧r.v.all U.cell=bv∧fE r.v=bv∧dw r.v=true:=by have:=r.2;simp only[AC,decide_eq_true_eq]at this;exact⟨this.1.1.1,this.1.1.2,this.1.2,this.2⟩
instance{m:Nat}:oT (gj.v (m:=m)):=⟨λr=>(GP r).2.2.2⟩
instance{m:Nat}:tW (gj.v (m:=m)):=⟨λr=>(GP r).2.2.1,λr=>(GP r).2.1⟩
theorem Vg{w:World}{I:Nat->Prop}{β:Id->Option Loc}{v:Value}{α:Type}{c:α->List U}{q:List α}{f:List Nat}(h:R w I β f v (.sl (q.map c))):∃a l k,v= .slice a l k∧(a=am->q=[]):=by generalize hx:U.sl (q.map c)=x at h;cases h with|hJ=>(exact⟨_,_,_,rfl,λ_=>by simpa using hx⟩)|sl=>(exact⟨_,_,_,rfl,λh=>by cases h⟩)|_=>cases hx
section
variable{C:aH}{f:FuncId}{fn:Func}{T e t1 t2:TypeId}{m:Nat}{bb:Bool}{gR:List U}{gy p1 p2 p3 lM ob ER ES:String}{f0 f1 f2 f3 f4 f5 f6 f7:Array Edge}{E:Env}
def u5:Operand:= .const (.slice am 0 0)
theorem abv [hu:eM C T (.slice e)][tT C e m][lz C e gR][ek C e bb m](h0:(decide (0<m)&&decide (m=gR.length)&&decide (0*m<=1000))=bv)(hN:ke C)(hw:C.P.follows .mixedOrders=bv)(Be:∀f i,iF (C.live f i))(nu:tU C)(hc0:∀i,C.jF f i=am)(Ln:∀i,C.kz f i=[])(Lm:∀i,C.jy f i=[])(hca:∀i,C.l9 f i=[])(LR:∀i,C.mP f i=ci)(aeB:∀i,C.GQ f i=am)(hfz:C.gu f=[])(hle:C.dR f=[])(hf:C.P.funcs[f]? =ac fn)(hn:fn.ntmps=8)(hres:fn.results.toList=[.tmp 2])(hb:fn.body=ac (.seq (.region 0 ⟨[⟨ac 2, .assign u5,T,gy,f0,am⟩]⟩ ci) (.seq (.seq (.region 1 ⟨[⟨ac 3, .move (.tmp 0),T,p1,f1,am⟩,⟨ac 4, .binOp .eql T (.tmp 3) u5 T,t1,p2,f2,am⟩]⟩ ci) (.cond (.tmp 4) (.seq (.region 2 ⟨[⟨ac 2, .assign u5,T,p3,f3,am⟩]⟩ ci) .ret) .skip)) (.seq (.region 3 ⟨[⟨ac 5, .buildSlice T 0 ⟨[]⟩,T,lM,f4,am⟩,⟨ac 6, .move (.tmp 0),T,ob,f5,am⟩,⟨ac 7, .call ⟨.builtin .append,⟨[.tmp 5, .tmp 6]⟩,⟨[T,T]⟩⟩,t2,ER,f6,am⟩,⟨ac 2, .assign (.tmp 7),T,ES,f7,am⟩]⟩ ci) .ret)))){g:List U->Option (U×List U)}(hg:g=AE m){args:List U}{r:U×List U}(hr:g args=ac r)(hit:∀k it,C.iter k=ac it->Af C k it:=by intro k it h;cases h):oY C f args r:=by subst hg;unfold AE at hr;split at hr;(case h_2=>cases hr);rename_i rows;split at hr;(case isFalse=>cases hr);rename_i hall;simp only[Do]at hr;subst hr;simp only[AC,decide_eq_true_eq]at hall;obtain⟨hall,hlen⟩:=hall;obtain⟨q,rfl⟩:∃q:List (gj m),rows=q.map gj.v:=by{refine⟨rows.attachWith _ (λr hr=>List.all_eq_true.1 hall r hr), ?_⟩;exact(List.attachWith_map_subtype_val _).symm};rw[show(q.map gj.v).length=q.length from GE _];intro w dr fp vs hargs hnd hI iz yL;refine .inl ⟨fn,_,hf,hb, ?_⟩;refine(callsIn_wide (n:=0)).1 (callsIn_of_wp_marks hf hb trivial (wpIn_wide.2 ?_));obtain⟨v,rfl⟩:∃v,vs=[v]:=by{have:=hargs.length;match vs,this with|[v],_=>exact⟨v,rfl⟩};have hv:∃a l c,v= .slice a l c∧(a=am->q=[]):=by{obtain⟨f1,f2,v',vs',rfl,e,k1,k2⟩:=aB.cons_inv hargs;simp only[Hb]at e;obtain⟨rfl,_⟩:=e;exact Vg k1};obtain⟨ad,l,Kb,rfl,D8⟩:=hv;let E:Env:={w0:=w,jD:=(·∈fp),dr:=dr,m:=w.heap.size,le:=Nat.le_refl _};have Hu:bW C E (bp fn.ntmps [0] [.sl (q.map gj.v)]) {tmps:=⟨[.slice ad l Kb]⟩++Array.replicate (fn.ntmps-(⟨[.slice ad l Kb]⟩:Array Value).size) undef,defers:=[]} w:=by{refine aW.enter (I:=dr) (f:=fp) ?_ (nP.nil (d0:=[])) ?_ (by simp) hnd (λb hb=>⟨.inl hb,hI b hb⟩) (λb hb=>⟨iz b hb, .inl hb⟩) (Kept.refl w _) yL (λ_ _ _ h=>h) (λ_ _ _ h=>h);·{simp[hn]};·simpa[hn]using hargs};rw[show bp fn.ntmps [0] [.sl (q.map gj.v)]=⟨8,av (λ_=> .aS) 0 (.sl (q.map gj.v)),λ_=>am⟩by rw[hn];rfl]at Hu;have hkeep:∀ops,Es (C.dR f) ops=true:=λops=>by{simp[Es,hle]};have dj:∀(k:FuncId)(as:List U)(r:U×List U),(λ_ _=>am:gB) k as=ac r->Sound C k as r:=λ_ _ _ h=>by{cases h};have go:∀(c:Code)(S:ai)(x:Exit×ai)(a:Act)(w':World)(Q:Exit->Act->World->Prop),qt C f c=bv->cT C f (λ_ _=>am) lH c S=ac x->bW C E S a w'->(∀a' w'',bW C E x.2 a' w''->Q x.1 a' w'')->c.wp C.P Q a w':=λc S x a w' Q h1 h2 h3 h4=>wpIn_wide.1 (EO hN hw Be nu dj hit Ez c am E (C.dR f) (λj=>a.tmps.getD j undef) S x.1 x.2 a w' Q (.inl rfl) (by simp only[qt,AC]at h1;exact h1.1.1) (by simp only[qt,AC]at h1;exact h1.1.2) h2 h3 (λj hj=>rfl) λa' w'' hx _=>h4 a' w'' hx);have cJ:∀a' w' S',finish C fn (C.dR f) [.sl (q.map gj.v)] S'=ac (.own (q.map gj.v) q.length,[])->bW C E S' a' w'->LeavesInM Fence.wide 0 C.P fn a'.tmps (λe w'=>∃v,e= .returned v∧Ai w fp dr (Ex (C.dR f) [.slice ad l Kb]) (.own (q.map gj.v) q.length,[]) v w') a'.defers .returning w':=by{rintro a' w' S' hx⟨β,F,hS⟩;refine agP hx (Nat.le_refl _) hS rfl λw2 v hk2 e1⟨I',fr,g1,g2,g3,g4⟩=> ?_;rw[hle]at g1|-;exact⟨v,rfl,hk2,I',fr,g1,g2,g3,g4⟩};have hfr:∀{S':ai},Fin C [.tmp 2] [] (.own (q.map gj.v) q.length) [] (.ret,S')->finish C fn (C.dR f) [.sl (q.map gj.v)] S'=ac (.own (q.map gj.v) q.length,[]):=by{rintro S'⟨_,vs,ids,is,k1,k2,dZ,jY⟩;unfold finish;rw[hres,hle,k1,k2];simp only[dZ,if_true];cases vs with|nil=>(simp[wX]at jY)|cons v vs=>cases vs with|nil=>(simp only[wX]at jY;rw[jY])|cons _ _=>simp[wX]at jY};refine wp_seq ?_;obtain⟨x0,DW,hx0⟩:W C f (λ_ _=>am) (.region 0 ⟨[⟨ac 2, .assign u5,T,gy,f0,am⟩]⟩ ci) ⟨8,av (λ_=> .aS) 0 (.sl (q.map gj.v)),λ_=>am⟩ (λx=>x=(.normal,⟨8,av (av (λ_=> .aS) 0 (.sl (q.map gj.v))) 2 .cg,λ_=>am⟩)):=rg (pp af<|nl rfl) (hc0 0) (Ln 0) (Lm 0) (hca 0) (LR 0);subst hx0;refine go _ _ _ _ _ _ (by simp[qt,jm,okW,qi,hkeep]) DW Hu λa1 w1 h1=> ?_;show Code.wp C.P _ _ _ _;refine wp_seq (wp_seq (wp_region ?_));show wpOps C.P _ _ [0,1] _ _;obtain⟨fB,CP,h1⟩:=h1;refine .inl (Nh (f:=f) hN dj h1 (e:=⟨[(3, .sl (q.map gj.v))],[],[]⟩) rfl rfl λa2 w2 h2=> ?_);obtain⟨dc,hU,h2⟩:=h2;have hs:=h2.e7 (.tmp 3);obtain⟨JE,l2,anU,L6,afe⟩:∃a l c,a2.eval (.tmp 3)= .slice a l c∧(a=am->q=[]):=by{have hs:R w2 (aU E w2 hU) dc [] (a2.eval (.tmp 3)) (.sl (q.map gj.v)):=hs;exact Vg hs};refine .inl (gF (x:= .val (.bool JE.isNone)) (rd:=[]) h2 (s:=do eqGuard .eql T (.tmp 3) u5 (a2.eval (.tmp 3)) (a2.eval u5);binOp .eql T (a2.eval (.tmp 3)) (a2.eval u5)) rfl (by simp[execOp]) (by rw[L6];exact vq (ajF hu.ul)) (.val rfl) λa3 w3 h3=> ?_);show Code.wp C.P _ _ _ _;have wj:bW C E ⟨8,av (av (av (av (λ_=> .aS) 0 (.sl (q.map gj.v))) 2 .cg) 3 (.sl (q.map gj.v))) 4 (.val (.bool JE.isNone)),λ_=>am⟩ a3 w3:=h3;cases rC:JE.isNone with|true=>(have hq:=afe (by simpa using rC);rw[rC]at wj;obtain⟨x1,A8,hx1⟩:W C f (λ_ _=>am) (.cond (.tmp 4) (.seq (.region 2 ⟨[⟨ac 2, .assign u5,T,p3,f3,am⟩]⟩ ci) .ret) .skip) ⟨8,av (av (av (av (λ_=> .aS) 0 (.sl (q.map gj.v))) 2 .cg) 3 (.sl (q.map gj.v))) 4 (.val (.bool bv)),λ_=>am⟩ (λx=>Fin C [.tmp 2] [] (.own (q.map gj.v) q.length) [] x∧x.1= .ret):=aaT (ag (pp af<|nl<|rt ⟨by subst hq;exact fin,rfl⟩) (hc0 2) (Ln 2) (Lm 2) (hca 2) rfl (LR 2));obtain⟨e1,bJ⟩:=x1;obtain⟨hx1,rfl⟩:=hx1;refine go _ _ _ _ _ _ (by simp[qt,jm,okW,qi,hkeep]) A8 wj λa4 qK h4=> ?_;exact cJ _ _ _ (hfr hx1) h4)|false=>rw[rC]at wj;obtain⟨x1,A8,hx1⟩:W C f (λ_ _=>am) (.cond (.tmp 4) (.seq (.region 2 ⟨[⟨ac 2, .assign u5,T,p3,f3,am⟩]⟩ ci) .ret) .skip) ⟨8,av (av (av (av (λ_=> .aS) 0 (.sl (q.map gj.v))) 2 .cg) 3 (.sl (q.map gj.v))) 4 (.val (.bool ci)),λ_=>am⟩ (λx=>x=(.normal,⟨8,av (av (av (av (λ_=> .aS) 0 (.sl (q.map gj.v))) 2 .cg) 3 (.sl (q.map gj.v))) 4 (.val (.bool ci)),λ_=>am⟩)):=aaS (sk rfl);subst hx1;refine go _ _ _ _ _ _ (by simp[qt,jm,okW,qi,hkeep]) A8 wj λa4 qK h4=> ?_;show Code.wp C.P _ _ _ _;have hlen':app [] q=ac q:=by{unfold app;rw[if_pos (by simpa using hlen)];rfl};obtain⟨x2,wv,hx2⟩:W C f (λ_ _=>am) (.seq (.region 3 ⟨[⟨ac 5, .buildSlice T 0 ⟨[]⟩,T,lM,f4,am⟩,⟨ac 6, .move (.tmp 0),T,ob,f5,am⟩,⟨ac 7, .call ⟨.builtin .append,⟨[.tmp 5, .tmp 6]⟩,⟨[T,T]⟩⟩,t2,ER,f6,am⟩,⟨ac 2, .assign (.tmp 7),T,ES,f7,am⟩]⟩ ci) .ret) ⟨8,av (av (av (av (λ_=> .aS) 0 (.sl (q.map gj.v))) 2 .cg) 3 (.sl (q.map gj.v))) 4 (.val (.bool ci)),λ_=>am⟩ (λx=>Fin C [.tmp 2] [] (.own (q.map gj.v) q.length) [] x∧x.1= .ret):=by{refine ag (ww (EJ (bQ:=[]) (hin:=by rw[hfz];rfl) (h0:=h0) (hq:=Up) (hf:=rfl) (hs:=rfl))<|pp aa<|ww (mo (c:=gj.v) (q:=[]) hlen' (hl:=λx=>(GP x).1) (hcell:=NL) (hfz:=by rw[hfz];rfl))<|pp af<|nl<|rt ⟨fin,rfl⟩) (hc0 3) (Ln 3) (Lm 3) (hca 3) rfl (LR 3)};obtain⟨e2,bZ⟩:=x2;obtain⟨hx2,rfl⟩:=hx2;refine go _ _ _ _ _ _ (by simp[qt,jm,okW,qi,hkeep]) wv h4 λa5 CG h5=> ?_;exact cJ _ _ _ (hfr hx2) h5
end
open Go
inductive iN(α:Type)where|l(v:α)|o(k:Nat)(v w:α)|n(k:Nat)(a b:iN α)
def iN.get{α:Type}:iN α->Nat->α| .l v,_=>v| .o k v w,i=>bif A0 i k then v else w| .n k a b,i=>bif Nat.blt i k then a.get i else b.get i
def iN.all{α:Type}(p:α->Bool):iN α->Bool| .l v=>p v| .o _ v w=>p v&&p w| .n _ a b=>a.all p&&b.all p
theorem iN.An{α:Type}{p:α->Bool}:∀(t:iN α),t.all p=bv->∀i,p (t.get i)=bv| .l v,h,i=>h| .o k v w,h,i=>by{simp only[iN.all,AC]at h;simp only[iN.get];cases A0 i k;·{exact h.2};·exact h.1}| .n k a b,h,i=>by simp only[iN.all,AC]at h;simp only[iN.get];cases Nat.blt i k;·{exact An b h.2 i};·exact An a h.1 i
def look{α:Type}:List (Nat×α)->Nat->α->α|[],_,d=>d|(k,v)::l,j,d=>bif A0 j k then v else look l j d
def BC{α:Type}:List (Nat×α)->Nat->Option α|[],_=>am|(k,v)::l,j=>bif A0 j k then ac v else BC l j
def JG(l:List (Nat×List Nat)):Bool:=l.all λx=>decide x.2.Nodup&& !x.2.contains iS
def C6(l:List (Nat×Bool×List Nat)):Bool:=l.all λx=>decide x.2.2.Nodup&& !x.2.2.contains iS
theorem Vk{v:List Nat}(h:v.Nodup∧(!v.contains iS)=bv):iF v:=⟨h.1,by simpa using h.2⟩
theorem ag1{l:List (Nat×List Nat)}(h:JG l=bv)(i:Nat):iF (look l i []):=by induction l with|nil=>(exact iF.nil)|cons x l ih=>simp only[JG,GT,AC,decide_eq_true_eq]at h;obtain⟨k,v⟩:=x;simp only[look];cases A0 i k;·{exact ih h.2};·exact Vk h.1
theorem MA{l:List (Nat×Bool×List Nat)}(h:C6 l=bv){i:Nat}{b:Bool}{s:List Nat}(e:BC l i=ac (b,s)):iF s:=by induction l with|nil=>(cases e)|cons x l ih=>simp only[C6,GT,AC,decide_eq_true_eq]at h;obtain⟨k,v⟩:=x;simp only[BC]at e;cases hb:A0 i k;·{rw[hb]at e;exact ih h.2 e};·rw[hb]at e;simp only[cond_true,Do]at e;subst e;exact Vk h.1
open Go Go.ChangeShapes Go.WideShapes Go.ChangeAt Go.RowKit
def EN(P:Program):Nat->List Field->Nat->Bool|o,[],tot=>o==tot|o,f::fs,tot=>f.offset==o&&EN P (o+P.cellsOf f.type) fs tot
def vl(P:Program):Nat->TypeId->Bool|0,_=>ci|n+1,t=>match P.underlying t with|some .bool=>P.cellsOf t==1|some (.int _)=>P.cellsOf t==1|some .string=>P.cellsOf t==1|some (.slice e)=>P.cellsOf t==1&&(decide (0<P.cellsOf e)&&vl P n e)|some (.struct fs)=>EN P 0 fs.toList (P.cellsOf t)&&fs.toList.all λf=>vl P n f.type|_=>ci
mutual inductive jE(P:Program)(B:Nat):TypeId->List U->Prop|bool{t:TypeId}{b:Bool}:P.underlying t=ac .bool->jE P B t [.val (.bool b)]|int{t:TypeId}{k:IntKind}{n:Int}:P.underlying t=ac (.int k)->(Lit.int k n).wf=bv->jE P B t [.val (.int k n)]|str{t:TypeId}{s:ByteArray}:P.underlying t=ac .string->s.size<=B->jE P B t [.val (.string s)]|sl{t e:TypeId}{rows:Rows}:P.underlying t=ac (.slice e)->rows.length<=B->sv P B e rows->jE P B t [.sl rows]|st{t:TypeId}{fs:Array Field}{cells:List U}:P.underlying t=ac (.struct fs)->ue P B fs.toList cells->jE P B t cells inductive ue(P:Program)(B:Nat):List Field->List U->Prop|nil:ue P B [] []|cons{f:Field}{fs:List Field}{a b:List U}:jE P B f.type a->ue P B fs b->ue P B (f::fs) (a++b)inductive sv(P:Program)(B:Nat):TypeId->Rows->Prop|nil{e:TypeId}:sv P B e []|cons{e:TypeId}{r:List U}{rs:Rows}:jE P B e r->sv P B e rs->sv P B e (r::rs)end
mutual def bk{H:Type}:DataW H->Nat| .lit (.string bytes)=>bytes.length+1| .lit _=>1| .nil=>1| .ptr d=>bk d+1| .slice elems spare=>uo elems+uo spare+1| .agg parts=>uo parts+1| .iface _ d=>bk d+1| .map entries=>Qb entries+1| .held _=>1 def uo{H:Type}:List (DataW H)->Nat|[]=>0|d::r=>bk d+uo r def Qb{H:Type}:List (Lit×DataW H)->Nat|[]=>0|x::r=>aaf x+Qb r def aaf{H:Type}:Lit×DataW H->Nat|(.string bytes,d)=>bytes.length+bk d+1|(_,d)=>bk d+1 end
theorem aah{H:Type}(d:DataW H):1<=bk d:=by cases d with|lit l=>(cases l<;>simp[bk])|_=>simp[bk]
theorem Qc{H:Type}{d:DataW H}{l:List (DataW H)}(h:d∈l):bk d<=uo l:=by induction l with|nil=>(cases h)|cons x r ih=>simp only[uo];cases List.mem_cons.1 h with|inl e=>(subst e;omega)|inr e=>have:=ih e;omega
theorem aag{H:Type}(l:List (DataW H)):l.length<=uo l:=by induction l with|nil=>(simp[uo])|cons x r ih=>have:=aah x;simp only[uo,List.length_cons];omega
def Small{H:Type}(B:Nat)(d:DataW H):Prop:=B=maxLen∨bk d<=B
theorem sv.snoc{P:Program}{B:Nat}{e:TypeId}:∀{rs:Rows}{r:List U},sv P B e rs->jE P B e r->sv P B e (rs++[r])|[],_,_,h=> .cons h .nil|_::_,_, .cons h1 h2,h=> .cons h1 (sv.snoc h2 h)
section
variable{H:Type}{enc:TypeId×Value->H}{P:Program}{w:World}{base:Nat}{spare:Nat->Bool}{held:Bool}{B:Nat}
theorem Qq{a:Addr}{n:Nat}{cs:List Value}(h:w.cells? base a n=ac cs):cs.length=n∧∀(i:Nat)v,cs[i]? =ac v->w.cell? (a.add i)=ac v:=by obtain⟨h1,h2,h3⟩:=World.cells?_some h;refine⟨h2,λi v hv=> ?_⟩;have hi:i<n:=by{rcases Ha i n with hi|hi;·{exact hi};·rw[List.getElem?_eq_none (by omega)]at hv;cases hv};rw[h3 i hi,hv]
theorem amx{n:Nat}(ih:∀(t:TypeId)(cs:List Value)(x:DataW H×List MemPlace),vl P n t=bv->∀fuel,DataW.trod enc P w base spare held fuel t cs=ac x->Small B x.1->cs.length=P.cellsOf t∧∃cells,aB w (·<w.heap.size) cr [] cs cells∧jE P B t cells){fuel:Nat}{cs:List Value}:∀(fs:List Field)(o:Nat)(xs:List (DataW H×List MemPlace)),EN P o fs cs.length=bv->(fs.all λf=>vl P n f.type)=bv->fs.mapM (λf=>DataW.trod enc P w base spare held fuel f.type ((cs.drop f.offset).take (P.cellsOf f.type)))=ac xs->(∀y∈xs,Small B y.1)->∃cells,aB w (·<w.heap.size) cr [] (cs.drop o) cells∧ue P B fs cells:=by intro fs;induction fs with|nil=>(intro o xs ho _ _ _;simp only[EN,beq_iff_eq]at ho;exact⟨[],by rw[List.drop_of_length_le (by omega)];exact .nil, .nil⟩)|cons f fs afQ=>intro o xs ho hp hm hB;simp only[EN,AC,beq_iff_eq]at ho;simp only[GT,AC]at hp;simp only[List.mapM_cons,Option.bind_eq_bind,Option.bind_eq_some_iff]at hm;obtain⟨x,hx,xs',hxs,Mb⟩:=hm;obtain rfl:x::xs'=xs:=by{simpa using Mb};obtain⟨hl,c1,h1,h2⟩:=ih _ _ _ hp.1 fuel hx (hB _ (List.mem_cons_self ..));obtain⟨c2,h3,h4⟩:=afQ _ _ ho.2 hp.2 hxs λy hy=>hB y (List.mem_cons_of_mem _ hy);rw[ho.1]at h1;refine⟨c1++c2, ?_, .cons h2 h4⟩;have:=aB.append h1 h3;rw[<-List.drop_drop,List.take_append_drop]at this;exact this
theorem akl{e:TypeId}(ih:∀(cs:List Value)(x:DataW H×List MemPlace),∀fuel,DataW.trod enc P w base spare held fuel e cs=ac x->Small B x.1->cs.length=P.cellsOf e∧∃cells,aB w (·<w.heap.size) cr [] cs cells∧jE P B e cells)(h0:0<P.cellsOf e){fuel:Nat}{a:Addr}:∀(len:Nat),(∀i,i<len->∃x,(w.cells? base (a.add (i*P.cellsOf e)) (P.cellsOf e)).bind (DataW.trod enc P w base spare held fuel e)=ac x∧Small B x.1)->∃(vs:List Value)(rows:Rows),vs.length=len*P.cellsOf e∧rows.length=len∧(∀r∈rows,r.length=P.cellsOf e)∧(∀k v,vs[k]? =ac v->w.cell? (a.add k)=ac v)∧aB w (·<w.heap.size) cr [] vs rows.flatten∧sv P B e rows:=by intro len;induction len with|zero=>(intro _;exact⟨[],[],by simp,rfl,by simp,by simp, .nil, .nil⟩)|succ len ihl=>intro hel;obtain⟨vs,rows,h1,h2,h3,h4,h5,h6⟩:=ihl λi hi=>hel i (by omega);obtain⟨x,hx,afE⟩:=hel len (by omega);obtain⟨us,hu,ht⟩:=Option.bind_eq_some_iff.1 hx;obtain⟨g1,g2⟩:=Qq hu;obtain⟨k1,cells,k2,dZ⟩:=ih _ _ fuel ht afE;refine⟨vs++us,rows++[cells],by simp[h1,g1,Nat.succ_mul],by simp[h2],λr hr=> ?_,λk v hk=> ?_, ?_,h6.snoc dZ⟩;·{rcases List.mem_append.1 hr with hr|hr;·{exact h3 r hr};·simp at hr;subst hr;rw[<-k2.length,g1]};·{rcases Ha k vs.length with hlt|hge;·{rw[List.getElem?_append_left hlt]at hk;exact h4 k v hk};·rw[List.getElem?_append_right hge]at hk;have:=g2 _ v hk;have e:(a.add (len*P.cellsOf e)).add (k-vs.length)=a.add k:=by{unfold Addr.add;by_cases hk0:k=0;·{subst hk0;have:vs.length=0:=by{omega};have:len*P.cellsOf e=0:=by{omega};simp[this]};·by_cases hd:k-vs.length=0;·{have:len*P.cellsOf e=k:=by{omega};simp[hd,this]};·by_cases hl:len*P.cellsOf e=0;·{simp[hl,hd,hk0];omega};·simp[hl,hd,hk0];omega};rw[e]at this;exact this};·rw[List.flatten_append];simpa using aB.append h5 k2
theorem amo:∀(n:Nat)(t:TypeId)(cs:List Value)(x:DataW H×List MemPlace),vl P n t=bv->∀fuel,DataW.trod enc P w base spare held fuel t cs=ac x->Small B x.1->
  cs.length=P.cellsOf t∧∃cells,aB w (·<w.heap.size) cr [] cs cells∧jE P B t cells:=by
 intro n
 induction n with
 |zero=>intro t cs x h;simp[vl]at h
 |succ n ih=>
  intro t cs x hp fuel h hB
  cases fuel with
  |zero=>simp[DataW.trod]at h
  |succ fuel=>
   unfold vl at hp
   split at hp
   ·rename_i hu
    simp only[DataW.trod,hu]at h
    simp only[beq_iff_eq]at hp
    split at h<;>first|(simp_all;done)|skip
    rename_i b _ _
    exact⟨by simp[hp],_, .cons (.val rfl) .nil, .bool hu⟩
   ·rename_i k hu
    simp only[DataW.trod,hu]at h
    simp only[beq_iff_eq]at hp
    split at h<;>first|(simp_all;done)|skip
    rename_i k1 k2 m hk
    simp only[Do,TypeDesc.int.injEq]at hk;subst hk
    split at h
    ·rename_i hc
     obtain⟨rfl,hw⟩:=hc
     exact⟨by simp[hp],_, .cons (.val rfl) .nil, .int hu hw⟩
    ·cases h
   ·rename_i hu
    simp only[DataW.trod,hu]at h
    simp only[beq_iff_eq]at hp
    split at h<;>first|(simp_all;done)|skip
    rename_i b _
    split at h
    ·rename_i hc
     obtain rfl:=Option.some.inj h
     refine⟨by simp[hp],_, .cons (.val rfl) .nil, .str hu ?_⟩
     rcases hB with hB|hB
     ·omega
     ·simp only[bk,Array.length_toList]at hB
      have :b.size=b.data.size:=rfl
      omega
    ·cases h
   ·rename_i e hu
    simp only[DataW.trod,hu]at h
    simp only[AC,beq_iff_eq,decide_eq_true_eq]at hp
    obtain⟨Sj,Sk,afk⟩:=hp
    split at h<;>first|(simp_all;done)|skip
    ·rename_i e1 he
     exact⟨by simp[Sj],_, .cons .hJ .nil, .sl (rows:=[]) hu (by simp) .nil⟩
    ·rename_i e1 a len cap he
     simp only[Do,TypeDesc.slice.injEq]at he;subst he
     split at h
     ·rename_i hc
      obtain⟨aeB,lE,aoN⟩:=hc
      obtain⟨elems,hel,sZ⟩:=Option.bind_eq_some_iff.1 h
      obtain⟨rest,_,rfl⟩:=Option.map_eq_some_iff.1 sZ
      have Ee:∀y∈elems,Small B y.1:=λy hy=>hB.imp id λhB=>by
       have :=Qc (Hc (f:=λz:DataW H×List MemPlace=>z.1) hy)
       simp only[bk]at hB;omega
      have hlen:elems.length=len:=by simpa using mapM_some_length hel
      have sV:∀i,i<len->∃x,(w.cells? base (a.add (i*P.cellsOf e)) (P.cellsOf e)).bind (DataW.trod enc P w base spare held fuel e)=ac x∧Small B x.1:=λi hi=>by
       have :=mapM_some_get hel i i (by simp[hi])
       exact⟨elems[i],by rw[this,List.getElem?_eq_getElem (by omega)],Ee _ (List.getElem_mem _)⟩
      have aoS:len<=B:=by
       rcases hB with hB|hB
       ·omega
       ·have :=aag (elems.map (·.1))
        rw[GE]at this
        simp only[bk]at hB;omega
      obtain⟨vs,rows,h1,h2,h3,h4,h5,h6⟩:=akl (λcs x fuel hx hs=>ih e cs x afk fuel hx hs) Sk len sV
      refine⟨by simp[Sj],[.sl rows], ?_, .sl hu (by omega) h6⟩
      refine .cons (f1:=[]) (f2:=[]) ?_ .nil
      rcases Nat.eq_zero_or_pos len with h0|h0
      ·subst h0
       have :rows=[]:=List.length_eq_zero_iff.1 h2
       subst this
       exact .hJ
      ·have L5:0<vs.length:=by rw[h1];exact Nat.mul_pos h0 Sk
       have hc0:=h4 0 vs[0] (by simp[L5])
       have ha:a.add 0=a:=rfl
       rw[ha]at hc0
       obtain⟨b,off,spot⟩:=a
       have hb:spot=am∧b<w.heap.size:=by
        unfold World.cell? at hc0
        split at hc0
        ·rename_i hh
         refine⟨?_, ?_⟩
         ·cases spot with
          |none=>rfl
          |some z=>simp at hc0
         ·rcases Ha b w.heap.size with hb|hb
          ·exact hb
          ·rw[Array.getElem?_eq_none hb]at hh;cases hh
        ·cases hc0
       obtain⟨rfl,hb⟩:=hb
       have :=R.sl (w:=w) (I:=(·<w.heap.size)) (β:=cr) (b:=b) (o:=off) (cap:=cap) h3 hb (λk v hk=>by
        have :=h4 k v hk
        unfold Addr.add at this
        by_cases hk0:k=0
        ·subst hk0;simpa using this
        ·simpa[hk0]using this) (by omega) h5
       rw[h2]at this
       exact this
     ·cases h
   ·rename_i fs hu
    simp only[DataW.trod,hu]at h
    simp only[AC]at hp
    split at h<;>first|(simp_all;done)|skip
    rename_i hc
    obtain⟨xs,hxs,rfl⟩:=Option.map_eq_some_iff.1 h
    have Ee:∀y∈xs,Small B y.1:=λy hy=>hB.imp id λhB=>by
     have :=Qc (Hc (f:=λz:DataW H×List MemPlace=>z.1) hy)
     simp only[bk]at hB;omega
    obtain⟨cells,g1,g2⟩:=amx (λt cs x hp fuel hx hs=>ih t cs x hp fuel hx hs) fs.toList 0 xs (by rw[hc];exact hp.1) hp.2 hxs Ee
    exact⟨hc,cells,by simpa using g1, .st hu g2⟩
   ·cases hp
end
theorem SM{w w':World}(h:Kept w w' (·∈([]:List Nat))):w.keptBut w' (λ_=>False):=by refine⟨h.os,h.out,λi hi=> ?_⟩;have e:=h.blk i hi (by simp);rw[e];cases hx:w.heap[i]? with|none=>(trivial)|some o=>cases o<;>simp
theorem ak3{w w':World}(h:w.keptBut w' (λ_=>False)){p:MemPlace}(hp:p.block<w.heap.size)(hc:Kept w w' (·∈([]:List Nat))):w.sameAt w' p:=by have e:=hc.blk p.block hp (by simp);cases p with|cell b off=>(exact cell_of_heap e)|map b=>exact e
theorem ZD{C:aH}(di:Good C){f:FuncId}{nn:Nat}{args:List U}(Lp:den C nn f args=ac (B bv,[]))(ew:C.jg f=false:=by rfl){W:World}{vs:List Value}(hargs:aB W (·<W.heap.size) cr [] vs args)(yL:∀g cs,C.ez g=ac cs->R W (·<W.heap.size) cr [] (.pointer (ac ⟨g,0,am⟩)) (nX cs)){fn:Func}{c:Code}(hf:C.P.funcs[f]? =ac fn)(hb:fn.body=ac c):Calls C.P f ⟨vs⟩ W λe W'=>e= .returned (.bool bv)∧Kept W W' (·∈([]:List Nat)):=by have hs:=(TT di _ _ _ _ Lp).1 ew W (·<W.heap.size) [] vs hargs List.nodup_nil (λb hb=>⟨hb,by simp⟩) (λb hb=>by cases hb) yL;have hv:∀ls v w',Ai W [] (·<W.heap.size) ls (B bv,[]) v w'->v= .bool bv∧Kept W w' (·∈([]:List Nat)):=λls v w' h=>by{obtain⟨I',fr,h1,_⟩:=h.ex;obtain⟨f1,f2,v',vs',_,e,k1,_⟩:=aB.cons_inv h1;simp only[Hb]at e;rw[e.1];exact⟨k1.iZ.2,h.kept⟩};rcases hs with⟨fn',c',_,_,h3⟩|⟨v,w',h1,_⟩;·{exact h3.mono λe W'⟨v,he,hr⟩=>by obtain⟨rfl,hk⟩:=hv _ v W' hr;exact⟨he,hk⟩};·rw[Fl di.count.no hf hb]at h1;cases h1
section
variable{H:Type}{enc:TypeId×Value->H}{P:Program}
theorem ZI(hl:laidOutB P=bv)(hm:mapsRowed P=bv)(hz:((List.range P.types.size).all λt=>match P.underlying t with|some (.slice e)=>decide (0<P.cellsOf e)|_=>bv)=bv){W W':World}{ts:List TypeId}(hT:∀t∈ts,t<P.types.size){vs:List Value}{ds:List (DataW H)}{ps:List MemPlace}(hA:DataW.TrodAll enc P W 0 (λ_=>bv) bv ts vs ds ps)(hlt:∀p∈ps,p.block<W.heap.size)(hk:Kept W W' (·∈([]:List Nat)))(sp:Nat->Bool)(hsp:∀p∈ps,sp p.block=bv):DataW.TrodAll enc P W' 0 sp bv ts vs ds ps:=by have h1:=DataW.TrodAll.respare (kids_rows hl hm) (slices_full_of P hz) hT hA hsp;clear hA hsp hT;induction ts generalizing vs ds ps with|nil=>(cases vs<;>cases ds<;>first|exact h1|(simp[DataW.TrodAll]at h1))|cons t ts ih=>cases vs with|nil=>(simp[DataW.TrodAll]at h1)|cons v vs=>cases ds with|nil=>(simp[DataW.TrodAll]at h1)|cons d ds=>obtain⟨p,q,⟨fuel,h2⟩,h3,rfl⟩:=h1;refine⟨p,q,⟨fuel,DataW.trod_carry _ _ _ _ h2 λx hx=>ak3 (SM hk) (hlt x (List.mem_append_left _ hx)) hk⟩,ih (λx hx=>hlt x (List.mem_append_right _ hx)) h3,rfl⟩
theorem amn{W:World}{base:Nat}{sp:Nat->Bool}{hd:Bool}{t:TypeId}{v:Value}{d:DataW H}{ps:List MemPlace}{n:Nat}(hp:vl P n t=bv)(h:DataW.Trod enc P W base sp hd t v d ps){B:Nat}(hB:Small B d):∃cells,aB W (·<W.heap.size) cr [] v.cells.toList cells∧jE P B t cells:=by obtain⟨fuel,h⟩:=h;exact(amo n t _ _ hp fuel h hB).2
end
section
variable{P:Program}{t:TypeId}{cells:List U}{B:Nat}
theorem Dp{k:IntKind}(hu:P.underlying t=ac (.int k))(h:jE P B t cells):∃n,cells=[.val (.int k n)]∧(Lit.int k n).wf=true:=by cases h with|int h1 h2=>(rw[hu]at h1;cases h1;exact⟨_,rfl,h2⟩)|bool h1=>(rw[hu]at h1;cases h1)|str h1=>(rw[hu]at h1;cases h1)|sl h1=>(rw[hu]at h1;cases h1)|st h1=>rw[hu]at h1;cases h1
theorem ab2(hu:P.underlying t=ac .string)(h:jE P B t cells):∃n,cells=[.val (.string n)]∧n.size<=B:=by cases h with|str h1 h2=>(exact⟨_,rfl,h2⟩)|int h1=>(rw[hu]at h1;cases h1)|bool h1=>(rw[hu]at h1;cases h1)|sl h1=>(rw[hu]at h1;cases h1)|st h1=>rw[hu]at h1;cases h1
theorem QW{α:Type}{e:TypeId}{c:α->List U}{ok:α->Prop}(hd:∀cells,jE P B e cells->∃x,cells=c x∧ok x):∀{rows:Rows},sv P B e rows->∃l:List α,rows=l.map c∧∀x∈l,ok x|[],_=>⟨[],rfl,by simp⟩|_::_, .cons h1 h2=>by obtain⟨x,rfl,hx⟩:=hd _ h1;obtain⟨l,rfl,hl⟩:=QW hd h2;exact⟨x::l,rfl,by simpa using⟨hx,hl⟩⟩
theorem QX{α:Type}{e:TypeId}{c:α->List U}{ok:α->Prop}(hu:P.underlying t=ac (.slice e))(hd:∀cells,jE P B e cells->∃x,cells=c x∧ok x)(h:jE P B t cells):∃l:List α,cells=[.sl (l.map c)]∧(l.length<=B∧∀x∈l,ok x):=by cases h with|sl h1 h2 h3=>(rw[hu]at h1;cases h1;obtain⟨l,rfl,hl⟩:=QW hd h3;exact⟨l,rfl,by simpa using h2,hl⟩)|int h1=>(rw[hu]at h1;cases h1)|bool h1=>(rw[hu]at h1;cases h1)|str h1=>(rw[hu]at h1;cases h1)|st h1=>rw[hu]at h1;cases h1
theorem QU{fs:Array Field}(hu:P.underlying t=ac (.struct fs))(h:jE P B t cells):ue P B fs.toList cells:=by cases h with|st h1 h2=>(rw[hu]at h1;cases h1;exact h2)|int h1=>(rw[hu]at h1;cases h1)|bool h1=>(rw[hu]at h1;cases h1)|str h1=>(rw[hu]at h1;cases h1)|sl h1=>rw[hu]at h1;cases h1
theorem yg{f:Field}{fs:List Field}(h:ue P B (f::fs) cells):∃a b,cells=a++b∧jE P B f.type a∧ue P B fs b:=by cases h with|cons h1 h2=>exact⟨_,_,rfl,h1,h2⟩
theorem QV(h:ue P B [] cells):cells=[]:=by cases h;rfl
end
open Go Go.ChangeShapes Go.WideShapes Go.ChangeAt Go.RowKit
theorem ZH{P:Program}{W:World}{r:Reach}{base:Nat}{t:TypeId}{v:Value}{fs:Array Field}{cells:List U}(ht:P.underlying t=ac (.struct fs))(hval:Value.okWide P W r base t v)(h:aB W (·<W.heap.size) cr [] v.cells.toList cells):R W (·<W.heap.size) cr [] v (.agg cells):=by unfold Value.okWide at hval;rw[ht]at hval;obtain⟨cs,rfl,_⟩:=hval;exact h
end Go.Ab
