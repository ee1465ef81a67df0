import Derived.Test.YtbbhbdlljfffdaaGreatDoorAbV7
import Derived.WalkKit
import Derived.ProofKit
import Derived.OpenShut
import Derived.Deep.DeepHandedRow
open Bool renaming and_eq_true->AC
open List renaming length_map->GT,all_cons->Ha,mem_map_of_mem->Hd
open List.cons renaming injEq->Hc
open Nat renaming beq->Do,lt_or_ge->Hb
open Option.some renaming injEq->GE
set_option linter.all false
namespace Go.Ab
open Go
theorem ajq{P:Program}{T e:TypeId}{x y:Operand}{a:Option Addr}{l c:Nat}(hu:P.underlying T=some (.slice e)):dL P (do eqGuard .eql T x y (.slice a l c) (.slice none 0 0);binOp .eql T (.slice a l c) (.slice none 0 0))=some (.bool a.isNone):=by have e:(do eqGuard .eql T x y (.slice a l c) (.slice none 0 0);binOp .eql T (.slice a l c) (.slice none 0 0))=(do pure (.bool (<-Op.equal T (.slice a l c) (.slice none 0 0))):Sem Value):=rfl;rw[e,iF];unfold Op.equal Op.maxDepth;have:∀d,dL P (Op.equalIn (d+1) T (.slice a l c) (.slice none 0 0))=some a.isNone:=fun d=>by{cases a<;>simp[Op.equalIn,iF,qt hu,pJ]};rw[this 9999];rfl
def BB(m:Nat):List U->Option (U×List U)|[.sl rows]=>if(rows.all fun r=>decide (r.length=m)&&r.all U.cell&&fS r&&dJ r)&&decide (rows.length<=4294967296)then some (.own rows rows.length,[])else none|_=>none
def clone{α:Type}(l:List α):Option (List α):=if l.length<=4294967296 then some l else none
theorem abg{α:Type}{l r:List α}(h:clone l=some r):l.length<=4294967296∧r=l:=by unfold clone at h;split at h;·{exact⟨‹_›,by simpa using h.symm⟩};·cases h
theorem aa7{α:Type}{c:α->List U}{m:Nat}[hc:wm c][hf:qC c]{l r:List α}(h:clone l=some r)(hl:∀x,(c x).length=m:=by exact fun _=>rfl):BB m [.sl (l.map c)]=some (.own (r.map c) r.length,[]):=by obtain⟨h1,rfl⟩:=abg h;rw[show r.length=(r.map c).length by simp];show(if _ then _ else _)=_;rw[if_pos (by simp only[AC,decide_eq_true_eq,GT];refine⟨?_,h1⟩;simp only[List.all_map,List.all_eq_true,Function.comp,AC,decide_eq_true_eq];intro x _;refine⟨⟨⟨hl x, ?_⟩,hc.im x⟩,hf.fl x⟩;exact fun y hy=>List.all_eq_true.1 (hc.ce x) y hy)]
def gr(m:Nat):Type:={r:List U//(decide (r.length=m)&&r.all U.cell&&fS r&&dJ r)=true}
def gr.v{m:Nat}(r:gr m):List U:=r.1
theorem HG{m:Nat}(r:gr m):r.v.length=m∧r.v.all U.cell=true∧fS r.v=true∧dJ r.v=true:=by have:=r.2;simp only[AC,decide_eq_true_eq]at this;exact⟨this.1.1.1,this.1.1.2,this.1.2,this.2⟩
instance{m:Nat}:qC (gr.v (m:=m)):=⟨fun r=>(HG r).2.2.2⟩
instance{m:Nat}:wm (gr.v (m:=m)):=⟨fun r=>(HG r).2.2.1,fun r=>(HG r).2.1⟩
theorem Vg{w:World}{I:Nat->Prop}{β:Id->Option Loc}{v:Value}{α:Type}{c:α->List U}{q:List α}{f:List Nat}(h:R w I β f v (.sl (q.map c))):∃a l k,v= .slice a l k∧(a=none->q=[]):=by generalize hx:U.sl (q.map c)=x at h;cases h with|iL=>(exact⟨_,_,_,rfl,fun _=>by simpa using hx⟩)|sl=>(exact⟨_,_,_,rfl,fun h=>by cases h⟩)|_=>cases hx
section
variable{C:aF}{f:FuncId}{fn:Func}{T e t1 t2:TypeId}{m:Nat}{bb:Bool}{hJ:List U}{jX p1 p2 p3 jY l8 vu Aj:String}{f0 f1 f2 f3 f4 f5 f6 f7:Array Edge}{E:Env}
def vr:Operand:= .const (.slice none 0 0)
theorem abh [hu:eL C T (.slice e)][uo C e m][mV C e hJ][eK C e bb m](h0:(decide (0<m)&&decide (m=hJ.length)&&decide (0*m<=1000))=true)(hN:kV C)(hw:C.P.follows .mixedOrders=true)(xb:∀f i,je (C.live f i))(nO:uq C)(hc0:∀i,C.j8 f i=none)(LM:∀i,C.k6 f i=[])(LL:∀i,C.jW f i=[])(hca:∀i,C.mD f i=[])(Me:∀i,C.nt f i=false)(uX:∀i,C.HH f i=none)(hfz:C.gd f=[])(hle:C.c4 f=[])(hf:C.P.funcs[f]? =some fn)(hn:fn.ntmps=8)(hres:fn.results.toList=[.tmp 2])(hb:fn.body=some (.seq (.region 0 ⟨[⟨some 2, .assign vr,T,jX,f0,none⟩]⟩ false) (.seq (.seq (.region 1 ⟨[⟨some 3, .move (.tmp 0),T,p1,f1,none⟩,⟨some 4, .binOp .eql T (.tmp 3) vr T,t1,p2,f2,none⟩]⟩ false) (.cond (.tmp 4) (.seq (.region 2 ⟨[⟨some 2, .assign vr,T,p3,f3,none⟩]⟩ false) .ret) .skip)) (.seq (.region 3 ⟨[⟨some 5, .buildSlice T 0 ⟨[]⟩,T,jY,f4,none⟩,⟨some 6, .move (.tmp 0),T,l8,f5,none⟩,⟨some 7, .call ⟨.builtin .append,⟨[.tmp 5, .tmp 6]⟩,⟨[T,T]⟩⟩,t2,vu,f6,none⟩,⟨some 2, .assign (.tmp 7),T,Aj,f7,none⟩]⟩ false) .ret)))){g:List U->Option (U×List U)}(hg:g=BB m){args:List U}{r:U×List U}(hr:g args=some r)(hit:∀k it,C.iter k=some it->Ba C k it:=by intro k it h;cases h):rO C f args r:=by subst hg;unfold BB at hr;split at hr;(case h_2=>cases hr);rename_i rows;split at hr;(case isFalse=>cases hr);rename_i hall;simp only[GE]at hr;subst hr;simp only[AC,decide_eq_true_eq]at hall;obtain⟨hall,hlen⟩:=hall;obtain⟨q,rfl⟩:∃q:List (gr m),rows=q.map gr.v:=by{refine⟨rows.attachWith _ (fun r hr=>List.all_eq_true.1 hall r hr), ?_⟩;exact(List.attachWith_map_subtype_val _).symm};rw[show(q.map gr.v).length=q.length from GT _];intro w dG fp vs hargs hnd hI dO zy;refine .inl ⟨fn,_,hf,hb, ?_⟩;refine(callsIn_wide (n:=0)).1 (callsIn_of_wp_marks hf hb trivial (wpIn_wide.2 ?_));obtain⟨v,rfl⟩:∃v,vs=[v]:=by{have:=hargs.length;match vs,this with|[v],_=>exact⟨v,rfl⟩};have hv:∃a l c,v= .slice a l c∧(a=none->q=[]):=by{obtain⟨f1,f2,v',vs',rfl,e,k1,k2⟩:=ay.cons_inv hargs;simp only[Hc]at e;obtain⟨rfl,_⟩:=e;exact Vg k1};obtain⟨ad,l,KI,rfl,EW⟩:=hv;let E:Env:={w0:=w,j7:=(·∈fp),dG:=dG,m:=w.heap.size,le:=Nat.le_refl _};have Ip:bA C E (aO fn.ntmps [0] [.sl (q.map gr.v)]) {tmps:=⟨[.slice ad l KI]⟩++Array.replicate (fn.ntmps-(⟨[.slice ad l KI]⟩:Array Value).size) undef,defers:=[]} w:=by{refine aY.enter (I:=dG) (f:=fp) ?_ (oa.nil (d0:=[])) ?_ (by simp) hnd (fun b hb=>⟨.inl hb,hI b hb⟩) (fun b hb=>⟨dO b hb, .inl hb⟩) (Kept.refl w _) zy (fun _ _ _ h=>h) (fun _ _ _ h=>h);·{simp[hn]};·simpa[hn]using hargs};rw[show aO fn.ntmps [0] [.sl (q.map gr.v)]=⟨8,au (fun _=> .aW) 0 (.sl (q.map gr.v)),fun _=>none⟩by rw[hn];rfl]at Ip;have hkeep:∀ops,Fe (C.c4 f) ops=true:=fun ops=>by{simp[Fe,hle]};have dD:∀(k:FuncId)(as:List U)(r:U×List U),(fun _ _=>none:gK) k as=some r->Sound C k as r:=fun _ _ _ h=>by{cases h};have go:∀(c:Code)(S:aj)(x:Exit×aj)(a:Act)(w':World)(Q:Exit->Act->World->Prop),q9 C f c=true->c6 C f (fun _ _=>none) lZ c S=some x->bA C E S a w'->(∀a' w'',bA C E x.2 a' w''->Q x.1 a' w'')->c.wp C.P Q a w':=fun c S x a w' Q h1 h2 h3 h4=>wpIn_wide.1 (Fw hN hw xb nO dD hit Fi c none E (C.c4 f) (fun j=>a.tmps.getD j undef) S x.1 x.2 a w' Q (.inl rfl) (by simp only[q9,AC]at h1;exact h1.1.1) (by simp only[q9,AC]at h1;exact h1.1.2) h2 h3 (fun j hj=>rfl) fun a' w'' hx _=>h4 a' w'' hx);have cN:∀a' w' S',finish C fn (C.c4 f) [.sl (q.map gr.v)] S'=some (.own (q.map gr.v) q.length,[])->bA C E S' a' w'->LeavesInM Fence.wide 0 C.P fn a'.tmps (fun e w'=>∃v,e= .returned v∧Bg w fp dG (vp (C.c4 f) [.slice ad l KI]) (.own (q.map gr.v) q.length,[]) v w') a'.defers .returning w':=by{rintro a' w' S' hx⟨β,F,hS⟩;refine agJ hx (Nat.le_refl _) hS rfl fun w2 v hk2 e1⟨I',fr,g1,g2,g3,g4⟩=> ?_;rw[hle]at g1|-;exact⟨v,rfl,hk2,I',fr,g1,g2,g3,g4⟩};have hfr:∀{S':aj},Fin C [.tmp 2] [] (.own (q.map gr.v) q.length) [] (.ret,S')->finish C fn (C.c4 f) [.sl (q.map gr.v)] S'=some (.own (q.map gr.v) q.length,[]):=by{rintro S'⟨_,vs,ids,is,k1,k2,dF,kF⟩;unfold finish;rw[hres,hle,k1,k2];simp only[dF,if_true];cases vs with|nil=>(simp[xD]at kF)|cons v vs=>cases vs with|nil=>(simp only[xD]at kF;rw[kF])|cons _ _=>simp[xD]at kF};refine wp_seq ?_;obtain⟨x0,EM,hx0⟩:W C f (fun _ _=>none) (.region 0 ⟨[⟨some 2, .assign vr,T,jX,f0,none⟩]⟩ false) ⟨8,au (fun _=> .aW) 0 (.sl (q.map gr.v)),fun _=>none⟩ (fun x=>x=(.normal,⟨8,au (au (fun _=> .aW) 0 (.sl (q.map gr.v))) 2 .cI,fun _=>none⟩)):=rg (pp ai<|nl rfl) (hc0 0) (LM 0) (LL 0) (hca 0) (Me 0);subst hx0;refine go _ _ _ _ _ _ (by simp[q9,jK,okW,q2,hkeep]) EM Ip fun a1 w1 h1=> ?_;show Code.wp C.P _ _ _ _;refine wp_seq (wp_seq (wp_region ?_));show wpOps C.P _ _ [0,1] _ _;obtain⟨fM,Dp,h1⟩:=h1;refine .inl (Ny (f:=f) hN dD h1 (e:=⟨[(3, .sl (q.map gr.v))],[],[]⟩) rfl rfl fun a2 w2 h2=> ?_);obtain⟨dy,fN,h2⟩:=h2;have hs:=h2.fz (.tmp 3);obtain⟨Ka,l2,ank,IB,ae8⟩:∃a l c,a2.eval (.tmp 3)= .slice a l c∧(a=none->q=[]):=by{have hs:R w2 (aR E w2 fN) dy [] (a2.eval (.tmp 3)) (.sl (q.map gr.v)):=hs;exact Vg hs};refine .inl (hG (x:= .val (.bool Ka.isNone)) (rd:=[]) h2 (s:=do eqGuard .eql T (.tmp 3) vr (a2.eval (.tmp 3)) (a2.eval vr);binOp .eql T (a2.eval (.tmp 3)) (a2.eval vr)) rfl (by simp[execOp]) (by rw[IB];exact vG (ajq hu.ul)) (.val rfl) fun a3 w3 h3=> ?_);show Code.wp C.P _ _ _ _;have qR:bA C E ⟨8,au (au (au (au (fun _=> .aW) 0 (.sl (q.map gr.v))) 2 .cI) 3 (.sl (q.map gr.v))) 4 (.val (.bool Ka.isNone)),fun _=>none⟩ a3 w3:=h3;cases nh:Ka.isNone with|true=>(have hq:=ae8 (by simpa using nh);rw[nh]at qR;obtain⟨x1,B0,hx1⟩:W C f (fun _ _=>none) (.cond (.tmp 4) (.seq (.region 2 ⟨[⟨some 2, .assign vr,T,p3,f3,none⟩]⟩ false) .ret) .skip) ⟨8,au (au (au (au (fun _=> .aW) 0 (.sl (q.map gr.v))) 2 .cI) 3 (.sl (q.map gr.v))) 4 (.val (.bool true)),fun _=>none⟩ (fun x=>Fin C [.tmp 2] [] (.own (q.map gr.v) q.length) [] x∧x.1= .ret):=aaI (ah (pp ai<|nl<|rt ⟨by subst hq;exact fin,rfl⟩) (hc0 2) (LM 2) (LL 2) (hca 2) rfl (Me 2));obtain⟨e1,bM⟩:=x1;obtain⟨hx1,rfl⟩:=hx1;refine go _ _ _ _ _ _ (by simp[q9,jK,okW,q2,hkeep]) B0 qR fun a4 rI h4=> ?_;exact cN _ _ _ (hfr hx1) h4)|false=>rw[nh]at qR;obtain⟨x1,B0,hx1⟩:W C f (fun _ _=>none) (.cond (.tmp 4) (.seq (.region 2 ⟨[⟨some 2, .assign vr,T,p3,f3,none⟩]⟩ false) .ret) .skip) ⟨8,au (au (au (au (fun _=> .aW) 0 (.sl (q.map gr.v))) 2 .cI) 3 (.sl (q.map gr.v))) 4 (.val (.bool false)),fun _=>none⟩ (fun x=>x=(.normal,⟨8,au (au (au (au (fun _=> .aW) 0 (.sl (q.map gr.v))) 2 .cI) 3 (.sl (q.map gr.v))) 4 (.val (.bool false)),fun _=>none⟩)):=aaH (sk rfl);subst hx1;refine go _ _ _ _ _ _ (by simp[q9,jK,okW,q2,hkeep]) B0 qR fun a4 rI h4=> ?_;show Code.wp C.P _ _ _ _;have hlen':app [] q=some q:=by{unfold app;rw[if_pos (by simpa using hlen)];rfl};obtain⟨x2,w4,hx2⟩:W C f (fun _ _=>none) (.seq (.region 3 ⟨[⟨some 5, .buildSlice T 0 ⟨[]⟩,T,jY,f4,none⟩,⟨some 6, .move (.tmp 0),T,l8,f5,none⟩,⟨some 7, .call ⟨.builtin .append,⟨[.tmp 5, .tmp 6]⟩,⟨[T,T]⟩⟩,t2,vu,f6,none⟩,⟨some 2, .assign (.tmp 7),T,Aj,f7,none⟩]⟩ false) .ret) ⟨8,au (au (au (au (fun _=> .aW) 0 (.sl (q.map gr.v))) 2 .cI) 3 (.sl (q.map gr.v))) 4 (.val (.bool false)),fun _=>none⟩ (fun x=>Fin C [.tmp 2] [] (.own (q.map gr.v) q.length) [] x∧x.1= .ret):=by{refine ah (ww (Ae (bQ:=[]) (hin:=by rw[hfz];rfl) (h0:=h0) (hq:=Ue) (hf:=rfl) (hs:=rfl))<|pp aa<|ww (kI (c:=gr.v) (q:=[]) hlen' (hl:=fun x=>(HG x).1) (hcell:=Jv) (hfz:=by rw[hfz];rfl))<|pp ai<|nl<|rt ⟨fin,rfl⟩) (hc0 3) (LM 3) (LL 3) (hca 3) rfl (Me 3)};obtain⟨e2,b7⟩:=x2;obtain⟨hx2,rfl⟩:=hx2;refine go _ _ _ _ _ _ (by simp[q9,jK,okW,q2,hkeep]) w4 h4 fun a5 Dk h5=> ?_;exact cN _ _ _ (hfr hx2) h5
end
open Go
inductive js(α:Type)where|l(v:α)|o(k:Nat)(v w:α)|n(k:Nat)(a b:js α)
def js.get{α:Type}:js α->Nat->α| .l v,_=>v| .o k v w,i=>bif Do i k then v else w| .n k a b,i=>bif Nat.blt i k then a.get i else b.get i
def js.all{α:Type}(p:α->Bool):js α->Bool| .l v=>p v| .o _ v w=>p v&&p w| .n _ a b=>a.all p&&b.all p
theorem js.Bp{α:Type}{p:α->Bool}:∀(t:js α),t.all p=true->∀i,p (t.get i)=true| .l v,h,i=>h| .o k v w,h,i=>by{simp only[js.all,AC]at h;simp only[js.get];cases Do i k;·{exact h.2};·exact h.1}| .n k a b,h,i=>by simp only[js.all,AC]at h;simp only[js.get];cases Nat.blt i k;·{exact Bp b h.2 i};·exact Bp a h.1 i
def look{α:Type}:List (Nat×α)->Nat->α->α|[],_,d=>d|(k,v)::l,j,d=>bif Do j k then v else look l j d
def Cr{α:Type}:List (Nat×α)->Nat->Option α|[],_=>none|(k,v)::l,j=>bif Do j k then some v else Cr l j
def Kf(l:List (Nat×List Nat)):Bool:=l.all fun x=>decide x.2.Nodup&& !x.2.contains ju
def DH(l:List (Nat×Bool×List Nat)):Bool:=l.all fun x=>decide x.2.2.Nodup&& !x.2.2.contains ju
theorem Vk{v:List Nat}(h:v.Nodup∧(!v.contains ju)=true):je v:=⟨h.1,by simpa using h.2⟩
theorem agZ{l:List (Nat×List Nat)}(h:Kf l=true)(i:Nat):je (look l i []):=by induction l with|nil=>(exact je.nil)|cons x l ih=>simp only[Kf,Ha,AC,decide_eq_true_eq]at h;obtain⟨k,v⟩:=x;simp only[look];cases Do i k;·{exact ih h.2};·exact Vk h.1
theorem MX{l:List (Nat×Bool×List Nat)}(h:DH l=true){i:Nat}{b:Bool}{s:List Nat}(e:Cr l i=some (b,s)):je s:=by induction l with|nil=>(cases e)|cons x l ih=>simp only[DH,Ha,AC,decide_eq_true_eq]at h;obtain⟨k,v⟩:=x;simp only[Cr]at e;cases hb:Do i k;·{rw[hb]at e;exact ih h.2 e};·rw[hb]at e;simp only[cond_true,GE]at e;subst e;exact Vk h.1
open Go Go.ChangeShapes Go.WideShapes Go.ChangeAt Go.RowKit
def Fv(P:Program):Nat->List Field->Nat->Bool|o,[],tot=>o==tot|o,f::fs,tot=>f.offset==o&&Fv P (o+P.cellsOf f.type) fs tot
def vF(P:Program):Nat->TypeId->Bool|0,_=>false|n+1,t=>match P.underlying t with|some .bool=>P.cellsOf t==1|some (.int _)=>P.cellsOf t==1|some .string=>P.cellsOf t==1|some (.slice e)=>P.cellsOf t==1&&(decide (0<P.cellsOf e)&&vF P n e)|some (.struct fs)=>Fv P 0 fs.toList (P.cellsOf t)&&fs.toList.all fun f=>vF P n f.type|_=>false
mutual inductive pX(P:Program)(B:Nat):TypeId->List U->Prop|bool{t:TypeId}{b:Bool}:P.underlying t=some .bool->pX P B t [.val (.bool b)]|int{t:TypeId}{k:IntKind}{n:Int}:P.underlying t=some (.int k)->(Lit.int k n).wf=true->pX P B t [.val (.int k n)]|str{t:TypeId}{s:ByteArray}:P.underlying t=some .string->s.size<=B->pX P B t [.val (.string s)]|sl{t e:TypeId}{rows:Rows}:P.underlying t=some (.slice e)->rows.length<=B->uA P B e rows->pX P B t [.sl rows]|st{t:TypeId}{fs:Array Field}{cells:List U}:P.underlying t=some (.struct fs)->DE P B fs.toList cells->pX P B t cells inductive DE(P:Program)(B:Nat):List Field->List U->Prop|nil:DE P B [] []|cons{f:Field}{fs:List Field}{a b:List U}:pX P B f.type a->DE P B fs b->DE P B (f::fs) (a++b)inductive uA(P:Program)(B:Nat):TypeId->Rows->Prop|nil{e:TypeId}:uA P B e []|cons{e:TypeId}{r:List U}{rs:Rows}:pX P B e r->uA P B e rs->uA P B e (r::rs)end
mutual def iS{H:Type}:DataW H->Nat| .lit (.string bytes)=>bytes.length+1| .lit _=>1| .nil=>1| .ptr d=>iS d+1| .slice elems spare=>uH elems+uH spare+1| .agg parts=>uH parts+1| .iface _ d=>iS d+1| .map entries=>Qh entries+1| .held _=>1 def uH{H:Type}:List (DataW H)->Nat|[]=>0|d::r=>iS d+uH r def Qh{H:Type}:List (Lit×DataW H)->Nat|[]=>0|x::r=>aae x+Qh r def aae{H:Type}:Lit×DataW H->Nat|(.string bytes,d)=>bytes.length+iS d+1|(_,d)=>iS d+1 end
theorem aag{H:Type}(d:DataW H):1<=iS d:=by cases d with|lit l=>(cases l<;>simp[iS])|_=>simp[iS]
theorem Qi{H:Type}{d:DataW H}{l:List (DataW H)}(h:d∈l):iS d<=uH l:=by induction l with|nil=>(cases h)|cons x r ih=>simp only[uH];cases List.mem_cons.1 h with|inl e=>(subst e;omega)|inr e=>have:=ih e;omega
theorem aaf{H:Type}(l:List (DataW H)):l.length<=uH l:=by induction l with|nil=>(simp[uH])|cons x r ih=>have:=aag x;simp only[uH,List.length_cons];omega
def Small{H:Type}(B:Nat)(d:DataW H):Prop:=B=maxLen∨iS d<=B
theorem uA.snoc{P:Program}{B:Nat}{e:TypeId}:∀{rs:Rows}{r:List U},uA P B e rs->pX P B e r->uA P B e (rs++[r])|[],_,_,h=> .cons h .nil|_::_,_, .cons h1 h2,h=> .cons h1 (uA.snoc h2 h)
section
variable{H:Type}{enc:TypeId×Value->H}{P:Program}{w:World}{base:Nat}{spare:Nat->Bool}{held:Bool}{B:Nat}
theorem Qt{a:Addr}{n:Nat}{cs:List Value}(h:w.cells? base a n=some cs):cs.length=n∧∀(i:Nat)v,cs[i]? =some v->w.cell? (a.add i)=some v:=by obtain⟨h1,h2,h3⟩:=World.cells?_some h;refine⟨h2,fun i v hv=> ?_⟩;have hi:i<n:=by{rcases Hb i n with hi|hi;·{exact hi};·rw[List.getElem?_eq_none (by omega)]at hv;cases hv};rw[h3 i hi,hv]
theorem alV{n:Nat}(ih:∀(t:TypeId)(cs:List Value)(x:DataW H×List MemPlace),vF P n t=true->∀fuel,DataW.trod enc P w base spare held fuel t cs=some x->Small B x.1->cs.length=P.cellsOf t∧∃cells,ay w (·<w.heap.size) cm [] cs cells∧pX P B t cells){fuel:Nat}{cs:List Value}:∀(fs:List Field)(o:Nat)(xs:List (DataW H×List MemPlace)),Fv P o fs cs.length=true->(fs.all fun f=>vF P n f.type)=true->fs.mapM (fun f=>DataW.trod enc P w base spare held fuel f.type ((cs.drop f.offset).take (P.cellsOf f.type)))=some xs->(∀y∈xs,Small B y.1)->∃cells,ay w (·<w.heap.size) cm [] (cs.drop o) cells∧DE P B fs cells:=by intro fs;induction fs with|nil=>(intro o xs ho _ _ _;simp only[Fv,beq_iff_eq]at ho;exact⟨[],by rw[List.drop_of_length_le (by omega)];exact .nil, .nil⟩)|cons f fs afT=>intro o xs ho hp hm hB;simp only[Fv,AC,beq_iff_eq]at ho;simp only[Ha,AC]at hp;simp only[List.mapM_cons,Option.bind_eq_bind,Option.bind_eq_some_iff]at hm;obtain⟨x,hx,xs',hxs,afI⟩:=hm;obtain rfl:x::xs'=xs:=by{simpa using afI};obtain⟨hl,c1,h1,h2⟩:=ih _ _ _ hp.1 fuel hx (hB _ (List.mem_cons_self ..));obtain⟨c2,h3,h4⟩:=afT _ _ ho.2 hp.2 hxs fun y hy=>hB y (List.mem_cons_of_mem _ hy);rw[ho.1]at h1;refine⟨c1++c2, ?_, .cons h2 h4⟩;have:=ay.append h1 h3;rw[<-List.drop_drop,List.take_append_drop]at this;exact this
theorem akn{e:TypeId}(ih:∀(cs:List Value)(x:DataW H×List MemPlace),∀fuel,DataW.trod enc P w base spare held fuel e cs=some x->Small B x.1->cs.length=P.cellsOf e∧∃cells,ay w (·<w.heap.size) cm [] cs cells∧pX P B e cells)(h0:0<P.cellsOf e){fuel:Nat}{a:Addr}:∀(len:Nat),(∀i,i<len->∃x,(w.cells? base (a.add (i*P.cellsOf e)) (P.cellsOf e)).bind (DataW.trod enc P w base spare held fuel e)=some x∧Small B x.1)->∃(vs:List Value)(rows:Rows),vs.length=len*P.cellsOf e∧rows.length=len∧(∀r∈rows,r.length=P.cellsOf e)∧(∀k v,vs[k]? =some v->w.cell? (a.add k)=some v)∧ay w (·<w.heap.size) cm [] vs rows.flatten∧uA P B e rows:=by intro len;induction len with|zero=>(intro _;exact⟨[],[],by simp,rfl,by simp,by simp, .nil, .nil⟩)|succ len ihl=>intro hel;obtain⟨vs,rows,h1,h2,h3,h4,h5,h6⟩:=ihl fun i hi=>hel i (by omega);obtain⟨x,hx,afG⟩:=hel len (by omega);obtain⟨us,hu,ht⟩:=Option.bind_eq_some_iff.1 hx;obtain⟨g1,g2⟩:=Qt hu;obtain⟨k1,cells,k2,dF⟩:=ih _ _ fuel ht afG;refine⟨vs++us,rows++[cells],by simp[h1,g1,Nat.succ_mul],by simp[h2],fun r hr=> ?_,fun k v hk=> ?_, ?_,h6.snoc dF⟩;·{rcases List.mem_append.1 hr with hr|hr;·{exact h3 r hr};·simp at hr;subst hr;rw[<-k2.length,g1]};·{rcases Hb k vs.length with hlt|hge;·{rw[List.getElem?_append_left hlt]at hk;exact h4 k v hk};·rw[List.getElem?_append_right hge]at hk;have:=g2 _ v hk;have e:(a.add (len*P.cellsOf e)).add (k-vs.length)=a.add k:=by{unfold Addr.add;by_cases u5:k=0;·{subst u5;have:vs.length=0:=by{omega};have:len*P.cellsOf e=0:=by{omega};simp[this]};·by_cases hd:k-vs.length=0;·{have:len*P.cellsOf e=k:=by{omega};simp[hd,this]};·by_cases hl:len*P.cellsOf e=0;·{simp[hl,hd,u5];omega};·simp[hl,hd,u5];omega};rw[e]at this;exact this};·rw[List.flatten_append];simpa using ay.append h5 k2
theorem alQ:∀(n:Nat)(t:TypeId)(cs:List Value)(x:DataW H×List MemPlace),vF P n t=true->∀fuel,DataW.trod enc P w base spare held fuel t cs=some x->Small B x.1->
  cs.length=P.cellsOf t∧∃cells,ay w (·<w.heap.size) cm [] cs cells∧pX P B t cells:=by
 intro n
 induction n with
 |zero=>intro t cs x h;simp[vF]at h
 |succ n ih=>
  intro t cs x hp fuel h hB
  cases fuel with
  |zero=>simp[DataW.trod]at h
  |succ fuel=>
   unfold vF at hp
   split at hp
   ·rename_i hu
    simp only[DataW.trod,hu]at h
    simp only[beq_iff_eq]at hp
    split at h<;>first|(simp_all;done)|skip
    rename_i b _ _
    exact⟨by simp[hp],_, .cons (.val rfl) .nil, .bool hu⟩
   ·rename_i k hu
    simp only[DataW.trod,hu]at h
    simp only[beq_iff_eq]at hp
    split at h<;>first|(simp_all;done)|skip
    rename_i k1 k2 m hk
    simp only[GE,TypeDesc.int.injEq]at hk;subst hk
    split at h
    ·rename_i hc
     obtain⟨rfl,hw⟩:=hc
     exact⟨by simp[hp],_, .cons (.val rfl) .nil, .int hu hw⟩
    ·cases h
   ·rename_i hu
    simp only[DataW.trod,hu]at h
    simp only[beq_iff_eq]at hp
    split at h<;>first|(simp_all;done)|skip
    rename_i b _
    split at h
    ·rename_i hc
     obtain rfl:=Option.some.inj h
     refine⟨by simp[hp],_, .cons (.val rfl) .nil, .str hu ?_⟩
     rcases hB with hB|hB
     ·omega
     ·simp only[iS,Array.length_toList]at hB
      have :b.size=b.data.size:=rfl
      omega
    ·cases h
   ·rename_i e hu
    simp only[DataW.trod,hu]at h
    simp only[AC,beq_iff_eq,decide_eq_true_eq]at hp
    obtain⟨Sf,Sg,afh⟩:=hp
    split at h<;>first|(simp_all;done)|skip
    ·rename_i e1 he
     exact⟨by simp[Sf],_, .cons .iL .nil, .sl (rows:=[]) hu (by simp) .nil⟩
    ·rename_i e1 a len cap he
     simp only[GE,TypeDesc.slice.injEq]at he;subst he
     split at h
     ·rename_i hc
      obtain⟨uX,jI,aot⟩:=hc
      obtain⟨elems,hel,tL⟩:=Option.bind_eq_some_iff.1 h
      obtain⟨rest,_,rfl⟩:=Option.map_eq_some_iff.1 tL
      have su:∀y∈elems,Small B y.1:=fun y hy=>hB.imp id fun hB=>by
       have :=Qi (Hd (f:=fun z:DataW H×List MemPlace=>z.1) hy)
       simp only[iS]at hB;omega
      have hlen:elems.length=len:=by simpa using mapM_some_length hel
      have tJ:∀i,i<len->∃x,(w.cells? base (a.add (i*P.cellsOf e)) (P.cellsOf e)).bind (DataW.trod enc P w base spare held fuel e)=some x∧Small B x.1:=fun i hi=>by
       have :=mapM_some_get hel i i (by simp[hi])
       exact⟨elems[i],by rw[this,List.getElem?_eq_getElem (by omega)],su _ (List.getElem_mem _)⟩
      have aoC:len<=B:=by
       rcases hB with hB|hB
       ·omega
       ·have :=aaf (elems.map (·.1))
        rw[GT]at this
        simp only[iS]at hB;omega
      obtain⟨vs,rows,h1,h2,h3,h4,h5,h6⟩:=akn (fun cs x fuel hx hs=>ih e cs x afh fuel hx hs) Sg len tJ
      refine⟨by simp[Sf],[.sl rows], ?_, .sl hu (by omega) h6⟩
      refine .cons (f1:=[]) (f2:=[]) ?_ .nil
      rcases Nat.eq_zero_or_pos len with h0|h0
      ·subst h0
       have :rows=[]:=List.length_eq_zero_iff.1 h2
       subst this
       exact .iL
      ·have Mr:0<vs.length:=by rw[h1];exact Nat.mul_pos h0 Sg
       have hc0:=h4 0 vs[0] (by simp[Mr])
       have ha:a.add 0=a:=rfl
       rw[ha]at hc0
       obtain⟨b,off,spot⟩:=a
       have hb:spot=none∧b<w.heap.size:=by
        unfold World.cell? at hc0
        split at hc0
        ·rename_i hh
         refine⟨?_, ?_⟩
         ·cases spot with
          |none=>rfl
          |some z=>simp at hc0
         ·rcases Hb b w.heap.size with hb|hb
          ·exact hb
          ·rw[Array.getElem?_eq_none hb]at hh;cases hh
        ·cases hc0
       obtain⟨rfl,hb⟩:=hb
       have :=R.sl (w:=w) (I:=(·<w.heap.size)) (β:=cm) (b:=b) (o:=off) (cap:=cap) h3 hb (fun k v hk=>by
        have :=h4 k v hk
        unfold Addr.add at this
        by_cases u5:k=0
        ·subst u5;simpa using this
        ·simpa[u5]using this) (by omega) h5
       rw[h2]at this
       exact this
     ·cases h
   ·rename_i fs hu
    simp only[DataW.trod,hu]at h
    simp only[AC]at hp
    split at h<;>first|(simp_all;done)|skip
    rename_i hc
    obtain⟨xs,hxs,rfl⟩:=Option.map_eq_some_iff.1 h
    have su:∀y∈xs,Small B y.1:=fun y hy=>hB.imp id fun hB=>by
     have :=Qi (Hd (f:=fun z:DataW H×List MemPlace=>z.1) hy)
     simp only[iS]at hB;omega
    obtain⟨cells,g1,g2⟩:=alV (fun t cs x hp fuel hx hs=>ih t cs x hp fuel hx hs) fs.toList 0 xs (by rw[hc];exact hp.1) hp.2 hxs su
    exact⟨hc,cells,by simpa using g1, .st hu g2⟩
   ·cases hp
end
theorem SJ{w w':World}(h:Kept w w' (·∈([]:List Nat))):w.keptBut w' (fun _=>False):=by refine⟨h.os,h.out,fun i hi=> ?_⟩;have e:=h.blk i hi (by simp);rw[e];cases hx:w.heap[i]? with|none=>(trivial)|some o=>cases o<;>simp
theorem ak5{w w':World}(h:w.keptBut w' (fun _=>False)){p:MemPlace}(hp:p.block<w.heap.size)(hc:Kept w w' (·∈([]:List Nat))):w.sameAt w' p:=by have e:=hc.blk p.block hp (by simp);cases p with|cell b off=>(exact cell_of_heap e)|map b=>exact e
theorem Zy{C:aF}(fY:Good C){f:FuncId}{nn:Nat}{args:List U}(LO:den C nn f args=some (B true,[]))(ek:C.ji f=false:=by rfl){W:World}{vs:List Value}(hargs:ay W (·<W.heap.size) cm [] vs args)(zy:∀g cs,C.eH g=some cs->R W (·<W.heap.size) cm [] (.pointer (some ⟨g,0,none⟩)) (.bD cs)){fn:Func}{c:Code}(hf:C.P.funcs[f]? =some fn)(hb:fn.body=some c):Calls C.P f ⟨vs⟩ W fun e W'=>e= .returned (.bool true)∧Kept W W' (·∈([]:List Nat)):=by have hs:=(TF fY _ _ _ _ LO).1 ek W (·<W.heap.size) [] vs hargs List.nodup_nil (fun b hb=>⟨hb,by simp⟩) (fun b hb=>by cases hb) zy;have hv:∀ls v w',Bg W [] (·<W.heap.size) ls (B true,[]) v w'->v= .bool true∧Kept W w' (·∈([]:List Nat)):=fun ls v w' h=>by{obtain⟨I',fr,h1,_⟩:=h.ex;obtain⟨f1,f2,v',vs',_,e,k1,_⟩:=ay.cons_inv h1;simp only[Hc]at e;rw[e.1];exact⟨k1.jA.2,h.kept⟩};rcases hs with⟨fn',c',_,_,h3⟩|⟨v,w',h1,_⟩;·{exact h3.mono fun e W'⟨v,he,hr⟩=>by obtain⟨rfl,hk⟩:=hv _ v W' hr;exact⟨he,hk⟩};·rw[AS fY.count.no hf hb]at h1;cases h1
section
variable{H:Type}{enc:TypeId×Value->H}{P:Program}
theorem ZC(hl:laidOutB P=true)(hm:mapsRowed P=true)(hz:((List.range P.types.size).all fun t=>match P.underlying t with|some (.slice e)=>decide (0<P.cellsOf e)|_=>true)=true){W W':World}{ts:List TypeId}(hT:∀t∈ts,t<P.types.size){vs:List Value}{ds:List (DataW H)}{ps:List MemPlace}(hA:DataW.TrodAll enc P W 0 (fun _=>true) true ts vs ds ps)(hlt:∀p∈ps,p.block<W.heap.size)(hk:Kept W W' (·∈([]:List Nat)))(sp:Nat->Bool)(hsp:∀p∈ps,sp p.block=true):DataW.TrodAll enc P W' 0 sp true ts vs ds ps:=by have h1:=DataW.TrodAll.respare (kids_rows hl hm) (slices_full_of P hz) hT hA hsp;clear hA hsp hT;induction ts generalizing vs ds ps with|nil=>(cases vs<;>cases ds<;>first|exact h1|(simp[DataW.TrodAll]at h1))|cons t ts ih=>cases vs with|nil=>(simp[DataW.TrodAll]at h1)|cons v vs=>cases ds with|nil=>(simp[DataW.TrodAll]at h1)|cons d ds=>obtain⟨p,q,⟨fuel,h2⟩,h3,rfl⟩:=h1;refine⟨p,q,⟨fuel,DataW.trod_carry _ _ _ _ h2 fun x hx=>ak5 (SJ hk) (hlt x (List.mem_append_left _ hx)) hk⟩,ih (fun x hx=>hlt x (List.mem_append_right _ hx)) h3,rfl⟩
theorem alP{W:World}{base:Nat}{sp:Nat->Bool}{hd:Bool}{t:TypeId}{v:Value}{d:DataW H}{ps:List MemPlace}{n:Nat}(hp:vF P n t=true)(h:DataW.Trod enc P W base sp hd t v d ps){B:Nat}(hB:Small B d):∃cells,ay W (·<W.heap.size) cm [] v.cells.toList cells∧pX P B t cells:=by obtain⟨fuel,h⟩:=h;exact(alQ n t _ _ hp fuel h hB).2
end
section
variable{P:Program}{t:TypeId}{cells:List U}{B:Nat}
theorem abH(hu:P.underlying t=some .string)(h:pX P B t cells):∃n,cells=[.val (.string n)]∧n.size<=B:=by cases h with|str h1 h2=>(exact⟨_,rfl,h2⟩)|int h1=>(rw[hu]at h1;cases h1)|bool h1=>(rw[hu]at h1;cases h1)|sl h1=>(rw[hu]at h1;cases h1)|st h1=>rw[hu]at h1;cases h1
end
open Go Go.ChangeShapes Go.WideShapes Go.ChangeAt Go.RowKit
theorem ZB{P:Program}{W:World}{r:Reach}{base:Nat}{t:TypeId}{v:Value}{d:TypeDesc}{a:U}(ht:P.underlying t=some d)(hd:(match d with| .bool=>true| .int _=>true| .string=>true| .slice _=>true|_=>false)=true)(hval:Value.okWide P W r base t v)(h:ay W (·<W.heap.size) cm [] v.cells.toList [a]):R W (·<W.heap.size) cm [] v a:=by have hc:v.cells= #[v]:=by{unfold Value.okWide at hval;rw[ht]at hval;cases d<;>simp at hd<;>simp only[Cell.okWide,ht,Cell.ok]at hval<;>cases v<;>first|rfl|(simp at hval)};rw[hc]at h;obtain⟨f1,f2,v',vs',e1,e2,h1,h2⟩:=ay.cons_inv h;obtain⟨rfl,rfl⟩:=h2.iX;simp at e2 e1;obtain rfl:=e2;subst e1;exact h1
end Go.Ab
