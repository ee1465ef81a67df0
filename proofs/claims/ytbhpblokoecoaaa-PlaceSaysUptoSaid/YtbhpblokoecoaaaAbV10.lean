import Derived.Test.YtbhpblokoecoaaaAbV7
namespace Go.Ab
open Go
/-! ### Maps as lists of pairs -/
section
variable{K V:Type}
def e7(eq:K→K→Bool):List (K×V)→K→Option V|[],_=>none|e::l,k=>if eq k e.1 then some e.2 else e7 eq l k
def lu(eq:K→K→Bool):List (K×V)→K→V→List (K×V)|[],k,v=>[(k,v)]|e::l,k,v=>if eq k e.1 then(k,v)::l else e::lu eq l k v
end
def nD(a b:Int):Bool:=a==b
def iu(a b:ByteArray):Bool:=a==b
theorem Ig{a b:ByteArray}:iu a b=true↔a=b:=⟨Mo,fun h=>by subst h;exact Mp _⟩
class tR{K:Type}(fj:K→Value)(kind:outParam TypeDesc)(eq:outParam (K→K→Bool)):Prop where same:∀a b,Instr.sameNow kind (fj a) (fj b)=some (eq a b)sc:∀a,er (fj a)=true
class Hw{V:Type}(ev:V→Value):Prop where sc:∀a,er (ev a)=true
def oh(n:Int):Value:= .int .i64 n
def yd(s:ByteArray):Value:= .string s
def Bo(b:Bool):Value:= .bool b
instance:tR oh (.int .i64) nD:=⟨fun a b=>rfl,fun _=>rfl⟩
instance:tR yd .string iu:=⟨fun _ _=>rfl,fun _=>rfl⟩
instance:Hw oh:=⟨fun _=>rfl⟩
instance:Hw Bo:=⟨fun _=>rfl⟩
def lp{K V:Type}(fj:K→Value)(ev:V→Value)(e:K×V):List aa:=[.val (fj e.1), .val (ev e.2)]
section
variable{K V:Type}{fj:K→Value}{ev:V→Value}{kind:TypeDesc}{eq:K→K→Bool}
theorem Fl [hk:tR fj kind eq]:∀(l:List (K×V))(k:K),oD kind (fj k) (l.map (lp fj ev))=some ((e7 eq l k).map ev)|[],_=>rfl|e::l,k=>by simp only[List.map_cons,lp,oD,hk.same,e7];cases h:eq k e.1 with|true=>(rfl)|false=>simpa[lp]using Fl l k
theorem Q8 [hk:tR fj kind eq]:∀(l:List (K×V))(k:K)(v:V),xw kind (fj k) (ev v) (l.map (lp fj ev))=some ((lu eq l k v).map (lp fj ev))|[],_,_=>rfl|e::l,k,v=>by simp only[List.map_cons,lp,xw,hk.same,lu];cases h:eq k e.1 with|true=>(rfl)|false=>have:=Q8 l k v;simp[this,lp]
end
class vz(C:aV)(T:TypeId)(kind:outParam TypeDesc)(z:outParam Value):Prop where mt:zN C T=some (kind,z)
section
variable{C:aV}{f:FuncId}{call:FuncId→List aa→Option (aa×List aa)}{S:an}{g:Bool}
variable{d:Nat}{ty:TypeId}{pos:String}{bq:Array Edge}{bJ:Option (Nat×Bool)}{x y z:Operand}{T:TypeId}
variable{K V:Type}{fj:K→Value}{ev:V→Value}{kind:TypeDesc}{eq:K→K→Bool}{cG:V}{l:List (K×V)}{k:K}{v:V}{id:Id}
theorem Ky{tJ:Value}[hm:vz C T kind tJ](hf:S.h [d]=none:=by exact rfl):bD C f call S g ⟨some d, .makeMap T none,ty,pos,bq,bJ⟩=some ⟨[(d, .mr [d])],[],[([d],some [])]⟩:=by show sx C S _ T none=_;simp[sx,hm.mt,hf,put]
theorem Qf [hm:vz C T kind (ev cG)][hk:tR fj kind eq](hx:un g (S.get C x)= .mr id:=by first|exact rfl|exact b6)(hh:S.h id=some (some (l.map (lp fj ev))):=by exact rfl)(hy:un g (S.get C y)= .val (fj k):=by first|exact rfl|exact b6):bD C f call S g ⟨some d, .lookup T x y true,ty,pos,bq,bJ⟩=some ⟨[(d, .b9 [.val (ev ((e7 eq l k).getD cG)),B (e7 eq l k).isSome])],[id],[]⟩:=by show nH C S _ T (un g (S.get C x)) (un g (S.get C y)) true=_;rw[hx,hy];simp only[nH,hm.mt,uQ,hh,Fl];cases e7 eq l k<;>rfl
theorem acE [hm:vz C T kind (ev cG)][hk:tR fj kind eq](hx:un g (S.get C x)= .mr id:=by first|exact rfl|exact b6)(hh:S.h id=some (some (l.map (lp fj ev))):=by exact rfl)(hy:un g (S.get C y)= .val (fj k):=by first|exact rfl|exact b6):bD C f call S g ⟨some d, .lookup T x y false,ty,pos,bq,bJ⟩=some ⟨[(d, .val (ev ((e7 eq l k).getD cG)))],[id],[]⟩:=by show nH C S _ T (un g (S.get C x)) (un g (S.get C y)) false=_;rw[hx,hy];simp only[nH,hm.mt,uQ,hh,Fl];cases e7 eq l k<;>rfl
theorem acD [hm:vz C T kind (ev cG)][hk:tR fj kind eq](hx:un g (S.get C x)= .im (l.map (lp fj ev)):=by first|exact rfl|exact b6)(hy:un g (S.get C y)= .val (fj k):=by first|exact rfl|exact b6):bD C f call S g ⟨some d, .lookup T x y true,ty,pos,bq,bJ⟩=some ⟨[(d, .b9 [.val (ev ((e7 eq l k).getD cG)),B (e7 eq l k).isSome])],[],[]⟩:=by show nH C S _ T (un g (S.get C x)) (un g (S.get C y)) true=_;rw[hx,hy];simp only[nH,hm.mt,uQ,Fl];cases e7 eq l k<;>rfl
theorem Qi{tJ:Value}[hm:vz C T kind tJ][hk:tR fj kind eq][hv:Hw ev](hx:un g (S.get C x)= .mr id:=by first|exact rfl|exact b6)(hh:S.h id=some (some (l.map (lp fj ev))):=by exact rfl)(hy:un g (S.get C y)= .val (fj k):=by first|exact rfl|exact b6)(hz:un g (S.get C z)= .val (ev v):=by first|exact rfl|exact b6):bD C f call S g ⟨none, .mapUpdate T x y z,ty,pos,bq,bJ⟩=some ⟨[],[id],[(id,some ((lu eq l k v).map (lp fj ev)))]⟩:=by show pQ C S _ T (un g (S.get C x)) (un g (S.get C y)) (un g (S.get C z))=_;rw[hx,hy,hz];simp[pQ,hm.mt,hh,Q8,hk.sc,hv.sc,put]
end
end Go.Ab
namespace Go.Ab
open Go
inductive fc(σ bU:Type)where|go(s:σ)|ret(t:bU)|ex(t:bU)
def eR{α σ bU:Type}(step:α→σ→Option (fc σ bU)):List α→σ→Option (fc σ bU)|[],s=>some (.go s)|y::ys,s=>(step y s).bind fun z=>match z with| .go s'=>eR step ys s'|z=>some z
def fc.on{σ bU ρ:Type}(w9:σ→Option ρ)(oQ w8:bU→Option ρ):fc σ bU→Option ρ| .go s=>w9 s| .ret s=>oQ s| .ex s=>w8 s
section
variable{C:aV}{f:FuncId}{call:gS}{S:an}{Q:Exit×an→Prop}{assign body:Code}{α σ bU ρ:Type}{r:ρ}{rep:σ→an}{fh:bU→an}{enc:α→List aa}{dh:Operand}{ps:Array Tmp}{j:Nat}
def EM(o:Option (Bool×List Nat))(rep:σ→an)(fh:bU→an)(j:Nat)(z:fc σ bU)(x:Exit×an):Prop:=match z with| .go s=>x.1= .normal∧ei o x.2=some (rep s)| .ret s=>x.1= .ret∧ei o x.2=some (fh s)| .ex s=>x.1= .exit j∧ei o x.2=some (fh s)
def Hu(C:aV)(f:FuncId)(call:gS)(body:Code)(Q:Exit×an→Prop)(x:Exit×an):Prop:=x.1= .normal∧W C f call body x.2 Q
theorem xS{S:an}(h:W C f call body S Q):Hu C f call body Q (.normal,S):=⟨rfl,h⟩
theorem aeW{step:α→σ→Option (fc σ bU)}{ys:List α}{e3:σ}{w9:σ→Option ρ}{oQ w8:bU→Option ρ}(rep:σ→an)(fh:bU→an)(j:Nat)(hF:(eR step ys e3).bind (fc.on w9 oQ w8)=some r)(hg:zZ C (un true (S.get C dh))=some (ys.map enc))(h0:ei (xz C f assign body) S=some (rep e3))(R:α→σ→an)(hR:∀y s,D2 (rep s) ps.toList (enc y)=some (R y s))(round:∀y s z,step y s=some z→W C f call assign (R y s) (Hu C f call body (EM (xz C f assign body) rep fh j z)))(ai:∀s,w9 s=some r→Q (.normal,rep s))(pr:∀s,oQ s=some r→Q (.ret,fh s))(Du:∀s,w8 s=some r→Q (.exit j,fh s)):W C f call (.rangeFunc dh ps assign body) S Q:=by obtain⟨v,h1,h2⟩:=Option.bind_eq_some_iff.1 hF;have key:∀(ys:List α)(s:σ),eR step ys s=some v→∃x,pR (fun ck=>(cL C f call kE assign ck).bind fun x=>match x.1 with| .normal=>cL C f call kE body x.2|_=>none) (ei (xz C f assign body)) ps.toList (ys.map enc) (rep s)=some x∧Q x:=by{intro ys;induction ys with|nil=>(intro s h;simp only[eR,Option.some.injEq]at h;subst h;exact⟨_,rfl,ai s h2⟩)|cons y ys ih=>intro s h;simp only[eR,Option.bind_eq_some_iff]at h;obtain⟨z,hz,h⟩:=h;obtain⟨⟨e,ck⟩,g1,rfl,⟨e2,eM⟩,g2,g3⟩:=round y s z hz;simp only[List.map_cons,pR,hR,Option.bind_some,g1,g2];cases z with|go s'=>(obtain⟨rfl,g3⟩:=g3;simp only at g3;simp only[g3,Option.bind_some];exact ih s' h)|ret s'=>(obtain⟨rfl,g3⟩:=g3;simp only[Option.some.injEq]at h;subst h;simp only at g3;simp only[g3,Option.bind_some];exact⟨_,rfl,pr s' h2⟩)|ex s'=>obtain⟨rfl,g3⟩:=g3;simp only[Option.some.injEq]at h;subst h;simp only at g3;simp only[g3,Option.bind_some];exact⟨_,rfl,Du s' h2⟩};obtain⟨x,h3,h4⟩:=key ys e3 h1;refine⟨x, ?_,h4⟩;simp only[cL,hg,Option.bind_some,h0];exact h3
theorem xU{step:α→σ→Option (fc σ bU)}{ys:List α}{e3:σ}{w9:σ→Option ρ}{oQ w8:bU→Option ρ}(rep:σ→an)(fh:bU→an)(j:Nat)(hF:(eR step ys e3).bind (fc.on w9 oQ w8)=some r)(hg:zZ C (un true (S.get C dh))=some (ys.map enc))(h0:ei (xz C f assign body) S=some (rep e3)){n:Nat}(hn:∀s,(rep s).n=n)(hl:∀y,ps.toList.length=(enc y).length)(hp:(ps.toList.all fun p=>Nat.blt p n)=true)(round:∀y s z,step y s=some z→W C f call assign ⟨(rep s).n,s5 (rep s).t (ps.toList.zip (enc y)),(rep s).h⟩ (Hu C f call body (EM (xz C f assign body) rep fh j z)))(ai:∀s,w9 s=some r→Q (.normal,rep s))(pr:∀s,oQ s=some r→Q (.ret,fh s))(Du:∀s,w8 s=some r→Q (.exit j,fh s)):W C f call (.rangeFunc dh ps assign body) S Q:=aeW rep fh j hF hg h0 (fun y s=>⟨(rep s).n,s5 (rep s).t (ps.toList.zip (enc y)),(rep s).h⟩) (fun y s=>by unfold D2;rw[if_pos ⟨hl y,by rw[List.all_eq_true]at hp⊢;intro p aam;rw[decide_eq_true_eq,hn];exact of_decide_eq_true (lO (hp p aam))⟩]) round ai pr Du
theorem o3{o:Option (Bool×List Nat)}{z:fc σ bU}{s:σ}{S:an}(hF:some (fc.go s)=some z)(h:ei o S=some (rep s)):EM o rep fh j z (.normal,S):=by cases hF;exact⟨rfl,h⟩
theorem th{o:Option (Bool×List Nat)}{z:fc σ bU}{s:bU}{S:an}(hF:some (fc.ret s)=some z)(h:ei o S=some (fh s)):EM o rep fh j z (.ret,S):=by cases hF;exact⟨rfl,h⟩
end
section
variable{C:aV}{f:FuncId}{call:gS}{c:Code}{Q:Exit×an→Prop}{n:Nat}{t t2:Nat→aa}{h:Id→Option (Option Rows)}{l:List Nat}{vs:List aa}{zs:List (Nat×aa)}
theorem AP(k:W C f call c ⟨n,t2,h⟩ Q)(hm:aF n l vs=⟨n,t,h⟩:=by exact Gh)(ht:s5 t zs=t2:=by exact rfl):W C f call c ⟨(aF n l vs).n,s5 (aF n l vs).t zs,(aF n l vs).h⟩ Q:=by subst ht;rw[hm];exact k
theorem ae4{l:List (Nat×aa)}{h:List (Id×Rows)}(k:W C f call c ⟨n,t2,qe h⟩ Q)(ht:s5 (dO (fun _=> .bX) l) zs=t2:=by exact rfl):W C f call c ⟨(kM n l h).n,s5 (kM n l h).t zs,(kM n l h).h⟩ Q:=by subst ht;exact k
end
end Go.Ab
namespace Go.Ab
open Go
instance:jQ iK:=⟨fun x=>by cases x<;>rfl⟩
instance:qy iK:=⟨fun x=>by cases x<;>rfl,fun x=>by cases x<;>rfl⟩
instance:EI iK iK:=⟨fun x=>by cases x<;>rfl⟩
theorem ads(o:Option Int):e5 (g8 o)=true:=by cases o<;>rfl
theorem adt(q:List (Option Int)):(q.map iK).all zV=true:=by induction q with|nil=>(rfl)|cons o q ih=>simp only[List.map_cons,List.all_cons,ih,Bool.and_true,iK];cases o<;>rfl
theorem Q5{P:Program}{T e:TypeId}{d:Nat}(hu:P.underlying T=some (.pointer e)):dz P (Op.equalIn (d+1) T (.pointer none) (.pointer none))=some true:=by unfold Op.equalIn;rw[iX,uZ hu];rfl
section
variable{C:aV}{f:FuncId}{call:gS}{S:an}{g:Bool}{d:Nat}{ty:TypeId}{pos:String}{bq:Array Edge}{bJ:Option (Nat×Bool)}
theorem uS{dX x:Operand}{ts:Array TypeId}{eO:FuncId}{cells:List aa}{id ga:Id}{n:Nat}{i c:Int}{kids:List Int}{q:List (Option Int)}{el:Option Int}(h1:idx kids i=some c)(h2:idx q c=some el)(hfo:un g (S.get C dX)= .fn (.func eO) [] [.mp id 0 0, .au cells]:=by exact rfl)(hx:un g (S.get C x)= .val (.int .i64 i):=by first|exact rfl|exact yc|exact b6)(hlk:C.look eO=true:=by exact rfl)(I1:cells[4]? =some (.sl (kids.map fun k=>[.val (.int .i64 k)])):=by exact rfl)(hid:S.h id=some (some [[.rs ga 0 n]]):=by exact rfl)(wG:S.h ga=some (some (q.map iK)):=by exact rfl)(hn:n=q.length:=by exact qd)(ht:rS C dX=false:=by exact rfl)(p5:pathOf C dX=none:=by exact rfl):bD C f call S g ⟨some d, .call ⟨.value dX, #[x],ts⟩,ty,pos,bq,bJ⟩=some ⟨[(d,g8 el)],[id,ga],[]⟩:=by show(match pathOf C dX with|some p=>pP S _ p ([x].map fun x=>un g (S.get C x))|none=>if rS C dX then _ else nw C f call S _ (un g (S.get C dX)) ([x].map fun x=>un g (S.get C x)))=_;rw[p5];simp only;rw[ht];simp only[Bool.false_eq_true,if_false];rw[hfo];have a1:0≤i∧kids[i.toNat]? =some c:=by{unfold idx at h1;split at h1;·{exact⟨by assumption,h1⟩};·cases h1};have a2:0≤c∧q[c.toNat]? =some el:=by{unfold idx at h2;split at h2;·{exact⟨by assumption,h2⟩};·cases h2};have b1:(kids.map fun k=>[aa.val (.int .i64 k)])[i.toNat]? =some [.val (.int .i64 c)]:=by{rw[List.getElem?_map,a1.2];rfl};have b2:(q.map iK)[c.toNat]? =some [g8 el]:=by{rw[List.getElem?_map,a2.2];rfl};simp only[nw,hlk,if_true,List.map_cons,List.map_nil,hx,List.nil_append,List.cons_append,uP,I1,hid,wG,b1,b2];rw[if_pos ⟨a1.1,a2.1,by rw[hn,List.length_map],adt q,ads el,rfl⟩];rfl
theorem sX{x:Operand}{e:Option Int}{n:Int}(he:e=some n)(hx:un g (S.get C x)=g8 e:=by first|exact rfl|exact yc|exact b6):bD C f call S g ⟨some d, .nilCheck x,ty,pos,bq,bJ⟩=some ⟨[(d, .au [I n])],[],[]⟩:=by show y4 _ (un g (S.get C x))=_;rw[hx,he];rfl
theorem Kv{x:Operand}{T di:TypeId}{el:TypeId}{e:Option Int}[hu:eC C T (.pointer el)](hx:un g (S.get C x)=g8 e:=by first|exact rfl|exact yc|exact b6):bD C f call S g ⟨some d, .binOp .eql T x (.const (.pointer none)) di,ty,pos,bq,bJ⟩=some ⟨[(d,B e.isNone)],[],[]⟩:=by show nE C _ .eql T x (.const (.pointer none)) (un g (S.get C x)) (.val (.pointer none))=_;rw[hx];cases e with|none=>(have hb:eo C.P .eql T x (.const (.pointer none)) (.pointer none) (.pointer none)=some (.bool true):=by{show dz C.P (do let b←Op.equalIn (9999+1) T (.pointer none) (.pointer none);pure (Value.bool b))=_;rw[iX,Q5 hu.ul];rfl};simp only[nE,g8,lG,hb,j5,er,ret,put];rfl)|some n=>simp only[nE,g8,lG,hu.ul,GI];rfl
theorem acF{x:Operand}{T di:TypeId}{el:TypeId}{e:Option Int}[hu:eC C T (.pointer el)](hx:un g (S.get C x)=g8 e:=by first|exact rfl|exact yc|exact b6):bD C f call S g ⟨some d, .binOp .neq T x (.const (.pointer none)) di,ty,pos,bq,bJ⟩=some ⟨[(d,B e.isSome)],[],[]⟩:=by show nE C _ .neq T x (.const (.pointer none)) (un g (S.get C x)) (.val (.pointer none))=_;rw[hx];cases e with|none=>(have hb:eo C.P .neq T x (.const (.pointer none)) (.pointer none) (.pointer none)=some (.bool false):=by{show dz C.P (do let b←Op.equalIn (9999+1) T (.pointer none) (.pointer none);pure (Value.bool (!b)))=_;rw[iX,Q5 hu.ul];rfl};simp only[nE,g8,lG,hb,j5,er,ret,put];rfl)|some n=>simp only[nE,g8,lG,hu.ul,GI];rfl
end
end Go.Ab
