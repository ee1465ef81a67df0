import Derived.Test.YtbbhbdlljfffdaaGreatDoorAbL0
import Derived.Test.YtbbhbdlljfffdaaGreatDoorAbGens
open ByteArray renaming mk->AC
open List renaming ext_getElem?->GE,getElem?_eq_none->GT
open Option renaming bind_some->Do
set_option linter.all false
namespace Go.Ab
open Go Go.Proofs
@[simp]theorem akn{bF ρ β:Type}(f:bF->Option β)(g:ρ->Option β)(x:bF):cA.go f g (.dH x)=f x:=rfl
@[simp]theorem go_ret{bF ρ β:Type}(f:bF->Option β)(g:ρ->Option β)(x:ρ):cA.go f g (.ret x)=g x:=rfl
theorem abV(a b:Bool):(if a then true else b)=(a||b):=by cases a<;>rfl
@[simp]theorem ajk(a b:Int):sH a b=some ⟨a,b⟩:=rfl
@[simp]theorem ama(a b:Int):r5 a b=some ⟨a,b⟩:=rfl
theorem FR:maxLen=9223372036854775807:=rfl
theorem u7{i:Nat}{n:Nat}(h:i<n):decide ((i:Int)<(n:Int))=true:=by simp[h]
theorem u9{n:Nat}:decide ((n:Int)<(n:Int))=false:=by simp
theorem uw{α:Type}{a b:List α}(h:a.length+b.length<=4294967296):app a b=some (a++b):=if_pos h
theorem We(a b:Bool):(if a=true then some true else some b)=some (a||b):=by cases a<;>rfl
/-! ### Names -/
/-! ### Numbers -/
def jm(l:List ByteArray)(s:ByteArray):Bool:=l.any fun x=>x.toList==s.toList
theorem zf{α ρ:Type}(p:α->Bool)(r:ρ):∀(l:List α)(i:Nat),n8 (fun _ x=>if p x then some r else none) i l=if l.any p then some r else none|[],_=>rfl|x::l,i=>by simp only[n8,List.any_cons];by_cases hp:p x=true;·{simp[hp]};·simpa[hp]using zf p r l (i+1)
theorem Gn(l:List ByteArray)(s:ByteArray)(hl:l.length<=maxLen):lF l s=some (jm l s):=by have hm:=FR;have:Loop (fun i=>mY l s i) 0=some (EG (if jm l s then some true else none)):=by{unfold jm;rw[<-zf _ true l 0];refine yy (l:=l) (fun _ x=>if x.toList==s.toList then some true else none) (fun i h=> ?_) ?_;·{unfold mY;simp only[u7 h,if_true,nE h,Do,fW (i:=i) (by omega)];cases l[i].toList==s.toList<;>rfl};·unfold mY;simp only[u9];rfl};unfold lF;rw[this];cases jm l s<;>rfl
abbrev D0:List ByteArray:=[(AC #[43]),(AC #[45]),(AC #[42]),(AC #[47]),(AC #[37]),(AC #[38]),(AC #[124]),(AC #[94]),(AC #[60,60]),(AC #[62,62])]
abbrev Nd:List ByteArray:=[(AC #[61,61]),(AC #[33,61]),(AC #[60]),(AC #[60,61]),(AC #[62]),(AC #[62,61])]
abbrev QO:List ByteArray:=[(AC #[45]),(AC #[33]),(AC #[126]),(AC #[42]),(AC #[38])]
theorem ahJ{s:ByteArray}{n:Nat}(h:n<=s.size):dV s none (some (n:Int))=some (s.extract 0 n):=by unfold dV bounds;simp[h]
def DF(k:Int)(s:ByteArray):Bool:=if k==35 then jm QO s else if k==36 then jm D0 s||jm Nd s else if k==37 then(s.toList==(AC #[38,38]).toList||s.toList==(AC #[124,124]).toList)else if k==39 then(s.toList==(AC #[61]).toList||(decide (1<s.size)&&(match s[s.size-1]? with|some c=>c.toNat==61|none=>false)&&jm D0 (s.extract 0 (s.size-1))))else if k==40 then(s.toList==(AC #[43,43]).toList||s.toList==(AC #[45,45]).toList)else s.toList==(AC #[]).toList
theorem ahA{s:ByteArray}(h:0<s.size)(hl:s.size<=maxLen):∃c,bE s (aO ((s.size:Int)-1))=some c∧s[s.size-1]? =some c:=by have hm:=FR;rw[gT (by omega) (by omega)];unfold bE;rw[if_pos (by omega),show((s.size:Int)-1).toNat=s.size-1 by omega];rw[getElem?_pos s (s.size-1) (by omega)];exact⟨_,rfl,rfl⟩
theorem agP(k:Int)(s:ByteArray)(hl:s.size<=maxLen):x8 k s=some (DF k s):=by have hm:=FR;unfold x8 DF;rw[Gn QO s (by decide),Gn D0 s (by decide),Gn Nd s (by decide)];simp only[Do,We,abV];split;·{rfl};·split;·{rfl};·split;·{rfl};·split;·{by_cases h1:(s.toList==(AC #[61]).toList)=true;·{simp only[h1,if_true,Bool.true_or,Do]};·have h1':(s.toList==(AC #[61]).toList)=false:=by{simpa using h1};simp only[h1',Bool.false_eq_true,if_false,Bool.false_or];by_cases h2:1<s.size;·{obtain⟨c,hc,fY⟩:=ahA (s:=s) (by omega) hl;rw[if_pos (by simp only[decide_eq_true_eq];omega),hc,fY,Option.bind_some];by_cases h3:c.toNat=61;·{have oZ:((c.toNat:Int)==61)=true:=by{simpa using(by omega:(c.toNat:Int)=61)};have e:aO ((s.size:Int)-1)=((s.size-1:Nat):Int):=by{rw[gT (by omega) (by omega)];omega};rw[if_pos oZ,e,ahJ (by omega),Option.bind_some,Gn D0 _ (by decide)];simp[h2,h3]};·have oZ:((c.toNat:Int)==61)=false:=by{simpa using(by omega:¬(c.toNat:Int)=61)};simp[oZ,h3]};·have:¬(1<(s.size:Int)):=by{omega};simp[h2,this]};·split<;>rfl
theorem A8{S bF:Type}{step:S->Option (b6 S bF)}{fU:S}(st:Nat->S)(n:Nat)(r:bF)(h0:st 0=fU)(hs:∀i,i<n->step (st i)=some (.next (st (i+1))))(he:step (st n)=some (.out r)):Loop step fU=some r:=by subst h0;have key:∀k i,n-i=k->i<=n->Loop step (st i)=some r:=by{intro k;induction k with|zero=>(intro i hk hi;obtain rfl:i=n:=by{omega};rw[cO,he];rfl)|succ k ih=>intro i hk hi;rw[cO,hs i (by omega)];exact ih (i+1) (by omega) (by omega)};exact key _ 0 rfl (by omega)
abbrev cW:=List bH
def nd(N:cW)(k:Nat):bH:=N.getD k default
theorem Ki{N:cW}{k:Nat}(h:k<N.length):idx N (k:Int)=some (nd N k):=by rw[nE h];simp[nd,h]
def S9(N:cW):Nat->Nat->Nat|0,_=>0|f+1,k=>1+((nd N k).Kids.map fun x=>S9 N f x.toNat).sum
def yo(N:cW):Nat->Nat->Nat|0,_=>0|f+1,k=>((nd N k).Kids.map fun x=>yo N f x.toNat).foldl max 0+1
def D(N:cW)(k:Nat):Nat:=yo N (k+1) k
theorem Ig{g:Int->Nat}{l:List Int}{i:Nat}(h:i<l.length):((l.take (i+1)).map g).foldl max 0=max (((l.take i).map g).foldl max 0) (g (l.getD i 0)):=by rw[List.take_add_one,List.getElem?_eq_getElem h,List.map_append,List.foldl_append];simp[h]
/-! ### What is wrong with a node -/
def jI(N:cW)(i:Nat)(v:Int):List Int:=(List.range N.length).map fun j=>if j<i then(D N j:Int)else if j=i then v else 0
theorem ET(N:cW)(i:Nat)(v:Int):(jI N i v).length=N.length:=by simp[jI]
theorem HP{N:cW}{i j:Nat}{v:Int}(h:j<N.length):idx (jI N i v) (j:Int)=some (if j<i then(D N j:Int)else if j=i then v else 0):=by rw[nE (by rw[ET];exact h)];simp[jI]
theorem NF{N:cW}{i:Nat}{v w:Int}:(jI N i v).set i w=jI N i w:=by apply GE ;intro j;rw[List.getElem?_set];by_cases hj:j<N.length;·{simp only[jI,List.getElem?_map,List.getElem?_range hj,Option.map_some,List.length_map,List.length_range];by_cases e:i=j;·{subst e;simp[hj]};·have:j≠i:=fun h=>e h.symm;simp[e,this]};·have h1:(jI N i w)[j]? =none:=GT (by rw[ET];omega);have h2:(jI N i v)[j]? =none:=GT (by rw[ET];omega);rw[h1,h2,ET];split;·{rw[if_neg (by omega)]};·rfl
theorem XV{N:cW}{i:Nat}:jI N i (D N i:Int)=jI N (i+1) 0:=by refine List.map_congr_left fun j _=> ?_;by_cases h1:j<i;·{rw[if_pos h1,if_pos (by omega)]};·by_cases h2:j=i;·{subst h2;simp};·rw[if_neg h1,if_neg h2,if_neg (by omega)];simp
theorem XU{N:cW}:List.replicate N.length (0:Int)=jI N 0 0:=by apply GE ;intro j;by_cases hj:j<N.length;·{simp[jI,hj]};·simp[jI,hj]
def ov(N:cW):Nat->Nat|0=>0|i+1=>max (ov N i) (D N i)
theorem Na{α:Type}{l:List α}(h:l.length<=4294967296):clone l=some l:=if_pos h
end Go.Ab
