import Derived.Test.YtbbhbdlljfffdaaGreatDoorAbChk
import Derived.Test.YtbbhbdlljfffdaaGreatDoorAbDec
open ByteArray renaming mk→GT
open Nat renaming le_trans→GE
set_option linter.all false
namespace Go.Ab
open Go Go.Proofs
theorem acK{B:Nat}(hB:B≤maxLen){t:bx}(h:Mb B t):mL t.bn:=by obtain⟨h3,h4⟩:=h;exact⟨GE h3 hB,fun n hn=>⟨GE (h4 n hn).2.2.2.2.1.1 hB,GE (h4 n hn).2.1 hB⟩⟩
end Go.Ab
namespace Go.Ab
open Go Go.Proofs
def CG(N:aF)(h:Nat):Prop:=(nd N h).Kind=2∨(nd N h).Kind=3∨(nd N h).Kind=4∨(nd N h).Kind=12
structure wX(N:aF)(f:nN)(E:List (Int×Int))(m:Nat):Prop where
 t:f.t=⟨N⟩
 Mi:f.out.length=N.length
 n:f.room.2=m+1
 len:m+1≤f.room.1.length
 has:∀p∈E,∃h j:Nat,p=((h:Int),(j:Int))∧h<N.length∧j≤m
 lk:∀j,j≤m→∃mp,f.room.1[j]? =some mp∧∀s,Ly TD mp s=Ab.lk N (j:Int) s E
 ac4:Q5 N E
 small:m≤700
 dk:∀p∈E,CG N p.1.toNat
theorem mj{α:Type}{l:List α}{i:Nat}{x:α}(h:l[i]? =some x):idx l (i:Int)=some x:=by unfold idx;rw[AC (by omega)];simpa using h
section
variable{N:aF}{f:nN}{E:List (Int×Int)}{m:Nat}
end
/-! ### Two trees -/
def Oy(N:aF)(j:Nat):Prop:=CG N j∨(nd N j).Kind=32∨(nd N j).Kind=33
structure adH(N bP:aF)(l:List Int)(B:Nat):Prop where
 adO:B≤N.length
 adQ:B≤bP.length
 kind:∀j,j<B→(nd bP j).Kind=(nd N j).Kind
 kids:∀j,j<B→(nd bP j).Kids=(nd N j).Kids
 back:∀p j,p<B→j<B→CG N p→Oy N j→(nd bP p).Text=(nd bP j).Text→(nd N p).Text=(nd N j).Text
 aeR:∀j q:Nat,j<B→(nd N j).Kind=32∨(nd N j).Kind=33→l[j]? =some (q:Int)→q<B∧(nd bP q).Text=(nd bP j).Text
 afd:∀j,j<B→(nd N j).Kind=33→l[j]? =some (-1)→(nd bP j).Text=(nd N j).Text
def cut(B:Nat)(E:List (Int×Int)):List (Int×Int):=E.filter fun p=>decide (p.1<(B:Int))
structure adE(bP:aF)(B:Nat)(f:nN)(E:List (Int×Int))(m:Nat)(f':nN):Prop where
 rp:wX bP f' (cut B E) m
 out:∀j,j<B→f'.out[j]? =f.out[j]?
section
variable{N bP:aF}{l:List Int}{B:Nat}{f f':nN}{E:List (Int×Int)}{m:Nat}
end
end Go.Ab
namespace Go.Ab
open Go Go.Proofs
def Ok(N:aF)(E:List (Int×Int))(b:Nat):Prop:=∀p∈E,(nd N p.1.toNat).Kind≠2→(nd N p.1.toNat).Kind≠3→p.1<(b:Int)
def Wn(s:ByteArray):Bool:=(s.toList==(GT #[114,101,97,100]).toList)||(s.toList==(GT #[112,114,105,110,116]).toList)
def Nm(N:aF)(l:List Int)(j:Nat):Prop:=((nd N j).Kind=32→∃q:Nat,l[j]? =some (q:Int)∧q<N.length∧((nd N q).Kind=2∨(nd N q).Kind=4∨(nd N q).Kind=12)∧(nd N q).Text=(nd N j).Text∧((nd N q).Kind≠2→q<j))∧((nd N j).Kind=33→(l[j]? =some (-1)∧Wn (nd N j).Text=true)∨∃q:Nat,l[j]? =some (q:Int)∧q<N.length∧(nd N q).Kind=3∧(nd N q).Text=(nd N j).Text)∧((nd N j).Kind=4∨(nd N j).Kind=12→l[j]? =some (j:Int))∧((nd N j).Kind≠2→(nd N j).Kind≠3→(nd N j).Kind≠4→(nd N j).Kind≠12→(nd N j).Kind≠32→(nd N j).Kind≠33→l[j]? =some (-1))
theorem Nm.eq{N:aF}{l l':List Int}{j:Nat}(h:Nm N l j)(e:l'[j]? =l[j]?):Nm N l' j:=by unfold Nm;rw[e];exact h
theorem Nm.no{N:aF}{l:List Int}{j:Nat}(h1:(nd N j).Kind≠32)(h2:(nd N j).Kind≠33)(h3:(nd N j).Kind=4∨(nd N j).Kind=12→l[j]? =some (j:Int))(h4:(nd N j).Kind≠2→(nd N j).Kind≠3→(nd N j).Kind≠4→(nd N j).Kind≠12→l[j]? =some (-1)):Nm N l j:=⟨fun h=>absurd h h1,fun h=>absurd h h2,h3,fun a b c d _ _=>h4 a b c d⟩
structure Ah(N:aF)(f f':nN)(E':List (Int×Int))(m a b:Nat):Prop where
 rel:wX N f' E' m
 of:∀j,j<a∨b≤j→f'.out[j]? =f.out[j]?
 M7:∀j,j<m→f'.room.1[j]? =f.room.1[j]?
 BN:∀j,a≤j→j<b→Nm N f'.out j
 Rb:Ok N E' b
 top:∀j,(nd N j).Kind=2∨(nd N j).Kind=3→f'.out[j]? =f.out[j]?
section
variable{N:aF}{f:nN}{E:List (Int×Int)}{m:Nat}
theorem Ah.trans{f' Jr:nN}{E' HG:List (Int×Int)}{a b b':Nat}(h:Ah N f f' E' m a b)(h':Ah N f' Jr HG m b b')(ha:a≤b)(hb:b≤b'):Ah N f Jr HG m a b':=⟨h'.rel,fun j hj=>(h'.of j (by omega)).trans (h.of j (by omega)),fun j hj=>(h'.M7 j hj).trans (h.M7 j hj),fun j h1 h2=>if hc:j<b then(h.BN j h1 hc).eq (h'.of j (.inl hc))else h'.BN j (by omega) h2,h'.Rb,fun j hj=>(h'.top j hj).trans (h.top j hj)⟩
end
end Go.Ab
namespace Go.Ab
open Go Go.Proofs
theorem Nt{α:Type}:∀{l:List α}{i:Nat}{x:α},l[i]? =some x→l.set i x=l|[],i,x,h=>by{simp at h}|y::l,0,x,h=>by{simp at h;subst h;rfl}|y::l,i+1,x,h=>by simp only[List.set_cons_succ];rw[Nt (by simpa using h)]
section
variable{N:aF}{f:nN}{E:List (Int×Int)}{m:Nat}
theorem wX.put(h:wX N f E m)(k:Nat)(x:Int):wX N ⟨f.t,f.out.set k x,f.room⟩ E m:=⟨h.t,by simp[h.Mi],h.n,h.len,h.has,h.lk,h.ac4,h.small,h.dk⟩
end
end Go.Ab
namespace Go.Ab
open Go Go.Proofs
section
variable{N:aF}{f:nN}{E:List (Int×Int)}{m:Nat}
end
end Go.Ab
namespace Go.Ab
open Go Go.Proofs
structure adG(N bP:aF)(B n':Nat):Prop where
 whole:ry ⟨bP⟩=some ⟨0,0⟩
 ul:bP.length=B+1
 Ct:bP.length≤600
 k1:(nd bP B).Kind=1
 kids:(nd bP B).Kids=(nd N (N.length-1)).Kids.take n'
 le:n'≤(nd N (N.length-1)).Kids.length
 below:∀t c:Nat,(nd N (N.length-1)).Kids[t]? =some (c:Int)→(t<n'↔c<B)
 text:∀j,j<B→(nd N j).Kind=2∨(nd N j).Kind=3→(nd bP j).Text=(nd N j).Text
section
variable{N:aF}
theorem abL{M:aF}{root:Nat}(hroot:root+1=M.length)(h6:M.length≤600):idx M (aU ((M.length:Int)-1))=some (nd M root):=by rw[jM (by omega) (by omega),show(M.length:Int)-1=(root:Int)by omega,th (by omega)]
end
end Go.Ab
namespace Go.Ab
open Go Go.Proofs
section
variable{N bP:aF}{B:Nat}
structure adB(N bP:aF)(B:Nat):Prop where
 good:dx N B
 kind:∀j,j<B→(nd bP j).Kind=(nd N j).Kind
 kids:∀j,j<B→(nd bP j).Kids=(nd N j).Kids
end
theorem acj{a:List Int}(ha:a.length≤1000000):zz a a=some true:=by unfold zz;rw[Do (by simp),rM (fun i:Nat=>(i:Int)) a.length (.fV ()) (by rfl) (fun i hi=>by unfold zA;simp only[pJ hi,if_true,qO hi,Option.bind_some,bne_self_eq_false,Bool.false_eq_true,if_false,nE (show i<9223372036854775807 by omega)]) (by unfold zA;simp only[pK];rfl)];rfl
end Go.Ab
