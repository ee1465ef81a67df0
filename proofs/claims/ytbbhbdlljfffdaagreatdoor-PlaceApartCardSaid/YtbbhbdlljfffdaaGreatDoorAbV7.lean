import Derived.Test.YtbbhbdlljfffdaaGreatDoorAbV4
open Option.some renaming injEq→GE
set_option linter.all false
namespace Go.Ab
open Go
/-! ### Operations -/
theorem YI{α:Type}{x:α}{q1 eH:List α}(h:app q1 [x]=some eH):eH[((q1.length:Nat):Int).toNat]? =some x:=by obtain⟨_,rfl⟩:=Fa h;simp
def ur(n:Nat)(k:Int):Option Nat:=if 0≤k∧k≤n then some k.toNat else none
theorem aaB{n m:Nat}{k:Int}(h:ur n k=some m):m≤n:=by unfold ur at h;split at h;·{simp only[GE]at h;omega};·cases h
def stk{α:Type}(x:List α×Nat):Option Unit:=if x.2≤x.1.length then some ()else none
theorem qV{α:Type}{x:List α×Nat}{u:Unit}(h:stk x=some u):x.2≤x.1.length:=by unfold stk at h;split at h;·{assumption};·cases h
section
variable{C:aL}{f:FuncId}{call:gd}{S:ah}{g:Bool}
variable{d:Nat}{ty:TypeId}{pos:String}{aZ:Array Edge}{bx:Option (Nat×Bool)}{v v':U}
variable{x y z:Operand}{k:IntKind}{a b:Int}{T aQ:TypeId}
theorem SB{m row off:Nat}{id:Id}{rows br:Rows}{r r' cs cs0:List U}{w:Id×Option Rows}{wr:List (Id×Option Rows)}(hr:rows[row]? =some r)(hs:rows.set row r'=br)[ha:cM C T false m](hx:un g (S.get C x)= .mp id row off:=by first|exact rfl|exact bU)(hh:S.h id=some (some rows):=by exact rfl)(hm:m=1:=by exact rfl)(hl:Nat.ble (off+1) r.length=true:=by exact rfl)(hv:(r.drop off).take 1=cs0:=by exact spine)(hu:bT [d] 0 cs0=(cs,w::wr):=by exact tS)(JV:cs=[v]:=by exact rfl)(hq:r.take off++cs++r.drop (off+1)=r':=by exact spine)(hf:fresh S.h (w::wr)=true:=by exact rfl):bw C f call S g ⟨some d, .load T x,ty,pos,aZ,bx⟩=some ⟨[(d,v)],[id],(id,some br)::w::wr⟩:=by subst hm hq hs;exact K2 (rows:=rows) (r:=r) ha.jN ha.sz hx hh hr hl (by rw[hv];exact hu) hf (by rw[JV];rfl)
theorem Sz{e:TypeId}{m n:Nat}{bb:Bool}{rows:Rows}{r:List U}{i:Int}{id:Id}(hb:0≤i∧i<n)(hr:rows[i.toNat]? =some r)[hu:c7 C T (.slice e)][hs:cM C e bb m](hx:un g (S.get C x)= .rs id 0 n:=by first|exact rfl|exact bU)(hh:S.h id=some (some rows):=by exact rfl)(hy:un g (S.get C y)= .val (.int k i):=by first|exact rfl|exact bU)(hl:r.length=m:=by exact rfl):bw C f call S g ⟨some d, .indexAddr T x y,ty,pos,aZ,bx⟩=some ⟨[(d, .mp id i.toNat 0)],[id],[]⟩:=by show mQ C S _ T (un g (S.get C x)) (eB (un g (S.get C y)))=_;simp only[hx,hy,eB,mQ,hu.ul,hs.sz];rw[AC hb,hh];simp[hr,hl]
theorem Rw{α:Type}{l:List α}{i:Int}{x:α}{n:Nat}(h:idx (l.take n) i=some x):0≤i∧i<n:=by have:=Ag h;rw[List.length_take]at this;omega
theorem Ah{α:Type}{l:List α}{i:Int}{x:α}{n:Nat}(h:idx (l.take n) i=some x):l[i.toNat]? =some x:=by have:=gH h;rw[List.getElem?_take]at this;split at this;·{exact this};·cases this
theorem aha{e:TypeId}{m n n':Nat}{bb:Bool}{id:Id}{rows:Rows}{hi:Operand}{K:Int}(hc:ur n K=some n')[hu:c7 C T (.slice e)][hs:cM C e bb m](hm:Nat.blt 0 m=true:=by exact rfl)(hx:un g (S.get C x)= .rs id 0 n:=by first|exact rfl|exact bU)(hh:S.h id=some (some rows):=by exact rfl)(hy:un g (S.get C hi)= .val (.int k K):=by first|exact rfl|exact bU)(hall:(rows.all (·.length==m))=true:=by first|exact wh (fun _=>rfl)|exact aln (fun _=>rfl) rfl)(hn:n≤rows.length:=by(simp only[List.length_map,List.length_set];exact uX)):bw C f call S g ⟨some d, .slice T x none (some hi) none,ty,pos,aZ,bx⟩=some ⟨[(d, .rs id 0 n')],[id],[]⟩:=by show ot C S _ T (un g (S.get C x)) none (some (eB (un g (S.get C hi))))=_;have hm':0<m:=of_decide_eq_true (lq hm);unfold ur at hc;split at hc;·{rename_i hk;simp only[GE]at hc;subst hc;have hb:bounds none (some (some K)) n=some (0,K.toNat):=by{unfold bounds;show(if 0≤0∧0≤K∧K≤n then some ((0:Int).toNat,K.toNat)else none)=_;rw[AC ⟨by omega,hk.1,hk.2⟩];rfl};simp only[hx,hy,eB,ot,hu.ul,hs.sz,hh,hb,Option.bind_some];rw[AC ⟨by omega,hm',hall⟩];simp[put]};·cases hc
theorem ag6{α:Type}{c:α→List U}{q r:List α}{x':α}{id fX:Id}{e:TypeId}{m n:Nat}{row:List U}(hr:app (q.take n) [x']=some r)(hn:n≤q.length)[hu:c7 C T (.slice e)][hu1:c7 C aQ (.slice e)][hok:oY C e m](hx:un g (S.get C x)= .rs id 0 n:=by exact rfl)(hh:S.h id=some (some (q.map c)):=by exact rfl)(hy:un g (S.get C y)= .rs fX 0 1:=by exact rfl)(lO:S.h fX=some (some [row]):=by exact rfl)(hl:∀x,(c x).length=m:=by exact fun _=>rfl)(hrl:row.length=m:=by exact rfl)(hcell:qS [row]=true:=by exact rfl)(hd:S.h [d]=none:=by exact rfl)(hfz:(C.eF f).contains d=false:=by exact rfl):bw C f call S g ⟨some d, .call ⟨.builtin .append,⟨[x,y]⟩,⟨[T,aQ]⟩⟩,ty,pos,aZ,bx⟩=some ⟨[(d, .rs [d] 0 r.length)],[id,fX],[(id,none),([d],some ((r.map c).set (((q.take n).length:Nat):Int).toNat row))]⟩:=by obtain⟨h1,rfl⟩:=Fa hr;have hrows:rowsOf S.h (.rs id 0 n)=some ((q.take n).map c,[id]):=by{simp only[rowsOf,hh,List.length_map,Nat.zero_add,AC hn,List.drop_zero,List.map_take]};have CS:rowsOf S.h (.rs fX 0 1)=some ([row],[fX]):=by{simp[rowsOf,lO]};have e1:(((q.take n++[x']).map c).set (((q.take n).length:Nat):Int).toNat row)=(q.take n).map c++[row]:=by{rw[Int.toNat_natCast,List.map_append,List.set_append_right _ _ (by simp)];simp};rw[e1];refine Og hok.ao hu.ul hu1.ul hx hrows (by rw[hy];exact CS) (by simp[hrl]) hcell (by simpa[oJ]using h1) hd hfz ?_;simp only[y8,mL,hh];rw[AC (by simp only[Bool.and_eq_true];exact⟨⟨wh hl,by simp⟩,by simp⟩)];simp[put]
end
/-! ### At a function's end -/
section
variable{C:aL}{S:ah}{rv:List ResultVar}{cA:List Nat}{vs outs:List U}{ids is:List Id}{r:U}
theorem bn(h:kJ C S rv=some ([r],ids):=by exact Mo)(hp:jZ S.h S.t cA=some (outs,is):=by exact Hi)(hn:dV (ids++is)=true:=by exact rfl):Fin C rv cA r outs (.ret,S):=⟨.inl rfl,[r],ids,is,h,hp,hn,rfl⟩
theorem bA{a b:U}(h:kJ C S rv=some (a::b::vs,ids):=by exact Mo)(hp:jZ S.h S.t cA=some (outs,is):=by exact Hi)(hn:dV (ids++is)=true:=by exact rfl):Fin C rv cA (.aY (a::b::vs)) outs (.ret,S):=⟨.inl rfl,_,ids,is,h,hp,hn,rfl⟩
end
end Go.Ab
