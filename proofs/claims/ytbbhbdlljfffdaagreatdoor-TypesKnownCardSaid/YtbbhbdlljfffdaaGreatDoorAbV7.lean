import Derived.Test.YtbbhbdlljfffdaaGreatDoorAbV4
open Option.some renaming injEq→AC
set_option linter.all false
namespace Go.Ab
open Go
/-! ### Operations -/
theorem W9{α:Type}{x:α}{q1 dX:List α}(h:app q1 [x]=some dX):dX[((q1.length:Nat):Int).toNat]? =some x:=by obtain⟨_,rfl⟩:=D6 h;simp
def tw(n:Nat)(k:Int):Option Nat:=if 0≤k∧k≤n then some k.toNat else none
theorem YS{n m:Nat}{k:Int}(h:tw n k=some m):m≤n:=by unfold tw at h;split at h;·{simp only[AC]at h;omega};·cases h
def stk{α:Type}(x:List α×Nat):Option Unit:=if x.2≤x.1.length then some ()else none
theorem qm{α:Type}{x:List α×Nat}{u:Unit}(h:stk x=some u):x.2≤x.1.length:=by unfold stk at h;split at h;·{assumption};·cases h
section
variable{C:aG}{f:FuncId}{call:fL}{S:ah}{g:Bool}
variable{d:Nat}{ty:TypeId}{pos:String}{aV:Array Edge}{bB:Option (Nat×Bool)}{v v':U}
variable{x y z:Operand}{k:IntKind}{a b:Int}{T aJ:TypeId}
theorem Rn{m row off:Nat}{id:Id}{rows bn:Rows}{r r' cs cs0:List U}{w:Id×Option Rows}{wr:List (Id×Option Rows)}(hr:rows[row]? =some r)(hs:rows.set row r'=bn)[ha:cU C T false m](hx:un g (S.get C x)= .mp id row off:=by first|exact rfl|exact cp)(hh:S.h id=some (some rows):=by exact rfl)(hm:m=1:=by exact rfl)(hl:Nat.ble (off+1) r.length=true:=by exact rfl)(hv:(r.drop off).take 1=cs0:=by exact spine)(hu:bU [d] 0 cs0=(cs,w::wr):=by exact sY)(I2:cs=[v]:=by exact rfl)(hq:r.take off++cs++r.drop (off+1)=r':=by exact spine)(hf:fresh S.h (w::wr)=true:=by exact rfl):bA C f call S g ⟨some d, .load T x,ty,pos,aV,bB⟩=some ⟨[(d,v)],[id],(id,some bn)::w::wr⟩:=by subst hm hq hs;exact Ka (rows:=rows) (r:=r) ha.jP ha.sz hx hh hr hl (by rw[hv];exact hu) hf (by rw[I2];rfl)
theorem Rl{e:TypeId}{m n:Nat}{bb:Bool}{rows:Rows}{r:List U}{i:Int}{id:Id}(hb:0≤i∧i<n)(hr:rows[i.toNat]? =some r)[hu:c9 C T (.slice e)][hs:cU C e bb m](hx:un g (S.get C x)= .rs id 0 n:=by first|exact rfl|exact cp)(hh:S.h id=some (some rows):=by exact rfl)(hy:un g (S.get C y)= .val (.int k i):=by first|exact rfl|exact cp)(hl:r.length=m:=by exact rfl):bA C f call S g ⟨some d, .indexAddr T x y,ty,pos,aV,bB⟩=some ⟨[(d, .mp id i.toNat 0)],[id],[]⟩:=by show mc C S _ T (un g (S.get C x)) (eo (un g (S.get C y)))=_;simp only[hx,hy,eo,mc,hu.ul,hs.sz];rw[if_pos hb,hh];simp[hr,hl]
theorem Ql{α:Type}{l:List α}{i:Int}{x:α}{n:Nat}(h:idx (l.take n) i=some x):0≤i∧i<n:=by have:=y2 h;rw[List.length_take]at this;omega
theorem y3{α:Type}{l:List α}{i:Int}{x:α}{n:Nat}(h:idx (l.take n) i=some x):l[i.toNat]? =some x:=by have:=jY h;rw[List.getElem?_take]at this;split at this;·{exact this};·cases this
theorem afs{e:TypeId}{m n n':Nat}{bb:Bool}{id:Id}{rows:Rows}{hi:Operand}{K:Int}(hc:tw n K=some n')[hu:c9 C T (.slice e)][hs:cU C e bb m](hm:Nat.blt 0 m=true:=by exact rfl)(hx:un g (S.get C x)= .rs id 0 n:=by first|exact rfl|exact cp)(hh:S.h id=some (some rows):=by exact rfl)(hy:un g (S.get C hi)= .val (.int k K):=by first|exact rfl|exact cp)(hall:(rows.all (·.length==m))=true:=by first|exact vm (fun _=>rfl)|exact ajF (fun _=>rfl) rfl)(hn:n≤rows.length:=by(simp only[List.length_map,List.length_set];exact wS)):bA C f call S g ⟨some d, .slice T x none (some hi) none,ty,pos,aV,bB⟩=some ⟨[(d, .rs id 0 n')],[id],[]⟩:=by show nD C S _ T (un g (S.get C x)) none (some (eo (un g (S.get C hi))))=_;have hm':0<m:=of_decide_eq_true (lG hm);unfold tw at hc;split at hc;·{rename_i hk;simp only[AC]at hc;subst hc;have hb:bounds none (some (some K)) n=some (0,K.toNat):=by{unfold bounds;show(if 0≤0∧0≤K∧K≤n then some ((0:Int).toNat,K.toNat)else none)=_;rw[if_pos ⟨by omega,hk.1,hk.2⟩];rfl};simp only[hx,hy,eo,nD,hu.ul,hs.sz,hh,hb,Option.bind_some];rw[if_pos ⟨by omega,hm',hall⟩];simp[put]};·cases hc
theorem afp{α:Type}{c:α→List U}{q r:List α}{x':α}{id gw:Id}{e:TypeId}{m n:Nat}{row:List U}(hr:app (q.take n) [x']=some r)(hn:n≤q.length)[hu:c9 C T (.slice e)][hu1:c9 C aJ (.slice e)][hok:qt C e m](hx:un g (S.get C x)= .rs id 0 n:=by exact rfl)(hh:S.h id=some (some (q.map c)):=by exact rfl)(hy:un g (S.get C y)= .rs gw 0 1:=by exact rfl)(ld:S.h gw=some (some [row]):=by exact rfl)(hl:∀x,(c x).length=m:=by exact fun _=>rfl)(hrl:row.length=m:=by exact rfl)(hcell:qj [row]=true:=by exact rfl)(hd:S.h [d]=none:=by exact rfl)(hfz:(C.eD f).contains d=false:=by exact rfl):bA C f call S g ⟨some d, .call ⟨.builtin .append,⟨[x,y]⟩,⟨[T,aJ]⟩⟩,ty,pos,aV,bB⟩=some ⟨[(d, .rs [d] 0 r.length)],[id,gw],[(id,none),([d],some ((r.map c).set (((q.take n).length:Nat):Int).toNat row))]⟩:=by obtain⟨h1,rfl⟩:=D6 hr;have hrows:rowsOf S.h (.rs id 0 n)=some ((q.take n).map c,[id]):=by{simp only[rowsOf,hh,List.length_map,Nat.zero_add,if_pos hn,List.drop_zero,List.map_take]};have BU:rowsOf S.h (.rs gw 0 1)=some ([row],[gw]):=by{simp[rowsOf,ld]};have e1:(((q.take n++[x']).map c).set (((q.take n).length:Nat):Int).toNat row)=(q.take n).map c++[row]:=by{rw[Int.toNat_natCast,List.map_append,List.set_append_right _ _ (by simp)];simp};rw[e1];refine No hok.ao hu.ul hu1.ul hx hrows (by rw[hy];exact BU) (by simp[hrl]) hcell (by simpa[nV]using h1) hd hfz ?_;simp only[xY,l8,hh];rw[if_pos (by simp only[Bool.and_eq_true];exact⟨⟨vm hl,by simp⟩,by simp⟩)];simp[put]
end
/-! ### At a function's end -/
section
variable{C:aG}{S:ah}{rv:List ResultVar}{cv:List Nat}{vs outs:List U}{ids is:List Id}{r:U}
theorem aX(h:ku C S rv=some ([r],ids):=by exact Lz)(hp:jD S.h S.t cv=some (outs,is):=by exact F2)(hn:dP (ids++is)=true:=by exact rfl):Fin C rv cv r outs (.ret,S):=⟨.inl rfl,[r],ids,is,h,hp,hn,rfl⟩
theorem b7{a b:U}(h:ku C S rv=some (a::b::vs,ids):=by exact Lz)(hp:jD S.h S.t cv=some (outs,is):=by exact F2)(hn:dP (ids++is)=true:=by exact rfl):Fin C rv cv (.aS (a::b::vs)) outs (.ret,S):=⟨.inl rfl,_,ids,is,h,hp,hn,rfl⟩
end
end Go.Ab
