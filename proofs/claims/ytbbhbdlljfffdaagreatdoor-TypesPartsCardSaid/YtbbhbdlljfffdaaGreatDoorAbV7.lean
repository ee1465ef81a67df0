import Derived.Test.YtbbhbdlljfffdaaGreatDoorAbV4
open Option.some renaming injEq→AC
set_option linter.all false
namespace Go.Ab
open Go
/-! ### Operations -/
theorem W7{α:Type}{x:α}{q1 eB:List α}(h:app q1 [x]=some eB):eB[((q1.length:Nat):Int).toNat]? =some x:=by obtain⟨_,rfl⟩:=Ea h;simp
def tQ(n:Nat)(k:Int):Option Nat:=if 0≤k∧k≤n then some k.toNat else none
theorem YT{n m:Nat}{k:Int}(h:tQ n k=some m):m≤n:=by unfold tQ at h;split at h;·{simp only[AC]at h;omega};·cases h
def stk{α:Type}(x:List α×Nat):Option Unit:=if x.2≤x.1.length then some ()else none
theorem qD{α:Type}{x:List α×Nat}{u:Unit}(h:stk x=some u):x.2≤x.1.length:=by unfold stk at h;split at h;·{assumption};·cases h
section
variable{C:aF}{f:FuncId}{call:fO}{S:ah}{g:Bool}
variable{d:Nat}{ty:TypeId}{pos:String}{aV:Array Edge}{bD:Option (Nat×Bool)}{v v':U}
variable{x y z:Operand}{k:IntKind}{a b:Int}{T an:TypeId}
theorem Rw{m row off:Nat}{id:Id}{rows bh:Rows}{r r' cs cs0:List U}{w:Id×Option Rows}{wr:List (Id×Option Rows)}(hr:rows[row]? =some r)(hs:rows.set row r'=bh)[ha:cR C T false m](hx:un g (S.get C x)= .mp id row off:=by first|exact rfl|exact ck)(hh:S.h id=some (some rows):=by exact rfl)(hm:m=1:=by exact rfl)(hl:Nat.ble (off+1) r.length=true:=by exact rfl)(hv:(r.drop off).take 1=cs0:=by exact spine)(hu:bM [d] 0 cs0=(cs,w::wr):=by exact tv)(I2:cs=[v]:=by exact rfl)(hq:r.take off++cs++r.drop (off+1)=r':=by exact spine)(hf:fresh S.h (w::wr)=true:=by exact rfl):bC C f call S g ⟨some d, .load T x,ty,pos,aV,bD⟩=some ⟨[(d,v)],[id],(id,some bh)::w::wr⟩:=by subst hm hq hs;exact Kg (rows:=rows) (r:=r) ha.jZ ha.sz hx hh hr hl (by rw[hv];exact hu) hf (by rw[I2];rfl)
theorem Ru{e:TypeId}{m n:Nat}{bb:Bool}{rows:Rows}{r:List U}{i:Int}{id:Id}(hb:0≤i∧i<n)(hr:rows[i.toNat]? =some r)[hu:c9 C T (.slice e)][hs:cR C e bb m](hx:un g (S.get C x)= .rs id 0 n:=by first|exact rfl|exact ck)(hh:S.h id=some (some rows):=by exact rfl)(hy:un g (S.get C y)= .val (.int k i):=by first|exact rfl|exact ck)(hl:r.length=m:=by exact rfl):bC C f call S g ⟨some d, .indexAddr T x y,ty,pos,aV,bD⟩=some ⟨[(d, .mp id i.toNat 0)],[id],[]⟩:=by show mD C S _ T (un g (S.get C x)) (ei (un g (S.get C y)))=_;simp only[hx,hy,ei,mD,hu.ul,hs.sz];rw[if_pos hb,hh];simp[hr,hl]
theorem Qs{α:Type}{l:List α}{i:Int}{x:α}{n:Nat}(h:idx (l.take n) i=some x):0≤i∧i<n:=by have:=zm h;rw[List.length_take]at this;omega
theorem zn{α:Type}{l:List α}{i:Int}{x:α}{n:Nat}(h:idx (l.take n) i=some x):l[i.toNat]? =some x:=by have:=kf h;rw[List.getElem?_take]at this;split at this;·{exact this};·cases this
theorem afB{e:TypeId}{m n n':Nat}{bb:Bool}{id:Id}{rows:Rows}{hi:Operand}{K:Int}(hc:tQ n K=some n')[hu:c9 C T (.slice e)][hs:cR C e bb m](hm:Nat.blt 0 m=true:=by exact rfl)(hx:un g (S.get C x)= .rs id 0 n:=by first|exact rfl|exact ck)(hh:S.h id=some (some rows):=by exact rfl)(hy:un g (S.get C hi)= .val (.int k K):=by first|exact rfl|exact ck)(hall:(rows.all (·.length==m))=true:=by first|exact vM (fun _=>rfl)|exact ajO (fun _=>rfl) rfl)(hn:n≤rows.length:=by(simp only[List.length_map,List.length_set];exact xd)):bC C f call S g ⟨some d, .slice T x none (some hi) none,ty,pos,aV,bD⟩=some ⟨[(d, .rs id 0 n')],[id],[]⟩:=by show nQ C S _ T (un g (S.get C x)) none (some (ei (un g (S.get C hi))))=_;have hm':0<m:=of_decide_eq_true (lU hm);unfold tQ at hc;split at hc;·{rename_i hk;simp only[AC]at hc;subst hc;have hb:bounds none (some (some K)) n=some (0,K.toNat):=by{unfold bounds;show(if 0≤0∧0≤K∧K≤n then some ((0:Int).toNat,K.toNat)else none)=_;rw[if_pos ⟨by omega,hk.1,hk.2⟩];rfl};simp only[hx,hy,ei,nQ,hu.ul,hs.sz,hh,hb,Option.bind_some];rw[if_pos ⟨by omega,hm',hall⟩];simp[put]};·cases hc
theorem afy{α:Type}{c:α→List U}{q r:List α}{x':α}{id gE:Id}{e:TypeId}{m n:Nat}{row:List U}(hr:app (q.take n) [x']=some r)(hn:n≤q.length)[hu:c9 C T (.slice e)][hu1:c9 C an (.slice e)][hok:qI C e m](hx:un g (S.get C x)= .rs id 0 n:=by exact rfl)(hh:S.h id=some (some (q.map c)):=by exact rfl)(hy:un g (S.get C y)= .rs gE 0 1:=by exact rfl)(lK:S.h gE=some (some [row]):=by exact rfl)(hl:∀x,(c x).length=m:=by exact fun _=>rfl)(hrl:row.length=m:=by exact rfl)(hcell:qz [row]=true:=by exact rfl)(hd:S.h [d]=none:=by exact rfl)(hfz:(C.eD f).contains d=false:=by exact rfl):bC C f call S g ⟨some d, .call ⟨.builtin .append,⟨[x,y]⟩,⟨[T,an]⟩⟩,ty,pos,aV,bD⟩=some ⟨[(d, .rs [d] 0 r.length)],[id,gE],[(id,none),([d],some ((r.map c).set (((q.take n).length:Nat):Int).toNat row))]⟩:=by obtain⟨h1,rfl⟩:=Ea hr;have hrows:rowsOf S.h (.rs id 0 n)=some ((q.take n).map c,[id]):=by{simp only[rowsOf,hh,List.length_map,Nat.zero_add,if_pos hn,List.drop_zero,List.map_take]};have B4:rowsOf S.h (.rs gE 0 1)=some ([row],[gE]):=by{simp[rowsOf,lK]};have e1:(((q.take n++[x']).map c).set (((q.take n).length:Nat):Int).toNat row)=(q.take n).map c++[row]:=by{rw[Int.toNat_natCast,List.map_append,List.set_append_right _ _ (by simp)];simp};rw[e1];refine Np hok.ao hu.ul hu1.ul hx hrows (by rw[hy];exact B4) (by simp[hrl]) hcell (by simpa[oa]using h1) hd hfz ?_;simp only[yj,mA,hh];rw[if_pos (by simp only[Bool.and_eq_true];exact⟨⟨vM hl,by simp⟩,by simp⟩)];simp[put]
end
/-! ### At a function's end -/
section
variable{C:aF}{S:ah}{rv:List ResultVar}{ct:List Nat}{vs outs:List U}{ids is:List Id}{r:U}
theorem bq(h:kH C S rv=some ([r],ids):=by exact LD)(hp:jN S.h S.t ct=some (outs,is):=by exact Ga)(hn:dQ (ids++is)=true:=by exact rfl):Fin C rv ct r outs (.ret,S):=⟨.inl rfl,[r],ids,is,h,hp,hn,rfl⟩
theorem bY{a b:U}(h:kH C S rv=some (a::b::vs,ids):=by exact LD)(hp:jN S.h S.t ct=some (outs,is):=by exact Ga)(hn:dQ (ids++is)=true:=by exact rfl):Fin C rv ct (.aT (a::b::vs)) outs (.ret,S):=⟨.inl rfl,_,ids,is,h,hp,hn,rfl⟩
end
end Go.Ab
