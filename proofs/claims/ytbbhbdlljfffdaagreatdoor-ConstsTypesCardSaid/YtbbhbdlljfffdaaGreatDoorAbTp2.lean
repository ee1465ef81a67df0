import Derived.Test.YtbbhbdlljfffdaaGreatDoorAbKn4
open ByteArray renaming mk->GE
open List renaming replicate->Do
open Option renaming bind_some->AC
set_option linter.all false
namespace Go.Ab
open Go Go.Proofs
structure amz(N aC:au)(l l':List Int)(B:Nat):Prop where
 ZS:B<=N.length
 FE:B<=aC.length
 node:∀j,j<B->nd aC j=nd N j
 nm:∀j,j<B->l'[j]? =l[j]?
 aoL:∀k,k<B->(nd N k).Kids.length<=1000
 ez:∀k,k<B->∀x∈(nd N k).Kids,∃c:Nat,x=(c:Int)∧c<k
 low:∀j,j<B->(nd N j).Kind=32∨(nd N j).Kind=33->∀q:Nat,l[j]? =some (q:Int)->q<B
 name:∀j,j<B->(nd N j).Kind=32->∃q:Nat,l[j]? =some (q:Int)
structure amA(N aC:au)(l l':List Int)(B:Nat)(y y':bO):Prop where
 t:y.t=⟨N⟩
 t':y'.t=⟨aC⟩
 names:y.names=l
 names':y'.names=l'
 of:∀j,j<B->y'.bg[j]? =y.bg[j]?
 fn:y'.fn=y.fn
 loops:y'.loops=y.loops
 leave:y'.leave=y.leave
 fB:y.bg.length=N.length
 sC:y'.bg.length=aC.length
theorem mM{α:Type}{l:List α}{n:Nat}:idx l (n:Int)=l[n]? :=by unfold idx;rw[if_pos (by omega),Int.toNat_natCast]
section
variable{N aC:au}{l l':List Int}{B:Nat}{y y':bO}{k:Nat}
end
open Go Go.Proofs
def wk(N:au)(nl:List Int):bO:=⟨⟨N⟩,nl,Do N.length 0,⟨0,GE #[],0,0,[],0⟩,0,0⟩
section
variable{N:au}{nl:List Int}
theorem alL(hN:nV N){aA:Nat}(hf:3*N.length<=aA){l:List Int}{e:aO}(h:ox aA ⟨N⟩=some (l,e))(he:e.Code=0):∃nl root y' ys v,root+1=N.length∧pq aA ⟨N⟩=some (nl,⟨0,0⟩)∧eL aA (wk N nl) (root:Int)=some (⟨0,0⟩,y')∧y'.bg=l∧gV N 0 (nd N root).Kids=some ys∧eH (fun(iR:Int×aM)(_:Unit)=>ki ⟨N⟩ (⟨0,0⟩,y') iR) ys ()=some (.ret (.inr v)):=by obtain⟨nl,e1,h1,h3,h4⟩:=Mj hN hf;unfold ox at h;rw[h1,AC]at h;by_cases hc:e1.Code=0;·{obtain⟨rfl,⟨w1,kY,hg,w3,y7⟩,fz,hl,hnm,_⟩:=h4 hc;obtain⟨root,hroot⟩:∃root,root+1=N.length:=⟨N.length-1,by omega⟩;have eD:root<N.length:=by{omega};have hw:aL ((N.length:Int)-1)=(root:Int):=by{rw[fC (by omega) (by omega)];omega};have GF:Ctx N nl:=⟨hg,kY,hN,hl,hnm⟩;have Lj:kq N nl (wk N nl):=⟨rfl,rfl,by simp[wk],fun x hx=>by rw[(List.mem_replicate.1 hx).2];unfold iF;omega⟩;obtain⟨e,y',a1,a3⟩:=Vq GF root eD aA _ (by omega) Lj ⟨Int.le_refl _,Int.le_refl _,by show(0:Int)+_<=_;omega,by show(0:Int)+_<=_;omega⟩ (fun j _ hj=>by show(List.replicate N.length (0:Int))[j]? =some 0;rw[List.getElem?_replicate,if_pos (by omega)]);have tc:eL aA ⟨⟨N⟩,nl,List.replicate N.length 0,⟨0,ByteArray.mk #[],0,0,[],0⟩,0,0⟩ (root:Int)=some (e,y'):=a1;simp only[beq_self_eq_true,Bool.and_self,Bool.not_true,Bool.false_eq_true,if_false,Mg kY,Option.bind_some,hw,tc]at h;rcases a3 with b1|⟨rfl,b1,b2,b3⟩;·{have:(!((e.Code==0)&&((e.bH==0)&&true)))=true:=by{simp[b1]};rw[if_pos this]at h;simp only[Option.some.injEq,Prod.mk.injEq]at h;rw[<-h.2]at he;exact absurd he b1};·obtain⟨ys,hys⟩:=vC hg eD;have gD:=gL hg eD;have ny:jg aM.Kids N (root:Int)=some ys:=by{unfold jg;rw[cw eD,Option.bind_some,if_pos (by omega)];exact hys};have tK:nZ ⟨N⟩ (root:Int)=some (⟨N⟩,(root:Int)):=rfl;obtain⟨x,d1,d3⟩:=S1 (⟨0,0⟩,y') hroot hg kY hys (nd N root).Kids.length 0 (by omega);have rX:eH (fun(iR:Int×aM)(_:Unit)=>ki ⟨N⟩ (⟨0,0⟩,y') iR) ys ()=some x:=d1;simp only[beq_self_eq_true,Bool.and_self,Bool.not_true,Bool.false_eq_true,if_false,tK,ny,Option.bind_some,rX,iZ]at h;rcases d3 with rfl|⟨v,rfl,v1⟩|⟨v,rfl,v1⟩;·{simp only[fu.on,Option.some.injEq,Prod.mk.injEq]at h;rw[<-h.2]at he;exact absurd he (by simp)};·{simp only[fu.on,Sum.elim_inl,Option.some.injEq,Prod.mk.injEq]at h;rw[<-h.2]at he;simp only[v1]at he;exact absurd he (by simp)};·simp only[fu.on,Sum.elim_inr,Option.some.injEq,Prod.mk.injEq]at h;exact⟨nl,root,y',ys,v,hroot,h1,a1,by rw[<-h.1,v1],hys,rX⟩};·rw[if_pos (by simp[hc])]at h;simp only[Option.some.injEq,Prod.mk.injEq]at h;rw[<-h.2]at he;exact absurd he hc
theorem alK{aC:au}{B:Nat}(hB:B+1=aC.length)(h6:aC.length<=600)(gD:(nd aC B).Kids.length<=B){aA:Nat}{l':List Int}(h1:pq aA ⟨aC⟩=some (l',⟨0,0⟩)){y':bO}(h2:eL aA (wk aC l') (B:Int)=some (⟨0,0⟩,y')){ys:List (Int×aM)}(hys:gV aC 0 (nd aC B).Kids=some ys){v}(h3:eH (fun(iR:Int×aM)(_:Unit)=>ki ⟨aC⟩ (⟨0,0⟩,y') iR) ys ()=some (.ret (.inr v)))(hv:v.2.1=y'.bg):ox aA ⟨aC⟩=some (y'.bg,⟨0,0⟩):=by have hw:aL ((aC.length:Int)-1)=(B:Int):=by{rw[fC (by omega) (by omega)];omega};have ny:jg aM.Kids aC (B:Int)=some ys:=by{unfold jg;rw[cw (by omega),AC,if_pos (by omega)];exact hys};have tK:nZ ⟨aC⟩ (B:Int)=some (⟨aC⟩,(B:Int)):=rfl;have iz:eL aA ⟨⟨aC⟩,l',Do aC.length 0,⟨0,GE #[],0,0,[],0⟩,0,0⟩ (B:Int)=some (⟨0,0⟩,y'):=h2;unfold ox;rw[h1,AC];simp only[beq_self_eq_true,Bool.and_self,Bool.not_true,Bool.false_eq_true,if_false,Mg h6,AC,hw,iz,tK,ny,h3,fu.on,Sum.elim_inr,hv]
end
open Go Go.Proofs
section
variable{N aC:au}{B:Nat}
structure amx(N aC:au)(B:Nat):Prop where
 good:b8 N B
 kind:∀j,j<B->(nd aC j).Kind=(nd N j).Kind
 kids:∀j,j<B->(nd aC j).Kids=(nd N j).Kids
end
end Go.Ab
