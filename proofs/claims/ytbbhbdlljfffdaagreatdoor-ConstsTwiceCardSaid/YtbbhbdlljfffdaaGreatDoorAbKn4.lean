import Derived.Test.YtbbhbdlljfffdaaGreatDoorAbLkZ
open Bool renaming or_eq_true→GT
open ByteArray renaming mk→GE
open List renaming getElem?_eq_getElem→Ha,getD_eq_getElem?_getD→Hb
set_option linter.all false
namespace Go.Ab
open Go Go.Proofs
def w4(x:Int):Prop:=0≤x∧x≤2
theorem w4.cases{x:Int}(h:w4 x):x=0∨x=1∨x=2:=by unfold w4 at h;omega
theorem acS(s:ByteArray):∃t b,mO s=some (t,b):=by obtain⟨t,h,_⟩:=Hr s;exact⟨t,_,h⟩
/-! ### Two lists that are equal -/
structure Ctx(N:aF)(l:List Int):Prop where
 hg:dx N N.length
 h6:N.length≤600
 ahh:mL N
 ll:l.length=N.length
 nm:∀j,j<N.length→Nm N l j
structure PZ(N:aF)(l:List Int)(y:uo):Prop where
 t:y.t=⟨N⟩
 names:y.names=l
 Mi:y.zc.length=N.length
 vals:∀x∈y.zc,w4 x
def kt(N:aF)(of:List Int)(k:Nat):List Int:=(nd N k).Kids.map fun x=>of.getD x.toNat 0
section
variable{N:aF}{l:List Int}{y:uo}{k:Nat}
theorem Ctx.oe(h:Ctx N l)(hk:k<N.length){i:Nat}(hi:i<(nd N k).Kids.length):∃c:Nat,(nd N k).Kids[i]? =some (c:Int)∧c<k:=by obtain⟨_,_,_,_,_,_,hkk⟩:=jW h.hg k hk;obtain⟨c,c1,c2,c3⟩:=hkk i hi;refine⟨c, ?_,c3⟩;rw[Ha hi];rw[←c1];simp[hi]
theorem Ns{n:br}(h:we n=0):(tg n.Kind=false→wj n.Kind n.Text=true)∧vG n=true:=by unfold we at h;split at h;·{cases h};·split at h;·{cases h};·rename_i h2;split at h;·{cases h};·rename_i h3;simp only[GT,not_or,Bool.not_eq_true',Bool.not_eq_false]at h3;refine⟨fun hn=> ?_,h3.1⟩;rw[hn]at h2;simpa using h2
theorem aag{s:ByteArray}(h:fU B2 s=true):∃i:Nat,i<5∧(s.toList==(GE #[45]).toList)=decide (i=0)∧(s.toList==(GE #[33]).toList)=decide (i=1)∧(s.toList==(GE #[126]).toList)=decide (i=2)∧(s.toList==(GE #[42]).toList)=decide (i=3)∧(s.toList==(GE #[38]).toList)=decide (i=4):=by have hc:∀x:ByteArray,(x.toList==s.toList)=(s.toList==x.toList):=fun x=>BEq.comm;unfold fU at h;simp only[List.any_cons,List.any_nil,Bool.or_false,hc,GT]at h;rcases h with h|h|h|h|h;·{rw[eq_of_beq h];exact⟨0,by omega,by decide+kernel,by decide+kernel,by decide+kernel,by decide+kernel,by decide+kernel⟩};·{rw[eq_of_beq h];exact⟨1,by omega,by decide+kernel,by decide+kernel,by decide+kernel,by decide+kernel,by decide+kernel⟩};·{rw[eq_of_beq h];exact⟨2,by omega,by decide+kernel,by decide+kernel,by decide+kernel,by decide+kernel,by decide+kernel⟩};·{rw[eq_of_beq h];exact⟨3,by omega,by decide+kernel,by decide+kernel,by decide+kernel,by decide+kernel,by decide+kernel⟩};·rw[eq_of_beq h];exact⟨4,by omega,by decide+kernel,by decide+kernel,by decide+kernel,by decide+kernel,by decide+kernel⟩
/-! ### Calls -/
def pl(N:aF)(q t:Nat):List Int:=((nd N q).Kids.take t).map fun x=>(nd N x.toNat).N
end
end Go.Ab
namespace Go.Ab
open Go Go.Proofs
theorem AM{K:Int}{m:Nat}{c:Int}(h:mS K m=true)(hk:gl K=(c,c))(hc:c≠1099511627776):(m:Int)=c:=by unfold mS at h;rw[hk]at h;simp only[Bool.and_eq_true,decide_eq_true_eq,GT,beq_iff_eq]at h;omega
theorem Ys{α:Type}{l:List α}(h:l.length=1):∃a,l=[a]:=by match l,h with|[a],_=>exact⟨a,rfl⟩
theorem Lq{α:Type}{l:List α}(h:l.length=2):∃a b,l=[a,b]:=by match l,h with|[a,b],_=>exact⟨a,b,rfl⟩
theorem Yt{α:Type}{l:List α}(h:l.length=3):∃a b c,l=[a,b,c]:=by match l,h with|[a,b,c],_=>exact⟨a,b,c,rfl⟩
structure Ot(N:aF)(of:List Int)(k:Nat)(x:Int):Prop where
 ty:w4 x
 one:(nd N k).Kind=31∨(nd N k).Kind=34∨(nd N k).Kind=37→x=1
 ab5:(nd N k).Kind=35→x=if(nd N k).Text.toList==(GE #[38]).toList then 2 else 1
 BN:(nd N k).Kind=32→x≠0
 set:(nd N k).Kind=39∨(nd N k).Kind=40→x≠0∧(kt N of k)[0]? =some x
 pick:(nd N k).Kind=38→(kt N of k)[1]? =some x∧(kt N of k)[2]? =some x
 idx:(nd N k).Kind=34→(kt N of k)[0]? =some 2∧(kt N of k)[1]? =some 1
 not:jx (nd N k).Kind=false→x=0
def Af(N:aF)(of:List Int)(k:Nat):Prop:=∃x,of[k]? =some x∧Ot N of k x
section
variable{N:aF}{l:List Int}{y:uo}{k:Nat}
/-! ### Statements -/
end
end Go.Ab
namespace Go.Ab
open Go Go.Proofs
structure Au(N:aF)(l:List Int)(y y':uo)(a b:Nat):Prop where
 tp:PZ N l y'
 same:∀j,j<a∨b≤j→y'.zc[j]? =y.zc[j]?
 vv:∀j,a≤j→j<b→Af N y'.zc j
section
variable{N:aF}{l:List Int}{y y0:uo}{k:Nat}
theorem Yb(h:Ctx N l){j:Nat}(hj:j<N.length){of tu:List Int}(e:∀i,i<j→tu[i]? =of[i]?):kt N tu j=kt N of j:=by unfold kt;refine List.map_congr_left fun x hx=> ?_;obtain⟨i,hi,rfl⟩:=List.mem_iff_getElem.1 hx;obtain⟨c,c1,c2⟩:=h.oe hj hi;rw[Ha hi]at c1;rw[Option.some.inj c1,Int.toNat_natCast,Hb,Hb,e c c2]
theorem Af.same(h:Ctx N l){j:Nat}(hj:j<N.length){of tu:List Int}(hK:Af N of j)(e:∀i,i≤j→tu[i]? =of[i]?):Af N tu j:=by obtain⟨x,h1,h2⟩:=hK;have oO:=Yb h hj (of:=of) (tu:=tu) fun i hi=>e i (by omega);refine⟨x,(e j (Nat.le_refl _)).trans h1,h2.ty,h2.one,h2.ab5,h2.BN, ?_, ?_, ?_,h2.not⟩;·{rw[oO];exact h2.set};·{rw[oO];exact h2.pick};·rw[oO];exact h2.idx
theorem Au.trans(h:Ctx N l){y1 cj:uo}{a b c:Nat}(h1:Au N l y y1 a b)(h2:Au N l y1 cj b c)(hab:a≤b)(hb:b≤N.length)(hbc:b≤c):Au N l y cj a c:=⟨h2.tp,fun j hj=>(h2.same j (by omega)).trans (h1.same j (by omega)),fun j ha hc=>if e:j<b then(h1.vv j ha e).same h (by omega) fun i hi=>h2.same i (.inl (by omega))else h2.vv j (by omega) hc⟩
end
end Go.Ab
namespace Go.Ab
open Go Go.Proofs
section
variable{N:aF}{l:List Int}
end
end Go.Ab
