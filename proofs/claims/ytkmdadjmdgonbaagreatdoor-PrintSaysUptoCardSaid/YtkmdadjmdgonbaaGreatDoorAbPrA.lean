import Derived.Test.YtkmdadjmdgonbaaGreatDoorAbPr30
import Derived.Test.YtkmdadjmdgonbaaGreatDoorCards
import Derived.Test.YtkmdadjmdgonbaaGreatDoorTie
import Derived.Stop.LaidErr
open Array renaming getElem?_eq_none->GE
open List renaming getElem?_map->A0
open Nat renaming le_trans->A1
open Option.some renaming inj->AC,injEq->Do
set_option linter.all false
namespace Go.Proofs.YtkmdadjmdgonbaaGreatDoor
open Go Go.Ab Go.ChangeShapes Go.WideShapes Go.ChangeAt Go.RowKit
theorem own:ownKnob Tryz.prog.godebug=none:=by kernel_rfl
theorem laidB:laidOutB Tryz.prog=true:=by kernel_rfl
theorem acV:mapsRowed Tryz.prog=true:=by kernel_rfl
theorem agR:((List.range Tryz.prog.types.size).all fun t=>match Tryz.prog.underlying t with|some (.slice e)=>decide (0<Tryz.prog.cellsOf e)|_=>true)=true:=by kernel_rfl
theorem ahw(t:Nat)(h:t<100):t<Tryz.prog.types.size:=Nat.lt_of_lt_of_le h (of_decide_eq_true (show decide (100<=Tryz.prog.types.size)=true by kernel_rfl))
theorem ae5:tD Tryz.prog 10 24=true:=by kernel_rfl
/-! ### The package's variables -/
theorem Xy{H:Type}{enc:TypeId×Value->H}{P:Program}{w:World}{base:Nat}{sp:Nat->Bool}{held:Bool}{fuel:Nat}{t e:TypeId}{n:Nat}{cs:List Value}{zs:List (List UInt8)}{p:List MemPlace}(ht:P.underlying t=some (.array n e))(he:P.underlying e=some .string)(hce:P.cellsOf e=1)(hct:P.cellsOf t=n)(h:DataW.trod enc P w base sp held fuel t cs=some (DataW.agg (zs.map fun z=>DataW.lit (Lit.string z)),p)):∀(i:Nat)(z:List UInt8),zs[i]? =some z->cs[i]? =some (Value.string (Tk.aB z)):=by cases fuel with|zero=>(simp[DataW.trod]at h)|succ fuel=>simp only[DataW.trod,ht,hce,hct,Nat.mul_one]at h;split at h;·{obtain⟨xs,hm,hx⟩:=Option.map_eq_some_iff.1 h;have hxs:xs.map (·.1)=zs.map fun z=>(DataW.lit (.string z):DataW H):=by{have:=congrArg Prod.fst hx;simpa using this};have hxl:xs.length=n:=by{simpa using Lib.mapM_length hm};have hzl:zs.length=n:=by{have:=congrArg List.length hxs;simp at this;omega};intro i z hz;have hi:i<n:=by{have:=(List.getElem?_eq_some_iff.1 hz).1;omega};obtain⟨b,hb,hf⟩:=Lib.mapM_at hm i i (by simp[hi]);obtain⟨s,hc,rfl,_⟩:=DataW.trod_string he hf;have h1:cs[i]? =some (.string s):=by{have:=congrArg (·[0]?) hc;simpa[List.getElem?_take,List.getElem?_drop]using this};have h2:(xs.map (·.1))[i]? =some (DataW.lit (.string s.data.toList):DataW H):=by{simp[hb]};rw[hxs]at h2;simp only[A0,hz,Option.map_some,Do,DataW.lit.injEq,Lit.string.injEq]at h2;rw[h1,h2];exact congrArg some (congrArg Value.string (Tk.oq s).symm)};·cases h
theorem SQ{P:Program}{W:World}{name:String}{zs:List (List UInt8)}{rest:List (String×DataW Unit)}{g:Nat}{t e:TypeId}{n:Nat}(hg:P.globalNamed name=some g)(hty:(P.globals[g]?).map (·.type)=some t)(ht:P.underlying t=some (.array n e))(he:P.underlying e=some .string)(hce:P.cellsOf e=1)(hct:P.cellsOf t=n)(h:laidMet P ((name,DataW.agg (zs.map fun z=>DataW.lit (Lit.string z)))::rest) W):∀(i:Nat)(z:List UInt8),zs[i]? =some z->W.cell? ⟨g,i,none⟩=some (Value.string (Tk.aB z)):=by obtain⟨ps,⟨g',t',cs,fuel,p,q,hg',ht',abG,hd,_,_⟩,_⟩:=h;obtain rfl:=AC (hg.symm.trans hg');obtain rfl:=AC (hty.symm.trans ht');intro i z hz;rw[World.var?_cell hg abG i];have:=Xy ht he hce hct hd i z hz;simpa using this
theorem Iu{W:World}{g o:Nat}{v:Value}(h:W.cell? ⟨g,o,none⟩=some v):g<W.heap.size:=by unfold World.cell? at h;split at h;·{rename_i hh;rcases Nat.lt_or_ge g W.heap.size with h'|h';·{exact h'};·rw[GE h']at hh;cases hh};·cases h
theorem ME{W:World}{I:Nat->Prop}:∀l:List ByteArray,ay W I b8 [] (l.map Value.string) (l.map o9)|[]=> .nil|_::l=> .cons (f1:=[]) (f2:=[]) (.val rfl) (ME l)
theorem MW{W:World}{g:Nat}{l:List ByteArray}(hb:g<W.heap.size)(hc:∀i s,l[i]? =some s->W.cell? ⟨g,i,none⟩=some (.string s)):R W (·<W.heap.size) b8 [] (.pointer (some ⟨g,0,none⟩)) (.aT (l.map o9)):= .aT (vs:=l.map Value.string) hb (fun k v hk=>by rw[Nat.zero_add];rw[A0]at hk;obtain⟨s,hs,rfl⟩:=Option.map_eq_some_iff.1 hk;exact hc k s hs) (ME l)
theorem HO{W:World}{g:Nat}{v:Value}{a:U}(hc:W.cell? ⟨g,0,none⟩=some v)(ha:R W (·<W.heap.size) b8 [] v a):R W (·<W.heap.size) b8 [] (.pointer (some ⟨g,0,none⟩)) (.aT [a]):= .aT (vs:=[v]) (Iu hc) (fun k u hk=>by rw[Nat.zero_add];match k,hk with|0,hk=>(simp only[List.getElem?_cons_zero,Do]at hk;rw[<-hk];exact hc)|k+1,hk=>simp at hk) (.cons (f1:=[]) (f2:=[]) ha .nil)
abbrev KO:List (String×DataW Unit):=[("math/bits.deBruijn32tab",Rows.laid_math_bits_deBruijn32tab),("math/bits.deBruijn64tab",Rows.laid_math_bits_deBruijn64tab),("internal/strconv.uint64pow10",Rows.laid_internal_strconv_uint64pow10),("strconv.ErrRange",Rows.laid_strconv_ErrRange),("strconv.ErrSyntax",Rows.laid_strconv_ErrSyntax),("turnery/token.keys",Rows.laid_turnery_token_keys),("turnery/token.signs",Rows.laid_turnery_token_signs)]
theorem g2:Tryz.prog.globalNamed "turnery/token.keys" =some 2:=by kernel_rfl
theorem g3:Tryz.prog.globalNamed "turnery/token.signs" =some 3:=by kernel_rfl
theorem g5:Tryz.prog.globalNamed "internal/strconv.uint64pow10" =some 5:=by kernel_rfl
theorem g6:Tryz.prog.globalNamed "strconv.ErrSyntax" =some 6:=by kernel_rfl
theorem g7:Tryz.prog.globalNamed "strconv.ErrRange" =some 7:=by kernel_rfl
theorem Z7:(Tryz.prog.globals[2]?).map (·.type)=some 161:=by kernel_rfl
theorem Z8:(Tryz.prog.globals[3]?).map (·.type)=some 166:=by kernel_rfl
theorem Z9:(Tryz.prog.globals[5]?).map (·.type)=some 188:=by kernel_rfl
theorem aaa:(Tryz.prog.globals[6]?).map (·.type)=some 89:=by kernel_rfl
theorem aab:(Tryz.prog.globals[7]?).map (·.type)=some 89:=by kernel_rfl
theorem Xf:Tryz.prog.cellsOf 161=13:=by kernel_rfl
theorem Xg:Tryz.prog.cellsOf 166=43:=by kernel_rfl
theorem Xi:Tryz.prog.cellsOf 188=20:=by kernel_rfl
theorem Xh:Tryz.prog.cellsOf 174=1:=by kernel_rfl
theorem Fp:Tryz.prog.cellsOf 9=1:=by kernel_rfl
theorem NK:Tryz.prog.cellsOf 198=1:=by kernel_rfl
theorem star: "*" ++ "errors.errorString" = "*errors.errorString" :=by decide
theorem Ov(u:TypeId)(h:Tryz.prog.typeName? 3 u=some "*errors.errorString"):u=196:=typeName_ptr_named (nm:= "errors.errorString") (by rw[star];kernel_rfl) (by kernel_rfl) (by decide) u (by rw[star];exact h)
theorem adp:(KO.filter fun x=>x.2.handleName?.isSome)=[]:=by kernel_rfl
theorem ae9{W:World}(hS:W.ShapedOpen Tryz.prog):∃cs,W.heap[5]? =some (.cells cs 188):=by obtain⟨cs,h,_⟩:=hS.1 5 (Array.replicate 20 (.int .u64 0)) 188 (of_decide_eq_true (by kernel_rfl)) (by kernel_rfl);exact⟨cs,h⟩
theorem afa{W:World}(hS:W.ShapedOpen Tryz.prog)(h:Lib.TabIs Tryz.prog W "internal/strconv.uint64pow10" .u64 Lib.pow10Tab):R W (·<W.heap.size) b8 [] (.pointer (some ⟨5,0,none⟩)) (.gP (Lib.pow10Tab.map fun z=>Value.int .u64 z)):=by obtain⟨cs,hc⟩:=ae9 hS;have h':W.var? Tryz.prog "internal/strconv.uint64pow10" =some (Lib.pow10Tab.map fun z=>Value.int .u64 z).toArray:=h;unfold World.var? at h';rw[g5,Option.bind_some,hc]at h';have e:cs=(Lib.pow10Tab.map fun z=>Value.int .u64 z).toArray:=AC h';refine .gP ?_ ⟨cs,188,hc,by rw[e]⟩;rcases Nat.lt_or_ge 5 W.heap.size with h'|h';·{exact h'};·rw[GE h']at hc;cases hc
theorem Z4{W:World}(hS:W.ShapedOpen Tryz.prog)(h:laidMetH Tryz.prog KO W):∃m:Int,∀g cs,(@av ⟨m⟩).dW g=some cs->R W (·<W.heap.size) b8 [] (.pointer (some ⟨g,0,none⟩)) (mV cs):=by have h0:laidMet Tryz.prog KO W:=by{unfold laidMetH at h;rw[adp]at h;exact h};have h2:=laidMet.tail (laidMet.tail h0);have h3:=laidMet.tail h2;have h4:=laidMet.tail h3;have h5:=laidMet.tail h4;have h6:=laidMet.tail h5;have kp:=afa hS (Lib.tabIs_of_head (k:= .u64) (zs:=Lib.pow10Tab) g5 Z9 Tryz.underlying188 Tryz.underlying174 Xh Xi h2);obtain⟨a4,al7,v4,_⟩:=laid_sentinel h3 g7 aab Tryz.underlying89 Ov Tryz.underlying196 Tryz.underlying198 rfl rfl Tryz.underlying9 NK Fp;obtain⟨a3,tT,v3,_⟩:=laid_sentinel h4 g6 aaa Tryz.underlying89 Ov Tryz.underlying196 Tryz.underlying198 rfl rfl Tryz.underlying9 NK Fp;have k0:=SQ (zs:=mM.map Tk.aJ) g2 Z7 Tryz.underlying161 Tryz.underlying9 Fp Xf h5;have k1:=SQ (zs:=mN.map Tk.aJ) g3 Z8 Tryz.underlying166 Tryz.underlying9 Fp Xg h6;obtain⟨m,hm⟩:=Tryz.acE.s1_3 W hS;refine⟨m,fun g cs hg=> ?_⟩;have hg':(if g=2 then some (mM.map o9)else if g=3 then some (mN.map o9)else if g=6 then some [.nn]else if g=7 then some [.nn]else if g=4 then some [.val (.int .i64 m)]else if g=5 then some [.gP (Lib.pow10Tab.map fun z=>Value.int .u64 z)]else none)=some cs:=hg;have ks:∀{L:List ByteArray}{k:Nat},(∀i z,(L.map Tk.aJ)[i]? =some z->W.cell? ⟨k,i,none⟩=some (.string (Tk.aB z)))->∀i s,L[i]? =some s->W.cell? ⟨k,i,none⟩=some (.string s):=fun hk i s hs=>by{have:=hk i (Tk.aJ s) (by rw[A0,hs];rfl);rwa[Tk.oq]at this};split at hg';·{rename_i hh;subst hh;obtain rfl:=AC hg';exact MW (Iu (ks k0 0 _ rfl)) (ks k0)};·split at hg';·{rename_i hh;subst hh;obtain rfl:=AC hg';exact MW (Iu (ks k1 0 _ rfl)) (ks k1)};·split at hg';·{rename_i hh;subst hh;obtain rfl:=AC hg';have:=World.var?_cell g6 v3 0;exact HO (this.trans rfl) .nn};·split at hg';·{rename_i hh;subst hh;obtain rfl:=AC hg';have:=World.var?_cell g7 v4 0;exact HO (this.trans rfl) .nn};·split at hg';·{rename_i hh;subst hh;obtain rfl:=AC hg';exact HO hm (.val rfl)};·split at hg';·{rename_i hh;subst hh;obtain rfl:=AC hg';exact kp};·cases hg'
/-! ### What a row wants behind the call -/
section
variable{H:Type}{enc:TypeId×Value->H}{P:Program}
theorem ae8{f:Func}{s:ChangeSpec}{W W':World}{args:Array Value}{v:Value}{ds gs:List (DataW H)}{before pa:List MemPlace}(hW:DataW.Whole enc P f.params.toList s.vars false W args.toList ds gs before)(hk:Kept W W' (·∈([]:List Nat)))(hres:∀(b:Nat)(sp:Nat->Bool)(hd:Bool),DataW.TrodAll enc P W' b sp hd f.resultTypes.toList (v.resultList f.resultTypes.size) (s.fn H (ds++gs)).results [])(hargs:∀sp:Nat->Bool,(∀p∈before,sp p.block=true)->DataW.TrodAll enc P W' 0 sp true f.params.toList args.toList (s.fn H (ds++gs)).args pa)(hvars:∀sp:Nat->Bool,DataW.TrodVars enc P W' sp s.vars (s.fn H (ds++gs)).vars [])(hps:before=pa)(hok:∀(j:Nat)(t:TypeId)(r:Value),f.resultTypes[j]? =some t->(v.resultList f.resultTypes.size)[j]? =some r->Value.okWide P W' .any 0 t r):s.post enc P f false true false false W args v W':=by subst hps;have hold:∀p∈before,(fun b=>decide (b<W.heap.size)) p.block=true:=fun p hp=>by{simpa using hW.lt p hp};have hlt:=hW.lt;refine⟨ds,gs,before,[],before,[],hW,hres _ _ _,hargs _ hold,hvars _,World.keptBut_mono (fun _ h=>h.elim) (Qd hk),fun _=> ?_⟩;obtain⟨_,_,_,_,_,hz,hn⟩:=hW;refine⟨hok,_,_,([]++before)++[],⟨[]++before,[],trodAll_append (hargs _ (fun _ _=>rfl)) (hres _ _ _),hvars _,rfl, ?_, ?_⟩, ?_⟩;·{intro b off hp;have hp':MemPlace.cell b off∈before:=by{simpa using hp};rw[hk.gx _ (hlt _ hp')];exact hz b off hp'};·{intro ha;simpa using hn ha};·intro p hp _;simpa using hp
end
noncomputable def KP(os:Os):World:=
 let w:=World.holding Tryz.prog os ⟨#[], #[],[]⟩
 let N:=w.heap.size
 let put:=fun(h:Array Obj)(g:Nat)(cs:Array Value)=>h.modify g fun
  | .cells _ t frozen=> .cells cs t frozen
  |o=>o
 let ints:=fun(k:IntKind)(zs:List Int)=>(zs.map fun z=>Value.int k z).toArray
 let h:=put w.heap 2 (mM.map Value.string).toArray
 let h:=put h 3 (mN.map Value.string).toArray
 let h:=put h 6 #[.iface 196 (.pointer (some ⟨N,0,none⟩))]
 let h:=put h 7 #[.iface 196 (.pointer (some ⟨N+1,0,none⟩))]
 let h:=put h 5 (ints .u64 [1,10,100,1000,10000,100000,1000000,10000000,100000000,1000000000,10000000000,100000000000,1000000000000,10000000000000,100000000000000,1000000000000000,10000000000000000,100000000000000000,1000000000000000000,10000000000000000000])
 let h:=put h 8 (ints .u8 [0,1,28,2,29,14,24,3,30,22,20,15,25,17,4,8,31,27,13,23,21,19,16,7,26,12,18,6,11,5,10,9])
 let h:=put h 9 (ints .u8 [0,1,56,2,57,49,28,3,61,58,42,50,38,29,17,4,62,47,59,36,45,43,51,22,53,39,33,30,24,18,12,5,63,55,48,27,60,41,37,16,46,35,44,21,52,32,23,11,54,26,40,15,34,20,31,10,25,14,19,9,13,8,7,6])
 let h:=h.push (.cells #[.string (Tk.aB [105,110,118,97,108,105,100,32,115,121,110,116,97,120])] 198)
 let h:=h.push (.cells #[.string (Tk.aB [118,97,108,117,101,32,111,117,116,32,111,102,32,114,97,110,103,101])] 198)
 {w with heap:=h}
theorem ahq{B:Nat}(hB:B<=maxLen){t:aL}(h:GM B t):uk t.bn:=by obtain⟨h3,h4⟩:=h;exact⟨A1 h3 hB,fun n hn=>⟨A1 (h4 n hn).2.2.2.2.1.1 hB,A1 (h4 n hn).2.1 hB⟩⟩
theorem ahp{B:Nat}(hB:B<=1048576){t:aL}(h:GM B t):uj t.bn:=fun n hn=>by have:=(h.2 n hn).2.2.2.2.1.1;omega
theorem adz{B:Nat}{t:aL}(h:GM B t):l6 t.bn:=fun n hn=>by have h1:(decide (IntKind.i64.min<=n.N)&&decide (n.N<=IntKind.i64.max))=true:=(h.2 n hn).2.2.1;have h2:=of_decide_eq_true (Bool.and_eq_true_iff.1 h1).2;have e:IntKind.i64.max=9223372036854775807:=by{decide};rw[e]at h2;exact h2
end Go.Proofs.YtkmdadjmdgonbaaGreatDoor
