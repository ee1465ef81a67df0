import Derived.Test.YtkmdadjmdgonbaaGreatDoorAbLv
import Derived.Test.YtkmdadjmdgonbaaGreatDoorAbLook
import Derived.Test.YtkmdadjmdgonbaaGreatDoorAbShelf10
import Derived.Test.YtkmdadjmdgonbaaGreatDoorChecked
open ByteArray renaming mk->AC
open Nat renaming beq->A0,eq_of_beq_eq_true->Do
open Option.some renaming injEq->A1
set_option linter.all false
namespace Go.Ab
open Go Go.Proofs
def ZM:gZ (List Nat):=(.n 60 (.n 40 (.n 22 (.n 8 (.n 6 (.o 3 [1,4,8,15,19,25] []) (.n 7 (.o 6 [1,4,7,22,28] []) (.o 7 [1,9,21,33,42] []))) (.n 17 (.n 16 (.o 8 [1,5,9,43,47,53,62,87] []) (.o 16 [1,9,26,48] [])) (.n 18 (.o 17 [4,19,22,25,37,44,48,50,51,62,64,65,75,81,85,90,92,93] []) (.o 18 [6,21,30] [])))) (.n 25 (.n 23 (.o 22 [2,5,17,22,28,34,42,79,86,90,94,99,106,110] []) (.n 24 (.o 23 [2,29] []) (.o 24 [2,29] []))) (.n 27 (.n 26 (.o 25 [2,5,19,26,32,57,68] []) (.o 26 [2,5,32,44,51,72,79,89,96,104,111,122,127,128,140,142] [])) (.n 28 (.o 27 [2,5,53,64,72,85,93,101,108,116,124,132,140,148,155,162,169,174] []) (.o 28 [133] []))))) (.n 47 (.n 43 (.n 41 (.o 40 [5,18,23,82,92,96,102,109,114] []) (.n 42 (.o 41 [1,6] []) (.o 42 [6,7,11,12,16,17] []))) (.n 45 (.n 44 (.o 43 [11] []) (.o 44 [30] [])) (.n 46 (.o 45 [18,19,22] []) (.o 46 [4,17,23,27,28,34,40,46,47,53,57,58,64,70,74,75,81,83,84,90,92,93,99,101,102,108,112,113,119,124,128,129,135,137,138,142,143,147,148,154,156,157,163,167,168,172,173,177,178,188,190,191] [])))) (.n 55 (.n 50 (.n 49 (.o 47 [3,7,11,16,17,21,23,24,30,31,37,39,40,46,47,53] []) (.o 49 [4,15,23,29,35,37,38,44,46,47,55,57,58,64,66,67,73,74,80,91,95,96,100,101,107,117,121,122,130,138,140,141,147,149,150,156,164,168,169,175] [])) (.n 54 (.o 50 [1,3,8,21] []) (.o 54 [6,11,22,28] []))) (.n 57 (.n 56 (.o 55 [6,9,18] []) (.o 56 [1] [])) (.n 59 (.o 57 [2,5,14,25,37,52] []) (.o 59 [11,14] [])))))) (.n 95 (.n 88 (.n 63 (.n 61 (.o 60 [2,23] []) (.n 62 (.o 61 [3,12,17] []) (.o 62 [1] []))) (.n 65 (.n 64 (.o 63 [2,19] []) (.o 64 [2,5,19,29,33] [])) (.n 85 (.o 65 [14,18,28,33,43,55,60,95] []) (.o 85 [3] [])))) (.n 91 (.n 89 (.o 88 [5,7,17] []) (.n 90 (.o 89 [1] []) (.o 90 [7,8,17,20,21] []))) (.n 93 (.n 92 (.o 91 [5,6,9,11,12] []) (.o 92 [4,17,22,30] [])) (.n 94 (.o 93 [10,13] []) (.o 94 [1,15,16,17,18,19,20,21,22,23,24] []))))) (.n 122 (.n 105 (.n 96 (.o 95 [14,18,19,22,24,25,28] []) (.n 104 (.o 96 [15,22,29,38] []) (.o 104 [5,6,7,8,9,10,11,12,13,14,15,27] []))) (.n 108 (.n 106 (.o 105 [46] []) (.o 106 [3] [])) (.n 119 (.o 108 [3] []) (.o 119 [7] [])))) (.n 148 (.n 127 (.n 126 (.o 122 [15] []) (.o 126 [60,67,86] [])) (.n 130 (.o 127 [11] []) (.o 130 [4] []))) (.n 170 (.n 161 (.o 148 [22] []) (.o 161 [17,24,32,40] [])) (.n 183 (.o 170 [47,59,71,123,127,131,167] []) (.o 183 [32,37,43,49,73,80] [])))))))
def Qy:gZ (List (Nat×List Nat)):=(.n 60 (.n 24 (.n 17 (.n 8 (.o 7 [(4,[1,2,3])] []) (.n 16 (.o 8 [(6,[1,3,5,6,7]),(21,[1,3,6,8,10,11]),(26,[3,6,8,10,12])] []) (.o 16 [(5,[1,2,3,20,21])] []))) (.n 22 (.n 18 (.o 17 [(7,[0,29,30,31])] []) (.o 18 [(5,[3,4,13,14,15])] [])) (.n 23 (.o 22 [(9,[2,5,8,9])] []) (.o 23 [(3,[1,2,5,6])] [])))) (.n 41 (.n 28 (.n 25 (.o 24 [(3,[1,2,5,6])] []) (.o 25 [(9,[2,5,6,7,8])] [])) (.n 40 (.o 28 [(5,[0,3,4,5]),(10,[0,3,4,5]),(14,[0,3,4,5,7])] []) (.o 40 [(9,[0,1,2,5,8,9])] []))) (.n 45 (.n 44 (.o 41 [(4,[3,4,14,15,16]),(7,[3,4,5,14,15,16,22,23,24])] []) (.o 44 [(1,[0,8,9,10])] [])) (.n 54 (.o 45 [(1,[0,2,8,9,10])] []) (.o 54 [(4,[0,3])] []))))) (.n 104 (.n 87 (.n 63 (.o 60 [(3,[1,2,5,6])] []) (.n 65 (.o 63 [(3,[1,2,5,6])] []) (.o 65 [(3,[0,2,5]),(20,[0,2,11])] []))) (.n 94 (.n 90 (.o 87 [(4,[0,14,15])] []) (.o 90 [(2,[0,9,10,11])] [])) (.n 103 (.o 94 [(8,[1,25,26]),(11,[1,3,25,26,30,31,32])] []) (.o 103 [(2,[0,1,5])] [])))) (.n 127 (.n 122 (.n 105 (.o 104 [(3,[0,3,4])] []) (.o 105 [(11,[0,4,6,7,8])] [])) (.n 124 (.o 122 [(2,[0,1,5])] []) (.o 124 [(2,[0,5,6])] []))) (.n 170 (.n 146 (.o 127 [(2,[0,5,6])] []) (.o 146 [(2,[0,1,7,8])] [])) (.n 183 (.o 170 [(36,[1,8,9,10,11,12,13,99,100,101])] []) (.o 183 [(10,[0,3,4,5])] []))))))
def agJ:gZ (List Nat):=(.n 44 (.n 40 (.o 17 [7] []) (.o 40 [9] [])) (.n 45 (.o 44 [1] []) (.n 90 (.o 45 [1] []) (.o 90 [2] []))))
def We:gZ (List (Nat×List (Nat×Nat))):=(.n 41 (.o 16 [(3,[(6,7)])] []) (.n 93 (.o 41 [(9,[(4,12),(5,12),(8,12),(9,12),(11,12)])] []) (.o 93 [(0,[(4,13)])] [])))
def Oa:gZ (List (Nat×Bool×List Nat)):=(.n 100 (.n 55 (.n 40 (.n 28 (.o 22 [(2,(false,[1,2,5,30])),(11,(false,[2,5,8,9,81])),(14,(false,[5,96])),(16,(false,[5,108]))] []) (.o 28 [(9,(false,[0,3,4,5,6,49])),(10,(false,[0,3,4,5,59])),(12,(false,[0,3,4,5,77])),(14,(false,[0,3,4,5,7,97]))] [])) (.n 54 (.o 40 [(11,(true,[0,1,2,5,8,9,62])),(17,(false,[0,5,89])),(19,(false,[0,5,99]))] []) (.o 54 [(1,(false,[0,12])),(6,(false,[0,3,30]))] []))) (.n 83 (.n 65 (.o 55 [(5,(false,[4])),(9,(false,[4]))] []) (.o 65 [(1,(false,[0,2,19])),(3,(false,[0,2,5,35])),(22,(false,[0,2,11,96]))] [])) (.n 85 (.o 83 [(1,(false,[2]))] []) (.n 88 (.o 85 [(10,(false,[6])),(13,(false,[6])),(15,(false,[6]))] []) (.o 88 [(13,(false,[4]))] []))))) (.n 126 (.n 107 (.n 105 (.o 100 [(1,(false,[2]))] []) (.o 105 [(3,(false,[0,4,5,27])),(6,(false,[0,4,5,35])),(16,(false,[0,4,6,7,8,9,62]))] [])) (.n 122 (.o 107 [(1,(false,[0,31])),(3,(false,[0,47])),(8,(false,[0,61]))] []) (.n 123 (.o 122 [(2,(false,[0,1,5,16]))] []) (.o 123 [(1,(false,[2]))] [])))) (.n 160 (.n 148 (.o 126 [(9,(false,[8,9,10,11,12])),(10,(false,[8,9,10,11,58]))] []) (.o 148 [(1,(false,[0,6])),(5,(false,[0,28]))] [])) (.n 170 (.o 160 [(12,(false,[2,7,8,9,38]))] []) (.n 183 (.o 170 [(12,(false,[0,2,8,9,40])),(15,(false,[0,2,8,9,52])),(18,(false,[0,2,8,9,64])),(44,(false,[1,8,9,10,11,12,13,15,99,100,101,121])),(56,(false,[13,169]))] []) (.o 183 [(3,(false,[0,3,4,18])),(6,(false,[0,3,4,5,46])),(12,(false,[0,3,4,5,83]))] []))))))
def N8:gZ (List (Nat×Bool×List Nat)):=(.n 60 (.n 24 (.n 17 (.n 8 (.o 7 [(0,(false,[1,2]))] []) (.n 16 (.o 8 [(0,(false,[1,3,6])),(2,(false,[3,6,8,10])),(4,(false,[3,6,10]))] []) (.o 16 [(0,(false,[1,2,3]))] []))) (.n 22 (.n 18 (.o 17 [(1,(true,[0]))] []) (.o 18 [(0,(false,[3,4]))] [])) (.n 23 (.o 22 [(0,(false,[5]))] []) (.o 23 [(0,(false,[5]))] [])))) (.n 41 (.n 28 (.n 25 (.o 24 [(0,(false,[5]))] []) (.o 25 [(0,(false,[2,5,6,7]))] [])) (.n 40 (.o 28 [(0,(false,[3,4])),(2,(false,[0,3,4,5])),(4,(false,[0,3,4,5,7]))] []) (.o 40 [(0,(true,[0,1,2,5,8]))] []))) (.n 45 (.n 44 (.o 41 [(0,(false,[4])),(2,(false,[3,4,5,14,15,16]))] []) (.o 44 [(0,(true,[0]))] [])) (.n 54 (.o 45 [(0,(true,[0,2]))] []) (.o 54 [(0,(false,[]))] []))))) (.n 104 (.n 87 (.n 63 (.o 60 [(0,(false,[5]))] []) (.n 65 (.o 63 [(0,(false,[5]))] []) (.o 65 [(0,(false,[0,2,5])),(2,(false,[2]))] []))) (.n 94 (.n 90 (.o 87 [(0,(false,[]))] []) (.o 90 [(0,(true,[0]))] [])) (.n 103 (.o 94 [(1,(false,[])),(3,(false,[1,25,26]))] []) (.o 103 [(0,(false,[]))] [])))) (.n 127 (.n 122 (.n 105 (.o 104 [(0,(false,[]))] []) (.o 105 [(0,(false,[6,7]))] [])) (.n 124 (.o 122 [(0,(false,[5]))] []) (.o 124 [(0,(false,[]))] []))) (.n 170 (.n 146 (.o 127 [(0,(false,[]))] []) (.o 146 [(0,(false,[]))] [])) (.n 183 (.o 170 [(3,(false,[9,12,13]))] []) (.o 183 [(0,(false,[3]))] []))))))
def Ob:gZ (List (Nat×Bool×List Nat)):=(.n 60 (.n 28 (.n 24 (.n 8 (.o 3 [(10,(false,[3,4,5,6]))] []) (.o 8 [(10,(false,[1,3,5,6,7])),(16,(false,[1,3,6])),(22,(false,[1,3,6,8,10,11])),(27,(false,[3,6,8,10,12]))] [])) (.n 25 (.o 24 [(4,(false,[1,2,5,6]))] []) (.n 27 (.o 25 [(13,(false,[2,5,6,7,8]))] []) (.o 27 [(19,(false,[7]))] [])))) (.n 46 (.n 44 (.o 28 [(24,(false,[0,3,4,5,8,9,10]))] []) (.n 45 (.o 44 [(7,(true,[0,5,6,8,9,10]))] []) (.o 45 [(5,(true,[0,2,7,8,9,10]))] []))) (.n 49 (.o 46 [(48,(true,[0]))] []) (.n 57 (.o 49 [(28,(true,[0,4,5,17,108]))] []) (.o 57 [(7,(false,[6])),(10,(false,[6]))] []))))) (.n 105 (.n 85 (.n 84 (.o 60 [(7,(false,[1,2,5,6]))] []) (.o 84 [(5,(false,[4,5])),(8,(false,[4,9])),(13,(false,[4,14])),(18,(false,[4,17])),(27,(false,[4,24]))] [])) (.n 89 (.o 85 [(13,(false,[1,2,15,67]))] []) (.n 94 (.o 89 [(10,(false,[1,4,50]))] []) (.o 94 [(4,(false,[1,8,9])),(7,(false,[1,8,12])),(21,(false,[]))] [])))) (.n 160 (.n 107 (.o 105 [(8,(false,[0,4,5])),(12,(false,[0,4,6,7,8]))] []) (.n 148 (.o 107 [(10,(false,[]))] []) (.o 148 [(7,(false,[]))] []))) (.n 170 (.o 160 [(10,(false,[0,1,2,8])),(16,(false,[2,8,9])),(24,(false,[11]))] []) (.n 183 (.o 170 [(21,(false,[0,1,2,8,9])),(25,(false,[0,1,2,8,9])),(32,(false,[0,1,2,8,9,10])),(46,(false,[1,8,9,10,11,12,13,16,99,100,101])),(55,(false,[1,8,9,10,11,12,13,99,100,101]))] []) (.o 183 [(5,(false,[0,3,4])),(10,(false,[0,3,4,5])),(11,(false,[0,3,4,5]))] []))))))
def aeE:gZ (List (Nat×List Nat)):=(.n 47 (.n 43 (.n 17 (.o 6 [(5,[5])] []) (.n 42 (.o 17 [(3,[0]),(4,[0]),(9,[0]),(12,[0]),(13,[0]),(14,[0]),(15,[0]),(16,[0]),(17,[0]),(19,[0]),(20,[0]),(22,[0]),(23,[0]),(999999,[0])] []) (.o 42 [(1,[0]),(3,[0]),(5,[0]),(999999,[0])] []))) (.n 45 (.n 44 (.o 43 [(999999,[0])] []) (.o 44 [(999999,[0])] [])) (.n 46 (.o 45 [(4,[0]),(5,[0]),(999999,[0])] []) (.o 46 [(2,[0]),(4,[0]),(6,[0]),(7,[0]),(8,[0]),(10,[0]),(11,[0]),(13,[0]),(14,[0]),(15,[0]),(17,[0]),(18,[0]),(19,[0]),(20,[0]),(21,[0]),(22,[0]),(23,[0]),(24,[0]),(26,[0]),(27,[0]),(28,[0]),(30,[0]),(31,[0]),(32,[0]),(34,[0]),(36,[0]),(37,[0]),(38,[0]),(39,[0]),(41,[0]),(43,[0]),(45,[0]),(47,[0]),(48,[0]),(999999,[0])] [])))) (.n 91 (.n 49 (.o 47 [(1,[0]),(2,[0]),(4,[0]),(5,[0]),(6,[0]),(8,[0]),(9,[0]),(10,[0]),(12,[0]),(13,[0]),(999999,[0])] []) (.n 90 (.o 49 [(4,[0]),(6,[0]),(8,[0]),(9,[0]),(10,[0]),(11,[0]),(13,[0]),(14,[0]),(15,[0]),(16,[0]),(18,[0]),(19,[0]),(22,[0]),(23,[0]),(24,[0]),(25,[0]),(28,[0]),(29,[0]),(30,[0]),(32,[0]),(33,[0]),(34,[0]),(35,[0]),(36,[0]),(38,[0]),(39,[0]),(40,[0]),(999999,[0])] []) (.o 90 [(0,[0]),(4,[0]),(6,[0]),(999999,[0])] []))) (.n 93 (.n 92 (.o 91 [(0,[0]),(1,[0]),(2,[0]),(999999,[0])] []) (.o 92 [(2,[0]),(4,[0]),(6,[0]),(999999,[0])] [])) (.n 95 (.o 93 [(999999,[0])] []) (.o 95 [(1,[0]),(2,[0]),(3,[0]),(4,[0]),(999999,[0])] [])))))
def ZY:gZ (List (Nat×List Nat)):=(.l [])
def YF:gZ (List Id):=(.l [])
def ae7:gZ (List Nat):=(.l [])
def YE:gZ (List Id):=(.l [])
def Z6:gZ Bool:=(.n 47 (.n 44 (.n 42 (.o 17 true false) (.n 43 (.o 42 true false) (.o 43 true false))) (.n 45 (.o 44 true false) (.n 46 (.o 45 true false) (.o 46 true false)))) (.n 91 (.n 49 (.o 47 true false) (.n 90 (.o 49 true false) (.o 90 true false))) (.n 93 (.n 92 (.o 91 true false) (.o 92 true false)) (.n 95 (.o 93 true false) (.o 95 true false)))))
def acM:gZ (List Nat):=(.o 40 [0] [])
def ac4:gZ (List Nat):=(.o 40 [1,0] [])
def mM:List ByteArray:=[(AC #[105,110,116]),(AC #[118,111,105,100]),(AC #[105,102]),(AC #[101,108,115,101]),(AC #[119,104,105,108,101]),(AC #[100,111]),(AC #[102,111,114]),(AC #[115,119,105,116,99,104]),(AC #[99,97,115,101]),(AC #[100,101,102,97,117,108,116]),(AC #[98,114,101,97,107]),(AC #[99,111,110,116,105,110,117,101]),(AC #[114,101,116,117,114,110])]
def mN:List ByteArray:=[(AC #[60,60,61]),(AC #[62,62,61]),(AC #[60,60]),(AC #[62,62]),(AC #[60,61]),(AC #[62,61]),(AC #[61,61]),(AC #[33,61]),(AC #[38,38]),(AC #[124,124]),(AC #[43,61]),(AC #[45,61]),(AC #[42,61]),(AC #[47,61]),(AC #[37,61]),(AC #[38,61]),(AC #[94,61]),(AC #[124,61]),(AC #[43,43]),(AC #[45,45]),(AC #[43]),(AC #[45]),(AC #[42]),(AC #[47]),(AC #[37]),(AC #[38]),(AC #[124]),(AC #[94]),(AC #[126]),(AC #[33]),(AC #[60]),(AC #[62]),(AC #[61]),(AC #[63]),(AC #[58]),(AC #[59]),(AC #[44]),(AC #[40]),(AC #[41]),(AC #[91]),(AC #[93]),(AC #[123]),(AC #[125])]
variable[kY]
def Z1(g:Nat):Option (List U):=if g=2 then some (mM.map o9)else if g=3 then some (mN.map o9)else if g=6 then some [.nn]else if g=7 then some [.nn]else if g=4 then some [.val (.int .i64 kY.m)]else if g=5 then some [.gP (Lib.pow10Tab.map fun z=>Value.int .u64 z)]else none
noncomputable def av:aC:={P:=Tryz.prog,dW:=Z1,ext:=fun f=>bif A0 f 120 then some xK else bif A0 f 159 then some xD else bif A0 f 184 then some wg else bif A0 f 150 then some wj else bif A0 f 132 then some xb else bif A0 f 51 then some xL else none,path:=fun f=>none,yK:=fun f d=>[],look:=fun f=>false,mc:=fun f i=>[],iter:=fun f=>none,iT:=Z6.get,sE:=YF.get,qK:=fun f i=>(ae7.get f).contains i,B2:=YE.get,Fw:=fun f i=>false,tj:=fun f=>false,kR:=fun f i=>look (aeE.get f) i [],o8:=fun f i=>look (ZY.get f) i [],cT:=acM.get,Aa:=ac4.get,shr:=fun f i=>(agJ.get f).contains i,gx:=ZM.get,live:=fun f i=>look (Qy.get f) i [],fI:=fun f i=>look (We.get f) i [],kB:=fun f i=>z1 (Oa.get f) i,o5:=fun f i=>z1 (N8.get f) i,IM:=fun f i=>z1 (Ob.get f) i}
@[simp]theorem Yt:av.P=Tryz.prog:=rfl
def okF(C:aC)(f:Nat):Bool:=match C.P.funcs[f]? with|some fn=>(match fn.body with|some c=>(C.ext f).isSome||Dr C f c|none=>true)|none=>true
omit[kY]in theorem adU{C:aC}{f:Nat}{fn:Func}{c:Code}(h:okF C f=true)(hx:C.ext f=none)(hf:C.P.funcs[f]? =some fn)(hb:fn.body=some c):Dr C f c=true:=by unfold okF at h;rw[hf]at h;simp only[hb,hx,Option.isSome_none,Bool.false_or]at h;exact h
theorem adT:(List.range 239).all (okF av)=true:=by kernel_rfl
omit[kY]in theorem ag2:decide (Tryz.prog.funcs.size<=239)=true:=by kernel_rfl
omit[kY]in theorem adn:(Tryz.prog.funcs.toList.all fun fn=> !(fn.name== "runtime.NumGoroutine"))=true:=by kernel_rfl
theorem Ys:so av.P:=fun f fn hf=>by have:=List.all_eq_true.1 adn fn (by have:=Array.mem_of_getElem? hf;simpa using this);simpa using this
theorem Yr:jJ av:=⟨Ys,(fun k p h=>by cases h),(fun k h=>by cases h)⟩
theorem Yu:av.P.follows .mixedOrders=true:=by kernel_rfl
theorem Yq:∀f i,hG (av.live f i):=fun f i=>acQ (Qy.y5 (p:=Ig) (by kernel_rfl) f) i
theorem Yo:uc av:=⟨fun f i b l h=>KX (i:=i) (Oa.y5 (p:=BI) (by kernel_rfl) f) h,fun f i b l h=>KX (i:=i) (N8.y5 (p:=BI) (by kernel_rfl) f) h,fun f i b l h=>KX (i:=i) (Ob.y5 (p:=BI) (by kernel_rfl) f) h⟩
theorem XW{g:List U->Option (U×List U)}(hg:g=xK){args:List U}{r:U×List U}(h:g args=some r):Sound av 120 args r:=(ace (k:=5) (zs:=Lib.pow10Tab) (C:=av) Tryz.func120 (by rfl) (by rfl) (by rfl) (by kernel_rfl) Tryz.strconv_Itoa hg h).sound (by rfl)
theorem XZ{g:List U->Option (U×List U)}(hg:g=xD){args:List U}{r:U×List U}(h:g args=some r):Sound av 159 args r:=(ab6 (C:=av) Tryz.func159 (by rfl) (by rfl) Tryz.strings_IndexByte hg h).sound (by rfl)
theorem X0{g:List U->Option (U×List U)}(hg:g=wg){args:List U}{r:U×List U}(h:g args=some r):Sound av 184 args r:=(X3 (C:=av) Tryz.func184 (by rfl) (by rfl) Tryz.stringslite_Clone hg h).sound (by rfl)
theorem XY{g:List U->Option (U×List U)}(hg:g=wj){args:List U}{r:U×List U}(h:g args=some r):Sound av 150 args r:=(Yc (k:=4) (m:=kY.m) (cs:=[]) (C:=av) Tryz.func150 (by rfl) (by rfl) (by rfl) Tryz.strings_Contains hg h).sound (by rfl)
theorem XX{g:List U->Option (U×List U)}(hg:g=xb){args:List U}{r:U×List U}(h:g args=some r):Sound av 132 args r:=(aaC (C:=av) Tryz.func132 (by rfl) (by rfl) Tryz.strings_HasPrefix hg h).sound (by rfl)
theorem X1{g:List U->Option (U×List U)}(hg:g=xL){args:List U}{r:U×List U}(h:g args=some r):Sound av 51 args r:=(acj (C:=av) Tryz.func51 (by rfl) (by rfl) Tryz.strings_Join_none Tryz.strings_Join hg h).sound (by rfl)
theorem Yp:Good av where
 count:=Yr
 wide:=Yu
 live:=Yq
 cut:=Yo
 free:=fun f fn c hx hf hb=>by
  have hlt:f<239:=by
   have h1:f<av.P.funcs.size:=by
    rcases Nat.lt_or_ge f av.P.funcs.size with h|h
    ·exact h
    ·rw[Array.getElem?_eq_none h]at hf;cases hf
   have h2:=of_decide_eq_true ag2
   rw[Yt]at h1
   exact Nat.lt_of_lt_of_le h1 h2
  exact adU (List.all_eq_true.1 adT f (List.mem_range.2 hlt)) hx hf hb
 ext:=fun f g args r h h2=>by
  have h:(bif A0 f 120 then some xK else bif A0 f 159 then some xD else bif A0 f 184 then some wg else bif A0 f 150 then some wj else bif A0 f 132 then some xb else bif A0 f 51 then some xL else none)=some g:=h
  cases JD:A0 f 120 with
  |true=>
   simp only[JD,cond_true,A1]at h
   rw[Do JD]
   exact XW h.symm h2
  |false=>
   simp only[JD,cond_false]at h
   cases JG:A0 f 159 with
   |true=>
    simp only[JG,cond_true,A1]at h
    rw[Do JG]
    exact XZ h.symm h2
   |false=>
    simp only[JG,cond_false]at h
    cases JH:A0 f 184 with
    |true=>
     simp only[JH,cond_true,A1]at h
     rw[Do JH]
     exact X0 h.symm h2
    |false=>
     simp only[JH,cond_false]at h
     cases JF:A0 f 150 with
     |true=>
      simp only[JF,cond_true,A1]at h
      rw[Do JF]
      exact XY h.symm h2
     |false=>
      simp only[JF,cond_false]at h
      cases JE:A0 f 132 with
      |true=>
       simp only[JE,cond_true,A1]at h
       rw[Do JE]
       exact XX h.symm h2
      |false=>
       simp only[JE,cond_false]at h
       cases JI:A0 f 51 with
       |true=>
        simp only[JI,cond_true,A1]at h
        rw[Do JI]
        exact X1 h.symm h2
       |false=>
        simp only[JI,cond_false]at h
        cases h
end Go.Ab
