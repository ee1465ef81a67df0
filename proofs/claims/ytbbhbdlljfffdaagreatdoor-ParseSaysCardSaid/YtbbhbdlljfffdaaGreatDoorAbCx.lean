import Derived.Test.YtbbhbdlljfffdaaGreatDoorAbV6
import Derived.Test.YtbbhbdlljfffdaaGreatDoorAbLook
import Derived.Test.YtbbhbdlljfffdaaGreatDoorAbShelf8
import Derived.Test.YtbbhbdlljfffdaaGreatDoorAbRcv72
open ByteArray renaming mk->AC
open Nat renaming beq->Do,eq_of_beq_eq_true->GE
open Option.some renaming injEq->GT,inj->Ha
set_option linter.all false
namespace Go.Ab
open Go Go.Proofs
def Zh:gM (List Nat):=(.n 88 (.n 54 (.n 41 (.n 38 (.n 16 (.o 3 [3,4,5,6,12,17] []) (.n 17 (.o 16 [5,8,20,21] []) (.o 17 [2,3,30] []))) (.n 39 (.o 38 [10,26,35,37,48] []) (.n 40 (.o 39 [3] []) (.o 40 [4,9,12,14,16,26,27,31,32,35,46,47] [])))) (.n 44 (.n 42 (.o 41 [133] []) (.n 43 (.o 42 [3,7,9,13,15,16,20,21,30,31,33,42,45,46,56,57] []) (.o 43 [4,6,14,16,35] []))) (.n 48 (.n 47 (.o 44 [2,3] []) (.o 47 [8,16] [])) (.n 50 (.o 48 [1] []) (.o 50 [9,20,21] []))))) (.n 80 (.n 76 (.n 71 (.o 54 [1,6] []) (.n 74 (.o 71 [18,56] []) (.o 74 [5] []))) (.n 78 (.n 77 (.o 76 [7,21,28,30,45,46] []) (.o 77 [7,9] [])) (.n 79 (.o 78 [6,10,12] []) (.o 79 [14,20] [])))) (.n 84 (.n 82 (.o 80 [3] []) (.n 83 (.o 82 [14,18,28,33,43,55,60,95] []) (.o 83 [5,9,11,14,20,22,27,31,34,36,39,51,52] []))) (.n 86 (.n 85 (.o 84 [1] []) (.o 85 [2,5,7,9] [])) (.n 87 (.o 86 [4] []) (.o 87 [2,7,10,12] [])))))) (.n 136 (.n 122 (.n 94 (.n 90 (.o 88 [6,9,18] []) (.n 91 (.o 90 [6,9] []) (.o 91 [2,29] []))) (.n 101 (.o 94 [11,16,20] []) (.n 121 (.o 101 [9,13,19,21,25,29] []) (.o 121 [11,21,24,28,31] [])))) (.n 131 (.n 127 (.o 122 [15,22,29,38] []) (.n 128 (.o 127 [3,5,8,9,12,22,23,27,30,33,43,44] []) (.o 128 [5,7] []))) (.n 133 (.n 132 (.o 131 [46] []) (.o 132 [3] [])) (.n 135 (.o 133 [6,11,22,28] []) (.o 135 [3] []))))) (.n 171 (.n 164 (.n 137 (.o 136 [3,5,7,10,14,18,22,25,26,35,36,38,41,44,45,54,55,57] []) (.n 155 (.o 137 [5,6,7,8,9,10,11,12,13,14,15,27] []) (.o 155 [15] []))) (.n 169 (.n 165 (.o 164 [60,67,86] []) (.o 165 [11] [])) (.n 170 (.o 169 [4,9,13,15,17,26,30,33,36,46] []) (.o 170 [4] [])))) (.n 188 (.n 183 (.o 171 [3,7,9,12,16,19,23,25,26,30,36,37,39,46,47] []) (.n 187 (.o 183 [22] []) (.o 187 [3,6,12,27,29,41,54,58,63] []))) (.n 205 (.n 200 (.o 188 [3,4,7,9,16,22,24,31,33,41,44,45,55,57,59,60,61,63] []) (.o 200 [17,24,32,40] [])) (.n 211 (.o 205 [47,59,71,123,127,131,167] []) (.o 211 [32,37,43,49,73,80] [])))))))
def PO:gM (List (Nat×List Nat)):=(.n 107 (.n 79 (.n 54 (.n 28 (.o 17 [(4,[2,3,5])] []) (.n 41 (.o 28 [(4,[0,1,5])] []) (.o 41 [(5,[0,3,4,5]),(10,[0,3,4,5]),(14,[0,3,4,5,7])] []))) (.n 71 (.o 54 [(4,[3,4,14,15,16]),(7,[3,4,5,14,15,16,22,23,24])] []) (.n 76 (.o 71 [(5,[0,3,4,5])] []) (.o 76 [(5,[0,1,5,6])] [])))) (.n 91 (.n 82 (.o 79 [(2,[0,7,8,9])] []) (.n 83 (.o 82 [(3,[0,2,5]),(20,[0,2,11])] []) (.o 83 [(2,[1,2,4])] []))) (.n 94 (.o 91 [(3,[1,2,5,6])] []) (.n 101 (.o 94 [(3,[0,1,2,7,8])] []) (.o 101 [(3,[1,2,4,6,7])] []))))) (.n 155 (.n 133 (.n 121 (.o 107 [(4,[0,14,15])] []) (.n 131 (.o 121 [(2,[0,4])] []) (.o 131 [(11,[0,4,6,7,8])] []))) (.n 137 (.o 133 [(4,[0,3])] []) (.n 138 (.o 137 [(3,[0,3,4])] []) (.o 138 [(2,[0,1,5])] [])))) (.n 169 (.n 162 (.o 155 [(2,[0,1,5])] []) (.n 165 (.o 162 [(2,[0,5,6])] []) (.o 165 [(2,[0,5,6])] []))) (.n 205 (.n 171 (.o 169 [(2,[0,3])] []) (.o 171 [(2,[1,2])] [])) (.n 211 (.o 205 [(36,[1,8,9,10,11,12,13,99,100,101])] []) (.o 211 [(10,[0,3,4,5])] []))))))
def ahz:gM (List Nat):=(.n 94 (.n 79 (.o 76 [5] []) (.o 79 [2] [])) (.n 169 (.o 94 [3] []) (.o 169 [2] [])))
def VG:gM (List (Nat×List (Nat×Nat))):=(.n 76 (.n 47 (.n 40 (.o 38 [(3,[(1,3)])] []) (.o 40 [(6,[(9,11)]),(9,[(10,12)])] [])) (.n 54 (.o 47 [(2,[(4,10)])] []) (.o 54 [(9,[(4,12),(5,12),(8,12),(9,12),(11,12)])] []))) (.n 127 (.n 83 (.o 76 [(11,[(12,14)])] []) (.o 83 [(5,[(0,7)]),(9,[(0,12),(9,12)])] [])) (.n 171 (.o 127 [(4,[(9,11)]),(7,[(9,11)])] []) (.n 187 (.o 171 [(8,[(0,9)]),(9,[(0,10)])] []) (.o 187 [(8,[(11,12)])] [])))))
def Ns:gM (List (Nat×Bool×List Nat)):=(.n 133 (.n 82 (.n 42 (.n 38 (.o 3 [(5,(false,[2]))] []) (.n 41 (.o 38 [(10,(false,[4,5,50]))] []) (.o 41 [(9,(false,[0,3,4,5,6,49])),(10,(false,[0,3,4,5,59])),(12,(false,[0,3,4,5,77])),(14,(false,[0,3,4,5,7,97]))] []))) (.n 44 (.o 42 [(9,(false,[1,2,3,4,43]))] []) (.n 79 (.o 44 [(1,(false,[4]))] []) (.o 79 [(4,(true,[0,6,7,8,9,21]))] [])))) (.n 101 (.n 83 (.o 82 [(1,(false,[0,2,19])),(3,(false,[0,2,5,35])),(22,(false,[0,2,11,96]))] []) (.n 88 (.o 83 [(2,(false,[1,2,4,25]))] []) (.o 88 [(5,(false,[4])),(9,(false,[4]))] []))) (.n 127 (.o 101 [(3,(false,[1,2,4,6,7,15]))] []) (.n 131 (.o 127 [(5,(true,[0,3,25]))] []) (.o 131 [(3,(false,[0,4,5,27])),(6,(false,[0,4,5,35])),(16,(false,[0,4,6,7,8,9,62]))] []))))) (.n 169 (.n 155 (.n 134 (.o 133 [(1,(false,[0,12])),(6,(false,[0,3,30]))] []) (.n 136 (.o 134 [(1,(false,[0,31])),(3,(false,[0,47])),(8,(false,[0,61]))] []) (.o 136 [(2,(false,[1,2,3,23])),(5,(false,[1,2,3,42]))] []))) (.n 161 (.o 155 [(2,(false,[0,1,5,16]))] []) (.n 164 (.o 161 [(1,(false,[2]))] []) (.o 164 [(9,(false,[8,9,10,11,12])),(10,(false,[8,9,10,11,58]))] [])))) (.n 199 (.n 171 (.o 169 [(8,(true,[0,3,4,28]))] []) (.n 183 (.o 171 [(2,(false,[1,2,17]))] []) (.o 183 [(1,(false,[0,6])),(5,(false,[0,28]))] []))) (.n 205 (.o 199 [(12,(false,[2,7,8,9,38]))] []) (.n 211 (.o 205 [(12,(false,[0,2,8,9,40])),(15,(false,[0,2,8,9,52])),(18,(false,[0,2,8,9,64])),(44,(false,[1,8,9,10,11,12,13,15,99,100,101,121])),(56,(false,[13,169]))] []) (.o 211 [(3,(false,[0,3,4,18])),(6,(false,[0,3,4,5,46])),(12,(false,[0,3,4,5,83]))] []))))))
def Nq:gM (List (Nat×Bool×List Nat)):=(.n 107 (.n 79 (.n 54 (.n 28 (.o 17 [(0,(false,[]))] []) (.n 41 (.o 28 [(0,(false,[]))] []) (.o 41 [(0,(false,[3,4])),(2,(false,[0,3,4,5])),(4,(false,[0,3,4,5,7]))] []))) (.n 71 (.o 54 [(0,(false,[4])),(2,(false,[3,4,5,14,15,16]))] []) (.n 76 (.o 71 [(0,(false,[]))] []) (.o 76 [(0,(true,[0,5]))] [])))) (.n 91 (.n 82 (.o 79 [(0,(true,[0]))] []) (.n 83 (.o 82 [(0,(false,[0,2,5])),(2,(false,[2]))] []) (.o 83 [(0,(false,[2,4]))] []))) (.n 94 (.o 91 [(0,(false,[5]))] []) (.n 101 (.o 94 [(0,(true,[0,2,7]))] []) (.o 101 [(0,(false,[1,2,4,6]))] []))))) (.n 155 (.n 133 (.n 121 (.o 107 [(0,(false,[]))] []) (.n 131 (.o 121 [(0,(false,[]))] []) (.o 131 [(0,(false,[6,7]))] []))) (.n 137 (.o 133 [(0,(false,[]))] []) (.n 138 (.o 137 [(0,(false,[]))] []) (.o 138 [(0,(false,[]))] [])))) (.n 169 (.n 162 (.o 155 [(0,(false,[5]))] []) (.n 165 (.o 162 [(0,(false,[]))] []) (.o 165 [(0,(false,[]))] []))) (.n 205 (.n 171 (.o 169 [(0,(false,[]))] []) (.o 171 [(0,(false,[1,2]))] [])) (.n 211 (.o 205 [(3,(false,[9,12,13]))] []) (.o 211 [(0,(false,[3]))] []))))))
def Nt:gM (List (Nat×Bool×List Nat)):=(.n 91 (.n 80 (.n 43 (.n 41 (.o 38 [(9,(false,[4,5,7]))] []) (.o 41 [(24,(false,[0,3,4,5,8,9,10]))] [])) (.n 76 (.o 43 [(3,(false,[1,2,3]))] []) (.o 76 [(11,(true,[0,1,5,6,7,8]))] []))) (.n 86 (.n 83 (.o 80 [(4,(true,[0,2,3]))] []) (.o 83 [(9,(false,[1,2,4,5,6,7]))] [])) (.n 90 (.o 86 [(3,(false,[1,2]))] []) (.o 90 [(3,(false,[2,4]))] [])))) (.n 134 (.n 101 (.n 94 (.o 91 [(4,(false,[1,2,5,6]))] []) (.o 94 [(7,(true,[0,1,2,7]))] [])) (.n 131 (.o 101 [(6,(false,[1,2,4,6]))] []) (.o 131 [(8,(false,[0,4,5])),(12,(false,[0,4,6,7,8]))] []))) (.n 199 (.n 183 (.o 134 [(10,(false,[]))] []) (.o 183 [(7,(false,[]))] [])) (.n 205 (.o 199 [(10,(false,[0,1,2,8])),(16,(false,[2,8,9])),(24,(false,[11]))] []) (.n 211 (.o 205 [(21,(false,[0,1,2,8,9])),(25,(false,[0,1,2,8,9])),(32,(false,[0,1,2,8,9,10])),(46,(false,[1,8,9,10,11,12,13,16,99,100,101])),(55,(false,[1,8,9,10,11,12,13,99,100,101]))] []) (.o 211 [(5,(false,[0,3,4])),(10,(false,[0,3,4,5])),(11,(false,[0,3,4,5]))] []))))))
def aeT:gM (List (Nat×List Nat)):=(.n 77 (.n 69 (.n 40 (.n 39 (.o 38 [(6,[7]),(8,[7])] []) (.o 39 [(0,[0]),(999999,[0])] [])) (.n 47 (.o 40 [(1,[0]),(2,[0]),(3,[0]),(4,[0]),(5,[0]),(6,[0]),(7,[0]),(8,[0]),(9,[0]),(999999,[0])] []) (.o 47 [(999999,[0])] []))) (.n 75 (.n 74 (.o 69 [(999999,[0])] []) (.o 74 [(999999,[0])] [])) (.n 76 (.o 75 [(999999,[0])] []) (.o 76 [(2,[0]),(3,[0]),(4,[0]),(6,[0]),(7,[0]),(11,[0]),(999999,[0])] [])))) (.n 94 (.n 79 (.n 78 (.o 77 [(1,[0]),(2,[0]),(999999,[0])] []) (.o 78 [(0,[0]),(1,[0]),(999999,[0])] [])) (.n 80 (.o 79 [(4,[0]),(999999,[0])] []) (.o 80 [(1,[0]),(999999,[0])] []))) (.n 128 (.n 127 (.o 94 [(3,[0]),(6,[0]),(7,[0]),(999999,[0])] []) (.o 127 [(1,[0]),(2,[0]),(3,[0]),(4,[0]),(5,[0]),(6,[0]),(7,[0]),(8,[0]),(999999,[0])] [])) (.n 169 (.o 128 [(1,[0]),(999999,[0])] []) (.n 187 (.o 169 [(1,[0]),(2,[0]),(4,[0]),(5,[0]),(6,[0]),(7,[0]),(8,[0]),(9,[0]),(10,[0]),(999999,[0])] []) (.o 187 [(1,[0]),(3,[0]),(4,[0]),(6,[0]),(7,[0]),(8,[0]),(9,[0]),(10,[0]),(11,[0]),(12,[0]),(14,[0]),(999999,[0])] []))))))
def Zs:gM (List (Nat×List Nat)):=(.l [])
def XX:gM (List Id):=(.o 69 [[0,999999]] [])
def afH:gM (List Nat):=(.n 78 (.n 40 (.n 39 (.o 38 [6,8] []) (.o 39 [0] [])) (.n 74 (.o 40 [1,4,5,6,9] []) (.n 76 (.o 74 [0] []) (.o 76 [2,3,11] [])))) (.n 127 (.n 94 (.o 78 [1] []) (.o 94 [6,7] [])) (.n 169 (.o 127 [4,7,8] []) (.n 187 (.o 169 [1,5,6] []) (.o 187 [8,11,12,14] [])))))
def XW:gM (List Id):=(.n 78 (.n 74 (.n 40 (.o 39 [[0,999999]] []) (.o 40 [[0,999999]] [])) (.n 76 (.o 74 [[0,999999]] []) (.o 76 [[0,999999]] []))) (.n 127 (.n 94 (.o 78 [[0,999999]] []) (.o 94 [[0,999999]] [])) (.n 169 (.o 127 [[0,999999]] []) (.n 187 (.o 169 [[0,999999]] []) (.o 187 [[0,999999]] [])))))
def Zz:gM Bool:=(.n 94 (.n 75 (.n 46 (.n 40 (.n 39 (.o 38 true false) (.o 39 true false)) (.n 45 (.o 40 true false) (.o 45 true false))) (.n 69 (.n 47 (.o 46 true false) (.o 47 true false)) (.n 74 (.o 69 true false) (.o 74 true false)))) (.n 79 (.n 77 (.n 76 (.o 75 true false) (.o 76 true false)) (.n 78 (.o 77 true false) (.o 78 true false))) (.n 92 (.n 80 (.o 79 true false) (.o 80 true false)) (.n 93 (.o 92 true false) (.o 93 true false))))) (.n 173 (.n 128 (.n 96 (.n 95 (.o 94 true false) (.o 95 true false)) (.n 127 (.o 96 true false) (.o 127 true false))) (.n 169 (.n 139 (.o 128 true false) (.o 139 true false)) (.n 172 (.o 169 true false) (.o 172 true false)))) (.n 177 (.n 175 (.n 174 (.o 173 true false) (.o 174 true false)) (.n 176 (.o 175 true false) (.o 176 true false))) (.n 187 (.n 178 (.o 177 true false) (.o 178 true false)) (.n 189 (.o 187 true false) (.o 189 true false))))))
def acW:gM (List Nat):=(.n 63 (.n 61 (.o 53 [0] []) (.n 62 (.o 61 [0] []) (.o 62 [0] []))) (.n 111 (.o 63 [0] []) (.n 144 (.o 111 [0] []) (.o 144 [0] []))))
def adr:gM (List Nat):=(.n 62 (.n 53 (.o 50 [0,0,2] []) (.n 61 (.o 53 [1,0] []) (.o 61 [1,0] []))) (.n 111 (.n 63 (.o 62 [1,0] []) (.o 63 [1,0] [])) (.n 144 (.o 111 [1,0] []) (.o 144 [1,0] []))))
def kU:List ByteArray:=[(AC #[105,110,116]),(AC #[118,111,105,100]),(AC #[105,102]),(AC #[101,108,115,101]),(AC #[119,104,105,108,101]),(AC #[100,111]),(AC #[102,111,114]),(AC #[115,119,105,116,99,104]),(AC #[99,97,115,101]),(AC #[100,101,102,97,117,108,116]),(AC #[98,114,101,97,107]),(AC #[99,111,110,116,105,110,117,101]),(AC #[114,101,116,117,114,110])]
def mw:List ByteArray:=[(AC #[60,60,61]),(AC #[62,62,61]),(AC #[60,60]),(AC #[62,62]),(AC #[60,61]),(AC #[62,61]),(AC #[61,61]),(AC #[33,61]),(AC #[38,38]),(AC #[124,124]),(AC #[43,61]),(AC #[45,61]),(AC #[42,61]),(AC #[47,61]),(AC #[37,61]),(AC #[38,61]),(AC #[94,61]),(AC #[124,61]),(AC #[43,43]),(AC #[45,45]),(AC #[43]),(AC #[45]),(AC #[42]),(AC #[47]),(AC #[37]),(AC #[38]),(AC #[124]),(AC #[94]),(AC #[126]),(AC #[33]),(AC #[60]),(AC #[62]),(AC #[61]),(AC #[63]),(AC #[58]),(AC #[59]),(AC #[44]),(AC #[40]),(AC #[41]),(AC #[91]),(AC #[93]),(AC #[123]),(AC #[125])]
def fN:List (List ByteArray):=[[(AC #[124,124])],[(AC #[38,38])],[(AC #[124])],[(AC #[94])],[(AC #[38])],[(AC #[61,61]),(AC #[33,61])],[(AC #[60]),(AC #[60,61]),(AC #[62]),(AC #[62,61])],[(AC #[60,60]),(AC #[62,62])],[(AC #[43]),(AC #[45])],[(AC #[42]),(AC #[47]),(AC #[37])]]
variable[kV]
def Zv(g:Nat):Option (List U):=if g=1 then some (fN.map qc)else if g=2 then some (kU.map oY)else if g=3 then some (mw.map oY)else if g=5 then some [.nn]else if g=6 then some [.nn]else if g=4 then some [.val (.int .i64 kV.m)]else if g=0 then some [.val (.iface 178 (.agg ⟨[ef 103]⟩))]else none
noncomputable def ak:ax:={P:=Tryz.prog,bS:=Zv,ext:=fun f=>bif Do f 97 then some (y2 1)else bif Do f 157 then some wH else bif Do f 159 then some w9 else bif Do f 198 then some xb else bif Do f 212 then some vY else bif Do f 185 then some v7 else none,path:=fun f=>none,vF:=fun f d=>bif Do f 30 then(bif Do d 25 then[7]else[])else bif Do f 43 then(bif Do d 18 then[0]else bif Do d 28 then[0]else bif Do d 37 then[0]else[])else bif Do f 16 then(bif Do d 14 then[0]else[])else bif Do f 19 then(bif Do d 14 then[0]else[])else bif Do f 40 then(bif Do d 22 then[4]else bif Do d 43 then[4]else[])else bif Do f 76 then(bif Do d 40 then[4]else[])else bif Do f 127 then(bif Do d 20 then[4]else bif Do d 41 then[4]else[])else bif Do f 169 then(bif Do d 23 then[4]else bif Do d 44 then[4]else[])else bif Do f 187 then(bif Do d 20 then[4]else bif Do d 37 then[4]else bif Do d 50 then[4]else[])else[],look:=fun f=>bif Do f 115 then true else false,js:=fun f i=>bif Do f 66 then(bif Do i 15 then[8]else bif Do i 18 then[8]else[])else bif Do f 114 then(bif Do i 4 then[2]else[])else[],iter:=fun f=>bif Do f 110 then some (xo 6 4)else none,gC:=Zz.get,qZ:=XX.get,mW:=fun f i=>(afH.get f).contains i,za:=XW.get,oE:=fun f=>bif Do f 72 then some xR else none,Bx:=fun f i=>bif Do f 38 then Do i 4 else false,nG:=fun f=>bif Do f 72 then true else false,iu:=fun f i=>look (aeT.get f) i [],lV:=fun f i=>look (Zs.get f) i [],bX:=acW.get,Ai:=adr.get,shr:=fun f i=>(ahz.get f).contains i,dY:=Zh.get,live:=fun f i=>look (PO.get f) i [],eK:=fun f i=>look (VG.get f) i [],iF:=fun f i=>Ad (Ns.get f) i,oW:=fun f i=>Ad (Nq.get f) i,EP:=fun f i=>Ad (Nt.get f) i}
@[simp]theorem XP:ak.P=Tryz.prog:=rfl
def okF(C:ax)(f:Nat):Bool:=match C.P.funcs[f]? with|some fn=>(match fn.body with|some c=>oy C f c|none=>true)|none=>true
omit[kV]in theorem ad8{C:ax}{f:Nat}{fn:Func}{c:Code}(h:okF C f=true)(hf:C.P.funcs[f]? =some fn)(hb:fn.body=some c):oy C f c=true:=by unfold okF at h;rw[hf]at h;simp only[hb]at h;exact h
theorem ad7:(List.range 278).all (okF ak)=true:=by kernel_rfl
omit[kV]in theorem ahN:decide (Tryz.prog.funcs.size<=278)=true:=by kernel_rfl
omit[kV]in theorem adE:(Tryz.prog.funcs.toList.all fun fn=> !(fn.name== "runtime.NumGoroutine"))=true:=by kernel_rfl
theorem Ny:oO ak.P:=fun f fn hf=>by have:=List.all_eq_true.1 adE fn (by have:=Array.mem_of_getElem? hf;simpa using this);simpa using this
theorem ac7:yx ak 115:=by haveI:cX (nu ak.P ak.bS) 95 false 1:=⟨by kernel_rfl,by kernel_rfl⟩;haveI:cX (nu ak.P ak.bS) 34 false 1:=⟨by kernel_rfl,by kernel_rfl⟩;haveI:cX (nu ak.P ak.bS) 3 false 1:=⟨by kernel_rfl,by kernel_rfl⟩;haveI:cX (nu ak.P ak.bS) 98 false 1:=⟨by kernel_rfl,by kernel_rfl⟩;haveI:de (nu ak.P ak.bS) 34 (.slice 3):=⟨Tryz.underlying34⟩;haveI:de (nu ak.P ak.bS) 95 (.slice 98):=⟨Tryz.underlying95⟩;haveI:Fd (nu ak.P ak.bS) 36 4 4 1 false:=⟨by kernel_rfl⟩;refine ac9 (C:=ak) Ny (by kernel_rfl) Tryz.func115 (by rfl) (by kernel_rfl) (by rfl) fun{us i c cells ks u}om h4 hk hu hi hc=> ?_;have hl:4<cells.length:=by{rcases Nat.lt_or_ge 4 cells.length with h|h;·{exact h};·rw[List.getElem?_eq_none h]at h4;cases h4};have hd:cells.drop 4= .sl ks::cells.drop 5:=by{rw[List.drop_eq_getElem_cons hl];rw[List.getElem?_eq_getElem hl]at h4;rw[Ha h4]};have h1:idx ks i=some [.val (.int .i64 c)]:=by{unfold idx;rw[if_pos hi];exact hk};have h2:idx us c=some u:=by{unfold idx;rw[if_pos hc];exact hu};refine cH Tryz.func115 Tryz.ntmps115 (by exact spine) (sl:=[0,1,2]) ?_;refine ag<|pp af<|nl<|mm<|pp bw<|pp (bN (hl:=Nat.ble_eq_true_of_le (Nat.le_of_lt hl)))<|pp (bw (hv:=hd))<|pp aa<|pp (jR (c:=id) (q:=ks) h1 (hx:=by exact congrArg U.sl (List.map_id ks).symm))<|pp bw<|pp (jR h2)<|pp bw<|pp af<|ij<|rt<| ?_;exact bJ
theorem XO:∀k,ak.look k=true->yx ak k:=fun k h=>by have h:(bif Do k 115 then true else false)=true:=h;cases OF:Do k 115 with|true=>(rw[GE OF];exact ac7)|false=>simp only[OF,cond_false]at h;cases h
theorem HN:hO ak:=⟨Ny,(fun k p h=>by cases h),XO⟩
theorem Nz:ak.P.follows .mixedOrders=true:=by kernel_rfl
theorem Nx:∀f i,fo (ak.live f i):=fun f i=>ac8 (PO.yO (p:=Hj) (by kernel_rfl) f) i
theorem Nv:qM ak:=⟨fun f i b l h=>J7 (i:=i) (Ns.yO (p:=Bj) (by kernel_rfl) f) h,fun f i b l h=>J7 (i:=i) (Nq.yO (p:=Bj) (by kernel_rfl) f) h,fun f i b l h=>J7 (i:=i) (Nt.yO (p:=Bj) (by kernel_rfl) f) h⟩
theorem acB:pY ak 110 (xo 6 4):=by haveI:Fd ak 24 0 0 1 false:=⟨by kernel_rfl⟩;haveI:cX ak 22 false 1:=⟨by kernel_rfl,by kernel_rfl⟩;haveI:de ak 22 (.slice 36):=⟨Tryz.underlying22⟩;haveI:cX ak 36 true 6:=⟨by kernel_rfl,by kernel_rfl⟩;haveI:Fd ak 36 4 4 1 false:=⟨by kernel_rfl⟩;haveI:cX ak 34 false 1:=⟨by kernel_rfl,by kernel_rfl⟩;haveI:de ak 34 (.slice 3):=⟨Tryz.underlying34⟩;haveI:cX ak 3 false 1:=⟨by kernel_rfl,by kernel_rfl⟩;exact acC (by rfl) HN Tryz.func110 Tryz.ntmps110 (by rfl) (fun _=>rfl) (by rfl)
theorem Nw:∀k it,ak.iter k=some it->pY ak k it:=fun k it h=>by have h:(bif Do k 110 then some (xo 6 4)else none)=some it:=h;cases IF:Do k 110 with|true=>(simp only[IF,cond_true,GT]at h;subst h;rw[GE IF];exact acB)|false=>simp only[IF,cond_false]at h;cases h
theorem Xp{g:List U->Option (U×List U)}(hg:g=y2 1){args:List U}{r:U×List U}(h:g args=some r):Sound ak 97 args r:=by haveI:de ak 34 (.slice 3):=⟨Tryz.underlying34⟩;haveI:sg ak 3 1:=⟨by kernel_rfl⟩;haveI:kY ak 3 [.val (.int .i64 0)]:=⟨by kernel_rfl⟩;haveI:cX ak 3 false 1:=⟨by kernel_rfl,by kernel_rfl⟩;exact(Xt (C:=ak) (f:=97) (e:=3) (m:=1) (bb:=false) (fL:=[.val (.int .i64 0)]) (by rfl) HN Nz Nx Nv (fun _=>rfl) (fun _=>rfl) (fun _=>rfl) (fun _=>rfl) (fun _=>rfl) (fun _=>rfl) rfl rfl Tryz.func97 Tryz.ntmps97 (by rfl) (by rfl) hg h (hit:=Nw)).sound (by rfl)
theorem Xk{g:List U->Option (U×List U)}(hg:g=wH){args:List U}{r:U×List U}(h:g args=some r):Sound ak 157 args r:=(aao (C:=ak) Tryz.func157 (by rfl) (by rfl) Tryz.strings_HasPrefix hg h).sound (by rfl)
theorem Xl{g:List U->Option (U×List U)}(hg:g=w9){args:List U}{r:U×List U}(h:g args=some r):Sound ak 159 args r:=(acg (k:=4) (m:=kV.m) (cs:=[]) (C:=ak) Tryz.func159 (by rfl) (by rfl) (by rfl) Tryz.strings_Index hg h).sound (by rfl)
theorem Xn{g:List U->Option (U×List U)}(hg:g=xb){args:List U}{r:U×List U}(h:g args=some r):Sound ak 198 args r:=(acf (C:=ak) Tryz.func198 (by rfl) (by rfl) Tryz.strings_IndexByte hg h).sound (by rfl)
theorem Xo{g:List U->Option (U×List U)}(hg:g=vY){args:List U}{r:U×List U}(h:g args=some r):Sound ak 212 args r:=(Xr (C:=ak) Tryz.func212 (by rfl) (by rfl) Tryz.stringslite_Clone hg h).sound (by rfl)
theorem Xm{g:List U->Option (U×List U)}(hg:g=v7){args:List U}{r:U×List U}(h:g args=some r):Sound ak 185 args r:=(Xz (k:=4) (m:=kV.m) (cs:=[]) (C:=ak) Tryz.func185 (by rfl) (by rfl) (by rfl) Tryz.strings_Contains hg h).sound (by rfl)
theorem XN:Good ak where
 count:=HN
 wide:=Nz
 live:=Nx
 cut:=Nv
 free:=fun f fn c _ hf hb=>by
  have hlt:f<278:=by
   have h1:f<ak.P.funcs.size:=by
    rcases Nat.lt_or_ge f ak.P.funcs.size with h|h
    ·exact h
    ·rw[Array.getElem?_eq_none h]at hf;cases hf
   have h2:=of_decide_eq_true ahN
   rw[XP]at h1
   exact Nat.lt_of_lt_of_le h1 h2
  exact ad8 (List.all_eq_true.1 ad7 f (List.mem_range.2 hlt)) hf hb
 ext:=fun f g args r h h2=>by
  have h:(bif Do f 97 then some (y2 1)else bif Do f 157 then some wH else bif Do f 159 then some w9 else bif Do f 198 then some xb else bif Do f 212 then some vY else bif Do f 185 then some v7 else none)=some g:=h
  cases IM:Do f 97 with
  |true=>
   simp only[IM,cond_true,GT]at h
   rw[GE IM]
   exact Xp h.symm h2
  |false=>
   simp only[IM,cond_false]at h
   cases IG:Do f 157 with
   |true=>
    simp only[IG,cond_true,GT]at h
    rw[GE IG]
    exact Xk h.symm h2
   |false=>
    simp only[IG,cond_false]at h
    cases II:Do f 159 with
    |true=>
     simp only[II,cond_true,GT]at h
     rw[GE II]
     exact Xl h.symm h2
    |false=>
     simp only[II,cond_false]at h
     cases IK:Do f 198 with
     |true=>
      simp only[IK,cond_true,GT]at h
      rw[GE IK]
      exact Xn h.symm h2
     |false=>
      simp only[IK,cond_false]at h
      cases IL:Do f 212 with
      |true=>
       simp only[IL,cond_true,GT]at h
       rw[GE IL]
       exact Xo h.symm h2
      |false=>
       simp only[IL,cond_false]at h
       cases IJ:Do f 185 with
       |true=>
        simp only[IJ,cond_true,GT]at h
        rw[GE IJ]
        exact Xm h.symm h2
       |false=>
        simp only[IJ,cond_false]at h
        cases h
 iter:=Nw
 nG:=fun f h=>by
  cases zz:Do f 72 with
  |true=>rw[GE zz];exact ach
  |false=>
  have h:(bif Do f 72 then true else false)=true:=h
  simp only[zz,cond_false,Bool.false_eq_true]at h
 oE:=fun f g h=>by
  cases zz:Do f 72 with
  |true=>
   have h:(bif Do f 72 then some xR else none)=some g:=h
   rw[zz]at h
   obtain rfl:=Ha h
   rw[GE zz];exact af6 rfl rfl
  |false=>
  have h:(bif Do f 72 then some xR else none)=some g:=h
  simp only[zz,cond_false]at h
  cases h
end Go.Ab
