import Derived.Test.YtbbhbdlljfffdaaGreatDoorAbBT
import Derived.Test.YtbbhbdlljfffdaaGreatDoorAbV6
import Derived.Test.YtbbhbdlljfffdaaGreatDoorAbLook
import Derived.Test.YtbbhbdlljfffdaaGreatDoorAbShelf8
import Derived.Test.YtbbhbdlljfffdaaGreatDoorAbInert72
open ByteArray renaming mk→GE
open Nat renaming beq→GT,eq_of_beq_eq_true→Ha
open Option.some renaming injEq→Hb
set_option linter.all false
namespace Go.Ab
open Go Go.Proofs
def Rs:fU (List Nat):=(.n 96 (.n 56 (.n 40 (.n 24 (.n 20 (.o 7 [7,8,10,11,13,14,17,19,23,39,71] []) (.n 22 (.o 20 [1,2,3,4,6,10] []) (.o 22 [1,9,26,48] []))) (.n 38 (.o 24 [2,3,6,7] []) (.n 39 (.o 38 [10,26,35,37,48] []) (.o 39 [3] [])))) (.n 47 (.n 45 (.o 40 [4,9,12,14,16,26,27,31,32,35,46,47] []) (.n 46 (.o 45 [11,12,19] []) (.o 46 [4,7,10,12,21,33,34,35,42,44,50,53,60,62,65,69,77,79,81,84,95,100,102,105] []))) (.n 53 (.o 47 [8,16] []) (.n 54 (.o 53 [5,18,23,82,92,96,102,109,114] []) (.o 54 [1,6] []))))) (.n 78 (.n 74 (.n 57 (.o 56 [8,9,29] []) (.n 71 (.o 57 [2,3] []) (.o 71 [18,56] []))) (.n 76 (.o 74 [5] []) (.n 77 (.o 76 [7,21,28,30,45,46] []) (.o 77 [7,9] [])))) (.n 92 (.n 79 (.o 78 [6,10,12] []) (.n 80 (.o 79 [14,20] []) (.o 80 [3] []))) (.n 94 (.n 93 (.o 92 [7,9,14,18,20] []) (.o 93 [3,5,12] [])) (.n 95 (.o 94 [11,16,20] []) (.o 95 [4,6,8] [])))))) (.n 169 (.n 127 (.n 109 (.n 105 (.o 96 [6,9,11,15,16] []) (.n 108 (.o 105 [3] []) (.o 108 [5,7,17] []))) (.n 121 (.o 109 [1] []) (.n 122 (.o 121 [11,21,24,28,31] []) (.o 122 [15,22,29,38] [])))) (.n 143 (.n 128 (.o 127 [3,5,8,9,12,22,23,27,30,33,43,44] []) (.n 139 (.o 128 [5,7] []) (.o 139 [3,11,19,24,26,28,31,34,35,42,44,48,49,53,55,57,61,62,66,72,74,79,80,84,89,94,96,101,102,106,111,115] []))) (.n 164 (.n 155 (.o 143 [7] []) (.o 155 [15] [])) (.n 165 (.o 164 [60,67,86] []) (.o 165 [11] []))))) (.n 178 (.n 175 (.n 173 (.o 169 [4,9,13,15,17,26,30,33,36,46] []) (.n 174 (.o 173 [5,9] []) (.o 174 [5,9,17,18] []))) (.n 176 (.o 175 [9,12,14,17,19,22,24,26,28,30,32,34,36,38,41,43,45,55,56] []) (.n 177 (.o 176 [7,9,12,17,21,23,25,33,35,39,41,49] []) (.o 177 [4,7,9,11,13] [])))) (.n 189 (.n 183 (.o 178 [11,12] []) (.n 187 (.o 183 [22] []) (.o 187 [3,6,12,27,29,41,54,58,63] []))) (.n 205 (.n 200 (.o 189 [7] []) (.o 200 [17,24,32,40] [])) (.n 211 (.o 205 [47,59,71,123,127,131,167] []) (.o 211 [32,37,43,49,73,80] [])))))))
def I9:fU (List (Nat×List Nat)):=(.n 96 (.n 58 (.n 53 (.n 45 (.o 22 [(5,[1,2,3,20,21])] []) (.o 45 [(1,[0,2])] [])) (.n 54 (.o 53 [(9,[0,1,2,5,8,9])] []) (.n 56 (.o 54 [(4,[3,4,14,15,16]),(7,[3,4,5,14,15,16,22,23,24])] []) (.o 56 [(4,[1,2,15,16,17])] [])))) (.n 76 (.n 71 (.o 58 [(4,[0,1,12,13])] []) (.o 71 [(5,[0,3,4,5])] [])) (.n 79 (.o 76 [(5,[0,1,5,6])] []) (.n 94 (.o 79 [(2,[0,7,8,9])] []) (.o 94 [(3,[0,1,2,7,8])] []))))) (.n 165 (.n 121 (.n 107 (.o 96 [(4,[0,3,4])] []) (.o 107 [(4,[0,14,15])] [])) (.n 155 (.o 121 [(2,[0,4])] []) (.n 162 (.o 155 [(2,[0,1,5])] []) (.o 162 [(2,[0,5,6])] [])))) (.n 180 (.n 169 (.o 165 [(2,[0,5,6])] []) (.n 176 (.o 169 [(2,[0,3])] []) (.o 176 [(3,[0,3])] []))) (.n 205 (.o 180 [(2,[0,1,7,8])] []) (.n 211 (.o 205 [(36,[1,8,9,10,11,12,13,99,100,101])] []) (.o 211 [(10,[0,3,4,5])] []))))))
def Yo:fU (List Nat):=(.n 94 (.n 76 (.n 53 (.o 45 [1] []) (.o 53 [9] [])) (.n 79 (.o 76 [5] []) (.o 79 [2] []))) (.n 169 (.n 96 (.o 94 [3] []) (.o 96 [4] [])) (.n 176 (.o 169 [2] []) (.o 176 [3] []))))
def Oh:fU (List (Nat×List (Nat×Nat))):=(.n 76 (.n 40 (.n 22 (.o 7 [(7,[(16,18),(17,19)])] []) (.n 38 (.o 22 [(3,[(6,7)])] []) (.o 38 [(3,[(1,3)])] []))) (.n 47 (.n 46 (.o 40 [(6,[(9,11)]),(9,[(10,12)])] []) (.o 46 [(8,[(6,9)]),(18,[(3,5)]),(29,[(3,5)])] [])) (.n 54 (.o 47 [(2,[(4,10)])] []) (.o 54 [(9,[(4,12),(5,12),(8,12),(9,12),(11,12)])] [])))) (.n 175 (.n 139 (.n 127 (.o 76 [(11,[(12,14)])] []) (.o 127 [(4,[(9,11)]),(7,[(9,11)])] [])) (.n 174 (.o 139 [(8,[(1,3)])] []) (.o 174 [(4,[(6,8)])] []))) (.n 187 (.n 178 (.o 175 [(18,[(9,11)])] []) (.o 178 [(1,[(6,8)])] [])) (.n 189 (.o 187 [(8,[(11,12)])] []) (.o 189 [(1,[(4,7)])] [])))))
def GW:fU (List (Nat×Bool×List Nat)):=(.n 108 (.n 57 (.n 38 (.n 20 (.o 7 [(5,(false,[0,1,6,25]))] []) (.o 20 [(3,(false,[0]))] [])) (.n 46 (.o 38 [(10,(false,[4,5,50]))] []) (.n 53 (.o 46 [(11,(true,[0,5,6,45]))] []) (.o 53 [(11,(true,[0,1,2,5,8,9,62])),(17,(false,[0,5,89])),(19,(false,[0,5,99]))] [])))) (.n 92 (.n 79 (.o 57 [(1,(false,[4]))] []) (.o 79 [(4,(true,[0,6,7,8,9,21]))] [])) (.n 103 (.o 92 [(5,(true,[0,10]))] []) (.n 105 (.o 103 [(1,(false,[2]))] []) (.o 105 [(10,(false,[6])),(13,(false,[6])),(15,(false,[6]))] []))))) (.n 169 (.n 155 (.n 127 (.o 108 [(13,(false,[4]))] []) (.o 127 [(5,(true,[0,3,25]))] [])) (.n 161 (.o 155 [(2,(false,[0,1,5,16]))] []) (.n 164 (.o 161 [(1,(false,[2]))] []) (.o 164 [(9,(false,[8,9,10,11,12])),(10,(false,[8,9,10,11,58]))] [])))) (.n 199 (.n 183 (.o 169 [(8,(true,[0,3,4,28]))] []) (.o 183 [(1,(false,[0,6])),(5,(false,[0,28]))] [])) (.n 205 (.o 199 [(12,(false,[2,7,8,9,38]))] []) (.n 211 (.o 205 [(12,(false,[0,2,8,9,40])),(15,(false,[0,2,8,9,52])),(18,(false,[0,2,8,9,64])),(44,(false,[1,8,9,10,11,12,13,15,99,100,101,121])),(56,(false,[13,169]))] []) (.o 211 [(3,(false,[0,3,4,18])),(6,(false,[0,3,4,5,46])),(12,(false,[0,3,4,5,83]))] []))))))
def GV:fU (List (Nat×Bool×List Nat)):=(.n 96 (.n 58 (.n 53 (.n 45 (.o 22 [(0,(false,[1,2,3]))] []) (.o 45 [(0,(true,[0,2]))] [])) (.n 54 (.o 53 [(0,(true,[0,1,2,5,8]))] []) (.n 56 (.o 54 [(0,(false,[4])),(2,(false,[3,4,5,14,15,16]))] []) (.o 56 [(0,(false,[]))] [])))) (.n 76 (.n 71 (.o 58 [(0,(false,[]))] []) (.o 71 [(0,(false,[]))] [])) (.n 79 (.o 76 [(0,(true,[0,5]))] []) (.n 94 (.o 79 [(0,(true,[0]))] []) (.o 94 [(0,(true,[0,2,7]))] []))))) (.n 165 (.n 121 (.n 107 (.o 96 [(0,(true,[0,3,4]))] []) (.o 107 [(0,(false,[]))] [])) (.n 155 (.o 121 [(0,(false,[]))] []) (.n 162 (.o 155 [(0,(false,[5]))] []) (.o 162 [(0,(false,[]))] [])))) (.n 180 (.n 169 (.o 165 [(0,(false,[]))] []) (.n 176 (.o 169 [(0,(false,[]))] []) (.o 176 [(0,(true,[0,3]))] []))) (.n 205 (.o 180 [(0,(false,[]))] []) (.n 211 (.o 205 [(3,(false,[9,12,13]))] []) (.o 211 [(0,(false,[3]))] []))))))
def GX:fU (List (Nat×Bool×List Nat)):=(.n 105 (.n 80 (.n 46 (.n 38 (.o 7 [(11,(false,[7,8,9]))] []) (.o 38 [(9,(false,[4,5,7]))] [])) (.n 76 (.o 46 [(15,(true,[0,5,6,7])),(18,(true,[0,5,6,7])),(28,(true,[0,5,6]))] []) (.o 76 [(11,(true,[0,1,5,6,7,8]))] []))) (.n 94 (.n 93 (.o 80 [(4,(true,[0,2,3]))] []) (.o 93 [(4,(true,[0,2]))] [])) (.n 104 (.o 94 [(7,(true,[0,1,2,7]))] []) (.o 104 [(5,(false,[4,5])),(8,(false,[4,9])),(13,(false,[4,14])),(18,(false,[4,17])),(27,(false,[4,24]))] [])))) (.n 177 (.n 139 (.n 109 (.o 105 [(13,(false,[1,2,15,67]))] []) (.o 109 [(10,(false,[1,4,50]))] [])) (.n 175 (.o 139 [(11,(true,[0,4,6])),(36,(true,[0,1,5]))] []) (.o 175 [(8,(true,[0,1,5])),(13,(true,[0,1,5,6])),(17,(true,[0,1,5,6,7]))] []))) (.n 199 (.n 183 (.o 177 [(6,(true,[0,3,4,5]))] []) (.o 183 [(7,(false,[]))] [])) (.n 205 (.o 199 [(10,(false,[0,1,2,8])),(16,(false,[2,8,9])),(24,(false,[11]))] []) (.n 211 (.o 205 [(21,(false,[0,1,2,8,9])),(25,(false,[0,1,2,8,9])),(32,(false,[0,1,2,8,9,10])),(46,(false,[1,8,9,10,11,12,13,16,99,100,101])),(55,(false,[1,8,9,10,11,12,13,99,100,101]))] []) (.o 211 [(5,(false,[0,3,4])),(10,(false,[0,3,4,5])),(11,(false,[0,3,4,5]))] []))))))
def WR:fU (List (Nat×List Nat)):=(.n 94 (.n 75 (.n 46 (.n 40 (.n 39 (.o 38 [(6,[7]),(8,[7])] []) (.o 39 [(0,[0]),(999999,[0])] [])) (.n 45 (.o 40 [(1,[0]),(2,[0]),(3,[0]),(4,[0]),(5,[0]),(6,[0]),(7,[0]),(8,[0]),(9,[0]),(999999,[0])] []) (.o 45 [(2,[0]),(3,[0]),(999999,[0])] []))) (.n 69 (.n 47 (.o 46 [(1,[0]),(2,[0]),(5,[0]),(7,[0]),(8,[0]),(10,[0]),(11,[0]),(12,[0]),(14,[0]),(15,[0]),(19,[0]),(20,[0]),(21,[0]),(22,[0]),(23,[0]),(26,[0]),(27,[0]),(28,[0]),(29,[0]),(999999,[0])] []) (.o 47 [(999999,[0])] [])) (.n 74 (.o 69 [(999999,[0])] []) (.o 74 [(999999,[0])] [])))) (.n 79 (.n 77 (.n 76 (.o 75 [(999999,[0])] []) (.o 76 [(2,[0]),(3,[0]),(4,[0]),(6,[0]),(7,[0]),(11,[0]),(999999,[0])] [])) (.n 78 (.o 77 [(1,[0]),(2,[0]),(999999,[0])] []) (.o 78 [(0,[0]),(1,[0]),(999999,[0])] []))) (.n 92 (.n 80 (.o 79 [(4,[0]),(999999,[0])] []) (.o 80 [(1,[0]),(999999,[0])] [])) (.n 93 (.o 92 [(1,[0]),(2,[0]),(5,[0]),(7,[0]),(999999,[0])] []) (.o 93 [(1,[0]),(3,[0]),(4,[0]),(999999,[0])] []))))) (.n 173 (.n 128 (.n 96 (.n 95 (.o 94 [(3,[0]),(6,[0]),(7,[0]),(999999,[0])] []) (.o 95 [(1,[0]),(2,[0]),(3,[0]),(999999,[0])] [])) (.n 127 (.o 96 [(1,[0]),(2,[0]),(4,[0]),(5,[0]),(6,[0]),(999999,[0])] []) (.o 127 [(1,[0]),(2,[0]),(3,[0]),(4,[0]),(5,[0]),(6,[0]),(7,[0]),(8,[0]),(999999,[0])] []))) (.n 169 (.n 139 (.o 128 [(1,[0]),(999999,[0])] []) (.o 139 [(1,[0]),(4,[0]),(5,[0]),(6,[0]),(7,[0]),(8,[0]),(9,[0]),(10,[0]),(11,[0]),(12,[0]),(13,[0]),(14,[0]),(15,[0]),(16,[0]),(17,[0]),(18,[0]),(19,[0]),(20,[0]),(21,[0]),(22,[0]),(23,[0]),(24,[0]),(25,[0]),(26,[0]),(27,[0]),(28,[0]),(29,[0]),(30,[0]),(31,[0]),(32,[0]),(33,[0]),(34,[0]),(35,[0]),(36,[0]),(999999,[0])] [])) (.n 172 (.o 169 [(1,[0]),(2,[0]),(4,[0]),(5,[0]),(6,[0]),(7,[0]),(8,[0]),(9,[0]),(10,[0]),(999999,[0])] []) (.o 172 [(1,[7])] [])))) (.n 177 (.n 175 (.n 174 (.o 173 [(1,[0]),(2,[0]),(3,[0]),(999999,[0])] []) (.o 174 [(1,[0]),(2,[0]),(3,[0]),(4,[0]),(999999,[0])] [])) (.n 176 (.o 175 [(1,[0]),(3,[0]),(4,[0]),(5,[0]),(6,[0]),(7,[0]),(8,[0]),(10,[0]),(11,[0]),(12,[0]),(13,[0]),(14,[0]),(15,[0]),(16,[0]),(17,[0]),(18,[0]),(999999,[0])] []) (.o 176 [(2,[0]),(3,[0]),(4,[0]),(5,[0]),(6,[0]),(7,[0]),(8,[0]),(9,[0]),(10,[0]),(11,[0]),(12,[0]),(999999,[0])] []))) (.n 187 (.n 178 (.o 177 [(1,[0]),(2,[0]),(4,[0]),(5,[0]),(6,[0]),(999999,[0])] []) (.o 178 [(1,[0]),(999999,[0])] [])) (.n 189 (.o 187 [(1,[0]),(3,[0]),(4,[0]),(6,[0]),(7,[0]),(8,[0]),(9,[0]),(10,[0]),(11,[0]),(12,[0]),(14,[0]),(999999,[0])] []) (.o 189 [(1,[0]),(999999,[0])] []))))))
def RF:fU (List (Nat×List Nat)):=(.n 139 (.n 46 (.o 45 [(3,[2])] []) (.n 96 (.o 46 [(29,[6])] []) (.o 96 [(6,[4])] []))) (.n 172 (.o 139 [(11,[6])] []) (.n 177 (.o 172 [(1,[1])] []) (.o 177 [(6,[5])] []))))
def Qi:fU (List Id):=(.o 69 [[0,999999]] [])
def RQ:fU Bool:=(.n 94 (.n 75 (.n 46 (.n 40 (.n 39 (.o 38 true false) (.o 39 true false)) (.n 45 (.o 40 true false) (.o 45 true false))) (.n 69 (.n 47 (.o 46 true false) (.o 47 true false)) (.n 74 (.o 69 true false) (.o 74 true false)))) (.n 79 (.n 77 (.n 76 (.o 75 true false) (.o 76 true false)) (.n 78 (.o 77 true false) (.o 78 true false))) (.n 92 (.n 80 (.o 79 true false) (.o 80 true false)) (.n 93 (.o 92 true false) (.o 93 true false))))) (.n 173 (.n 128 (.n 96 (.n 95 (.o 94 true false) (.o 95 true false)) (.n 127 (.o 96 true false) (.o 127 true false))) (.n 169 (.n 139 (.o 128 true false) (.o 139 true false)) (.n 172 (.o 169 true false) (.o 172 true false)))) (.n 177 (.n 175 (.n 174 (.o 173 true false) (.o 174 true false)) (.n 176 (.o 175 true false) (.o 176 true false))) (.n 187 (.n 178 (.o 177 true false) (.o 178 true false)) (.n 189 (.o 187 true false) (.o 189 true false))))))
def U2:fU (List Nat):=(.n 63 (.n 61 (.o 53 [0] []) (.n 62 (.o 61 [0] []) (.o 62 [0] []))) (.n 111 (.o 63 [0] []) (.n 144 (.o 111 [0] []) (.o 144 [0] []))))
def Vi:fU (List Nat):=(.n 63 (.n 61 (.o 53 [1,0] []) (.n 62 (.o 61 [1,0] []) (.o 62 [1,0] []))) (.n 111 (.o 63 [1,0] []) (.n 144 (.o 111 [1,0] []) (.o 144 [1,0] []))))
def qM:List ByteArray:=[(GE #[105,110,116]),(GE #[118,111,105,100]),(GE #[105,102]),(GE #[101,108,115,101]),(GE #[119,104,105,108,101]),(GE #[100,111]),(GE #[102,111,114]),(GE #[115,119,105,116,99,104]),(GE #[99,97,115,101]),(GE #[100,101,102,97,117,108,116]),(GE #[98,114,101,97,107]),(GE #[99,111,110,116,105,110,117,101]),(GE #[114,101,116,117,114,110])]
def qN:List ByteArray:=[(GE #[60,60,61]),(GE #[62,62,61]),(GE #[60,60]),(GE #[62,62]),(GE #[60,61]),(GE #[62,61]),(GE #[61,61]),(GE #[33,61]),(GE #[38,38]),(GE #[124,124]),(GE #[43,61]),(GE #[45,61]),(GE #[42,61]),(GE #[47,61]),(GE #[37,61]),(GE #[38,61]),(GE #[94,61]),(GE #[124,61]),(GE #[43,43]),(GE #[45,45]),(GE #[43]),(GE #[45]),(GE #[42]),(GE #[47]),(GE #[37]),(GE #[38]),(GE #[124]),(GE #[94]),(GE #[126]),(GE #[33]),(GE #[60]),(GE #[62]),(GE #[61]),(GE #[63]),(GE #[58]),(GE #[59]),(GE #[44]),(GE #[40]),(GE #[41]),(GE #[91]),(GE #[93]),(GE #[123]),(GE #[125])]
def n6:List (List ByteArray):=[[(GE #[124,124])],[(GE #[38,38])],[(GE #[124])],[(GE #[94])],[(GE #[38])],[(GE #[61,61]),(GE #[33,61])],[(GE #[60]),(GE #[60,61]),(GE #[62]),(GE #[62,61])],[(GE #[60,60]),(GE #[62,62])],[(GE #[43]),(GE #[45])],[(GE #[42]),(GE #[47]),(GE #[37])]]
variable[jv]
def RJ(g:Nat):Option (List U):=if g=1 then some (n6.map mN)else if g=2 then some (qM.map lZ)else if g=3 then some (qN.map lZ)else if g=5 then some [.nn]else if g=6 then some [.nn]else if g=4 then some [.val (.int .i64 jv.m)]else none
noncomputable def ak:aB:={P:=Tryz.prog,bJ:=RJ,ext:=fun f=>bif GT f 97 then some (s3 1)else bif GT f 157 then some rF else bif GT f 159 then some r4 else bif GT f 198 then some r5 else bif GT f 212 then some q4 else bif GT f 185 then some q5 else none,path:=fun f=>none,qI:=fun f d=>bif GT f 30 then(bif GT d 25 then[7]else[])else bif GT f 40 then(bif GT d 22 then[4]else bif GT d 43 then[4]else[])else bif GT f 76 then(bif GT d 40 then[4]else[])else bif GT f 127 then(bif GT d 20 then[4]else bif GT d 41 then[4]else[])else bif GT f 169 then(bif GT d 23 then[4]else bif GT d 44 then[4]else[])else bif GT f 187 then(bif GT d 20 then[4]else bif GT d 37 then[4]else bif GT d 50 then[4]else[])else bif GT f 95 then(bif GT d 17 then[4]else[])else bif GT f 96 then(bif GT d 22 then[4]else[])else bif GT f 172 then(bif GT d 12 then[4]else[])else bif GT f 177 then(bif GT d 23 then[4]else[])else bif GT f 178 then(bif GT d 9 then[4]else[])else bif GT f 174 then(bif GT d 15 then[4]else[])else bif GT f 189 then(bif GT d 9 then[4]else[])else bif GT f 175 then(bif GT d 50 then[4]else[])else bif GT f 176 then(bif GT d 31 then[4]else bif GT d 47 then[4]else[])else bif GT f 45 then(bif GT d 17 then[4]else[])else[],look:=fun f=>bif GT f 115 then true else false,iK:=fun f i=>bif GT f 66 then(bif GT i 15 then[8]else bif GT i 18 then[8]else[])else bif GT f 114 then(bif GT i 4 then[2]else[])else[],iter:=fun f=>bif GT f 110 then some (r7 6 4)else none,fP:=RQ.get,nF:=Qi.get,yT:=fun f i=>bif GT f 38 then GT i 4 else false,kH:=fun f=>bif GT f 72 then true else false,gO:=fun f i=>look (WR.get f) i [],jC:=fun f i=>look (RF.get f) i [],bL:=U2.get,ue:=Vi.get,shr:=fun f i=>(Yo.get f).contains i,dN:=Rs.get,live:=fun f i=>look (I9.get f) i [],iV:=fun f i=>look (Oh.get f) i [],gY:=fun f i=>tZ (GW.get f) i,lT:=fun f i=>tZ (GV.get f) i,yR:=fun f i=>tZ (GX.get f) i}
@[simp]theorem Qf:ak.P=Tryz.prog:=rfl
def okF(C:aB)(f:Nat):Bool:=match C.P.funcs[f]? with|some fn=>(match fn.body with|some c=>lz C f c|none=>true)|none=>true
omit[jv]in theorem V6{C:aB}{f:Nat}{fn:Func}{c:Code}(h:okF C f=true)(hf:C.P.funcs[f]? =some fn)(hb:fn.body=some c):lz C f c=true:=by unfold okF at h;rw[hf]at h;simp only[hb]at h;exact h
theorem V5:(List.range 278).all (okF ak)=true:=by kernel_rfl
omit[jv]in theorem Yz:decide (Tryz.prog.funcs.size≤278)=true:=by kernel_rfl
omit[jv]in theorem VD:(Tryz.prog.funcs.toList.all fun fn=> !(fn.name== "runtime.NumGoroutine"))=true:=by kernel_rfl
theorem G2:mC ak.P:=fun f fn hf=>by have:=List.all_eq_true.1 VD fn (by have:=Array.mem_of_getElem? hf;simpa using this);simpa using this
theorem U5:sN ak 115:=by haveI:cK (ku ak.P ak.bJ) 95 false 1:=⟨by kernel_rfl,by kernel_rfl⟩;haveI:cK (ku ak.P ak.bJ) 34 false 1:=⟨by kernel_rfl,by kernel_rfl⟩;haveI:cK (ku ak.P ak.bJ) 3 false 1:=⟨by kernel_rfl,by kernel_rfl⟩;haveI:cK (ku ak.P ak.bJ) 98 false 1:=⟨by kernel_rfl,by kernel_rfl⟩;haveI:cQ (ku ak.P ak.bJ) 34 (.slice 3):=⟨Tryz.underlying34⟩;haveI:cQ (ku ak.P ak.bJ) 95 (.slice 98):=⟨Tryz.underlying95⟩;haveI:Fd (ku ak.P ak.bJ) 36 4 4 1 false:=⟨by kernel_rfl⟩;refine U7 (C:=ak) G2 (by kernel_rfl) Tryz.func115 (by rfl) (by kernel_rfl) (by rfl) fun{us i c cells ks u}lf h4 hk hu hi hc=> ?_;have hl:4<cells.length:=by{rcases Nat.lt_or_ge 4 cells.length with h|h;·{exact h};·rw[List.getElem?_eq_none h]at h4;cases h4};have hd:cells.drop 4= .sl ks::cells.drop 5:=by{rw[List.drop_eq_getElem_cons hl];rw[List.getElem?_eq_getElem hl]at h4;rw[Option.some.inj h4]};have h1:idx ks i=some [.val (.int .i64 c)]:=by{unfold idx;rw[AC hi];exact hk};have h2:idx us c=some u:=by{unfold idx;rw[AC hc];exact hu};refine cN Tryz.func115 Tryz.ntmps115 (by exact spine) (sl:=[0,1,2]) ?_;refine ag<|pp af<|nl<|jq<|pp aO<|pp (bq (hl:=Nat.ble_eq_true_of_le (Nat.le_of_lt hl)))<|pp (aO (hv:=hd))<|pp aa<|pp (fH (c:=id) (q:=ks) h1 (hx:=by exact congrArg U.sl (List.map_id ks).symm))<|pp aO<|pp (fH h2)<|pp aO<|pp af<|dO<|rt<| ?_;exact bA
theorem Qe:∀k,ak.look k=true→sN ak k:=fun k h=>by have h:(bif GT k 115 then true else false)=true:=h;cases H7:GT k 115 with|true=>(rw[Ha H7];exact U5)|false=>simp only[H7,cond_false]at h;cases h
theorem Bu:ia ak:=⟨G2,(fun k p h=>by cases h),Qe⟩
theorem G3:ak.P.follows .mixedOrders=true:=by kernel_rfl
theorem G1:∀f i,eE (ak.live f i):=fun f i=>U6 (I9.sW (p:=A5) (by kernel_rfl) f) i
theorem GZ:nv ak:=⟨fun f i b l h=>De (i:=i) (GW.sW (p:=u5) (by kernel_rfl) f) h,fun f i b l h=>De (i:=i) (GV.sW (p:=u5) (by kernel_rfl) f) h,fun f i b l h=>De (i:=i) (GX.sW (p:=u5) (by kernel_rfl) f) h⟩
theorem UH:mB ak 110 (r7 6 4):=by haveI:Fd ak 24 0 0 1 false:=⟨by kernel_rfl⟩;haveI:cK ak 22 false 1:=⟨by kernel_rfl,by kernel_rfl⟩;haveI:cQ ak 22 (.slice 36):=⟨Tryz.underlying22⟩;haveI:cK ak 36 true 6:=⟨by kernel_rfl,by kernel_rfl⟩;haveI:Fd ak 36 4 4 1 false:=⟨by kernel_rfl⟩;haveI:cK ak 34 false 1:=⟨by kernel_rfl,by kernel_rfl⟩;haveI:cQ ak 34 (.slice 3):=⟨Tryz.underlying34⟩;haveI:cK ak 3 false 1:=⟨by kernel_rfl,by kernel_rfl⟩;exact UI (by rfl) Bu Tryz.func110 Tryz.ntmps110 (by rfl) (fun _=>rfl) (by rfl)
theorem G0:∀k it,ak.iter k=some it→mB ak k it:=fun k it h=>by have h:(bif GT k 110 then some (r7 6 4)else none)=some it:=h;cases B1:GT k 110 with|true=>(simp only[B1,cond_true,Hb]at h;subst h;rw[Ha B1];exact UH)|false=>simp only[B1,cond_false]at h;cases h
theorem PL{g:List U→Option (U×List U)}(hg:g=s3 1){args:List U}{r:U×List U}(h:g args=some r):Sound ak 97 args r:=by haveI:cQ ak 34 (.slice 3):=⟨Tryz.underlying34⟩;haveI:pq ak 3 1:=⟨by kernel_rfl⟩;haveI:iU ak 3 [.val (.int .i64 0)]:=⟨by kernel_rfl⟩;haveI:cK ak 3 false 1:=⟨by kernel_rfl,by kernel_rfl⟩;exact(PR (C:=ak) (f:=97) (e:=3) (m:=1) (bb:=false) (eT:=[.val (.int .i64 0)]) (by rfl) Bu G3 G1 GZ (fun _=>rfl) (fun _=>rfl) (fun _=>rfl) (fun _=>rfl) (fun _=>rfl) rfl rfl Tryz.func97 Tryz.ntmps97 (by rfl) (by rfl) hg h (hit:=G0)).sound (by rfl)
theorem PF{g:List U→Option (U×List U)}(hg:g=rF){args:List U}{r:U×List U}(h:g args=some r):Sound ak 157 args r:=(SR (C:=ak) Tryz.func157 (by rfl) (by rfl) Tryz.strings_HasPrefix hg h).sound (by rfl)
theorem PG{g:List U→Option (U×List U)}(hg:g=r4){args:List U}{r:U×List U}(h:g args=some r):Sound ak 159 args r:=(Uw (k:=4) (m:=jv.m) (cs:=[]) (C:=ak) Tryz.func159 (by rfl) (by rfl) (by rfl) Tryz.strings_Index hg h).sound (by rfl)
theorem PJ{g:List U→Option (U×List U)}(hg:g=r5){args:List U}{r:U×List U}(h:g args=some r):Sound ak 198 args r:=(Uv (C:=ak) Tryz.func198 (by rfl) (by rfl) Tryz.strings_IndexByte hg h).sound (by rfl)
theorem PK{g:List U→Option (U×List U)}(hg:g=q4){args:List U}{r:U×List U}(h:g args=some r):Sound ak 212 args r:=(PN (C:=ak) Tryz.func212 (by rfl) (by rfl) Tryz.stringslite_Clone hg h).sound (by rfl)
theorem PI{g:List U→Option (U×List U)}(hg:g=q5){args:List U}{r:U×List U}(h:g args=some r):Sound ak 185 args r:=(PW (k:=4) (m:=jv.m) (cs:=[]) (C:=ak) Tryz.func185 (by rfl) (by rfl) (by rfl) Tryz.strings_Contains hg h).sound (by rfl)
theorem Qd:Good ak where
 count:=Bu
 wide:=G3
 live:=G1
 cut:=GZ
 free:=fun f fn c _ hf hb=>by
  have hlt:f<278:=by
   have h1:f<ak.P.funcs.size:=by
    rcases Nat.lt_or_ge f ak.P.funcs.size with h|h
    ·exact h
    ·rw[Array.getElem?_eq_none h]at hf;cases hf
   have h2:=of_decide_eq_true Yz
   rw[Qf]at h1
   exact Nat.lt_of_lt_of_le h1 h2
  exact V6 (List.all_eq_true.1 V5 f (List.mem_range.2 hlt)) hf hb
 ext:=fun f g args r h h2=>by
  have h:(bif GT f 97 then some (s3 1)else bif GT f 157 then some rF else bif GT f 159 then some r4 else bif GT f 198 then some r5 else bif GT f 212 then some q4 else bif GT f 185 then some q5 else none)=some g:=h
  cases B7:GT f 97 with
  |true=>
   simp only[B7,cond_true,Hb]at h
   rw[Ha B7]
   exact PL h.symm h2
  |false=>
   simp only[B7,cond_false]at h
   cases B2:GT f 157 with
   |true=>
    simp only[B2,cond_true,Hb]at h
    rw[Ha B2]
    exact PF h.symm h2
   |false=>
    simp only[B2,cond_false]at h
    cases B3:GT f 159 with
    |true=>
     simp only[B3,cond_true,Hb]at h
     rw[Ha B3]
     exact PG h.symm h2
    |false=>
     simp only[B3,cond_false]at h
     cases B5:GT f 198 with
     |true=>
      simp only[B5,cond_true,Hb]at h
      rw[Ha B5]
      exact PJ h.symm h2
     |false=>
      simp only[B5,cond_false]at h
      cases B6:GT f 212 with
      |true=>
       simp only[B6,cond_true,Hb]at h
       rw[Ha B6]
       exact PK h.symm h2
      |false=>
       simp only[B6,cond_false]at h
       cases B4:GT f 185 with
       |true=>
        simp only[B4,cond_true,Hb]at h
        rw[Ha B4]
        exact PI h.symm h2
       |false=>
        simp only[B4,cond_false]at h
        cases h
 iter:=G0
 kH:=fun f h=>by
  cases H8:GT f 72 with
  |true=>rw[Ha H8];exact Ux
  |false=>
  have h:(bif GT f 72 then true else false)=true:=h
  simp only[H8,cond_false,Bool.false_eq_true]at h
end Go.Ab
