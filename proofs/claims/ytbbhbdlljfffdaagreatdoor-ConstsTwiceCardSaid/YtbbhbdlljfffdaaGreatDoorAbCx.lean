import Derived.Test.YtbbhbdlljfffdaaGreatDoorAbBT
import Derived.Test.YtbbhbdlljfffdaaGreatDoorAbV6
import Derived.Test.YtbbhbdlljfffdaaGreatDoorAbLook
import Derived.Test.YtbbhbdlljfffdaaGreatDoorAbShelf8
import Derived.Test.YtbbhbdlljfffdaaGreatDoorAbInert72
open ByteArray renaming mk→GE
open Nat renaming beq→GT,eq_of_beq_eq_true→Ha
open Option.some renaming injEq→Hb
set_option linter.all false
namespace Go.Ab
open Go Go.Proofs
def UN:fT (List Nat):=(.n 79 (.n 44 (.n 34 (.n 21 (.n 14 (.o 13 [1,4,6,9,12,13,18,28,37,55,63,73] []) (.n 17 (.o 14 [1,4,5,7,9,10,15,25,30,49,53] []) (.o 17 [2,3,30] []))) (.n 27 (.n 22 (.o 21 [1] []) (.o 22 [1,9,26,48] [])) (.n 30 (.o 27 [1,4,5,9,12,57,71,76] []) (.o 30 [1,5,7,9,12,42] [])))) (.n 37 (.n 35 (.o 34 [1,2,3,4,7,9,14] []) (.n 36 (.o 35 [1,4,5,8,9,18,27,29,31] []) (.o 36 [2,7,20,29] []))) (.n 39 (.n 38 (.o 37 [1,4,5,7,13,24,74] []) (.o 38 [10,26,35,37,48] [])) (.n 40 (.o 39 [3] []) (.o 40 [4,9,12,14,16,26,27,31,32,35,46,47] []))))) (.n 66 (.n 54 (.n 47 (.o 44 [2,3] []) (.n 53 (.o 47 [8,16] []) (.o 53 [5,18,23,82,92,96,102,109,114] []))) (.n 62 (.n 59 (.o 54 [1,6] []) (.o 59 [2,3] [])) (.n 63 (.o 62 [7] []) (.o 63 [5,9,113,117,127] [])))) (.n 74 (.n 68 (.n 67 (.o 66 [1,6,9,13,35,49,82,89,93,97,119,124,151,161] []) (.o 67 [7,41,42] [])) (.n 71 (.o 68 [5,23,24,25,31,32,40,41] []) (.o 71 [18,56] []))) (.n 77 (.n 76 (.o 74 [5] []) (.o 76 [7,21,28,30,45,46] [])) (.n 78 (.o 77 [7,9] []) (.o 78 [6,10,12] [])))))) (.n 144 (.n 112 (.n 105 (.n 80 (.o 79 [14,20] []) (.n 94 (.o 80 [3] []) (.o 94 [11,16,20] []))) (.n 109 (.n 108 (.o 105 [3] []) (.o 108 [5,7,17] [])) (.n 111 (.o 109 [1] []) (.o 111 [5,6,34,50,58,120] [])))) (.n 122 (.n 116 (.n 113 (.o 112 [5,37,47,48,53,54,59,60,81,113] []) (.o 113 [6,55,60,76,79,87,92,102,107,113,116,135] [])) (.n 121 (.o 116 [7] []) (.o 121 [11,21,24,28,31] []))) (.n 128 (.n 127 (.o 122 [15,22,29,38] []) (.o 127 [3,5,8,9,12,22,23,27,30,33,43,44] [])) (.n 143 (.o 128 [5,7] []) (.o 143 [7] []))))) (.n 164 (.n 151 (.n 149 (.o 144 [5] []) (.n 150 (.o 149 [6,11,47,56,73,74] []) (.o 150 [6,8,20] []))) (.n 153 (.n 152 (.o 151 [9,20] []) (.o 152 [5] [])) (.n 155 (.o 153 [16] []) (.o 155 [15] [])))) (.n 187 (.n 169 (.n 165 (.o 164 [60,67,86] []) (.o 165 [11] [])) (.n 183 (.o 169 [4,9,13,15,17,26,30,33,36,46] []) (.o 183 [22] []))) (.n 205 (.n 200 (.o 187 [3,6,12,27,29,41,54,58,63] []) (.o 200 [17,24,32,40] [])) (.n 211 (.o 205 [47,59,71,123,127,131,167] []) (.o 211 [32,37,43,49,73,80] [])))))))
def Ls:fT (List (Nat×List Nat)):=(.n 79 (.n 54 (.n 28 (.n 22 (.o 17 [(4,[2,3,5])] []) (.n 27 (.o 22 [(5,[1,2,3,20,21])] []) (.o 27 [(9,[1,2,3,5,6,44,45]),(14,[1,2,3,5,6])] []))) (.n 37 (.n 30 (.o 28 [(4,[0,1,5])] []) (.o 30 [(9,[1,2,3,6])] [])) (.n 53 (.o 37 [(6,[1,2,5,26,27,28]),(11,[1,2,5,7,26,27,28,38,39,40]),(23,[1,2,5,7,10,11,26,27,28])] []) (.o 53 [(9,[0,1,2,5,8,9])] [])))) (.n 66 (.n 62 (.n 58 (.o 54 [(4,[3,4,14,15,16]),(7,[3,4,5,14,15,16,22,23,24])] []) (.o 58 [(4,[0,1,12,13])] [])) (.n 63 (.o 62 [(2,[0,4,8,9,10])] []) (.o 63 [(11,[0,1,4,5,6,70,71,72])] []))) (.n 71 (.n 67 (.o 66 [(4,[3,4,22,23,24])] []) (.o 67 [(6,[3,4,7,8,32,33,34])] [])) (.n 76 (.o 71 [(5,[0,3,4,5])] []) (.o 76 [(5,[0,1,5,6])] []))))) (.n 153 (.n 112 (.n 94 (.o 79 [(2,[0,7,8,9])] []) (.n 107 (.o 94 [(3,[0,1,2,7,8])] []) (.o 107 [(4,[0,14,15])] []))) (.n 146 (.n 121 (.o 112 [(10,[0,1,6,7,28,29])] []) (.o 121 [(2,[0,4])] [])) (.n 149 (.o 146 [(2,[0,1,2,7])] []) (.o 149 [(7,[0,1,6,7,8]),(14,[0,1,7,8,12,65,66])] [])))) (.n 169 (.n 162 (.n 155 (.o 153 [(2,[0,1,7,8])] []) (.o 155 [(2,[0,1,5])] [])) (.n 165 (.o 162 [(2,[0,5,6])] []) (.o 165 [(2,[0,5,6])] []))) (.n 205 (.n 180 (.o 169 [(2,[0,3])] []) (.o 180 [(2,[0,1,7,8])] [])) (.n 211 (.o 205 [(36,[1,8,9,10,11,12,13,99,100,101])] []) (.o 211 [(10,[0,3,4,5])] []))))))
def ace:fT (List Nat):=(.n 76 (.n 53 (.o 30 [9] []) (.n 67 (.o 53 [9] []) (.o 67 [6] []))) (.n 94 (.n 79 (.o 76 [5] []) (.o 79 [2] [])) (.n 169 (.o 94 [3] []) (.o 169 [2] []))))
def Ra:fT (List (Nat×List (Nat×Nat))):=(.n 66 (.n 40 (.n 30 (.n 27 (.o 22 [(3,[(6,7)])] []) (.o 27 [(7,[(9,10)]),(22,[(8,9)])] [])) (.n 38 (.o 30 [(4,[(8,9)])] []) (.o 38 [(3,[(1,3)])] []))) (.n 54 (.n 47 (.o 40 [(6,[(9,11)]),(9,[(10,12)])] []) (.o 47 [(2,[(4,10)])] [])) (.n 61 (.o 54 [(9,[(4,12),(5,12),(8,12),(9,12),(11,12)])] []) (.o 61 [(2,[(10,11)])] [])))) (.n 127 (.n 76 (.n 68 (.o 66 [(21,[(6,7)]),(32,[(24,25)]),(34,[(3,5),(4,5)]),(36,[(3,5),(4,5)])] []) (.o 68 [(5,[(4,6)]),(6,[(5,7)]),(7,[(6,8)])] [])) (.n 111 (.o 76 [(11,[(12,14)])] []) (.o 111 [(21,[(4,5),(5,8)])] []))) (.n 150 (.n 144 (.o 127 [(4,[(9,11)]),(7,[(9,11)])] []) (.o 144 [(3,[(4,14),(8,14)])] [])) (.n 187 (.o 150 [(11,[(11,12)])] []) (.o 187 [(8,[(11,12)])] [])))))
def I5:fT (List (Nat×Bool×List Nat)):=(.n 112 (.n 53 (.n 36 (.n 14 (.o 13 [(8,(false,[1,4,45]))] []) (.n 34 (.o 14 [(11,(false,[2]))] []) (.o 34 [(4,(false,[0]))] []))) (.n 38 (.o 36 [(4,(false,[1,2,6,31]))] []) (.n 44 (.o 38 [(10,(false,[4,5,50]))] []) (.o 44 [(1,(false,[4]))] [])))) (.n 103 (.n 66 (.o 53 [(11,(true,[0,1,2,5,8,9,62])),(17,(false,[0,5,89])),(19,(false,[0,5,99]))] []) (.n 79 (.o 66 [(9,(true,[3,4,5,6,7,22,23,24,50]))] []) (.o 79 [(4,(true,[0,6,7,8,9,21]))] []))) (.n 108 (.n 105 (.o 103 [(1,(false,[2]))] []) (.o 105 [(10,(false,[6])),(13,(false,[6])),(15,(false,[6]))] [])) (.n 111 (.o 108 [(13,(false,[4]))] []) (.o 111 [(17,(false,[0,1,4,5,7,72])),(22,(false,[0,1,4,5,8,96]))] []))))) (.n 161 (.n 144 (.n 113 (.o 112 [(12,(false,[0,1,6,7,28,29])),(20,(false,[6])),(25,(false,[6]))] []) (.n 127 (.o 113 [(13,(false,[4,5])),(19,(false,[4,5])),(21,(false,[4,5])),(27,(false,[4,5])),(28,(false,[4,5]))] []) (.o 127 [(5,(true,[0,3,25]))] []))) (.n 150 (.o 144 [(2,(false,[0,4,5]))] []) (.n 155 (.o 150 [(12,(false,[0,6,7,8,9])),(13,(false,[4,5]))] []) (.o 155 [(2,(false,[0,1,5,16]))] [])))) (.n 183 (.n 164 (.o 161 [(1,(false,[2]))] []) (.n 169 (.o 164 [(9,(false,[8,9,10,11,12])),(10,(false,[8,9,10,11,58]))] []) (.o 169 [(8,(true,[0,3,4,28]))] []))) (.n 205 (.n 199 (.o 183 [(1,(false,[0,6])),(5,(false,[0,28]))] []) (.o 199 [(12,(false,[2,7,8,9,38]))] [])) (.n 211 (.o 205 [(12,(false,[0,2,8,9,40])),(15,(false,[0,2,8,9,52])),(18,(false,[0,2,8,9,64])),(44,(false,[1,8,9,10,11,12,13,15,99,100,101,121])),(56,(false,[13,169]))] []) (.o 211 [(3,(false,[0,3,4,18])),(6,(false,[0,3,4,5,46])),(12,(false,[0,3,4,5,83]))] []))))))
def I4:fT (List (Nat×Bool×List Nat)):=(.n 79 (.n 58 (.n 28 (.n 22 (.o 17 [(0,(false,[]))] []) (.n 27 (.o 22 [(0,(false,[1,2,3]))] []) (.o 27 [(0,(false,[1,2,3,5,6]))] []))) (.n 53 (.n 37 (.o 28 [(0,(false,[]))] []) (.o 37 [(0,(false,[2])),(3,(false,[1,2,5,26,27,28]))] [])) (.n 54 (.o 53 [(0,(true,[0,1,2,5,8]))] []) (.o 54 [(0,(false,[4])),(2,(false,[3,4,5,14,15,16]))] [])))) (.n 66 (.n 62 (.o 58 [(0,(false,[]))] []) (.n 63 (.o 62 [(0,(false,[0,4]))] []) (.o 63 [(1,(false,[0,1,4,5,6]))] []))) (.n 71 (.n 67 (.o 66 [(0,(false,[3]))] []) (.o 67 [(0,(true,[3,4,7,8]))] [])) (.n 76 (.o 71 [(0,(false,[]))] []) (.o 76 [(0,(true,[0,5]))] []))))) (.n 153 (.n 112 (.n 94 (.o 79 [(0,(true,[0]))] []) (.n 107 (.o 94 [(0,(true,[0,2,7]))] []) (.o 107 [(0,(false,[]))] []))) (.n 146 (.n 121 (.o 112 [(1,(false,[6]))] []) (.o 121 [(0,(false,[]))] [])) (.n 149 (.o 146 [(0,(false,[]))] []) (.o 149 [(3,(false,[7,8,12]))] [])))) (.n 169 (.n 162 (.n 155 (.o 153 [(0,(false,[]))] []) (.o 155 [(0,(false,[5]))] [])) (.n 165 (.o 162 [(0,(false,[]))] []) (.o 165 [(0,(false,[]))] []))) (.n 205 (.n 180 (.o 169 [(0,(false,[]))] []) (.o 180 [(0,(false,[]))] [])) (.n 211 (.o 205 [(3,(false,[9,12,13]))] []) (.o 211 [(0,(false,[3]))] []))))))
def I6:fT (List (Nat×Bool×List Nat)):=(.n 111 (.n 80 (.n 63 (.n 38 (.o 37 [(34,(false,[1,2,5,26,27,28]))] []) (.o 38 [(9,(false,[4,5,7]))] [])) (.n 66 (.o 63 [(10,(false,[0,1,4,5,6])),(22,(false,[0,1,4,5]))] []) (.n 76 (.o 66 [(9,(true,[3,4,5,6,7,22,23,24])),(27,(false,[3,4,5,9,11,12,22,23,24])),(37,(false,[3,4,22,23,24]))] []) (.o 76 [(11,(true,[0,1,5,6,7,8]))] [])))) (.n 104 (.n 94 (.o 80 [(4,(true,[0,2,3]))] []) (.o 94 [(7,(true,[0,1,2,7]))] [])) (.n 105 (.o 104 [(5,(false,[4,5])),(8,(false,[4,9])),(13,(false,[4,14])),(18,(false,[4,17])),(27,(false,[4,24]))] []) (.n 109 (.o 105 [(13,(false,[1,2,15,67]))] []) (.o 109 [(10,(false,[1,4,50]))] []))))) (.n 150 (.n 114 (.n 112 (.o 111 [(7,(false,[0,1,4,5,19,20])),(26,(false,[0,4,5]))] []) (.o 112 [(6,(false,[0,1,5,6,18,19])),(9,(false,[0,1,5,6,7])),(16,(false,[0,1,5,6,18,42])),(23,(false,[0,1,5,6,18,76])),(32,(false,[6]))] [])) (.n 119 (.o 114 [(4,(false,[3]))] []) (.n 149 (.o 119 [(13,(false,[0,1,2,8,9,28]))] []) (.o 149 [(12,(false,[0,1,6,7,8]))] [])))) (.n 199 (.n 151 (.o 150 [(6,(false,[0,6,7,22,23]))] []) (.n 183 (.o 151 [(11,(false,[0,1,2,37]))] []) (.o 183 [(7,(false,[]))] []))) (.n 205 (.o 199 [(10,(false,[0,1,2,8])),(16,(false,[2,8,9])),(24,(false,[11]))] []) (.n 211 (.o 205 [(21,(false,[0,1,2,8,9])),(25,(false,[0,1,2,8,9])),(32,(false,[0,1,2,8,9,10])),(46,(false,[1,8,9,10,11,12,13,16,99,100,101])),(55,(false,[1,8,9,10,11,12,13,99,100,101]))] []) (.o 211 [(5,(false,[0,3,4])),(10,(false,[0,3,4,5])),(11,(false,[0,3,4,5]))] []))))))
def aan:fT (List (Nat×List Nat)):=(.n 76 (.n 67 (.n 39 (.n 38 (.o 35 [(8,[20])] []) (.o 38 [(6,[7]),(8,[7])] [])) (.n 40 (.o 39 [(0,[0]),(999999,[0])] []) (.n 47 (.o 40 [(1,[0]),(2,[0]),(3,[0]),(4,[0]),(5,[0]),(6,[0]),(7,[0]),(8,[0]),(9,[0]),(999999,[0])] []) (.o 47 [(999999,[0])] [])))) (.n 69 (.n 68 (.o 67 [(3,[21]),(10,[45])] []) (.o 68 [(3,[0]),(5,[0]),(6,[0]),(7,[0]),(999999,[0])] [])) (.n 74 (.o 69 [(999999,[0])] []) (.n 75 (.o 74 [(999999,[0])] []) (.o 75 [(999999,[0])] []))))) (.n 94 (.n 78 (.n 77 (.o 76 [(2,[0]),(3,[0]),(4,[0]),(6,[0]),(7,[0]),(11,[0]),(999999,[0])] []) (.o 77 [(1,[0]),(2,[0]),(999999,[0])] [])) (.n 79 (.o 78 [(0,[0]),(1,[0]),(999999,[0])] []) (.n 80 (.o 79 [(4,[0]),(999999,[0])] []) (.o 80 [(1,[0]),(999999,[0])] [])))) (.n 128 (.n 120 (.o 94 [(3,[0]),(6,[0]),(7,[0]),(999999,[0])] []) (.n 127 (.o 120 [(1,[5])] []) (.o 127 [(1,[0]),(2,[0]),(3,[0]),(4,[0]),(5,[0]),(6,[0]),(7,[0]),(8,[0]),(999999,[0])] []))) (.n 169 (.o 128 [(1,[0]),(999999,[0])] []) (.n 187 (.o 169 [(1,[0]),(2,[0]),(4,[0]),(5,[0]),(6,[0]),(7,[0]),(8,[0]),(9,[0]),(10,[0]),(999999,[0])] []) (.o 187 [(1,[0]),(3,[0]),(4,[0]),(6,[0]),(7,[0]),(8,[0]),(9,[0]),(10,[0]),(11,[0]),(12,[0]),(14,[0]),(999999,[0])] []))))))
def U2:fT (List (Nat×List Nat)):=(.o 67 [(10,[8])] [])
def Tx:fT (List Id):=(.o 69 [[0,999999]] [])
def Vd:fT Bool:=(.n 93 (.n 69 (.n 46 (.n 40 (.n 39 (.o 38 true false) (.o 39 true false)) (.n 45 (.o 40 true false) (.o 45 true false))) (.n 67 (.n 47 (.o 46 true false) (.o 47 true false)) (.n 68 (.o 67 true false) (.o 68 true false)))) (.n 77 (.n 75 (.n 74 (.o 69 true false) (.o 74 true false)) (.n 76 (.o 75 true false) (.o 76 true false))) (.n 79 (.n 78 (.o 77 true false) (.o 78 true false)) (.n 80 (.o 79 true false) (.n 92 (.o 80 true false) (.o 92 true false)))))) (.n 172 (.n 120 (.n 95 (.n 94 (.o 93 true false) (.o 94 true false)) (.n 96 (.o 95 true false) (.o 96 true false))) (.n 128 (.n 127 (.o 120 true false) (.o 127 true false)) (.n 139 (.o 128 true false) (.n 169 (.o 139 true false) (.o 169 true false))))) (.n 176 (.n 174 (.n 173 (.o 172 true false) (.o 173 true false)) (.n 175 (.o 174 true false) (.o 175 true false))) (.n 178 (.n 177 (.o 176 true false) (.o 177 true false)) (.n 187 (.o 178 true false) (.n 189 (.o 187 true false) (.o 189 true false)))))))
def Yu:fT (List Nat):=(.n 63 (.n 61 (.o 53 [0] []) (.n 62 (.o 61 [0] []) (.o 62 [0] []))) (.n 111 (.o 63 [0] []) (.n 144 (.o 111 [0] []) (.o 144 [0] []))))
def YN:fT (List Nat):=(.n 63 (.n 61 (.o 53 [1,0] []) (.n 62 (.o 61 [1,0] []) (.o 62 [1,0] []))) (.n 111 (.o 63 [1,0] []) (.n 144 (.o 111 [1,0] []) (.o 144 [1,0] []))))
def rJ:List ByteArray:=[(GE #[105,110,116]),(GE #[118,111,105,100]),(GE #[105,102]),(GE #[101,108,115,101]),(GE #[119,104,105,108,101]),(GE #[100,111]),(GE #[102,111,114]),(GE #[115,119,105,116,99,104]),(GE #[99,97,115,101]),(GE #[100,101,102,97,117,108,116]),(GE #[98,114,101,97,107]),(GE #[99,111,110,116,105,110,117,101]),(GE #[114,101,116,117,114,110])]
def rK:List ByteArray:=[(GE #[60,60,61]),(GE #[62,62,61]),(GE #[60,60]),(GE #[62,62]),(GE #[60,61]),(GE #[62,61]),(GE #[61,61]),(GE #[33,61]),(GE #[38,38]),(GE #[124,124]),(GE #[43,61]),(GE #[45,61]),(GE #[42,61]),(GE #[47,61]),(GE #[37,61]),(GE #[38,61]),(GE #[94,61]),(GE #[124,61]),(GE #[43,43]),(GE #[45,45]),(GE #[43]),(GE #[45]),(GE #[42]),(GE #[47]),(GE #[37]),(GE #[38]),(GE #[124]),(GE #[94]),(GE #[126]),(GE #[33]),(GE #[60]),(GE #[62]),(GE #[61]),(GE #[63]),(GE #[58]),(GE #[59]),(GE #[44]),(GE #[40]),(GE #[41]),(GE #[91]),(GE #[93]),(GE #[123]),(GE #[125])]
def ox:List (List ByteArray):=[[(GE #[124,124])],[(GE #[38,38])],[(GE #[124])],[(GE #[94])],[(GE #[38])],[(GE #[61,61]),(GE #[33,61])],[(GE #[60]),(GE #[60,61]),(GE #[62]),(GE #[62,61])],[(GE #[60,60]),(GE #[62,62])],[(GE #[43]),(GE #[45])],[(GE #[42]),(GE #[47]),(GE #[37])]]
variable[iM]
def U7(g:Nat):Option (List U):=if g=1 then some (ox.map mY)else if g=2 then some (rJ.map l8)else if g=3 then some (rK.map l8)else if g=5 then some [.nn]else if g=6 then some [.nn]else if g=4 then some [.val (.int .i64 iM.m)]else none
noncomputable def aj:av:={P:=Tryz.prog,bM:=U7,ext:=fun f=>bif GT f 97 then some (uB 1)else bif GT f 157 then some sG else bif GT f 159 then some s6 else bif GT f 198 then some s7 else bif GT f 212 then some r5 else bif GT f 185 then some se else none,path:=fun f=>none,rF:=fun f d=>bif GT f 30 then(bif GT d 25 then[7]else[])else bif GT f 35 then(bif GT d 15 then[0]else bif GT d 35 then[0]else[])else bif GT f 40 then(bif GT d 22 then[4]else bif GT d 43 then[4]else[])else bif GT f 76 then(bif GT d 40 then[4]else[])else bif GT f 127 then(bif GT d 20 then[4]else bif GT d 41 then[4]else[])else bif GT f 169 then(bif GT d 23 then[4]else bif GT d 44 then[4]else[])else bif GT f 187 then(bif GT d 20 then[4]else bif GT d 37 then[4]else bif GT d 50 then[4]else[])else bif GT f 120 then(bif GT d 8 then[4]else[])else bif GT f 68 then(bif GT d 21 then[4]else bif GT d 28 then[4]else bif GT d 36 then[4]else[])else[],look:=fun f=>bif GT f 115 then true else false,iQ:=fun f i=>bif GT f 66 then(bif GT i 15 then[8]else bif GT i 18 then[8]else[])else bif GT f 114 then(bif GT i 4 then[2]else[])else[],iter:=fun f=>bif GT f 110 then some (tc 6 4)else none,fD:=Vd.get,nT:=Tx.get,AT:=fun f i=>bif GT f 38 then GT i 4 else false,kL:=fun f=>bif GT f 72 then true else false,gP:=fun f i=>look (aan.get f) i [],jy:=fun f i=>look (U2.get f) i [],bR:=Yu.get,vC:=YN.get,shr:=fun f i=>(ace.get f).contains i,dB:=UN.get,live:=fun f i=>look (Ls.get f) i [],jb:=fun f i=>look (Ra.get f) i [],gZ:=fun f i=>vw (I5.get f) i,lT:=fun f i=>vw (I4.get f) i,AR:=fun f i=>vw (I6.get f) i}
@[simp]theorem To:aj.P=Tryz.prog:=rfl
def okF(C:av)(f:Nat):Bool:=match C.P.funcs[f]? with|some fn=>(match fn.body with|some c=>lB C f c|none=>true)|none=>true
omit[iM]in theorem ZB{C:av}{f:Nat}{fn:Func}{c:Code}(h:okF C f=true)(hf:C.P.funcs[f]? =some fn)(hb:fn.body=some c):lB C f c=true:=by unfold okF at h;rw[hf]at h;simp only[hb]at h;exact h
theorem ZA:(List.range 278).all (okF aj)=true:=by kernel_rfl
omit[iM]in theorem acz:decide (Tryz.prog.funcs.size≤278)=true:=by kernel_rfl
omit[iM]in theorem Y0:(Tryz.prog.funcs.toList.all fun fn=> !(fn.name== "runtime.NumGoroutine"))=true:=by kernel_rfl
theorem Jb:mI aj.P:=fun f fn hf=>by have:=List.all_eq_true.1 Y0 fn (by have:=Array.mem_of_getElem? hf;simpa using this);simpa using this
theorem Yy:uc aj 115:=by haveI:cu (kz aj.P aj.bM) 95 false 1:=⟨by kernel_rfl,by kernel_rfl⟩;haveI:cu (kz aj.P aj.bM) 34 false 1:=⟨by kernel_rfl,by kernel_rfl⟩;haveI:cu (kz aj.P aj.bM) 3 false 1:=⟨by kernel_rfl,by kernel_rfl⟩;haveI:cu (kz aj.P aj.bM) 98 false 1:=⟨by kernel_rfl,by kernel_rfl⟩;haveI:cy (kz aj.P aj.bM) 34 (.slice 3):=⟨Tryz.underlying34⟩;haveI:cy (kz aj.P aj.bM) 95 (.slice 98):=⟨Tryz.underlying95⟩;haveI:Fd (kz aj.P aj.bM) 36 4 4 1 false:=⟨by kernel_rfl⟩;refine YA (C:=aj) Jb (by kernel_rfl) Tryz.func115 (by rfl) (by kernel_rfl) (by rfl) fun{us i c cells ks u}lp h4 hk hu hi hc=> ?_;have hl:4<cells.length:=by{rcases Nat.lt_or_ge 4 cells.length with h|h;·{exact h};·rw[List.getElem?_eq_none h]at h4;cases h4};have hd:cells.drop 4= .sl ks::cells.drop 5:=by{rw[List.drop_eq_getElem_cons hl];rw[List.getElem?_eq_getElem hl]at h4;rw[Option.some.inj h4]};have h1:idx ks i=some [.val (.int .i64 c)]:=by{unfold idx;rw[AC hi];exact hk};have h2:idx us c=some u:=by{unfold idx;rw[AC hc];exact hu};refine cl Tryz.func115 Tryz.ntmps115 (by exact spine) (sl:=[0,1,2]) ?_;refine ag<|pp af<|nl<|jq<|pp aB<|pp (aN (hl:=Nat.ble_eq_true_of_le (Nat.le_of_lt hl)))<|pp (aB (hv:=hd))<|pp aa<|pp (e7 (c:=id) (q:=ks) h1 (hx:=by exact congrArg U.sl (List.map_id ks).symm))<|pp aB<|pp (e7 h2)<|pp aB<|pp af<|eo<|rt<| ?_;exact aZ
theorem Tn:∀k,aj.look k=true→uc aj k:=fun k h=>by have h:(bif GT k 115 then true else false)=true:=h;cases Ko:GT k 115 with|true=>(rw[Ha Ko];exact Yy)|false=>simp only[Ko,cond_false]at h;cases h
theorem DF:iq aj:=⟨Jb,(fun k p h=>by cases h),Tn⟩
theorem Jc:aj.P.follows .mixedOrders=true:=by kernel_rfl
theorem Ja:∀f i,eA (aj.live f i):=fun f i=>Yz (Ls.uq (p:=C5) (by kernel_rfl) f) i
theorem I8:nI aj:=⟨fun f i b l h=>FE (i:=i) (I5.uq (p:=w5) (by kernel_rfl) f) h,fun f i b l h=>FE (i:=i) (I4.uq (p:=w5) (by kernel_rfl) f) h,fun f i b l h=>FE (i:=i) (I6.uq (p:=w5) (by kernel_rfl) f) h⟩
theorem X4:mH aj 110 (tc 6 4):=by haveI:Fd aj 24 0 0 1 false:=⟨by kernel_rfl⟩;haveI:cu aj 22 false 1:=⟨by kernel_rfl,by kernel_rfl⟩;haveI:cy aj 22 (.slice 36):=⟨Tryz.underlying22⟩;haveI:cu aj 36 true 6:=⟨by kernel_rfl,by kernel_rfl⟩;haveI:Fd aj 36 4 4 1 false:=⟨by kernel_rfl⟩;haveI:cu aj 34 false 1:=⟨by kernel_rfl,by kernel_rfl⟩;haveI:cy aj 34 (.slice 3):=⟨Tryz.underlying34⟩;haveI:cu aj 3 false 1:=⟨by kernel_rfl,by kernel_rfl⟩;exact X7 (by rfl) DF Tryz.func110 Tryz.ntmps110 (by rfl) (fun _=>rfl) (by rfl)
theorem I9:∀k it,aj.iter k=some it→mH aj k it:=fun k it h=>by have h:(bif GT k 110 then some (tc 6 4)else none)=some it:=h;cases Ej:GT k 110 with|true=>(simp only[Ej,cond_true,Hb]at h;subst h;rw[Ha Ej];exact X4)|false=>simp only[Ej,cond_false]at h;cases h
theorem SO{g:List U→Option (U×List U)}(hg:g=uB 1){args:List U}{r:U×List U}(h:g args=some r):Sound aj 97 args r:=by haveI:cy aj 34 (.slice 3):=⟨Tryz.underlying34⟩;haveI:p0 aj 3 1:=⟨by kernel_rfl⟩;haveI:iN aj 3 [.val (.int .i64 0)]:=⟨by kernel_rfl⟩;haveI:cu aj 3 false 1:=⟨by kernel_rfl,by kernel_rfl⟩;exact(SS (C:=aj) (f:=97) (e:=3) (m:=1) (bb:=false) (eR:=[.val (.int .i64 0)]) (by rfl) DF Jc Ja I8 (fun _=>rfl) (fun _=>rfl) (fun _=>rfl) (fun _=>rfl) (fun _=>rfl) rfl rfl Tryz.func97 Tryz.ntmps97 (by rfl) (by rfl) hg h (hit:=I9)).sound (by rfl)
theorem SJ{g:List U→Option (U×List U)}(hg:g=sG){args:List U}{r:U×List U}(h:g args=some r):Sound aj 157 args r:=(V5 (C:=aj) Tryz.func157 (by rfl) (by rfl) Tryz.strings_HasPrefix hg h).sound (by rfl)
theorem SK{g:List U→Option (U×List U)}(hg:g=s6){args:List U}{r:U×List U}(h:g args=some r):Sound aj 159 args r:=(XT (k:=4) (m:=iM.m) (cs:=[]) (C:=aj) Tryz.func159 (by rfl) (by rfl) (by rfl) Tryz.strings_Index hg h).sound (by rfl)
theorem SM{g:List U→Option (U×List U)}(hg:g=s7){args:List U}{r:U×List U}(h:g args=some r):Sound aj 198 args r:=(XS (C:=aj) Tryz.func198 (by rfl) (by rfl) Tryz.strings_IndexByte hg h).sound (by rfl)
theorem SN{g:List U→Option (U×List U)}(hg:g=r5){args:List U}{r:U×List U}(h:g args=some r):Sound aj 212 args r:=(SQ (C:=aj) Tryz.func212 (by rfl) (by rfl) Tryz.stringslite_Clone hg h).sound (by rfl)
theorem SL{g:List U→Option (U×List U)}(hg:g=se){args:List U}{r:U×List U}(h:g args=some r):Sound aj 185 args r:=(S3 (k:=4) (m:=iM.m) (cs:=[]) (C:=aj) Tryz.func185 (by rfl) (by rfl) (by rfl) Tryz.strings_Contains hg h).sound (by rfl)
theorem Tm:Good aj where
 count:=DF
 wide:=Jc
 live:=Ja
 cut:=I8
 free:=fun f fn c _ hf hb=>by
  have hlt:f<278:=by
   have h1:f<aj.P.funcs.size:=by
    rcases Nat.lt_or_ge f aj.P.funcs.size with h|h
    ·exact h
    ·rw[Array.getElem?_eq_none h]at hf;cases hf
   have h2:=of_decide_eq_true acz
   rw[To]at h1
   exact Nat.lt_of_lt_of_le h1 h2
  exact ZB (List.all_eq_true.1 ZA f (List.mem_range.2 hlt)) hf hb
 ext:=fun f g args r h h2=>by
  have h:(bif GT f 97 then some (uB 1)else bif GT f 157 then some sG else bif GT f 159 then some s6 else bif GT f 198 then some s7 else bif GT f 212 then some r5 else bif GT f 185 then some se else none)=some g:=h
  cases Ep:GT f 97 with
  |true=>
   simp only[Ep,cond_true,Hb]at h
   rw[Ha Ep]
   exact SO h.symm h2
  |false=>
   simp only[Ep,cond_false]at h
   cases Ek:GT f 157 with
   |true=>
    simp only[Ek,cond_true,Hb]at h
    rw[Ha Ek]
    exact SJ h.symm h2
   |false=>
    simp only[Ek,cond_false]at h
    cases El:GT f 159 with
    |true=>
     simp only[El,cond_true,Hb]at h
     rw[Ha El]
     exact SK h.symm h2
    |false=>
     simp only[El,cond_false]at h
     cases En:GT f 198 with
     |true=>
      simp only[En,cond_true,Hb]at h
      rw[Ha En]
      exact SM h.symm h2
     |false=>
      simp only[En,cond_false]at h
      cases Eo:GT f 212 with
      |true=>
       simp only[Eo,cond_true,Hb]at h
       rw[Ha Eo]
       exact SN h.symm h2
      |false=>
       simp only[Eo,cond_false]at h
       cases Em:GT f 185 with
       |true=>
        simp only[Em,cond_true,Hb]at h
        rw[Ha Em]
        exact SL h.symm h2
       |false=>
        simp only[Em,cond_false]at h
        cases h
 iter:=I9
 kL:=fun f h=>by
  cases Kp:GT f 72 with
  |true=>rw[Ha Kp];exact XU
  |false=>
  have h:(bif GT f 72 then true else false)=true:=h
  simp only[Kp,cond_false,Bool.false_eq_true]at h
end Go.Ab
