import Derived.Test.YtbbhbdlljfffdaaGreatDoorAbV6
import Derived.Test.YtbbhbdlljfffdaaGreatDoorAbLook
import Derived.Test.YtbbhbdlljfffdaaGreatDoorAbShelf8
import Derived.Test.YtbbhbdlljfffdaaGreatDoorAbInert72
open ByteArray renaming mk->AC
open Nat renaming beq->Do,eq_of_beq_eq_true->GE
open Option.some renaming injEq->GT
set_option linter.all false
namespace Go.Ab
open Go Go.Proofs
def acS:iE (List Nat):=(.n 79 (.n 44 (.n 34 (.n 21 (.n 14 (.o 13 [1,4,6,9,12,13,18,28,37,55,63,73] []) (.n 17 (.o 14 [1,4,5,7,9,10,15,25,30,49,53] []) (.o 17 [2,3,30] []))) (.n 27 (.n 22 (.o 21 [1] []) (.o 22 [1,9,26,48] [])) (.n 30 (.o 27 [1,4,5,9,12,57,71,76] []) (.o 30 [1,5,7,9,12,42] [])))) (.n 37 (.n 35 (.o 34 [1,2,3,4,7,9,14] []) (.n 36 (.o 35 [1,4,5,8,9,18,27,29,31] []) (.o 36 [2,7,20,29] []))) (.n 39 (.n 38 (.o 37 [1,4,5,7,13,24,74] []) (.o 38 [10,26,35,37,48] [])) (.n 40 (.o 39 [3] []) (.o 40 [4,9,12,14,16,26,27,31,32,35,46,47] []))))) (.n 66 (.n 54 (.n 47 (.o 44 [2,3] []) (.n 53 (.o 47 [8,16] []) (.o 53 [5,18,23,82,92,96,102,109,114] []))) (.n 62 (.n 59 (.o 54 [1,6] []) (.o 59 [2,3] [])) (.n 63 (.o 62 [7] []) (.o 63 [5,9,113,117,127] [])))) (.n 74 (.n 68 (.n 67 (.o 66 [1,6,9,13,35,49,82,89,93,97,119,124,151,161] []) (.o 67 [7,41,42] [])) (.n 71 (.o 68 [5,23,24,25,31,32,40,41] []) (.o 71 [18,56] []))) (.n 77 (.n 76 (.o 74 [5] []) (.o 76 [7,21,28,30,45,46] [])) (.n 78 (.o 77 [7,9] []) (.o 78 [6,10,12] [])))))) (.n 144 (.n 112 (.n 105 (.n 80 (.o 79 [14,20] []) (.n 94 (.o 80 [3] []) (.o 94 [11,16,20] []))) (.n 109 (.n 108 (.o 105 [3] []) (.o 108 [5,7,17] [])) (.n 111 (.o 109 [1] []) (.o 111 [5,6,34,50,58,120] [])))) (.n 122 (.n 116 (.n 113 (.o 112 [5,37,47,48,53,54,59,60,81,113] []) (.o 113 [6,55,60,76,79,87,92,102,107,113,116,135] [])) (.n 121 (.o 116 [7] []) (.o 121 [11,21,24,28,31] []))) (.n 128 (.n 127 (.o 122 [15,22,29,38] []) (.o 127 [3,5,8,9,12,22,23,27,30,33,43,44] [])) (.n 143 (.o 128 [5,7] []) (.o 143 [7] []))))) (.n 164 (.n 151 (.n 149 (.o 144 [5] []) (.n 150 (.o 149 [6,11,47,56,73,74] []) (.o 150 [6,8,20] []))) (.n 153 (.n 152 (.o 151 [9,20] []) (.o 152 [5] [])) (.n 155 (.o 153 [16] []) (.o 155 [15] [])))) (.n 187 (.n 169 (.n 165 (.o 164 [60,67,86] []) (.o 165 [11] [])) (.n 183 (.o 169 [4,9,13,15,17,26,30,33,36,46] []) (.o 183 [22] []))) (.n 205 (.n 200 (.o 187 [3,6,12,27,29,41,54,58,63] []) (.o 200 [17,24,32,40] [])) (.n 211 (.o 205 [47,59,71,123,127,131,167] []) (.o 211 [32,37,43,49,73,80] [])))))))
def SV:iE (List (Nat×List Nat)):=(.n 79 (.n 54 (.n 28 (.n 22 (.o 17 [(4,[2,3,5])] []) (.n 27 (.o 22 [(5,[1,2,3,20,21])] []) (.o 27 [(9,[1,2,3,5,6,44,45]),(14,[1,2,3,5,6])] []))) (.n 37 (.n 30 (.o 28 [(4,[0,1,5])] []) (.o 30 [(9,[1,2,3,6])] [])) (.n 53 (.o 37 [(6,[1,2,5,26,27,28]),(11,[1,2,5,7,26,27,28,38,39,40]),(23,[1,2,5,7,10,11,26,27,28])] []) (.o 53 [(9,[0,1,2,5,8,9])] [])))) (.n 66 (.n 62 (.n 58 (.o 54 [(4,[3,4,14,15,16]),(7,[3,4,5,14,15,16,22,23,24])] []) (.o 58 [(4,[0,1,12,13])] [])) (.n 63 (.o 62 [(2,[0,4,8,9,10])] []) (.o 63 [(11,[0,1,4,5,6,70,71,72])] []))) (.n 71 (.n 67 (.o 66 [(4,[3,4,22,23,24])] []) (.o 67 [(6,[3,4,7,8,32,33,34])] [])) (.n 76 (.o 71 [(5,[0,3,4,5])] []) (.o 76 [(5,[0,1,5,6])] []))))) (.n 153 (.n 112 (.n 94 (.o 79 [(2,[0,7,8,9])] []) (.n 107 (.o 94 [(3,[0,1,2,7,8])] []) (.o 107 [(4,[0,14,15])] []))) (.n 146 (.n 121 (.o 112 [(10,[0,1,6,7,28,29])] []) (.o 121 [(2,[0,4])] [])) (.n 149 (.o 146 [(2,[0,1,2,7])] []) (.o 149 [(7,[0,1,6,7,8]),(14,[0,1,7,8,12,65,66])] [])))) (.n 169 (.n 162 (.n 155 (.o 153 [(2,[0,1,7,8])] []) (.o 155 [(2,[0,1,5])] [])) (.n 165 (.o 162 [(2,[0,5,6])] []) (.o 165 [(2,[0,5,6])] []))) (.n 205 (.n 180 (.o 169 [(2,[0,3])] []) (.o 180 [(2,[0,1,7,8])] [])) (.n 211 (.o 205 [(36,[1,8,9,10,11,12,13,99,100,101])] []) (.o 211 [(10,[0,3,4,5])] []))))))
def ak1:iE (List Nat):=(.n 76 (.n 53 (.o 30 [9] []) (.n 67 (.o 53 [9] []) (.o 67 [6] []))) (.n 94 (.n 79 (.o 76 [5] []) (.o 79 [2] [])) (.n 169 (.o 94 [3] []) (.o 169 [2] []))))
def Y9:iE (List (Nat×List (Nat×Nat))):=(.n 66 (.n 40 (.n 30 (.n 27 (.o 22 [(3,[(6,7)])] []) (.o 27 [(7,[(9,10)]),(22,[(8,9)])] [])) (.n 38 (.o 30 [(4,[(8,9)])] []) (.o 38 [(3,[(1,3)])] []))) (.n 54 (.n 47 (.o 40 [(6,[(9,11)]),(9,[(10,12)])] []) (.o 47 [(2,[(4,10)])] [])) (.n 61 (.o 54 [(9,[(4,12),(5,12),(8,12),(9,12),(11,12)])] []) (.o 61 [(2,[(10,11)])] [])))) (.n 127 (.n 76 (.n 68 (.o 66 [(21,[(6,7)]),(32,[(24,25)]),(34,[(3,5),(4,5)]),(36,[(3,5),(4,5)])] []) (.o 68 [(5,[(4,6)]),(6,[(5,7)]),(7,[(6,8)])] [])) (.n 111 (.o 76 [(11,[(12,14)])] []) (.o 111 [(21,[(4,5),(5,8)])] []))) (.n 150 (.n 144 (.o 127 [(4,[(9,11)]),(7,[(9,11)])] []) (.o 144 [(3,[(4,14),(8,14)])] [])) (.n 187 (.o 150 [(11,[(11,12)])] []) (.o 187 [(8,[(11,12)])] [])))))
def P2:iE (List (Nat×Bool×List Nat)):=(.n 112 (.n 53 (.n 36 (.n 14 (.o 13 [(8,(false,[1,4,45]))] []) (.n 34 (.o 14 [(11,(false,[2]))] []) (.o 34 [(4,(false,[0]))] []))) (.n 38 (.o 36 [(4,(false,[1,2,6,31]))] []) (.n 44 (.o 38 [(10,(false,[4,5,50]))] []) (.o 44 [(1,(false,[4]))] [])))) (.n 103 (.n 66 (.o 53 [(11,(true,[0,1,2,5,8,9,62])),(17,(false,[0,5,89])),(19,(false,[0,5,99]))] []) (.n 79 (.o 66 [(9,(true,[3,4,5,6,7,22,23,24,50]))] []) (.o 79 [(4,(true,[0,6,7,8,9,21]))] []))) (.n 108 (.n 105 (.o 103 [(1,(false,[2]))] []) (.o 105 [(10,(false,[6])),(13,(false,[6])),(15,(false,[6]))] [])) (.n 111 (.o 108 [(13,(false,[4]))] []) (.o 111 [(17,(false,[0,1,4,5,7,72])),(22,(false,[0,1,4,5,8,96]))] []))))) (.n 161 (.n 144 (.n 113 (.o 112 [(12,(false,[0,1,6,7,28,29])),(20,(false,[6])),(25,(false,[6]))] []) (.n 127 (.o 113 [(13,(false,[4,5])),(19,(false,[4,5])),(21,(false,[4,5])),(27,(false,[4,5])),(28,(false,[4,5]))] []) (.o 127 [(5,(true,[0,3,25]))] []))) (.n 150 (.o 144 [(2,(false,[0,4,5]))] []) (.n 155 (.o 150 [(12,(false,[0,6,7,8,9])),(13,(false,[4,5]))] []) (.o 155 [(2,(false,[0,1,5,16]))] [])))) (.n 183 (.n 164 (.o 161 [(1,(false,[2]))] []) (.n 169 (.o 164 [(9,(false,[8,9,10,11,12])),(10,(false,[8,9,10,11,58]))] []) (.o 169 [(8,(true,[0,3,4,28]))] []))) (.n 205 (.n 199 (.o 183 [(1,(false,[0,6])),(5,(false,[0,28]))] []) (.o 199 [(12,(false,[2,7,8,9,38]))] [])) (.n 211 (.o 205 [(12,(false,[0,2,8,9,40])),(15,(false,[0,2,8,9,52])),(18,(false,[0,2,8,9,64])),(44,(false,[1,8,9,10,11,12,13,15,99,100,101,121])),(56,(false,[13,169]))] []) (.o 211 [(3,(false,[0,3,4,18])),(6,(false,[0,3,4,5,46])),(12,(false,[0,3,4,5,83]))] []))))))
def P1:iE (List (Nat×Bool×List Nat)):=(.n 79 (.n 58 (.n 28 (.n 22 (.o 17 [(0,(false,[]))] []) (.n 27 (.o 22 [(0,(false,[1,2,3]))] []) (.o 27 [(0,(false,[1,2,3,5,6]))] []))) (.n 53 (.n 37 (.o 28 [(0,(false,[]))] []) (.o 37 [(0,(false,[2])),(3,(false,[1,2,5,26,27,28]))] [])) (.n 54 (.o 53 [(0,(true,[0,1,2,5,8]))] []) (.o 54 [(0,(false,[4])),(2,(false,[3,4,5,14,15,16]))] [])))) (.n 66 (.n 62 (.o 58 [(0,(false,[]))] []) (.n 63 (.o 62 [(0,(false,[0,4]))] []) (.o 63 [(1,(false,[0,1,4,5,6]))] []))) (.n 71 (.n 67 (.o 66 [(0,(false,[3]))] []) (.o 67 [(0,(true,[3,4,7,8]))] [])) (.n 76 (.o 71 [(0,(false,[]))] []) (.o 76 [(0,(true,[0,5]))] []))))) (.n 153 (.n 112 (.n 94 (.o 79 [(0,(true,[0]))] []) (.n 107 (.o 94 [(0,(true,[0,2,7]))] []) (.o 107 [(0,(false,[]))] []))) (.n 146 (.n 121 (.o 112 [(1,(false,[6]))] []) (.o 121 [(0,(false,[]))] [])) (.n 149 (.o 146 [(0,(false,[]))] []) (.o 149 [(3,(false,[7,8,12]))] [])))) (.n 169 (.n 162 (.n 155 (.o 153 [(0,(false,[]))] []) (.o 155 [(0,(false,[5]))] [])) (.n 165 (.o 162 [(0,(false,[]))] []) (.o 165 [(0,(false,[]))] []))) (.n 205 (.n 180 (.o 169 [(0,(false,[]))] []) (.o 180 [(0,(false,[]))] [])) (.n 211 (.o 205 [(3,(false,[9,12,13]))] []) (.o 211 [(0,(false,[3]))] []))))))
def P3:iE (List (Nat×Bool×List Nat)):=(.n 111 (.n 80 (.n 63 (.n 38 (.o 37 [(34,(false,[1,2,5,26,27,28]))] []) (.o 38 [(9,(false,[4,5,7]))] [])) (.n 66 (.o 63 [(10,(false,[0,1,4,5,6])),(22,(false,[0,1,4,5]))] []) (.n 76 (.o 66 [(9,(true,[3,4,5,6,7,22,23,24])),(27,(false,[3,4,5,9,11,12,22,23,24])),(37,(false,[3,4,22,23,24]))] []) (.o 76 [(11,(true,[0,1,5,6,7,8]))] [])))) (.n 104 (.n 94 (.o 80 [(4,(true,[0,2,3]))] []) (.o 94 [(7,(true,[0,1,2,7]))] [])) (.n 105 (.o 104 [(5,(false,[4,5])),(8,(false,[4,9])),(13,(false,[4,14])),(18,(false,[4,17])),(27,(false,[4,24]))] []) (.n 109 (.o 105 [(13,(false,[1,2,15,67]))] []) (.o 109 [(10,(false,[1,4,50]))] []))))) (.n 150 (.n 114 (.n 112 (.o 111 [(7,(false,[0,1,4,5,19,20])),(26,(false,[0,4,5]))] []) (.o 112 [(6,(false,[0,1,5,6,18,19])),(9,(false,[0,1,5,6,7])),(16,(false,[0,1,5,6,18,42])),(23,(false,[0,1,5,6,18,76])),(32,(false,[6]))] [])) (.n 119 (.o 114 [(4,(false,[3]))] []) (.n 149 (.o 119 [(13,(false,[0,1,2,8,9,28]))] []) (.o 149 [(12,(false,[0,1,6,7,8]))] [])))) (.n 199 (.n 151 (.o 150 [(6,(false,[0,6,7,22,23]))] []) (.n 183 (.o 151 [(11,(false,[0,1,2,37]))] []) (.o 183 [(7,(false,[]))] []))) (.n 205 (.o 199 [(10,(false,[0,1,2,8])),(16,(false,[2,8,9])),(24,(false,[11]))] []) (.n 211 (.o 205 [(21,(false,[0,1,2,8,9])),(25,(false,[0,1,2,8,9])),(32,(false,[0,1,2,8,9,10])),(46,(false,[1,8,9,10,11,12,13,16,99,100,101])),(55,(false,[1,8,9,10,11,12,13,99,100,101]))] []) (.o 211 [(5,(false,[0,3,4])),(10,(false,[0,3,4,5])),(11,(false,[0,3,4,5]))] []))))))
def ai2:iE (List (Nat×List Nat)):=(.n 76 (.n 67 (.n 39 (.n 38 (.o 35 [(8,[20])] []) (.o 38 [(6,[7]),(8,[7])] [])) (.n 40 (.o 39 [(0,[0]),(999999,[0])] []) (.n 47 (.o 40 [(1,[0]),(2,[0]),(3,[0]),(4,[0]),(5,[0]),(6,[0]),(7,[0]),(8,[0]),(9,[0]),(999999,[0])] []) (.o 47 [(999999,[0])] [])))) (.n 69 (.n 68 (.o 67 [(3,[21]),(10,[45])] []) (.o 68 [(3,[0]),(5,[0]),(6,[0]),(7,[0]),(999999,[0])] [])) (.n 74 (.o 69 [(999999,[0])] []) (.n 75 (.o 74 [(999999,[0])] []) (.o 75 [(999999,[0])] []))))) (.n 94 (.n 78 (.n 77 (.o 76 [(2,[0]),(3,[0]),(4,[0]),(6,[0]),(7,[0]),(11,[0]),(999999,[0])] []) (.o 77 [(1,[0]),(2,[0]),(999999,[0])] [])) (.n 79 (.o 78 [(0,[0]),(1,[0]),(999999,[0])] []) (.n 80 (.o 79 [(4,[0]),(999999,[0])] []) (.o 80 [(1,[0]),(999999,[0])] [])))) (.n 128 (.n 120 (.o 94 [(3,[0]),(6,[0]),(7,[0]),(999999,[0])] []) (.n 127 (.o 120 [(1,[5])] []) (.o 127 [(1,[0]),(2,[0]),(3,[0]),(4,[0]),(5,[0]),(6,[0]),(7,[0]),(8,[0]),(999999,[0])] []))) (.n 169 (.o 128 [(1,[0]),(999999,[0])] []) (.n 187 (.o 169 [(1,[0]),(2,[0]),(4,[0]),(5,[0]),(6,[0]),(7,[0]),(8,[0]),(9,[0]),(10,[0]),(999999,[0])] []) (.o 187 [(1,[0]),(3,[0]),(4,[0]),(6,[0]),(7,[0]),(8,[0]),(9,[0]),(10,[0]),(11,[0]),(12,[0]),(14,[0]),(999999,[0])] []))))))
def adb:iE (List (Nat×List Nat)):=(.o 67 [(10,[8])] [])
def abC:iE (List Id):=(.o 69 [[0,999999]] [])
def adq:iE Bool:=(.n 93 (.n 69 (.n 46 (.n 40 (.n 39 (.o 38 true false) (.o 39 true false)) (.n 45 (.o 40 true false) (.o 45 true false))) (.n 67 (.n 47 (.o 46 true false) (.o 47 true false)) (.n 68 (.o 67 true false) (.o 68 true false)))) (.n 77 (.n 75 (.n 74 (.o 69 true false) (.o 74 true false)) (.n 76 (.o 75 true false) (.o 76 true false))) (.n 79 (.n 78 (.o 77 true false) (.o 78 true false)) (.n 80 (.o 79 true false) (.n 92 (.o 80 true false) (.o 92 true false)))))) (.n 172 (.n 120 (.n 95 (.n 94 (.o 93 true false) (.o 94 true false)) (.n 96 (.o 95 true false) (.o 96 true false))) (.n 128 (.n 127 (.o 120 true false) (.o 127 true false)) (.n 139 (.o 128 true false) (.n 169 (.o 139 true false) (.o 169 true false))))) (.n 176 (.n 174 (.n 173 (.o 172 true false) (.o 173 true false)) (.n 175 (.o 174 true false) (.o 175 true false))) (.n 178 (.n 177 (.o 176 true false) (.o 177 true false)) (.n 187 (.o 178 true false) (.n 189 (.o 187 true false) (.o 189 true false)))))))
def agX:iE (List Nat):=(.n 63 (.n 61 (.o 53 [0] []) (.n 62 (.o 61 [0] []) (.o 62 [0] []))) (.n 111 (.o 63 [0] []) (.n 144 (.o 111 [0] []) (.o 144 [0] []))))
def ahi:iE (List Nat):=(.n 63 (.n 61 (.o 53 [1,0] []) (.n 62 (.o 61 [1,0] []) (.o 62 [1,0] []))) (.n 111 (.o 63 [1,0] []) (.n 144 (.o 111 [1,0] []) (.o 144 [1,0] []))))
def wF:List ByteArray:=[(AC #[105,110,116]),(AC #[118,111,105,100]),(AC #[105,102]),(AC #[101,108,115,101]),(AC #[119,104,105,108,101]),(AC #[100,111]),(AC #[102,111,114]),(AC #[115,119,105,116,99,104]),(AC #[99,97,115,101]),(AC #[100,101,102,97,117,108,116]),(AC #[98,114,101,97,107]),(AC #[99,111,110,116,105,110,117,101]),(AC #[114,101,116,117,114,110])]
def wG:List ByteArray:=[(AC #[60,60,61]),(AC #[62,62,61]),(AC #[60,60]),(AC #[62,62]),(AC #[60,61]),(AC #[62,61]),(AC #[61,61]),(AC #[33,61]),(AC #[38,38]),(AC #[124,124]),(AC #[43,61]),(AC #[45,61]),(AC #[42,61]),(AC #[47,61]),(AC #[37,61]),(AC #[38,61]),(AC #[94,61]),(AC #[124,61]),(AC #[43,43]),(AC #[45,45]),(AC #[43]),(AC #[45]),(AC #[42]),(AC #[47]),(AC #[37]),(AC #[38]),(AC #[124]),(AC #[94]),(AC #[126]),(AC #[33]),(AC #[60]),(AC #[62]),(AC #[61]),(AC #[63]),(AC #[58]),(AC #[59]),(AC #[44]),(AC #[40]),(AC #[41]),(AC #[91]),(AC #[93]),(AC #[123]),(AC #[125])]
def sV:List (List ByteArray):=[[(AC #[124,124])],[(AC #[38,38])],[(AC #[124])],[(AC #[94])],[(AC #[38])],[(AC #[61,61]),(AC #[33,61])],[(AC #[60]),(AC #[60,61]),(AC #[62]),(AC #[62,61])],[(AC #[60,60]),(AC #[62,62])],[(AC #[43]),(AC #[45])],[(AC #[42]),(AC #[47]),(AC #[37])]]
variable[k5]
def adh(g:Nat):Option (List U):=if g=1 then some (sV.map qW)else if g=2 then some (wF.map qc)else if g=3 then some (wG.map qc)else if g=5 then some [.nn]else if g=6 then some [.nn]else if g=4 then some [.val (.int .i64 k5.m)]else none
noncomputable def ai:aF:={P:=Tryz.prog,cu:=adh,ext:=fun f=>bif Do f 97 then some (zF 1)else bif Do f 157 then some xD else bif Do f 159 then some x7 else bif Do f 198 then some x8 else bif Do f 212 then some w5 else bif Do f 185 then some xd else none,path:=fun f=>none,wA:=fun f d=>bif Do f 30 then(bif Do d 25 then[7]else[])else bif Do f 35 then(bif Do d 15 then[0]else bif Do d 35 then[0]else[])else bif Do f 40 then(bif Do d 22 then[4]else bif Do d 43 then[4]else[])else bif Do f 76 then(bif Do d 40 then[4]else[])else bif Do f 127 then(bif Do d 20 then[4]else bif Do d 41 then[4]else[])else bif Do f 169 then(bif Do d 23 then[4]else bif Do d 44 then[4]else[])else bif Do f 187 then(bif Do d 20 then[4]else bif Do d 37 then[4]else bif Do d 50 then[4]else[])else bif Do f 120 then(bif Do d 8 then[4]else[])else bif Do f 68 then(bif Do d 21 then[4]else bif Do d 28 then[4]else bif Do d 36 then[4]else[])else[],look:=fun f=>bif Do f 115 then true else false,kB:=fun f i=>bif Do f 66 then(bif Do i 15 then[8]else bif Do i 18 then[8]else[])else bif Do f 114 then(bif Do i 4 then[2]else[])else[],iter:=fun f=>bif Do f 110 then some (uc 6 4)else none,gT:=adq.get,rY:=abC.get,FU:=fun f i=>bif Do f 38 then Do i 4 else false,oh:=fun f=>bif Do f 72 then true else false,jk:=fun f i=>look (ai2.get f) i [],lY:=fun f i=>look (adb.get f) i [],cp:=agX.get,yp:=ahi.get,shr:=fun f i=>(ak1.get f).contains i,eI:=acS.get,live:=fun f i=>look (SV.get f) i [],iu:=fun f i=>look (Y9.get f) i [],jv:=fun f i=>AM (P2.get f) i,pW:=fun f i=>AM (P1.get f) i,FQ:=fun f i=>AM (P3.get f) i}
@[simp]theorem abt:ai.P=Tryz.prog:=rfl
def okF(C:aF)(f:Nat):Bool:=match C.P.funcs[f]? with|some fn=>(match fn.body with|some c=>o8 C f c|none=>true)|none=>true
omit[k5]in theorem aid{C:aF}{f:Nat}{fn:Func}{c:Code}(h:okF C f=true)(hf:C.P.funcs[f]? =some fn)(hb:fn.body=some c):o8 C f c=true:=by unfold okF at h;rw[hf]at h;simp only[hb]at h;exact h
theorem aic:(List.range 278).all (okF ai)=true:=by kernel_rfl
omit[k5]in theorem ali:decide (Tryz.prog.funcs.size<=278)=true:=by kernel_rfl
omit[k5]in theorem ahA:(Tryz.prog.funcs.toList.all fun fn=> !(fn.name== "runtime.NumGoroutine"))=true:=by kernel_rfl
theorem P8:qJ ai.P:=fun f fn hf=>by have:=List.all_eq_true.1 ahA fn (by have:=Array.mem_of_getElem? hf;simpa using this);simpa using this
theorem ag0:zl ai 115:=by haveI:cI (n3 ai.P ai.cu) 95 false 1:=⟨by kernel_rfl,by kernel_rfl⟩;haveI:cI (n3 ai.P ai.cu) 34 false 1:=⟨by kernel_rfl,by kernel_rfl⟩;haveI:cI (n3 ai.P ai.cu) 3 false 1:=⟨by kernel_rfl,by kernel_rfl⟩;haveI:cI (n3 ai.P ai.cu) 98 false 1:=⟨by kernel_rfl,by kernel_rfl⟩;haveI:cY (n3 ai.P ai.cu) 34 (.slice 3):=⟨Tryz.underlying34⟩;haveI:cY (n3 ai.P ai.cu) 95 (.slice 98):=⟨Tryz.underlying95⟩;haveI:Fd (n3 ai.P ai.cu) 36 4 4 1 false:=⟨by kernel_rfl⟩;refine ag2 (C:=ai) P8 (by kernel_rfl) Tryz.func115 (by rfl) (by kernel_rfl) (by rfl) fun{us i c cells ks u}o3 h4 hk hu hi hc=> ?_;have hl:4<cells.length:=by{rcases Nat.lt_or_ge 4 cells.length with h|h;·{exact h};·rw[List.getElem?_eq_none h]at h4;cases h4};have hd:cells.drop 4= .sl ks::cells.drop 5:=by{rw[List.drop_eq_getElem_cons hl];rw[List.getElem?_eq_getElem hl]at h4;rw[Option.some.inj h4]};have h1:idx ks i=some [.val (.int .i64 c)]:=by{unfold idx;rw[if_pos hi];exact hk};have h2:idx us c=some u:=by{unfold idx;rw[if_pos hc];exact hu};refine cv Tryz.func115 Tryz.ntmps115 (by exact spine) (sl:=[0,1,2]) ?_;refine ag<|pp af<|nl<|fM<|pp aq<|pp (aD (hl:=Nat.ble_eq_true_of_le (Nat.le_of_lt hl)))<|pp (aq (hv:=hd))<|pp aa<|pp (cy (c:=id) (q:=ks) h1 (hx:=by exact congrArg U.sl (List.map_id ks).symm))<|pp aq<|pp (cy h2)<|pp aq<|pp af<|dz<|rt<| ?_;exact aX
theorem abr:∀k,ai.look k=true->zl ai k:=fun k h=>by have h:(bif Do k 115 then true else false)=true:=h;cases RE:Do k 115 with|true=>(rw[GE RE];exact ag0)|false=>simp only[RE,cond_false]at h;cases h
theorem JI:kI ai:=⟨P8,(fun k p h=>by cases h),abr⟩
theorem P9:ai.P.follows .mixedOrders=true:=by kernel_rfl
theorem P7:∀f i,fN (ai.live f i):=fun f i=>ag1 (SV.td (p:=Ja) (by kernel_rfl) f) i
theorem P5:rL ai:=⟨fun f i b l h=>Mb (i:=i) (P2.td (p:=B1) (by kernel_rfl) f) h,fun f i b l h=>Mb (i:=i) (P1.td (p:=B1) (by kernel_rfl) f) h,fun f i b l h=>Mb (i:=i) (P3.td (p:=B1) (by kernel_rfl) f) h⟩
theorem agw:qI ai 110 (uc 6 4):=by haveI:Fd ai 24 0 0 1 false:=⟨by kernel_rfl⟩;haveI:cI ai 22 false 1:=⟨by kernel_rfl,by kernel_rfl⟩;haveI:cY ai 22 (.slice 36):=⟨Tryz.underlying22⟩;haveI:cI ai 36 true 6:=⟨by kernel_rfl,by kernel_rfl⟩;haveI:Fd ai 36 4 4 1 false:=⟨by kernel_rfl⟩;haveI:cI ai 34 false 1:=⟨by kernel_rfl,by kernel_rfl⟩;haveI:cY ai 34 (.slice 3):=⟨Tryz.underlying34⟩;haveI:cI ai 3 false 1:=⟨by kernel_rfl,by kernel_rfl⟩;exact agA (by rfl) JI Tryz.func110 Tryz.ntmps110 (by rfl) (fun _=>rfl) (by rfl)
theorem P6:∀k it,ai.iter k=some it->qI ai k it:=fun k it h=>by have h:(bif Do k 110 then some (uc 6 4)else none)=some it:=h;cases Kx:Do k 110 with|true=>(simp only[Kx,cond_true,GT]at h;subst h;rw[GE Kx];exact agw)|false=>simp only[Kx,cond_false]at h;cases h
theorem aaQ{g:List U->Option (U×List U)}(hg:g=zF 1){args:List U}{r:U×List U}(h:g args=some r):Sound ai 97 args r:=by haveI:cY ai 34 (.slice 3):=⟨Tryz.underlying34⟩;haveI:rJ ai 3 1:=⟨by kernel_rfl⟩;haveI:jQ ai 3 [.val (.int .i64 0)]:=⟨by kernel_rfl⟩;haveI:cI ai 3 false 1:=⟨by kernel_rfl,by kernel_rfl⟩;exact(aaU (C:=ai) (f:=97) (e:=3) (m:=1) (bb:=false) (gp:=[.val (.int .i64 0)]) (by rfl) JI P9 P7 P5 (fun _=>rfl) (fun _=>rfl) (fun _=>rfl) (fun _=>rfl) (fun _=>rfl) rfl rfl Tryz.func97 Tryz.ntmps97 (by rfl) (by rfl) hg h (hit:=P6)).sound (by rfl)
theorem aaL{g:List U->Option (U×List U)}(hg:g=xD){args:List U}{r:U×List U}(h:g args=some r):Sound ai 157 args r:=(aej (C:=ai) Tryz.func157 (by rfl) (by rfl) Tryz.strings_HasPrefix hg h).sound (by rfl)
theorem aaM{g:List U->Option (U×List U)}(hg:g=x7){args:List U}{r:U×List U}(h:g args=some r):Sound ai 159 args r:=(agd (k:=4) (m:=k5.m) (cs:=[]) (C:=ai) Tryz.func159 (by rfl) (by rfl) (by rfl) Tryz.strings_Index hg h).sound (by rfl)
theorem aaO{g:List U->Option (U×List U)}(hg:g=x8){args:List U}{r:U×List U}(h:g args=some r):Sound ai 198 args r:=(agc (C:=ai) Tryz.func198 (by rfl) (by rfl) Tryz.strings_IndexByte hg h).sound (by rfl)
theorem aaP{g:List U->Option (U×List U)}(hg:g=w5){args:List U}{r:U×List U}(h:g args=some r):Sound ai 212 args r:=(aaS (C:=ai) Tryz.func212 (by rfl) (by rfl) Tryz.stringslite_Clone hg h).sound (by rfl)
theorem aaN{g:List U->Option (U×List U)}(hg:g=xd){args:List U}{r:U×List U}(h:g args=some r):Sound ai 185 args r:=(aa6 (k:=4) (m:=k5.m) (cs:=[]) (C:=ai) Tryz.func185 (by rfl) (by rfl) (by rfl) Tryz.strings_Contains hg h).sound (by rfl)
theorem abq:Good ai where
 count:=JI
 wide:=P9
 live:=P7
 cut:=P5
 free:=fun f fn c _ hf hb=>by
  have hlt:f<278:=by
   have h1:f<ai.P.funcs.size:=by
    rcases Nat.lt_or_ge f ai.P.funcs.size with h|h
    ·exact h
    ·rw[Array.getElem?_eq_none h]at hf;cases hf
   have h2:=of_decide_eq_true ali
   rw[abt]at h1
   exact Nat.lt_of_lt_of_le h1 h2
  exact aid (List.all_eq_true.1 aic f (List.mem_range.2 hlt)) hf hb
 ext:=fun f g args r h h2=>by
  have h:(bif Do f 97 then some (zF 1)else bif Do f 157 then some xD else bif Do f 159 then some x7 else bif Do f 198 then some x8 else bif Do f 212 then some w5 else bif Do f 185 then some xd else none)=some g:=h
  cases KD:Do f 97 with
  |true=>
   simp only[KD,cond_true,GT]at h
   rw[GE KD]
   exact aaQ h.symm h2
  |false=>
   simp only[KD,cond_false]at h
   cases Ky:Do f 157 with
   |true=>
    simp only[Ky,cond_true,GT]at h
    rw[GE Ky]
    exact aaL h.symm h2
   |false=>
    simp only[Ky,cond_false]at h
    cases Kz:Do f 159 with
    |true=>
     simp only[Kz,cond_true,GT]at h
     rw[GE Kz]
     exact aaM h.symm h2
    |false=>
     simp only[Kz,cond_false]at h
     cases KB:Do f 198 with
     |true=>
      simp only[KB,cond_true,GT]at h
      rw[GE KB]
      exact aaO h.symm h2
     |false=>
      simp only[KB,cond_false]at h
      cases KC:Do f 212 with
      |true=>
       simp only[KC,cond_true,GT]at h
       rw[GE KC]
       exact aaP h.symm h2
      |false=>
       simp only[KC,cond_false]at h
       cases KA:Do f 185 with
       |true=>
        simp only[KA,cond_true,GT]at h
        rw[GE KA]
        exact aaN h.symm h2
       |false=>
        simp only[KA,cond_false]at h
        cases h
 iter:=P6
 oh:=fun f h=>by
  cases RF:Do f 72 with
  |true=>rw[GE RF];exact age
  |false=>
  have h:(bif Do f 72 then true else false)=true:=h
  simp only[RF,cond_false,Bool.false_eq_true]at h
end Go.Ab
