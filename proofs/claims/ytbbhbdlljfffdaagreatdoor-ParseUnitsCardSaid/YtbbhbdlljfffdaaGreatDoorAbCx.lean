import Derived.Test.YtbbhbdlljfffdaaGreatDoorAbV6
import Derived.Test.YtbbhbdlljfffdaaGreatDoorAbLook
import Derived.Test.YtbbhbdlljfffdaaGreatDoorAbShelf8
import Derived.Test.YtbbhbdlljfffdaaGreatDoorAbRcv72
open ByteArray renaming mk->Do
open Nat renaming beq->AC,eq_of_beq_eq_true->GE
open Option.some renaming injEq->GT
set_option linter.all false
namespace Go.Ab
open Go Go.Proofs
def adg:js (List Nat):=(.n 99 (.n 74 (.n 43 (.n 38 (.n 16 (.n 4 (.o 3 [3,4,5,6,12,17] []) (.o 4 [3,4,5,6,12,17] [])) (.n 17 (.o 16 [5,8,20,21] []) (.n 19 (.o 17 [2,3,30] []) (.o 19 [5,10,23,31,35,40,41] [])))) (.n 40 (.n 39 (.o 38 [10,26,35,37,48] []) (.o 39 [3] [])) (.n 41 (.o 40 [4,9,12,14,16,26,27,31,32,35,46,47] []) (.n 42 (.o 41 [133] []) (.o 42 [3,7,9,13,15,16,20,21,30,31,33,42,45,46,56,57] []))))) (.n 48 (.n 45 (.n 44 (.o 43 [4,6,14,16,35] []) (.o 44 [2,3] [])) (.n 46 (.o 45 [11,12,19] []) (.n 47 (.o 46 [4,7,10,12,21,33,34,35,42,44,50,53,60,62,65,69,77,79,81,84,95,100,102,105] []) (.o 47 [8,16] [])))) (.n 50 (.n 49 (.o 48 [1] []) (.o 49 [4,7,9,13,18,28,32,36,41,44,46,51,54,57,63,64,66,68,70,81,90,93,95,96,101,104] [])) (.n 54 (.o 50 [9,20,21] []) (.n 71 (.o 54 [1,6] []) (.o 71 [18,56] [])))))) (.n 86 (.n 80 (.n 77 (.n 76 (.o 74 [5] []) (.o 76 [7,21,28,30,45,46] [])) (.n 78 (.o 77 [7,9] []) (.n 79 (.o 78 [6,10,12] []) (.o 79 [14,20] [])))) (.n 83 (.n 82 (.o 80 [3] []) (.o 82 [14,18,28,33,43,55,60,95] [])) (.n 84 (.o 83 [5,9,11,14,20,22,27,31,34,36,39,51,52] []) (.n 85 (.o 84 [1] []) (.o 85 [2,5,7,9] []))))) (.n 92 (.n 88 (.n 87 (.o 86 [4] []) (.o 87 [2,7,10,12] [])) (.n 90 (.o 88 [6,9,18] []) (.n 91 (.o 90 [6,9] []) (.o 91 [2,29] [])))) (.n 95 (.n 93 (.o 92 [7,9,14,18,20] []) (.n 94 (.o 93 [3,5,12] []) (.o 94 [11,16,20] []))) (.n 96 (.o 95 [4,6,8] []) (.n 98 (.o 96 [6,9,11,15,16] []) (.o 98 [7,9,11,13,18,21,23] []))))))) (.n 171 (.n 135 (.n 127 (.n 101 (.n 100 (.o 99 [1,4,6,11,14] []) (.o 100 [3,11,13,16,22,24,28,31,33,37,38,45,51,53] [])) (.n 121 (.o 101 [9,13,19,21,25,29] []) (.n 122 (.o 121 [11,21,24,28,31] []) (.o 122 [15,22,29,38] [])))) (.n 131 (.n 128 (.o 127 [3,5,8,9,12,22,23,27,30,33,43,44] []) (.o 128 [5,7] [])) (.n 132 (.o 131 [46] []) (.n 133 (.o 132 [3] []) (.o 133 [6,11,22,28] []))))) (.n 141 (.n 137 (.n 136 (.o 135 [3] []) (.o 136 [3,5,7,10,14,18,22,25,26,35,36,38,41,44,45,54,55,57] [])) (.n 139 (.o 137 [5,6,7,8,9,10,11,12,13,14,15,27] []) (.n 140 (.o 139 [3,11,19,24,26,28,31,34,35,42,44,48,49,53,55,57,61,62,66,72,74,79,80,84,89,94,96,101,102,106,111,115] []) (.o 140 [3,9,13,18,24,27,28,41] [])))) (.n 165 (.n 155 (.o 141 [10,13,17,22,25,26,30,34,35,39,42,43,46,48,52,55] []) (.n 164 (.o 155 [15] []) (.o 164 [60,67,86] []))) (.n 169 (.o 165 [11] []) (.n 170 (.o 169 [4,9,13,15,17,26,30,33,36,46] []) (.o 170 [4] [])))))) (.n 188 (.n 177 (.n 174 (.n 173 (.o 171 [3,7,9,12,16,19,23,25,26,30,36,37,39,46,47] []) (.o 173 [5,9] [])) (.n 175 (.o 174 [5,9,17,18] []) (.n 176 (.o 175 [9,12,14,17,19,22,24,26,28,30,32,34,36,38,41,43,45,55,56] []) (.o 176 [7,9,12,17,21,23,25,33,35,39,41,49] [])))) (.n 179 (.n 178 (.o 177 [4,7,9,11,13] []) (.o 178 [11,12] [])) (.n 183 (.o 179 [4,10,13,16,19,20,27,29,31,32,36,42,44,45,49,55,57,59,60,64,71,72,74,76,78,80,82,83,89,90,99,102,103] []) (.n 187 (.o 183 [22] []) (.o 187 [3,6,12,27,29,41,54,58,63] []))))) (.n 193 (.n 190 (.n 189 (.o 188 [3,4,7,9,16,22,24,31,33,41,44,45,55,57,59,60,61,63] []) (.o 189 [7] [])) (.n 191 (.o 190 [1,4,5,6] []) (.n 192 (.o 191 [5,7,9,12,18,19] []) (.o 192 [9,11,13,15,17,19,23,25,27,29,33,35,37,39,43,44,53,54] [])))) (.n 202 (.n 200 (.o 193 [7,9,10,14,15,22,23,25,27,30,32,34,37,39,41,43,47,49,55,56,58,60,62,64,66] []) (.n 201 (.o 200 [17,24,32,40] []) (.o 201 [1,5,8] []))) (.n 205 (.o 202 [5,8,14,15] []) (.n 211 (.o 205 [47,59,71,123,127,131,167] []) (.o 211 [32,37,43,49,73,80] []))))))))
def SV:js (List (Nat×List Nat)):=(.n 101 (.n 76 (.n 41 (.n 19 (.o 17 [(4,[2,3,5])] []) (.n 28 (.o 19 [(6,[2,3,6,7])] []) (.o 28 [(4,[0,1,5])] []))) (.n 54 (.n 45 (.o 41 [(5,[0,3,4,5]),(10,[0,3,4,5]),(14,[0,3,4,5,7])] []) (.o 45 [(1,[0,2])] [])) (.n 71 (.o 54 [(4,[3,4,14,15,16]),(7,[3,4,5,14,15,16,22,23,24])] []) (.o 71 [(5,[0,3,4,5])] [])))) (.n 91 (.n 82 (.n 79 (.o 76 [(5,[0,1,5,6])] []) (.o 79 [(2,[0,7,8,9])] [])) (.n 83 (.o 82 [(3,[0,2,5]),(20,[0,2,11])] []) (.o 83 [(2,[1,2,4])] []))) (.n 96 (.n 94 (.o 91 [(3,[1,2,5,6])] []) (.o 94 [(3,[0,1,2,7,8])] [])) (.n 100 (.o 96 [(4,[0,3,4])] []) (.o 100 [(4,[2,3,4,5,6])] []))))) (.n 155 (.n 133 (.n 121 (.n 107 (.o 101 [(3,[1,2,4,6,7])] []) (.o 107 [(4,[0,14,15])] [])) (.n 131 (.o 121 [(2,[0,4])] []) (.o 131 [(11,[0,4,6,7,8])] []))) (.n 138 (.n 137 (.o 133 [(4,[0,3])] []) (.o 137 [(3,[0,3,4])] [])) (.n 141 (.o 138 [(2,[0,1,5])] []) (.o 141 [(2,[1,2,4,6])] [])))) (.n 171 (.n 165 (.n 162 (.o 155 [(2,[0,1,5])] []) (.o 162 [(2,[0,5,6])] [])) (.n 169 (.o 165 [(2,[0,5,6])] []) (.o 169 [(2,[0,3])] []))) (.n 205 (.n 176 (.o 171 [(2,[1,2])] []) (.o 176 [(3,[0,3])] [])) (.n 211 (.o 205 [(36,[1,8,9,10,11,12,13,99,100,101])] []) (.o 211 [(10,[0,3,4,5])] []))))))
def alh:js (List Nat):=(.n 94 (.n 76 (.o 45 [1] []) (.n 79 (.o 76 [5] []) (.o 79 [2] []))) (.n 169 (.n 96 (.o 94 [3] []) (.o 96 [4] [])) (.n 176 (.o 169 [2] []) (.o 176 [3] []))))
def Zr:js (List (Nat×List (Nat×Nat))):=(.n 127 (.n 54 (.n 46 (.n 40 (.o 38 [(3,[(1,3)])] []) (.o 40 [(6,[(9,11)]),(9,[(10,12)])] [])) (.n 47 (.o 46 [(8,[(6,9)]),(18,[(3,5)]),(29,[(3,5)])] []) (.o 47 [(2,[(4,10)])] []))) (.n 83 (.n 76 (.o 54 [(9,[(4,12),(5,12),(8,12),(9,12),(11,12)])] []) (.o 76 [(11,[(12,14)])] [])) (.n 100 (.o 83 [(5,[(0,7)]),(9,[(0,12),(9,12)])] []) (.o 100 [(14,[(6,7)])] [])))) (.n 175 (.n 171 (.n 139 (.o 127 [(4,[(9,11)]),(7,[(9,11)])] []) (.o 139 [(8,[(1,3)])] [])) (.n 174 (.o 171 [(8,[(0,9)]),(9,[(0,10)])] []) (.o 174 [(4,[(6,8)])] []))) (.n 179 (.n 178 (.o 175 [(18,[(9,11)])] []) (.o 178 [(1,[(6,8)])] [])) (.n 187 (.o 179 [(25,[(5,6)])] []) (.n 189 (.o 187 [(8,[(11,12)])] []) (.o 189 [(1,[(4,7)])] []))))))
def QM:js (List (Nat×Bool×List Nat)):=(.n 127 (.n 79 (.n 42 (.n 38 (.n 4 (.o 3 [(5,(false,[2]))] []) (.o 4 [(5,(false,[2]))] [])) (.n 41 (.o 38 [(10,(false,[4,5,50]))] []) (.o 41 [(9,(false,[0,3,4,5,6,49])),(10,(false,[0,3,4,5,59])),(12,(false,[0,3,4,5,77])),(14,(false,[0,3,4,5,7,97]))] []))) (.n 46 (.n 44 (.o 42 [(9,(false,[1,2,3,4,43]))] []) (.o 44 [(1,(false,[4]))] [])) (.n 49 (.o 46 [(11,(true,[0,5,6,45]))] []) (.o 49 [(10,(false,[1,2,5,6,42]))] [])))) (.n 92 (.n 83 (.n 82 (.o 79 [(4,(true,[0,6,7,8,9,21]))] []) (.o 82 [(1,(false,[0,2,19])),(3,(false,[0,2,5,35])),(22,(false,[0,2,11,96]))] [])) (.n 88 (.o 83 [(2,(false,[1,2,4,25]))] []) (.o 88 [(5,(false,[4])),(9,(false,[4]))] []))) (.n 100 (.n 98 (.o 92 [(5,(true,[0,10]))] []) (.o 98 [(6,(false,[2,4,19]))] [])) (.n 101 (.o 100 [(4,(false,[2,3,4,5,6,18]))] []) (.o 101 [(3,(false,[1,2,4,6,7,15]))] []))))) (.n 161 (.n 136 (.n 133 (.n 131 (.o 127 [(5,(true,[0,3,25]))] []) (.o 131 [(3,(false,[0,4,5,27])),(6,(false,[0,4,5,35])),(16,(false,[0,4,6,7,8,9,62]))] [])) (.n 134 (.o 133 [(1,(false,[0,12])),(6,(false,[0,3,30]))] []) (.o 134 [(1,(false,[0,31])),(3,(false,[0,47])),(8,(false,[0,61]))] []))) (.n 141 (.n 140 (.o 136 [(2,(false,[1,2,3,23])),(5,(false,[1,2,3,42]))] []) (.o 140 [(4,(false,[1,6,7,8,9,10,25]))] [])) (.n 155 (.o 141 [(2,(false,[1,2,4,6,15])),(4,(false,[1,2,4,6,7,23])),(8,(false,[1,2,4,6,7,40]))] []) (.o 155 [(2,(false,[0,1,5,16]))] [])))) (.n 183 (.n 169 (.n 164 (.o 161 [(1,(false,[2]))] []) (.o 164 [(9,(false,[8,9,10,11,12])),(10,(false,[8,9,10,11,58]))] [])) (.n 171 (.o 169 [(8,(true,[0,3,4,28]))] []) (.o 171 [(2,(false,[1,2,17]))] []))) (.n 205 (.n 199 (.o 183 [(1,(false,[0,6])),(5,(false,[0,28]))] []) (.o 199 [(12,(false,[2,7,8,9,38]))] [])) (.n 211 (.o 205 [(12,(false,[0,2,8,9,40])),(15,(false,[0,2,8,9,52])),(18,(false,[0,2,8,9,64])),(44,(false,[1,8,9,10,11,12,13,15,99,100,101,121])),(56,(false,[13,169]))] []) (.o 211 [(3,(false,[0,3,4,18])),(6,(false,[0,3,4,5,46])),(12,(false,[0,3,4,5,83]))] []))))))
def QK:js (List (Nat×Bool×List Nat)):=(.n 101 (.n 76 (.n 41 (.n 19 (.o 17 [(0,(false,[]))] []) (.n 28 (.o 19 [(0,(false,[2,3,6,7]))] []) (.o 28 [(0,(false,[]))] []))) (.n 54 (.n 45 (.o 41 [(0,(false,[3,4])),(2,(false,[0,3,4,5])),(4,(false,[0,3,4,5,7]))] []) (.o 45 [(0,(true,[0,2]))] [])) (.n 71 (.o 54 [(0,(false,[4])),(2,(false,[3,4,5,14,15,16]))] []) (.o 71 [(0,(false,[]))] [])))) (.n 91 (.n 82 (.n 79 (.o 76 [(0,(true,[0,5]))] []) (.o 79 [(0,(true,[0]))] [])) (.n 83 (.o 82 [(0,(false,[0,2,5])),(2,(false,[2]))] []) (.o 83 [(0,(false,[2,4]))] []))) (.n 96 (.n 94 (.o 91 [(0,(false,[5]))] []) (.o 94 [(0,(true,[0,2,7]))] [])) (.n 100 (.o 96 [(0,(true,[0,3,4]))] []) (.o 100 [(0,(false,[2,3,4,5]))] []))))) (.n 155 (.n 133 (.n 121 (.n 107 (.o 101 [(0,(false,[1,2,4,6]))] []) (.o 107 [(0,(false,[]))] [])) (.n 131 (.o 121 [(0,(false,[]))] []) (.o 131 [(0,(false,[6,7]))] []))) (.n 138 (.n 137 (.o 133 [(0,(false,[]))] []) (.o 137 [(0,(false,[]))] [])) (.n 141 (.o 138 [(0,(false,[]))] []) (.o 141 [(0,(false,[2,4,6]))] [])))) (.n 171 (.n 165 (.n 162 (.o 155 [(0,(false,[5]))] []) (.o 162 [(0,(false,[]))] [])) (.n 169 (.o 165 [(0,(false,[]))] []) (.o 169 [(0,(false,[]))] []))) (.n 205 (.n 176 (.o 171 [(0,(false,[1,2]))] []) (.o 176 [(0,(true,[0,3]))] [])) (.n 211 (.o 205 [(3,(false,[9,12,13]))] []) (.o 211 [(0,(false,[3]))] []))))))
def QN:js (List (Nat×Bool×List Nat)):=(.n 101 (.n 83 (.n 46 (.n 41 (.o 38 [(9,(false,[4,5,7]))] []) (.n 43 (.o 41 [(24,(false,[0,3,4,5,8,9,10]))] []) (.o 43 [(3,(false,[1,2,3]))] []))) (.n 76 (.n 49 (.o 46 [(15,(true,[0,5,6,7])),(18,(true,[0,5,6,7])),(28,(true,[0,5,6]))] []) (.o 49 [(31,(false,[1,2,5,6]))] [])) (.n 80 (.o 76 [(11,(true,[0,1,5,6,7,8]))] []) (.o 80 [(4,(true,[0,2,3]))] [])))) (.n 91 (.n 86 (.o 83 [(9,(false,[1,2,4,5,6,7]))] []) (.n 90 (.o 86 [(3,(false,[1,2]))] []) (.o 90 [(3,(false,[2,4]))] []))) (.n 94 (.n 93 (.o 91 [(4,(false,[1,2,5,6]))] []) (.o 93 [(4,(true,[0,2]))] [])) (.n 100 (.o 94 [(7,(true,[0,1,2,7]))] []) (.o 100 [(7,(false,[2,3,4,5]))] []))))) (.n 177 (.n 139 (.n 131 (.o 101 [(6,(false,[1,2,4,6]))] []) (.n 134 (.o 131 [(8,(false,[0,4,5])),(12,(false,[0,4,6,7,8]))] []) (.o 134 [(10,(false,[]))] []))) (.n 141 (.n 140 (.o 139 [(11,(true,[0,4,6])),(36,(true,[0,1,5]))] []) (.o 140 [(7,(false,[1,6,7,8,9,10]))] [])) (.n 175 (.o 141 [(11,(false,[1,2,4,6]))] []) (.o 175 [(8,(true,[0,1,5])),(13,(true,[0,1,5,6])),(17,(true,[0,1,5,6,7]))] [])))) (.n 192 (.n 179 (.o 177 [(6,(true,[0,3,4,5]))] []) (.n 183 (.o 179 [(13,(false,[1,2,3,7]))] []) (.o 183 [(7,(false,[]))] []))) (.n 205 (.n 199 (.o 192 [(7,(false,[1,2,4])),(12,(false,[1,2,4,5])),(17,(false,[1,2,4,5,6]))] []) (.o 199 [(10,(false,[0,1,2,8])),(16,(false,[2,8,9])),(24,(false,[11]))] [])) (.n 211 (.o 205 [(21,(false,[0,1,2,8,9])),(25,(false,[0,1,2,8,9])),(32,(false,[0,1,2,8,9,10])),(46,(false,[1,8,9,10,11,12,13,16,99,100,101])),(55,(false,[1,8,9,10,11,12,13,99,100,101]))] []) (.o 211 [(5,(false,[0,3,4])),(10,(false,[0,3,4,5])),(11,(false,[0,3,4,5]))] []))))))
def aiI:js (List (Nat×List Nat)):=(.n 94 (.n 75 (.n 46 (.n 40 (.n 39 (.o 38 [(6,[7]),(8,[7])] []) (.o 39 [(0,[0]),(999999,[0])] [])) (.n 45 (.o 40 [(1,[0]),(2,[0]),(3,[0]),(4,[0]),(5,[0]),(6,[0]),(7,[0]),(8,[0]),(9,[0]),(999999,[0])] []) (.o 45 [(2,[0]),(3,[0]),(999999,[0])] []))) (.n 69 (.n 47 (.o 46 [(1,[0]),(2,[0]),(5,[0]),(7,[0]),(8,[0]),(10,[0]),(11,[0]),(12,[0]),(14,[0]),(15,[0]),(19,[0]),(20,[0]),(21,[0]),(22,[0]),(23,[0]),(26,[0]),(27,[0]),(28,[0]),(29,[0]),(999999,[0])] []) (.o 47 [(999999,[0])] [])) (.n 74 (.o 69 [(999999,[0])] []) (.o 74 [(999999,[0])] [])))) (.n 79 (.n 77 (.n 76 (.o 75 [(999999,[0])] []) (.o 76 [(2,[0]),(3,[0]),(4,[0]),(6,[0]),(7,[0]),(11,[0]),(999999,[0])] [])) (.n 78 (.o 77 [(1,[0]),(2,[0]),(999999,[0])] []) (.o 78 [(0,[0]),(1,[0]),(999999,[0])] []))) (.n 92 (.n 80 (.o 79 [(4,[0]),(999999,[0])] []) (.o 80 [(1,[0]),(999999,[0])] [])) (.n 93 (.o 92 [(1,[0]),(2,[0]),(5,[0]),(7,[0]),(999999,[0])] []) (.o 93 [(1,[0]),(3,[0]),(4,[0]),(999999,[0])] []))))) (.n 173 (.n 128 (.n 96 (.n 95 (.o 94 [(3,[0]),(6,[0]),(7,[0]),(999999,[0])] []) (.o 95 [(1,[0]),(2,[0]),(3,[0]),(999999,[0])] [])) (.n 127 (.o 96 [(1,[0]),(2,[0]),(4,[0]),(5,[0]),(6,[0]),(999999,[0])] []) (.o 127 [(1,[0]),(2,[0]),(3,[0]),(4,[0]),(5,[0]),(6,[0]),(7,[0]),(8,[0]),(999999,[0])] []))) (.n 169 (.n 139 (.o 128 [(1,[0]),(999999,[0])] []) (.o 139 [(1,[0]),(4,[0]),(5,[0]),(6,[0]),(7,[0]),(8,[0]),(9,[0]),(10,[0]),(11,[0]),(12,[0]),(13,[0]),(14,[0]),(15,[0]),(16,[0]),(17,[0]),(18,[0]),(19,[0]),(20,[0]),(21,[0]),(22,[0]),(23,[0]),(24,[0]),(25,[0]),(26,[0]),(27,[0]),(28,[0]),(29,[0]),(30,[0]),(31,[0]),(32,[0]),(33,[0]),(34,[0]),(35,[0]),(36,[0]),(999999,[0])] [])) (.n 172 (.o 169 [(1,[0]),(2,[0]),(4,[0]),(5,[0]),(6,[0]),(7,[0]),(8,[0]),(9,[0]),(10,[0]),(999999,[0])] []) (.o 172 [(1,[7])] [])))) (.n 177 (.n 175 (.n 174 (.o 173 [(1,[0]),(2,[0]),(3,[0]),(999999,[0])] []) (.o 174 [(1,[0]),(2,[0]),(3,[0]),(4,[0]),(999999,[0])] [])) (.n 176 (.o 175 [(1,[0]),(3,[0]),(4,[0]),(5,[0]),(6,[0]),(7,[0]),(8,[0]),(10,[0]),(11,[0]),(12,[0]),(13,[0]),(14,[0]),(15,[0]),(16,[0]),(17,[0]),(18,[0]),(999999,[0])] []) (.o 176 [(2,[0]),(3,[0]),(4,[0]),(5,[0]),(6,[0]),(7,[0]),(8,[0]),(9,[0]),(10,[0]),(11,[0]),(12,[0]),(999999,[0])] []))) (.n 187 (.n 178 (.o 177 [(1,[0]),(2,[0]),(4,[0]),(5,[0]),(6,[0]),(999999,[0])] []) (.o 178 [(1,[0]),(999999,[0])] [])) (.n 189 (.o 187 [(1,[0]),(3,[0]),(4,[0]),(6,[0]),(7,[0]),(8,[0]),(9,[0]),(10,[0]),(11,[0]),(12,[0]),(14,[0]),(999999,[0])] []) (.o 189 [(1,[0]),(999999,[0])] []))))))
def adt:js (List (Nat×List Nat)):=(.n 139 (.n 46 (.o 45 [(3,[2])] []) (.n 96 (.o 46 [(29,[6])] []) (.o 96 [(6,[4])] []))) (.n 172 (.o 139 [(11,[6])] []) (.n 177 (.o 172 [(1,[1])] []) (.o 177 [(6,[5])] []))))
def abO:js (List Id):=(.o 69 [[0,999999]] [])
def ajn:js (List Nat):=(.n 95 (.n 74 (.n 40 (.n 39 (.o 38 [6,8] []) (.o 39 [0] [])) (.n 45 (.o 40 [1,4,5,6,9] []) (.n 46 (.o 45 [2] []) (.o 46 [1,2,7,8,10,14,17,19,22,23,25,27,28] [])))) (.n 92 (.n 76 (.o 74 [0] []) (.n 78 (.o 76 [2,3,11] []) (.o 78 [1] []))) (.n 93 (.o 92 [7] []) (.n 94 (.o 93 [3] []) (.o 94 [6,7] []))))) (.n 174 (.n 139 (.n 96 (.o 95 [1,2] []) (.n 127 (.o 96 [2,5] []) (.o 127 [4,7,8] []))) (.n 169 (.o 139 [4,6,8,10,13,14,16,17,18,20,22,23,31,35,36] []) (.n 173 (.o 169 [1,5,6] []) (.o 173 [1,2,3] [])))) (.n 177 (.n 175 (.o 174 [2,4] []) (.n 176 (.o 175 [1,3,7,8,12,13,16,17,18] []) (.o 176 [2,5,7,8,11] []))) (.n 178 (.o 177 [1,2,5] []) (.n 187 (.o 178 [1] []) (.o 187 [8,11,12,14] []))))))
def abN:js (List Id):=(.n 96 (.n 76 (.n 45 (.n 40 (.o 39 [[0,999999]] []) (.o 40 [[0,999999]] [])) (.n 46 (.o 45 [[0,999999]] []) (.n 74 (.o 46 [[0,999999]] []) (.o 74 [[0,999999]] [])))) (.n 93 (.n 78 (.o 76 [[0,999999]] []) (.n 92 (.o 78 [[0,999999]] []) (.o 92 [[0,999999]] []))) (.n 94 (.o 93 [[0,999999]] []) (.n 95 (.o 94 [[0,999999]] []) (.o 95 [[0,999999]] []))))) (.n 174 (.n 139 (.n 127 (.o 96 [[0,999999]] []) (.o 127 [[0,999999]] [])) (.n 169 (.o 139 [[0,999999]] []) (.n 173 (.o 169 [[0,999999]] []) (.o 173 [[0,999999]] [])))) (.n 177 (.n 175 (.o 174 [[0,999999]] []) (.n 176 (.o 175 [[0,999999]] []) (.o 176 [[0,999999]] []))) (.n 178 (.o 177 [[0,999999]] []) (.n 187 (.o 178 [[0,999999]] []) (.o 187 [[0,999999]] []))))))
def adB:js Bool:=(.n 94 (.n 75 (.n 46 (.n 40 (.n 39 (.o 38 true false) (.o 39 true false)) (.n 45 (.o 40 true false) (.o 45 true false))) (.n 69 (.n 47 (.o 46 true false) (.o 47 true false)) (.n 74 (.o 69 true false) (.o 74 true false)))) (.n 79 (.n 77 (.n 76 (.o 75 true false) (.o 76 true false)) (.n 78 (.o 77 true false) (.o 78 true false))) (.n 92 (.n 80 (.o 79 true false) (.o 80 true false)) (.n 93 (.o 92 true false) (.o 93 true false))))) (.n 173 (.n 128 (.n 96 (.n 95 (.o 94 true false) (.o 95 true false)) (.n 127 (.o 96 true false) (.o 127 true false))) (.n 169 (.n 139 (.o 128 true false) (.o 139 true false)) (.n 172 (.o 169 true false) (.o 172 true false)))) (.n 177 (.n 175 (.n 174 (.o 173 true false) (.o 174 true false)) (.n 176 (.o 175 true false) (.o 176 true false))) (.n 187 (.n 178 (.o 177 true false) (.o 178 true false)) (.n 189 (.o 187 true false) (.o 189 true false))))))
def agM:js (List Nat):=(.n 63 (.n 61 (.o 53 [0] []) (.n 62 (.o 61 [0] []) (.o 62 [0] []))) (.n 111 (.o 63 [0] []) (.n 144 (.o 111 [0] []) (.o 144 [0] []))))
def ahf:js (List Nat):=(.n 62 (.n 53 (.o 50 [0,2,2] []) (.n 61 (.o 53 [1,0] []) (.o 61 [1,0] []))) (.n 111 (.n 63 (.o 62 [1,0] []) (.o 63 [1,0] [])) (.n 144 (.o 111 [1,0] []) (.o 144 [1,0] []))))
def mT:List ByteArray:=[(Do #[105,110,116]),(Do #[118,111,105,100]),(Do #[105,102]),(Do #[101,108,115,101]),(Do #[119,104,105,108,101]),(Do #[100,111]),(Do #[102,111,114]),(Do #[115,119,105,116,99,104]),(Do #[99,97,115,101]),(Do #[100,101,102,97,117,108,116]),(Do #[98,114,101,97,107]),(Do #[99,111,110,116,105,110,117,101]),(Do #[114,101,116,117,114,110])]
def od:List ByteArray:=[(Do #[60,60,61]),(Do #[62,62,61]),(Do #[60,60]),(Do #[62,62]),(Do #[60,61]),(Do #[62,61]),(Do #[61,61]),(Do #[33,61]),(Do #[38,38]),(Do #[124,124]),(Do #[43,61]),(Do #[45,61]),(Do #[42,61]),(Do #[47,61]),(Do #[37,61]),(Do #[38,61]),(Do #[94,61]),(Do #[124,61]),(Do #[43,43]),(Do #[45,45]),(Do #[43]),(Do #[45]),(Do #[42]),(Do #[47]),(Do #[37]),(Do #[38]),(Do #[124]),(Do #[94]),(Do #[126]),(Do #[33]),(Do #[60]),(Do #[62]),(Do #[61]),(Do #[63]),(Do #[58]),(Do #[59]),(Do #[44]),(Do #[40]),(Do #[41]),(Do #[91]),(Do #[93]),(Do #[123]),(Do #[125])]
def gU:List (List ByteArray):=[[(Do #[124,124])],[(Do #[38,38])],[(Do #[124])],[(Do #[94])],[(Do #[38])],[(Do #[61,61]),(Do #[33,61])],[(Do #[60]),(Do #[60,61]),(Do #[62]),(Do #[62,61])],[(Do #[60,60]),(Do #[62,62])],[(Do #[43]),(Do #[45])],[(Do #[42]),(Do #[47]),(Do #[37])]]
variable[kU]
def adw(g:Nat):Option (List U):=if g=1 then some (gU.map r3)else if g=2 then some (mT.map qQ)else if g=3 then some (od.map qQ)else if g=5 then some [.nn]else if g=6 then some [.nn]else if g=4 then some [.val (.int .i64 kU.m)]else if g=0 then some [.val (.iface 178 (.agg ⟨[fq 103]⟩))]else none
def oH:List U->Option (U×List U):=fun _=>none
noncomputable def ak:aF:={P:=Tryz.prog,eH:=adw,ext:=fun f=>bif AC f 97 then some (BB 1)else bif AC f 157 then some zv else bif AC f 159 then some zN else bif AC f 198 then some zO else bif AC f 212 then some yW else bif AC f 185 then some yY else bif AC f 27 then some oH else bif AC f 30 then some oH else bif AC f 32 then some oH else bif AC f 33 then some oH else bif AC f 37 then some oH else bif AC f 64 then some oH else bif AC f 149 then some oH else none,path:=fun f=>none,yt:=fun f d=>bif AC f 30 then(bif AC d 25 then[7]else[])else bif AC f 43 then(bif AC d 18 then[0]else bif AC d 28 then[0]else bif AC d 37 then[0]else[])else bif AC f 16 then(bif AC d 14 then[0]else[])else bif AC f 19 then(bif AC d 21 then[0]else bif AC d 16 then[0]else[])else bif AC f 40 then(bif AC d 22 then[4]else bif AC d 43 then[4]else[])else bif AC f 76 then(bif AC d 40 then[4]else[])else bif AC f 127 then(bif AC d 20 then[4]else bif AC d 41 then[4]else[])else bif AC f 169 then(bif AC d 23 then[4]else bif AC d 44 then[4]else[])else bif AC f 187 then(bif AC d 20 then[4]else bif AC d 37 then[4]else bif AC d 50 then[4]else[])else bif AC f 95 then(bif AC d 17 then[4]else[])else bif AC f 96 then(bif AC d 22 then[4]else[])else bif AC f 172 then(bif AC d 12 then[4]else[])else bif AC f 177 then(bif AC d 23 then[4]else[])else bif AC f 178 then(bif AC d 9 then[4]else[])else bif AC f 174 then(bif AC d 15 then[4]else[])else bif AC f 189 then(bif AC d 9 then[4]else[])else bif AC f 175 then(bif AC d 50 then[4]else[])else bif AC f 176 then(bif AC d 31 then[4]else bif AC d 47 then[4]else[])else bif AC f 45 then(bif AC d 17 then[4]else[])else[],look:=fun f=>false,k6:=fun f i=>bif AC f 66 then(bif AC i 15 then[8]else bif AC i 18 then[8]else[])else bif AC f 114 then(bif AC i 4 then[2]else[])else[],iter:=fun f=>none,ji:=adB.get,tn:=abO.get,nt:=fun f i=>(ajn.get f).contains i,BI:=abN.get,qu:=fun f=>bif AC f 72 then some AA else none,D4:=fun f i=>bif AC f 38 then AC i 4 else false,pq:=fun f=>bif AC f 72 then true else false,jW:=fun f i=>look (aiI.get f) i [],mD:=fun f i=>look (adt.get f) i [],c4:=agM.get,Cv:=ahf.get,shr:=fun f i=>(alh.get f).contains i,gd:=adg.get,live:=fun f i=>look (SV.get f) i [],gb:=fun f i=>look (Zr.get f) i [],j8:=fun f i=>Cr (QM.get f) i,qO:=fun f i=>Cr (QK.get f) i,HH:=fun f i=>Cr (QN.get f) i}
@[simp]theorem abG:ak.P=Tryz.prog:=rfl
def okF(C:aF)(f:Nat):Bool:=match C.P.funcs[f]? with|some fn=>(match fn.body with|some c=>(C.ext f).isSome||q9 C f c|none=>true)|none=>true
omit[kU]in theorem ahV{C:aF}{f:Nat}{fn:Func}{c:Code}(h:okF C f=true)(hx:C.ext f=none)(hf:C.P.funcs[f]? =some fn)(hb:fn.body=some c):q9 C f c=true:=by unfold okF at h;rw[hf]at h;simp only[hb,hx,Option.isSome_none,Bool.false_or]at h;exact h
theorem ahU:(List.range 278).all (okF ak)=true:=by kernel_rfl
omit[kU]in theorem alB:decide (Tryz.prog.funcs.size<=278)=true:=by kernel_rfl
omit[kU]in theorem ahs:(Tryz.prog.funcs.toList.all fun fn=> !(fn.name== "runtime.NumGoroutine"))=true:=by kernel_rfl
theorem abF:uv ak.P:=fun f fn hf=>by have:=List.all_eq_true.1 ahs fn (by have:=Array.mem_of_getElem? hf;simpa using this);simpa using this
theorem QT:kV ak:=⟨abF,(fun k p h=>by cases h),(fun k h=>by cases h)⟩
theorem QU:ak.P.follows .mixedOrders=true:=by kernel_rfl
theorem QS:∀f i,je (ak.live f i):=fun f i=>agZ (SV.Bp (p:=Kf) (by kernel_rfl) f) i
theorem QO:uq ak:=⟨fun f i b l h=>MX (i:=i) (QM.Bp (p:=DH) (by kernel_rfl) f) h,fun f i b l h=>MX (i:=i) (QK.Bp (p:=DH) (by kernel_rfl) f) h,fun f i b l h=>MX (i:=i) (QN.Bp (p:=DH) (by kernel_rfl) f) h⟩
theorem Ac{k:FuncId}{g:List U->Option (U×List U)}(hg:g=oH){args:List U}{r:U×List U}(h:g args=some r):Sound ak k args r:=by subst hg;cases h
theorem abd{g:List U->Option (U×List U)}(hg:g=BB 1){args:List U}{r:U×List U}(h:g args=some r):Sound ak 97 args r:=by haveI:eL ak 34 (.slice 3):=⟨Tryz.underlying34⟩;haveI:uo ak 3 1:=⟨by kernel_rfl⟩;haveI:mV ak 3 [.val (.int .i64 0)]:=⟨by kernel_rfl⟩;haveI:eK ak 3 false 1:=⟨by kernel_rfl,by kernel_rfl⟩;exact(abh (C:=ak) (f:=97) (e:=3) (m:=1) (bb:=false) (hJ:=[.val (.int .i64 0)]) (by rfl) QT QU QS QO (fun _=>rfl) (fun _=>rfl) (fun _=>rfl) (fun _=>rfl) (fun _=>rfl) (fun _=>rfl) rfl rfl Tryz.func97 Tryz.ntmps97 (by rfl) (by rfl) hg h).sound (by rfl)
theorem aa8{g:List U->Option (U×List U)}(hg:g=zv){args:List U}{r:U×List U}(h:g args=some r):Sound ak 157 args r:=(aem (C:=ak) Tryz.func157 (by rfl) (by rfl) Tryz.strings_HasPrefix hg h).sound (by rfl)
theorem aa9{g:List U->Option (U×List U)}(hg:g=zN){args:List U}{r:U×List U}(h:g args=some r):Sound ak 159 args r:=(af9 (k:=4) (m:=kU.m) (cs:=[]) (C:=ak) Tryz.func159 (by rfl) (by rfl) (by rfl) Tryz.strings_Index hg h).sound (by rfl)
theorem abb{g:List U->Option (U×List U)}(hg:g=zO){args:List U}{r:U×List U}(h:g args=some r):Sound ak 198 args r:=(af8 (C:=ak) Tryz.func198 (by rfl) (by rfl) Tryz.strings_IndexByte hg h).sound (by rfl)
theorem abc{g:List U->Option (U×List U)}(hg:g=yW){args:List U}{r:U×List U}(h:g args=some r):Sound ak 212 args r:=(abf (C:=ak) Tryz.func212 (by rfl) (by rfl) Tryz.stringslite_Clone hg h).sound (by rfl)
theorem aba{g:List U->Option (U×List U)}(hg:g=yY){args:List U}{r:U×List U}(h:g args=some r):Sound ak 185 args r:=(abn (k:=4) (m:=kU.m) (cs:=[]) (C:=ak) Tryz.func185 (by rfl) (by rfl) (by rfl) Tryz.strings_Contains hg h).sound (by rfl)
theorem abE:Good ak where
 count:=QT
 wide:=QU
 live:=QS
 cut:=QO
 free:=fun f fn c hx hf hb=>by
  have hlt:f<278:=by
   have h1:f<ak.P.funcs.size:=by
    rcases Nat.lt_or_ge f ak.P.funcs.size with h|h
    ·exact h
    ·rw[Array.getElem?_eq_none h]at hf;cases hf
   have h2:=of_decide_eq_true alB
   rw[abG]at h1
   exact Nat.lt_of_lt_of_le h1 h2
  exact ahV (List.all_eq_true.1 ahU f (List.mem_range.2 hlt)) hx hf hb
 ext:=fun f g args r h h2=>by
  have h:(bif AC f 97 then some (BB 1)else bif AC f 157 then some zv else bif AC f 159 then some zN else bif AC f 198 then some zO else bif AC f 212 then some yW else bif AC f 185 then some yY else bif AC f 27 then some oH else bif AC f 30 then some oH else bif AC f 32 then some oH else bif AC f 33 then some oH else bif AC f 37 then some oH else bif AC f 64 then some oH else bif AC f 149 then some oH else none)=some g:=h
  cases LH:AC f 97 with
  |true=>
   simp only[LH,cond_true,GT]at h
   rw[GE LH]
   exact abd h.symm h2
  |false=>
   simp only[LH,cond_false]at h
   cases Lv:AC f 157 with
   |true=>
    simp only[Lv,cond_true,GT]at h
    rw[GE Lv]
    exact aa8 h.symm h2
   |false=>
    simp only[Lv,cond_false]at h
    cases Lw:AC f 159 with
    |true=>
     simp only[Lw,cond_true,GT]at h
     rw[GE Lw]
     exact aa9 h.symm h2
    |false=>
     simp only[Lw,cond_false]at h
     cases Ly:AC f 198 with
     |true=>
      simp only[Ly,cond_true,GT]at h
      rw[GE Ly]
      exact abb h.symm h2
     |false=>
      simp only[Ly,cond_false]at h
      cases Lz:AC f 212 with
      |true=>
       simp only[Lz,cond_true,GT]at h
       rw[GE Lz]
       exact abc h.symm h2
      |false=>
       simp only[Lz,cond_false]at h
       cases Lx:AC f 185 with
       |true=>
        simp only[Lx,cond_true,GT]at h
        rw[GE Lx]
        exact aba h.symm h2
       |false=>
        simp only[Lx,cond_false]at h
        cases LA:AC f 27 with
        |true=>
         simp only[LA,cond_true,GT]at h
         rw[GE LA]
         exact Ac h.symm h2
        |false=>
         simp only[LA,cond_false]at h
         cases LB:AC f 30 with
         |true=>
          simp only[LB,cond_true,GT]at h
          rw[GE LB]
          exact Ac h.symm h2
         |false=>
          simp only[LB,cond_false]at h
          cases LC:AC f 32 with
          |true=>
           simp only[LC,cond_true,GT]at h
           rw[GE LC]
           exact Ac h.symm h2
          |false=>
           simp only[LC,cond_false]at h
           cases LD:AC f 33 with
           |true=>
            simp only[LD,cond_true,GT]at h
            rw[GE LD]
            exact Ac h.symm h2
           |false=>
            simp only[LD,cond_false]at h
            cases LF:AC f 37 with
            |true=>
             simp only[LF,cond_true,GT]at h
             rw[GE LF]
             exact Ac h.symm h2
            |false=>
             simp only[LF,cond_false]at h
             cases LG:AC f 64 with
             |true=>
              simp only[LG,cond_true,GT]at h
              rw[GE LG]
              exact Ac h.symm h2
             |false=>
              simp only[LG,cond_false]at h
              cases Lu:AC f 149 with
              |true=>
               simp only[Lu,cond_true,GT]at h
               rw[GE Lu]
               exact Ac h.symm h2
              |false=>
               simp only[Lu,cond_false]at h
               cases h
 pq:=fun f h=>by
  cases BY:AC f 72 with
  |true=>rw[GE BY];exact aga
  |false=>
  have h:(bif AC f 72 then true else false)=true:=h
  simp only[BY,cond_false,Bool.false_eq_true]at h
 qu:=fun f g h=>by
  cases BY:AC f 72 with
  |true=>
   have h:(bif AC f 72 then some AA else none)=some g:=h
   rw[BY]at h
   obtain rfl:=Option.some.inj h
   rw[GE BY];exact ajO rfl rfl
  |false=>
  have h:(bif AC f 72 then some AA else none)=some g:=h
  simp only[BY,cond_false]at h
  cases h
end Go.Ab
