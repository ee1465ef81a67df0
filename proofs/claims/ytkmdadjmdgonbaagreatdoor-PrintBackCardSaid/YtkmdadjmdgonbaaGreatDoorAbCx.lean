import Derived.Test.YtkmdadjmdgonbaaGreatDoorAbExt2
import Derived.Test.YtkmdadjmdgonbaaGreatDoorAbLook
import Derived.Test.YtkmdadjmdgonbaaGreatDoorAbShelf10
import Derived.Test.YtkmdadjmdgonbaaGreatDoorAbRcv67
open Bool renaming true->bv,false->ci
open Option renaming some->ac,none->am
open ByteArray renaming mk->AC
open Nat renaming beq->A0,eq_of_beq_eq_true->Do
open Option.some renaming injEq->GE
set_option linter.all false
namespace Go.Ab
open Go Go.Proofs
def adz:iN (List Nat):=(.n 78 (.n 40 (.n 18 (.n 11 (.n 6 (.n 5 (.o 4 [4,7,9,14,24,31,35,43] []) (.o 5 [1,9,14,39,44,51] [])) (.n 9 (.o 6 [1,4,7,22,28] []) (.o 9 [1,3,6,9,11,15] []))) (.n 16 (.n 15 (.o 11 [1] []) (.o 15 [2,3,6,7] [])) (.n 17 (.o 16 [1,9,26,48] []) (.o 17 [4,19,22,25,37,44,48,50,51,62,64,65,75,81,85,90,92,93] [])))) (.n 33 (.n 31 (.n 30 (.o 18 [6,21,30] []) (.o 30 [10,26,35,37,48] [])) (.n 32 (.o 31 [11,12,19] []) (.o 32 [4,7,10,12,21,33,34,35,42,44,50,53,60,62,65,69,77,79,81,84,95,100,102,105] []))) (.n 35 (.n 34 (.o 33 [8,16] []) (.o 34 [3] [])) (.n 36 (.o 35 [4,9,12,14,16,26,27,31,32,35,46,47] []) (.n 37 (.o 36 [8,9,29] []) (.o 37 [2,3] [])))))) (.n 50 (.n 44 (.n 42 (.n 41 (.o 40 [5,18,23,82,92,96,102,109,114] []) (.o 41 [1,6] [])) (.n 43 (.o 42 [6,7,11,12,16,17] []) (.o 43 [11] []))) (.n 46 (.n 45 (.o 44 [30] []) (.o 45 [18,19,22] [])) (.n 47 (.o 46 [4,17,23,27,28,34,40,46,47,53,57,58,64,70,74,75,81,83,84,90,92,93,99,101,102,108,112,113,119,124,128,129,135,137,138,142,143,147,148,154,156,157,163,167,168,172,173,177,178,188,190,191] []) (.n 49 (.o 47 [3,7,11,16,17,21,23,24,30,31,37,39,40,46,47,53] []) (.o 49 [4,15,23,29,35,37,38,44,46,47,55,57,58,64,66,67,73,74,80,91,95,96,100,101,107,117,121,122,130,138,140,141,147,149,150,156,164,168,169,175] []))))) (.n 73 (.n 69 (.n 66 (.o 50 [1,3,8,21] []) (.o 66 [18,56] [])) (.n 72 (.o 69 [5] []) (.o 72 [7,9,14,18,20] []))) (.n 75 (.n 74 (.o 73 [3,5,12] []) (.o 74 [7,9] [])) (.n 76 (.o 75 [11,16,20] []) (.n 77 (.o 76 [4,6,8] []) (.o 77 [6,9,11,15,16] []))))))) (.n 116 (.n 91 (.n 85 (.n 81 (.n 79 (.o 78 [3] []) (.o 79 [6,10,12] [])) (.n 82 (.o 81 [7,21,28,30,45,46] []) (.o 82 [14,20] []))) (.n 89 (.n 88 (.o 85 [3] []) (.o 88 [5,7,17] [])) (.n 90 (.o 89 [1] []) (.o 90 [7,8,17,20,21] [])))) (.n 95 (.n 93 (.n 92 (.o 91 [5,6,9,11,12] []) (.o 92 [4,17,22,30] [])) (.n 94 (.o 93 [10,13] []) (.o 94 [1,15,16,17,18,19,20,21,22,23,24] []))) (.n 109 (.n 96 (.o 95 [14,18,19,22,24,25,28] []) (.o 96 [15,22,29,38] [])) (.n 114 (.o 109 [11,21,24,28,31] []) (.n 115 (.o 114 [5,7] []) (.o 115 [3,11,19,24,26,28,31,34,35,42,44,48,49,53,55,57,61,62,66,72,74,79,80,84,89,94,96,101,102,106,111,115] [])))))) (.n 143 (.n 127 (.n 122 (.n 119 (.o 116 [3,5,8,9,12,22,23,27,30,33,43,44] []) (.o 119 [7] [])) (.n 126 (.o 122 [15] []) (.o 126 [60,67,86] []))) (.n 140 (.n 139 (.o 127 [11] []) (.o 139 [5,9] [])) (.n 141 (.o 140 [5,9,17,18] []) (.n 142 (.o 141 [9,12,14,17,19,22,24,26,28,30,32,34,36,38,41,43,45,55,56] []) (.o 142 [7,9,12,17,21,23,25,33,35,39,41,49] []))))) (.n 156 (.n 145 (.n 144 (.o 143 [4,7,9,11,13] []) (.o 144 [11,12] [])) (.n 148 (.o 145 [4,9,13,15,17,26,30,33,36,46] []) (.o 148 [22] []))) (.n 161 (.n 157 (.o 156 [7] []) (.o 157 [3,6,12,27,29,41,54,58,63] [])) (.n 170 (.o 161 [17,24,32,40] []) (.n 183 (.o 170 [47,59,71,123,127,131,167] []) (.o 183 [32,37,43,49,73,80] []))))))))
def S8:iN (List (Nat×List Nat)):=(.n 81 (.n 40 (.n 31 (.n 17 (.o 16 [(5,[1,2,3,20,21])] []) (.n 18 (.o 17 [(7,[0,29,30,31])] []) (.o 18 [(5,[3,4,13,14,15])] []))) (.n 36 (.o 31 [(1,[0,2])] []) (.n 38 (.o 36 [(4,[1,2,15,16,17])] []) (.o 38 [(4,[0,1,12,13])] [])))) (.n 45 (.n 41 (.o 40 [(9,[0,1,2,5,8,9])] []) (.n 44 (.o 41 [(4,[3,4,14,15,16]),(7,[3,4,5,14,15,16,22,23,24])] []) (.o 44 [(1,[0,8,9,10])] []))) (.n 75 (.n 66 (.o 45 [(1,[0,2,8,9,10])] []) (.o 66 [(5,[0,3,4,5])] [])) (.n 77 (.o 75 [(3,[0,1,2,7,8])] []) (.o 77 [(4,[0,3,4])] []))))) (.n 124 (.n 90 (.n 82 (.o 81 [(5,[0,1,5,6])] []) (.n 87 (.o 82 [(2,[0,7,8,9])] []) (.o 87 [(4,[0,14,15])] []))) (.n 109 (.n 94 (.o 90 [(2,[0,9,10,11])] []) (.o 94 [(8,[1,25,26]),(11,[1,3,25,26,30,31,32])] [])) (.n 122 (.o 109 [(2,[0,4])] []) (.o 122 [(2,[0,1,5])] [])))) (.n 145 (.n 127 (.o 124 [(2,[0,5,6])] []) (.n 142 (.o 127 [(2,[0,5,6])] []) (.o 142 [(3,[0,3])] []))) (.n 170 (.n 146 (.o 145 [(2,[0,3])] []) (.o 146 [(2,[0,1,7,8])] [])) (.n 183 (.o 170 [(36,[1,8,9,10,11,12,13,99,100,101])] []) (.o 183 [(10,[0,3,4,5])] []))))))
def alh:iN (List Nat):=(.n 77 (.n 44 (.n 31 (.o 17 [7] []) (.n 40 (.o 31 [1] []) (.o 40 [9] []))) (.n 45 (.o 44 [1] []) (.n 75 (.o 45 [1] []) (.o 75 [3] [])))) (.n 90 (.n 81 (.o 77 [4] []) (.n 82 (.o 81 [5] []) (.o 82 [2] []))) (.n 142 (.o 90 [2] []) (.n 145 (.o 142 [3] []) (.o 145 [2] [])))))
def Zx:iN (List (Nat×List (Nat×Nat))):=(.n 93 (.n 33 (.n 30 (.o 16 [(3,[(6,7)])] []) (.n 32 (.o 30 [(3,[(1,3)])] []) (.o 32 [(8,[(6,9)]),(18,[(3,5)]),(29,[(3,5)])] []))) (.n 41 (.n 35 (.o 33 [(2,[(4,10)])] []) (.o 35 [(6,[(9,11)]),(9,[(10,12)])] [])) (.n 81 (.o 41 [(9,[(4,12),(5,12),(8,12),(9,12),(11,12)])] []) (.o 81 [(11,[(12,14)])] [])))) (.n 141 (.n 116 (.n 115 (.o 93 [(0,[(4,13)])] []) (.o 115 [(8,[(1,3)])] [])) (.n 140 (.o 116 [(4,[(9,11)]),(7,[(9,11)])] []) (.o 140 [(4,[(6,8)])] []))) (.n 156 (.n 144 (.o 141 [(18,[(9,11)])] []) (.o 144 [(1,[(6,8)])] [])) (.n 157 (.o 156 [(1,[(4,7)])] []) (.o 157 [(8,[(11,12)])] [])))))
def QJ:iN (List (Nat×Bool×List Nat)):=(.n 88 (.n 40 (.n 32 (.n 30 (.o 5 [(10,(ci,[1,4,5,6,41]))] []) (.o 30 [(10,(ci,[4,5,50]))] [])) (.n 37 (.o 32 [(11,(bv,[0,5,6,45]))] []) (.o 37 [(1,(ci,[4]))] []))) (.n 82 (.n 72 (.o 40 [(11,(bv,[0,1,2,5,8,9,62])),(17,(bv,[0,5,89])),(19,(bv,[0,5,99]))] []) (.o 72 [(5,(bv,[0,10]))] [])) (.n 83 (.o 82 [(4,(bv,[0,6,7,8,9,21]))] []) (.n 85 (.o 83 [(1,(ci,[2]))] []) (.o 85 [(10,(ci,[6])),(13,(ci,[6])),(15,(ci,[6]))] []))))) (.n 145 (.n 122 (.n 116 (.o 88 [(13,(ci,[4]))] []) (.o 116 [(5,(bv,[0,3,25]))] [])) (.n 123 (.o 122 [(2,(ci,[0,1,5,16]))] []) (.n 126 (.o 123 [(1,(ci,[2]))] []) (.o 126 [(9,(ci,[8,9,10,11,12])),(10,(ci,[8,9,10,11,58]))] [])))) (.n 160 (.n 148 (.o 145 [(8,(bv,[0,3,4,28]))] []) (.o 148 [(1,(ci,[0,6])),(5,(ci,[0,28]))] [])) (.n 170 (.o 160 [(12,(ci,[2,7,8,9,38]))] []) (.n 183 (.o 170 [(12,(ci,[0,2,8,9,40])),(15,(ci,[0,2,8,9,52])),(18,(ci,[0,2,8,9,64])),(44,(ci,[1,8,9,10,11,12,13,15,99,100,101,121])),(56,(ci,[13,169]))] []) (.o 183 [(3,(ci,[0,3,4,18])),(6,(ci,[0,3,4,5,46])),(12,(ci,[0,3,4,5,83]))] []))))))
def QH:iN (List (Nat×Bool×List Nat)):=(.n 81 (.n 40 (.n 31 (.n 17 (.o 16 [(0,(ci,[1,2,3]))] []) (.n 18 (.o 17 [(1,(bv,[0]))] []) (.o 18 [(0,(ci,[3,4]))] []))) (.n 36 (.o 31 [(0,(bv,[0,2]))] []) (.n 38 (.o 36 [(0,(ci,[]))] []) (.o 38 [(0,(ci,[]))] [])))) (.n 45 (.n 41 (.o 40 [(0,(bv,[0,1,2,5,8]))] []) (.n 44 (.o 41 [(0,(ci,[4])),(2,(ci,[3,4,5,14,15,16]))] []) (.o 44 [(0,(bv,[0]))] []))) (.n 75 (.n 66 (.o 45 [(0,(bv,[0,2]))] []) (.o 66 [(0,(ci,[]))] [])) (.n 77 (.o 75 [(0,(bv,[0,2,7]))] []) (.o 77 [(0,(bv,[0,3,4]))] []))))) (.n 124 (.n 90 (.n 82 (.o 81 [(0,(bv,[0,5]))] []) (.n 87 (.o 82 [(0,(bv,[0]))] []) (.o 87 [(0,(ci,[]))] []))) (.n 109 (.n 94 (.o 90 [(0,(bv,[0]))] []) (.o 94 [(1,(ci,[])),(3,(ci,[1,25,26]))] [])) (.n 122 (.o 109 [(0,(ci,[]))] []) (.o 122 [(0,(ci,[5]))] [])))) (.n 145 (.n 127 (.o 124 [(0,(ci,[]))] []) (.n 142 (.o 127 [(0,(ci,[]))] []) (.o 142 [(0,(bv,[0,3]))] []))) (.n 170 (.n 146 (.o 145 [(0,(ci,[]))] []) (.o 146 [(0,(ci,[]))] [])) (.n 183 (.o 170 [(3,(ci,[9,12,13]))] []) (.o 183 [(0,(ci,[3]))] []))))))
def QK:iN (List (Nat×Bool×List Nat)):=(.n 84 (.n 46 (.n 32 (.n 30 (.o 5 [(15,(ci,[1,5,7]))] []) (.o 30 [(9,(ci,[4,5,7]))] [])) (.n 44 (.o 32 [(15,(bv,[0,5,6,7])),(18,(bv,[0,5,6,7])),(28,(bv,[0,5,6]))] []) (.n 45 (.o 44 [(7,(bv,[0,5,6,8,9,10]))] []) (.o 45 [(5,(bv,[0,2,7,8,9,10]))] [])))) (.n 75 (.n 49 (.o 46 [(48,(bv,[0]))] []) (.n 73 (.o 49 [(28,(bv,[0,4,5,17,108]))] []) (.o 73 [(4,(bv,[0,2]))] []))) (.n 78 (.o 75 [(7,(bv,[0,1,2,7]))] []) (.n 81 (.o 78 [(4,(bv,[0,2,3]))] []) (.o 81 [(11,(bv,[0,1,5,6,7,8]))] []))))) (.n 141 (.n 89 (.n 85 (.o 84 [(5,(ci,[4,5])),(8,(ci,[4,9])),(13,(ci,[4,14])),(18,(ci,[4,17])),(27,(ci,[4,24]))] []) (.o 85 [(13,(ci,[1,2,15,67]))] [])) (.n 94 (.o 89 [(10,(ci,[1,4,50]))] []) (.n 115 (.o 94 [(4,(ci,[1,8,9])),(7,(ci,[1,8,12])),(21,(ci,[]))] []) (.o 115 [(11,(bv,[0,4,6])),(36,(bv,[0,1,5]))] [])))) (.n 160 (.n 143 (.o 141 [(8,(bv,[0,1,5])),(13,(bv,[0,1,5,6])),(17,(bv,[0,1,5,6,7]))] []) (.n 148 (.o 143 [(6,(bv,[0,3,4,5]))] []) (.o 148 [(7,(ci,[]))] []))) (.n 170 (.o 160 [(10,(ci,[0,1,2,8])),(16,(ci,[2,8,9])),(24,(ci,[11]))] []) (.n 183 (.o 170 [(21,(ci,[0,1,2,8,9])),(25,(ci,[0,1,2,8,9])),(32,(ci,[0,1,2,8,9,10])),(46,(ci,[1,8,9,10,11,12,13,16,99,100,101])),(55,(ci,[1,8,9,10,11,12,13,99,100,101]))] []) (.o 183 [(5,(ci,[0,3,4])),(10,(ci,[0,3,4,5])),(11,(ci,[0,3,4,5]))] []))))))
def aiP:iN (List (Nat×List Nat)):=(.n 77 (.n 45 (.n 33 (.n 30 (.n 17 (.o 6 [(5,[5])] []) (.o 17 [(3,[0]),(4,[0]),(9,[0]),(12,[0]),(13,[0]),(14,[0]),(15,[0]),(16,[0]),(17,[0]),(19,[0]),(20,[0]),(22,[0]),(23,[0]),(999999,[0])] [])) (.n 31 (.o 30 [(6,[7]),(8,[7])] []) (.n 32 (.o 31 [(2,[0]),(3,[0]),(999999,[0])] []) (.o 32 [(1,[0]),(2,[0]),(5,[0]),(7,[0]),(8,[0]),(10,[0]),(11,[0]),(12,[0]),(14,[0]),(15,[0]),(19,[0]),(20,[0]),(21,[0]),(22,[0]),(23,[0]),(26,[0]),(27,[0]),(28,[0]),(29,[0]),(999999,[0])] [])))) (.n 42 (.n 34 (.o 33 [(999999,[0])] []) (.n 35 (.o 34 [(0,[0]),(999999,[0])] []) (.o 35 [(1,[0]),(2,[0]),(3,[0]),(4,[0]),(5,[0]),(6,[0]),(7,[0]),(8,[0]),(9,[0]),(999999,[0])] []))) (.n 43 (.o 42 [(1,[0]),(3,[0]),(5,[0]),(999999,[0])] []) (.n 44 (.o 43 [(999999,[0])] []) (.o 44 [(999999,[0])] []))))) (.n 71 (.n 49 (.n 46 (.o 45 [(4,[0]),(5,[0]),(999999,[0])] []) (.n 47 (.o 46 [(2,[0]),(4,[0]),(6,[0]),(7,[0]),(8,[0]),(10,[0]),(11,[0]),(13,[0]),(14,[0]),(15,[0]),(17,[0]),(18,[0]),(19,[0]),(20,[0]),(21,[0]),(22,[0]),(23,[0]),(24,[0]),(26,[0]),(27,[0]),(28,[0]),(30,[0]),(31,[0]),(32,[0]),(34,[0]),(36,[0]),(37,[0]),(38,[0]),(39,[0]),(41,[0]),(43,[0]),(45,[0]),(47,[0]),(48,[0]),(999999,[0])] []) (.o 47 [(1,[0]),(2,[0]),(4,[0]),(5,[0]),(6,[0]),(8,[0]),(9,[0]),(10,[0]),(12,[0]),(13,[0]),(999999,[0])] []))) (.n 69 (.o 49 [(4,[0]),(6,[0]),(8,[0]),(9,[0]),(10,[0]),(11,[0]),(13,[0]),(14,[0]),(15,[0]),(16,[0]),(18,[0]),(19,[0]),(22,[0]),(23,[0]),(24,[0]),(25,[0]),(28,[0]),(29,[0]),(30,[0]),(32,[0]),(33,[0]),(34,[0]),(35,[0]),(36,[0]),(38,[0]),(39,[0]),(40,[0]),(999999,[0])] []) (.n 70 (.o 69 [(999999,[0])] []) (.o 70 [(999999,[0])] [])))) (.n 74 (.n 72 (.o 71 [(999999,[0])] []) (.n 73 (.o 72 [(1,[0]),(2,[0]),(5,[0]),(7,[0]),(999999,[0])] []) (.o 73 [(1,[0]),(3,[0]),(4,[0]),(999999,[0])] []))) (.n 75 (.o 74 [(1,[0]),(2,[0]),(999999,[0])] []) (.n 76 (.o 75 [(3,[0]),(6,[0]),(7,[0]),(999999,[0])] []) (.o 76 [(1,[0]),(2,[0]),(3,[0]),(999999,[0])] [])))))) (.n 115 (.n 90 (.n 79 (.n 78 (.o 77 [(1,[0]),(2,[0]),(4,[0]),(5,[0]),(6,[0]),(999999,[0])] []) (.o 78 [(1,[0]),(999999,[0])] [])) (.n 81 (.o 79 [(0,[0]),(1,[0]),(999999,[0])] []) (.n 82 (.o 81 [(2,[0]),(3,[0]),(4,[0]),(6,[0]),(7,[0]),(11,[0]),(999999,[0])] []) (.o 82 [(4,[0]),(999999,[0])] [])))) (.n 93 (.n 91 (.o 90 [(0,[0]),(4,[0]),(6,[0]),(999999,[0])] []) (.n 92 (.o 91 [(0,[0]),(1,[0]),(2,[0]),(999999,[0])] []) (.o 92 [(2,[0]),(4,[0]),(6,[0]),(999999,[0])] []))) (.n 95 (.o 93 [(999999,[0])] []) (.n 114 (.o 95 [(1,[0]),(2,[0]),(3,[0]),(4,[0]),(999999,[0])] []) (.o 114 [(1,[0]),(999999,[0])] []))))) (.n 142 (.n 139 (.n 116 (.o 115 [(1,[0]),(4,[0]),(5,[0]),(6,[0]),(7,[0]),(8,[0]),(9,[0]),(10,[0]),(11,[0]),(12,[0]),(13,[0]),(14,[0]),(15,[0]),(16,[0]),(17,[0]),(18,[0]),(19,[0]),(20,[0]),(21,[0]),(22,[0]),(23,[0]),(24,[0]),(25,[0]),(26,[0]),(27,[0]),(28,[0]),(29,[0]),(30,[0]),(31,[0]),(32,[0]),(33,[0]),(34,[0]),(35,[0]),(36,[0]),(999999,[0])] []) (.n 138 (.o 116 [(1,[0]),(2,[0]),(3,[0]),(4,[0]),(5,[0]),(6,[0]),(7,[0]),(8,[0]),(999999,[0])] []) (.o 138 [(1,[7])] []))) (.n 140 (.o 139 [(1,[0]),(2,[0]),(3,[0]),(999999,[0])] []) (.n 141 (.o 140 [(1,[0]),(2,[0]),(3,[0]),(4,[0]),(999999,[0])] []) (.o 141 [(1,[0]),(3,[0]),(4,[0]),(5,[0]),(6,[0]),(7,[0]),(8,[0]),(10,[0]),(11,[0]),(12,[0]),(13,[0]),(14,[0]),(15,[0]),(16,[0]),(17,[0]),(18,[0]),(999999,[0])] [])))) (.n 145 (.n 143 (.o 142 [(2,[0]),(3,[0]),(4,[0]),(5,[0]),(6,[0]),(7,[0]),(8,[0]),(9,[0]),(10,[0]),(11,[0]),(12,[0]),(999999,[0])] []) (.n 144 (.o 143 [(1,[0]),(2,[0]),(4,[0]),(5,[0]),(6,[0]),(999999,[0])] []) (.o 144 [(1,[0]),(999999,[0])] []))) (.n 156 (.o 145 [(1,[0]),(2,[0]),(4,[0]),(5,[0]),(6,[0]),(7,[0]),(8,[0]),(9,[0]),(10,[0]),(999999,[0])] []) (.n 157 (.o 156 [(1,[0]),(999999,[0])] []) (.o 157 [(1,[0]),(3,[0]),(4,[0]),(6,[0]),(7,[0]),(8,[0]),(9,[0]),(10,[0]),(11,[0]),(12,[0]),(14,[0]),(999999,[0])] [])))))))
def adM:iN (List (Nat×List Nat)):=(.n 115 (.n 32 (.o 31 [(3,[2])] []) (.n 77 (.o 32 [(29,[6])] []) (.o 77 [(6,[4])] []))) (.n 138 (.o 115 [(11,[6])] []) (.n 143 (.o 138 [(1,[1])] []) (.o 143 [(6,[5])] []))))
def ab8:iN (List Id):=(.o 71 [[0,999999]] [])
def ajy:iN (List Nat):=(.n 79 (.n 69 (.n 32 (.n 31 (.o 30 [6,8] []) (.o 31 [2] [])) (.n 34 (.o 32 [1,2,7,8,10,14,17,19,22,23,25,27,28] []) (.n 35 (.o 34 [0] []) (.o 35 [1,4,5,6,9] [])))) (.n 75 (.n 72 (.o 69 [0] []) (.n 73 (.o 72 [7] []) (.o 73 [3] []))) (.n 76 (.o 75 [6,7] []) (.n 77 (.o 76 [1,2] []) (.o 77 [2,5] []))))) (.n 141 (.n 116 (.n 81 (.o 79 [1] []) (.n 115 (.o 81 [2,3,11] []) (.o 115 [4,6,8,10,13,14,16,17,18,20,22,23,31,35,36] []))) (.n 139 (.o 116 [4,7,8] []) (.n 140 (.o 139 [1,2,3] []) (.o 140 [2,4] [])))) (.n 144 (.n 142 (.o 141 [1,3,7,8,12,13,16,17,18] []) (.n 143 (.o 142 [2,5,7,8,11] []) (.o 143 [1,2,5] []))) (.n 145 (.o 144 [1] []) (.n 157 (.o 145 [1,5,6] []) (.o 157 [8,11,12,14] []))))))
def ab7:iN (List Id):=(.n 81 (.n 72 (.n 34 (.n 32 (.o 31 [[0,999999]] []) (.o 32 [[0,999999]] [])) (.n 35 (.o 34 [[0,999999]] []) (.n 69 (.o 35 [[0,999999]] []) (.o 69 [[0,999999]] [])))) (.n 76 (.n 73 (.o 72 [[0,999999]] []) (.n 75 (.o 73 [[0,999999]] []) (.o 75 [[0,999999]] []))) (.n 77 (.o 76 [[0,999999]] []) (.n 79 (.o 77 [[0,999999]] []) (.o 79 [[0,999999]] []))))) (.n 141 (.n 116 (.n 115 (.o 81 [[0,999999]] []) (.o 115 [[0,999999]] [])) (.n 139 (.o 116 [[0,999999]] []) (.n 140 (.o 139 [[0,999999]] []) (.o 140 [[0,999999]] [])))) (.n 144 (.n 142 (.o 141 [[0,999999]] []) (.n 143 (.o 142 [[0,999999]] []) (.o 143 [[0,999999]] []))) (.n 145 (.o 144 [[0,999999]] []) (.n 157 (.o 145 [[0,999999]] []) (.o 157 [[0,999999]] []))))))
def adV:iN Bool:=(.n 77 (.n 45 (.n 34 (.n 31 (.n 30 (.o 17 bv ci) (.o 30 bv ci)) (.n 32 (.o 31 bv ci) (.n 33 (.o 32 bv ci) (.o 33 bv ci)))) (.n 42 (.n 35 (.o 34 bv ci) (.n 40 (.o 35 bv ci) (.o 40 bv ci))) (.n 43 (.o 42 bv ci) (.n 44 (.o 43 bv ci) (.o 44 bv ci))))) (.n 71 (.n 49 (.n 46 (.o 45 bv ci) (.n 47 (.o 46 bv ci) (.o 47 bv ci))) (.n 69 (.o 49 bv ci) (.n 70 (.o 69 bv ci) (.o 70 bv ci)))) (.n 74 (.n 72 (.o 71 bv ci) (.n 73 (.o 72 bv ci) (.o 73 bv ci))) (.n 75 (.o 74 bv ci) (.n 76 (.o 75 bv ci) (.o 76 bv ci)))))) (.n 115 (.n 90 (.n 79 (.n 78 (.o 77 bv ci) (.o 78 bv ci)) (.n 81 (.o 79 bv ci) (.n 82 (.o 81 bv ci) (.o 82 bv ci)))) (.n 93 (.n 91 (.o 90 bv ci) (.n 92 (.o 91 bv ci) (.o 92 bv ci))) (.n 95 (.o 93 bv ci) (.n 114 (.o 95 bv ci) (.o 114 bv ci))))) (.n 142 (.n 139 (.n 116 (.o 115 bv ci) (.n 138 (.o 116 bv ci) (.o 138 bv ci))) (.n 140 (.o 139 bv ci) (.n 141 (.o 140 bv ci) (.o 141 bv ci)))) (.n 145 (.n 143 (.o 142 bv ci) (.n 144 (.o 143 bv ci) (.o 144 bv ci))) (.n 156 (.o 145 bv ci) (.n 157 (.o 156 bv ci) (.o 157 bv ci)))))))
def agV:iN (List Nat):=(.l [])
def ahh:iN (List Nat):=(.l [])
def oV:List ByteArray:=[(AC #[105,110,116]),(AC #[118,111,105,100]),(AC #[105,102]),(AC #[101,108,115,101]),(AC #[119,104,105,108,101]),(AC #[100,111]),(AC #[102,111,114]),(AC #[115,119,105,116,99,104]),(AC #[99,97,115,101]),(AC #[100,101,102,97,117,108,116]),(AC #[98,114,101,97,107]),(AC #[99,111,110,116,105,110,117,101]),(AC #[114,101,116,117,114,110])]
def pV:List ByteArray:=[(AC #[60,60,61]),(AC #[62,62,61]),(AC #[60,60]),(AC #[62,62]),(AC #[60,61]),(AC #[62,61]),(AC #[61,61]),(AC #[33,61]),(AC #[38,38]),(AC #[124,124]),(AC #[43,61]),(AC #[45,61]),(AC #[42,61]),(AC #[47,61]),(AC #[37,61]),(AC #[38,61]),(AC #[94,61]),(AC #[124,61]),(AC #[43,43]),(AC #[45,45]),(AC #[43]),(AC #[45]),(AC #[42]),(AC #[47]),(AC #[37]),(AC #[38]),(AC #[124]),(AC #[94]),(AC #[126]),(AC #[33]),(AC #[60]),(AC #[62]),(AC #[61]),(AC #[63]),(AC #[58]),(AC #[59]),(AC #[44]),(AC #[40]),(AC #[41]),(AC #[91]),(AC #[93]),(AC #[123]),(AC #[125])]
def gI:List (List ByteArray):=[[(AC #[124,124])],[(AC #[38,38])],[(AC #[124])],[(AC #[94])],[(AC #[38])],[(AC #[61,61]),(AC #[33,61])],[(AC #[60]),(AC #[60,61]),(AC #[62]),(AC #[62,61])],[(AC #[60,60]),(AC #[62,62])],[(AC #[43]),(AC #[45])],[(AC #[42]),(AC #[47]),(AC #[37])]]
variable[lg]
def adQ(g:Nat):Option (List U):=if g=2 then ac (oV.map qc)else if g=3 then ac (pV.map qc)else if g=6 then ac [.nn]else if g=7 then ac [.nn]else if g=4 then ac [.val (.int .i64 lg.m)]else if g=5 then ac [.iD (Lib.pow10Tab.map λz=>Value.int .u64 z)]else if g=1 then ac (gI.map nY)else if g=0 then ac [.val (.iface 145 (.agg ⟨[e4 89]⟩))]else am
noncomputable def ak:aH:={P:=Tryz.prog,ez:=adQ,ext:=λf=>bif A0 f 80 then ac (AE 1)else bif A0 f 120 then ac y8 else bif A0 f 159 then ac yX else bif A0 f 184 then ac yd else bif A0 f 150 then ac ye else bif A0 f 132 then ac yH else bif A0 f 51 then ac y9 else bif A0 f 134 then ac yW else am,path:=λf=>am,xK:=λf d=>bif A0 f 76 then(bif A0 d 17 then[4]else[])else bif A0 f 77 then(bif A0 d 22 then[4]else[])else bif A0 f 35 then(bif A0 d 22 then[4]else bif A0 d 43 then[4]else[])else bif A0 f 81 then(bif A0 d 40 then[4]else[])else bif A0 f 116 then(bif A0 d 20 then[4]else bif A0 d 41 then[4]else[])else bif A0 f 145 then(bif A0 d 23 then[4]else bif A0 d 44 then[4]else[])else bif A0 f 157 then(bif A0 d 20 then[4]else bif A0 d 37 then[4]else bif A0 d 50 then[4]else[])else bif A0 f 138 then(bif A0 d 12 then[4]else[])else bif A0 f 143 then(bif A0 d 23 then[4]else[])else bif A0 f 144 then(bif A0 d 9 then[4]else[])else bif A0 f 140 then(bif A0 d 15 then[4]else[])else bif A0 f 156 then(bif A0 d 9 then[4]else[])else bif A0 f 141 then(bif A0 d 50 then[4]else[])else bif A0 f 142 then(bif A0 d 31 then[4]else bif A0 d 47 then[4]else[])else bif A0 f 31 then(bif A0 d 17 then[4]else[])else[],look:=λf=>ci,kz:=λf i=>[],iter:=λf=>am,jg:=adV.get,sC:=ab8.get,mP:=λf i=>(ajy.get f).contains i,AK:=ab7.get,pQ:=λf=>bif A0 f 67 then ac zN else am,Dq:=λf i=>bif A0 f 30 then A0 i 4 else ci,oH:=λf=>bif A0 f 67 then bv else ci,jy:=λf i=>look (aiP.get f) i [],l9:=λf i=>look (adM.get f) i [],dR:=agV.get,Tl:=ahh.get,shr:=λf i=>(alh.get f).contains i,gu:=adz.get,live:=λf i=>look (S8.get f) i [],fT:=λf i=>look (Zx.get f) i [],jF:=λf i=>BC (QJ.get f) i,p9:=λf i=>BC (QH.get f) i,GQ:=λf i=>BC (QK.get f) i}
@[simp]theorem abY:ak.P=Tryz.prog:=rfl
def okF(C:aH)(f:Nat):Bool:=match C.P.funcs[f]? with|some fn=>(match fn.body with|some c=>(C.ext f).isSome||qt C f c|none=>bv)|none=>bv
omit[lg]in theorem ah4{C:aH}{f:Nat}{fn:Func}{c:Code}(h:okF C f=bv)(hx:C.ext f=am)(hf:C.P.funcs[f]? =ac fn)(hb:fn.body=ac c):qt C f c=true:=by unfold okF at h;rw[hf]at h;simp only[hb,hx,Option.isSome_none,Bool.false_or]at h;exact h
theorem ah3:(List.range 239).all (okF ak)=true:=by kernel_rfl
omit[lg]in theorem al0:decide (Tryz.prog.funcs.size<=239)=true:=by kernel_rfl
omit[lg]in theorem ahw:(Tryz.prog.funcs.toList.all λfn=> !(fn.name== "runtime.NumGoroutine"))=true:=by kernel_rfl
theorem abX:tZ ak.P:=λf fn hf=>by have:=List.all_eq_true.1 ahw fn (by have:=Array.mem_of_getElem? hf;simpa using this);simpa using this
theorem QN:ke ak:=⟨abX,(λk p h=>by cases h),(λk h=>by cases h)⟩
theorem QO:ak.P.follows .mixedOrders=true:=by kernel_rfl
theorem QM:∀f i,iF (ak.live f i):=λf i=>ag1 (S8.An (p:=JG) (by kernel_rfl) f) i
theorem QL:tU ak:=⟨λf i b l h=>MA (i:=i) (QJ.An (p:=C6) (by kernel_rfl) f) h,λf i b l h=>MA (i:=i) (QH.An (p:=C6) (by kernel_rfl) f) h,λf i b l h=>MA (i:=i) (QK.An (p:=C6) (by kernel_rfl) f) h⟩
theorem abp{g:List U->Option (U×List U)}(hg:g=AE 1){args:List U}{r:U×List U}(h:g args=ac r):Sound ak 80 args r:=by haveI:eM ak 36 (.slice 3):=⟨Tryz.underlying36⟩;haveI:tT ak 3 1:=⟨by kernel_rfl⟩;haveI:lz ak 3 [.val (.int .i64 0)]:=⟨by kernel_rfl⟩;haveI:ek ak 3 ci 1:=⟨by kernel_rfl,by kernel_rfl⟩;exact(abv (C:=ak) (f:=80) (e:=3) (m:=1) (bb:=ci) (gR:=[.val (.int .i64 0)]) (by rfl) QN QO QM QL (λ_=>rfl) (λ_=>rfl) (λ_=>rfl) (λ_=>rfl) (λ_=>rfl) (λ_=>rfl) rfl rfl Tryz.func80 Tryz.ntmps80 (by rfl) (by rfl) hg h).sound (by rfl)
theorem abi{g:List U->Option (U×List U)}(hg:g=y8){args:List U}{r:U×List U}(h:g args=ac r):Sound ak 120 args r:=(agc (k:=5) (zs:=Lib.pow10Tab) (C:=ak) Tryz.func120 (by rfl) (by rfl) (by rfl) (by kernel_rfl) Tryz.strconv_Itoa hg h).sound (by rfl)
theorem abm{g:List U->Option (U×List U)}(hg:g=yX){args:List U}{r:U×List U}(h:g args=ac r):Sound ak 159 args r:=(af4 (C:=ak) Tryz.func159 (by rfl) (by rfl) Tryz.strings_IndexByte hg h).sound (by rfl)
theorem abn{g:List U->Option (U×List U)}(hg:g=yd){args:List U}{r:U×List U}(h:g args=ac r):Sound ak 184 args r:=(abr (C:=ak) Tryz.func184 (by rfl) (by rfl) Tryz.stringslite_Clone hg h).sound (by rfl)
theorem abl{g:List U->Option (U×List U)}(hg:g=ye){args:List U}{r:U×List U}(h:g args=ac r):Sound ak 150 args r:=(abD (k:=4) (m:=lg.m) (cs:=[]) (C:=ak) Tryz.func150 (by rfl) (by rfl) (by rfl) Tryz.strings_Contains hg h).sound (by rfl)
theorem abj{g:List U->Option (U×List U)}(hg:g=yH){args:List U}{r:U×List U}(h:g args=ac r):Sound ak 132 args r:=(aev (C:=ak) Tryz.func132 (by rfl) (by rfl) Tryz.strings_HasPrefix hg h).sound (by rfl)
theorem abo{g:List U->Option (U×List U)}(hg:g=y9){args:List U}{r:U×List U}(h:g args=ac r):Sound ak 51 args r:=(agk (C:=ak) Tryz.func51 (by rfl) (by rfl) Tryz.strings_Join_none Tryz.strings_Join hg h).sound (by rfl)
theorem abk{g:List U->Option (U×List U)}(hg:g=yW){args:List U}{r:U×List U}(h:g args=ac r):Sound ak 134 args r:=(af5 (k:=4) (m:=lg.m) (cs:=[]) (C:=ak) Tryz.func134 (by rfl) (by rfl) (by rfl) Tryz.strings_Index hg h).sound (by rfl)
theorem abW:Good ak where
 count:=QN
 wide:=QO
 live:=QM
 cut:=QL
 free:=λf fn c hx hf hb=>by
  have hlt:f<239:=by
   have h1:f<ak.P.funcs.size:=by
    rcases Nat.lt_or_ge f ak.P.funcs.size with h|h
    ·exact h
    ·rw[Array.getElem?_eq_none h]at hf;cases hf
   have h2:=of_decide_eq_true al0
   rw[abY]at h1
   exact Nat.lt_of_lt_of_le h1 h2
  exact ah4 (List.all_eq_true.1 ah3 f (List.mem_range.2 hlt)) hx hf hb
 ext:=λf g args r h h2=>by
  have h:(bif A0 f 80 then ac (AE 1)else bif A0 f 120 then ac y8 else bif A0 f 159 then ac yX else bif A0 f 184 then ac yd else bif A0 f 150 then ac ye else bif A0 f 132 then ac yH else bif A0 f 51 then ac y9 else bif A0 f 134 then ac yW else am)=ac g:=h
  cases Lf:A0 f 80 with
  |true=>
   simp only[Lf,cond_true,GE]at h
   rw[Do Lf]
   exact abp h.symm h2
  |false=>
   simp only[Lf,cond_false]at h
   cases K8:A0 f 120 with
   |true=>
    simp only[K8,cond_true,GE]at h
    rw[Do K8]
    exact abi h.symm h2
   |false=>
    simp only[K8,cond_false]at h
    cases Lc:A0 f 159 with
    |true=>
     simp only[Lc,cond_true,GE]at h
     rw[Do Lc]
     exact abm h.symm h2
    |false=>
     simp only[Lc,cond_false]at h
     cases Ld:A0 f 184 with
     |true=>
      simp only[Ld,cond_true,GE]at h
      rw[Do Ld]
      exact abn h.symm h2
     |false=>
      simp only[Ld,cond_false]at h
      cases Lb:A0 f 150 with
      |true=>
       simp only[Lb,cond_true,GE]at h
       rw[Do Lb]
       exact abl h.symm h2
      |false=>
       simp only[Lb,cond_false]at h
       cases K9:A0 f 132 with
       |true=>
        simp only[K9,cond_true,GE]at h
        rw[Do K9]
        exact abj h.symm h2
       |false=>
        simp only[K9,cond_false]at h
        cases Le:A0 f 51 with
        |true=>
         simp only[Le,cond_true,GE]at h
         rw[Do Le]
         exact abo h.symm h2
        |false=>
         simp only[Le,cond_false]at h
         cases La:A0 f 134 with
         |true=>
          simp only[La,cond_true,GE]at h
          rw[Do La]
          exact abk h.symm h2
         |false=>
          simp only[La,cond_false]at h
          cases h
 oH:=λf h=>by
  cases A6:A0 f 67 with
  |true=>rw[Do A6];exact af6
  |false=>
  have h:(bif A0 f 67 then bv else ci)=true:=h
  simp only[A6,cond_false,Bool.false_eq_true]at h
 pQ:=λf g h=>by
  cases A6:A0 f 67 with
  |true=>
   have h:(bif A0 f 67 then ac zN else am)=ac g:=h
   rw[A6]at h
   obtain rfl:=Option.some.inj h
   rw[Do A6];exact aj0 rfl rfl
  |false=>
  have h:(bif A0 f 67 then ac zN else am)=ac g:=h
  simp only[A6,cond_false]at h
  cases h
end Go.Ab
