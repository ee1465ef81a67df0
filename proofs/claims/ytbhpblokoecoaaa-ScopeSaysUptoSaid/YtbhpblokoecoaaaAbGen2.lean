/-
  Functions of the program as functions on plain data (written by gen3.py).
-/
import Derived.Test.YtbhpblokoecoaaaAbGen1
namespace Go.Ab
open Go Go.Proofs
/-! (turnery/tree.checker).node -/
noncomputable def tree_checker_node_L1 (a0 : XTree_checker) (x1 : XApi_Node) (y8 : Int) (y9 : Int) : Option (Lp (Int × Int) (Br Int (Int × XTree_checker))) :=
 if (decide (0 ≤ y9)) then
 ((if (y8 == 0) then
 (some true)
 else
 ((idx x1.Kids y9).bind fun x4 =>
 some (x4 != (w64 (y8 - 1))))).bind fun p1 =>
 if p1 then
 (some (.out (.ret (5, a0))))
 else
 ((idx a0.first (w64 (y8 - 1))).bind fun x5 =>
 (idx x1.Kids y9).bind fun x6 =>
 (idx a0.t.Nodes x6).bind fun x7 =>
 (tree_kid x1 y9 x7.Kind).bind fun x8 =>
 if (!x8) then
 (some (.out (.ret (5, a0))))
 else
 (some (.next (x5, (w64 (y9 - 1)))))))
 else
 (some (.out (.brk y8)))
noncomputable def tree_checker_node (a0 : XTree_checker) (a1 : Int) : Option (Int × XTree_checker) :=
 (idx a0.t.Nodes a1).bind fun x1 =>
 (tree_known x1.Kind).bind fun x2 =>
 if (!x2) then
 (some (4, a0))
 else
 ((tree_shape x1.Kind).bind fun x3 =>
 if (if (decide ((x1.Kids.length : Int) < x3.1)) then true else (if (decide (0 ≤ x3.2)) then (decide (x3.2 < (x1.Kids.length : Int))) else false)) then
 (some (9, a0))
 else
 ((Loop (fun (s : (Int × Int)) => tree_checker_node_L1 a0 x1 s.1 s.2) (a1, (w64 ((x1.Kids.length : Int) - 1)))).bind (Br.go (fun v1 =>
 (idx a0.first a1).bind fun x9 =>
 ((tree_named x1.Kind).bind fun x10 =>
 if x10 then
 ((core_Name x1.Text).bind fun x11 =>
 some (!x11))
 else
 (some false)).bind fun p2 =>
 if p2 then
 (some (12, (XTree_checker.mk a0.t (List.set a0.first ((a1) : Int).toNat v1))))
 else
 (((tree_named x1.Kind).bind fun x12 =>
 if (!x12) then
 ((tree_sign x1.Kind x1.Text).bind fun x13 =>
 some (!x13))
 else
 (some false)).bind fun p3 =>
 if p3 then
 (some (1, (XTree_checker.mk a0.t (List.set a0.first ((a1) : Int).toNat v1))))
 else
 ((tree_numbers x1).bind fun x14 =>
 if (if (!x14) then true else (decide (x1.At < 0))) then
 (some (3, (XTree_checker.mk a0.t (List.set a0.first ((a1) : Int).toNat v1))))
 else
 (some (0, (XTree_checker.mk a0.t (List.set a0.first ((a1) : Int).toNat v1))))))) (fun r1 => some r1))))
abbrev R_tree_checker_node (r : (Int × XTree_checker)) : AV := (I r.1)
def RR_tree_checker_node (r : (Int × XTree_checker)) (x : Exit × St) : Prop := x.1 = .ret ∧ Fin cx [.tmp 4] [0] (R_tree_checker_node r) [(.agg (cXTree_checker_SIOe r.2))] x
set_option maxHeartbeats 4000000 in
theorem T_tree_checker_node {nn : Nat} {a0 : XTree_checker} {a1 : Int} {r : (Int × XTree_checker)} (hF : tree_checker_node a0 a1 = some r) : den cx (nn + 4) 40 [(.agg (cXTree_checker_SIOe a0)), (I a1)] = some (R_tree_checker_node r, [(.agg (cXTree_checker_SIOe r.2))]) := by
 unfold tree_checker_node at hF
 refine fnA Try.func40 Try.ntmps40 (by exact spine) (sl := [0, 1]) ?_
 refine sr <| ww oBoxM <| pp oAssign <| nl <| sr <| pp oFAM <| pp oFAM <| rr oLdR <| pp oMove <| ?_
 refine bb hF fun x1 h1 hF => ?_
 refine pp (oIx h1) <| pp oLdA <| ww oAlloc <| ww oStF <| nl <| sq <| sr <| pp oFA <| pp oLd <| ?_
 refine bb hF fun x2 h2 hF => ?_
 refine pp (oCallZ (T_tree_known h2)) <| pp oNot <| nl <| ?_
 refine cd hF (fun hF => ?_) (fun hF => ?_)
 · refine sr <| pp oAssign <| nl <| rt <| qsR <| ?_
   obtain rfl := inj hF
   exact fin1
 · refine sk <| qs <| sr <| pp oFA <| pp oLd <| ?_
   refine bb hF fun x3 h3 hF => ?_
   refine pp (oCallZ (T_tree_shape h3)) <| pp oMove <| pp oExt <| pp oExt <| pp oAssign <| pp oAssign <| nl <| sq <| sr <| pp oFA <| pp oLd <| pp oLenSl <| pp oMove <| pp oLss <| ?_
   refine pp oMove <| pg ar oMove <| pg ar oGeq <| pg ar oMove <| pg ar oFA <| pg ar oLd <| pg ar oLenSl <| pg ar oMove <| pg ar oGtr <| pg ar oPick <| pp oPick <| nl <| ?_
   refine cd hF (fun hF => ?_) (fun hF => ?_)
   · refine sr <| pp oAssign <| nl <| rt <| qsR <| ?_
     obtain rfl := inj hF
     exact fin1
   · refine sk <| qs <| sr <| pp oMove <| pp oAssign <| nl <| sq <| sr <| pp oFA <| pp oLd <| pp oLenSl <| pp oSub <| pp oAssign <| nl <| ?_
     refine lpR (fun (s : (Int × Int)) => stN 121 [(0, (.agg [(.sl ((a0.t.Nodes).map cXApi_Node)), (.rs [1, 0, 0] 0 a0.first.length)])), (1, (I a1)), (2, (.mp [0, 2] 0 0)), (5, (.vp (cXApi_Node x1))), (8, (I s.1)), (9, (I s.2))] [([1, 0, 0], (a0.first).map cInt_i64), ([0, 2], [[(.sl ((a0.t.Nodes).map cXApi_Node)), (.rs [1, 0, 0] 0 a0.first.length)]])]) (fun (s : Int) => stN 121 [(0, (.agg [(.sl ((a0.t.Nodes).map cXApi_Node)), (.rs [1, 0, 0] 0 a0.first.length)])), (1, (I a1)), (2, (.mp [0, 2] 0 0)), (5, (.vp (cXApi_Node x1))), (8, (I s))] [([1, 0, 0], (a0.first).map cInt_i64), ([0, 2], [[(.sl ((a0.t.Nodes).map cXApi_Node)), (.rs [1, 0, 0] 0 a0.first.length)]])]) RR_tree_checker_node hF cutN' ?_ ?_ ?_
     · rintro ⟨y8, y9⟩ z1 hF
       replace hF : tree_checker_node_L1 a0 x1 y8 y9 = some z1 := hF
       unfold tree_checker_node_L1 at hF
       refine stm <| sq <| sr <| pp oMove <| pp oGeq <| nl <| ?_
       refine cd hF (fun hF => ?_) (fun hF => ?_)
       · refine sk <| qs <| sq <| bl <| sq <| ?_
         refine srC (fun (s : Bool) => stN 121 [(0, (.agg [(.sl ((a0.t.Nodes).map cXApi_Node)), (.rs [1, 0, 0] 0 a0.first.length)])), (1, (I a1)), (2, (.mp [0, 2] 0 0)), (5, (.vp (cXApi_Node x1))), (8, (I y8)), (9, (I y9)), (62, (B s))] [([1, 0, 0], (a0.first).map cInt_i64), ([0, 2], [[(.sl ((a0.t.Nodes).map cXApi_Node)), (.rs [1, 0, 0] 0 a0.first.length)]])]) hF (fun z2 hF => ?_) (fun p1 hF => ?_)
         · refine pp oMove <| pp oEql <| pp oMove <| ?_
           refine spl (d := 53) hF (fun hF => ?_) (fun hF => ?_)
           · refine no fun u1 k1 hk1 => ?_
             refine no fun u2 k2 hk2 => ?_
             refine no fun u3 k3 hk3 => ?_
             refine no fun u4 k4 hk4 => ?_
             refine no fun u5 k5 hk5 => ?_
             refine no fun u6 k6 hk6 => ?_
             refine no fun u7 k7 hk7 => ?_
             refine no fun u8 k8 hk8 => ?_
             refine pp oPickT <| ?_
             obtain rfl := inj hF
             exact nlC cutN'
           · refine pt ar oFA <| pt ar oLd <| pt ar oMove <| ?_
             refine bb hF fun x4 h4 hF => ?_
             refine pt ar (oIx h4) <| pt ar oLd <| pt ar oMove <| pt ar oSub <| pt ar oNeq <| pp oPickF <| ?_
             obtain rfl := inj hF
             exact nlC cutN'
         · refine stm <| ?_
           refine cd hF (fun hF => ?_) (fun hF => ?_)
           · refine sr <| pp oAssign <| nl <| rt <| qsR <| qbR <| qsR <| ?_
             exact lr hF ⟨rfl, fin1⟩
           · refine sk <| qs <| sr <| pp oFAM <| rr oLdR <| pp oMove <| pp oSub <| ?_
             refine bb hF fun x5 h5 hF => ?_
             refine rr (oIxM h5) <| rr (oLdM (idx_nat h5)) <| pp oAssign <| nl <| srD <| pp oLdA <| pp oMove <| pp oFAM <| pp oFAM <| rr oLdR <| pp oFA <| pp oLd <| pp oMove <| ?_
             refine bb hF fun x6 h6 hF => ?_
             refine pp (oIx h6) <| pp oLd <| ?_
             refine bb hF fun x7 h7 hF => ?_
             refine pp (oIx h7) <| pp oFA <| pp oLd <| ?_
             refine bb hF fun x8 h8 hF => ?_
             refine pp (oCallZ (T_tree_kid h8)) <| pp oNot <| nlD <| ?_
             refine cd hF (fun hF => ?_) (fun hF => ?_)
             · refine sr <| pp oAssign <| nl <| rt <| qbR <| qsR <| ?_
               exact lr hF ⟨rfl, fin1⟩
             · refine sk <| qb <| qs <| rg <| pp oMove <| pp oSub <| pp oAssign <| nl <| ?_
               exact ln hF cutN'
       · refine ex <| qsE <| ?_
         exact lxR hF cutN'
     · intro v1 hF
       refine qst <| qs <| sr <| pp oFAM <| rr oLdR <| pp oMove <| pp oMove <| ?_
       refine bb hF fun x9 h9 hF => ?_
       refine rr (oIxM h9) <| ww (oStL (idx_nat h9) v1) <| nl <| sq <| bl <| ?_
       refine srC (fun (s : Bool) => mkSt 121 [0, 5, 89] [(.agg (cXTree_checker_SIOe (XTree_checker.mk a0.t (List.set a0.first ((a1) : Int).toNat v1)))), (.vp (cXApi_Node x1)), (B s)]) hF (fun z4 hF => ?_) (fun p2 hF => ?_)
       · refine pp oFA <| pp oLd <| ?_
         refine bb hF fun x10 h10 hF => ?_
         refine pp (oCallZ (T_tree_named h10)) <| pp oMove <| ?_
         refine spl (d := 93) hF (fun hF => ?_) (fun hF => ?_)
         · refine pt ar oFA <| pt ar oLd <| ?_
           refine bb hF fun x11 h11 hF => ?_
           refine pt ar (oCallZ (T_core_Name h11)) <| pt ar oNot <| pp oPickT <| pp oAssign <| ?_
           obtain rfl := inj hF
           exact nlC cutR'
         · refine no fun u9 k9 hk9 => ?_
           refine no fun u10 k10 hk10 => ?_
           refine no fun u11 k11 hk11 => ?_
           refine no fun u12 k12 hk12 => ?_
           refine pp oPickF <| pp oAssign <| ?_
           obtain rfl := inj hF
           exact nlC cutR'
       · refine mk ?_
         refine cd hF (fun hF => ?_) (fun hF => ?_)
         · refine sr <| pp oAssign <| nl <| rt <| qbR <| qsR <| ?_
           obtain rfl := inj hF
           exact fin1
         · refine srC (fun (s : Bool) => mkSt 121 [0, 5, 99] [(.agg (cXTree_checker_SIOe (XTree_checker.mk a0.t (List.set a0.first ((a1) : Int).toNat v1)))), (.vp (cXApi_Node x1)), (B s)]) hF (fun z3 hF => ?_) (fun p3 hF => ?_)
           · refine pp oFA <| pp oLd <| ?_
             refine bb hF fun x12 h12 hF => ?_
             refine pp (oCallZ (T_tree_named h12)) <| pp oNot <| pp oMove <| ?_
             refine spl (d := 104) hF (fun hF => ?_) (fun hF => ?_)
             · refine pt ar oFA <| pt ar oLd <| pt ar oFA <| pt ar oLd <| ?_
               refine bb hF fun x13 h13 hF => ?_
               refine pt ar (oCallZ (T_tree_sign h13)) <| pt ar oNot <| pp oPickT <| pp oAssign <| ?_
               obtain rfl := inj hF
               exact nlC cutR'
             · refine no fun u13 k13 hk13 => ?_
               refine no fun u14 k14 hk14 => ?_
               refine no fun u15 k15 hk15 => ?_
               refine no fun u16 k16 hk16 => ?_
               refine no fun u17 k17 hk17 => ?_
               refine no fun u18 k18 hk18 => ?_
               refine pp oPickF <| pp oAssign <| ?_
               obtain rfl := inj hF
               exact nlC cutR'
           · refine mk ?_
             refine cd hF (fun hF => ?_) (fun hF => ?_)
             · refine sr <| pp oAssign <| nl <| rt <| qbR <| qsR <| ?_
               obtain rfl := inj hF
               exact fin1
             · refine sr <| pp oLdA <| ?_
               refine bb hF fun x14 h14 hF => ?_
               refine pp (oCallZ (T_tree_numbers h14)) <| pp oNot <| pp oMove <| pg ar oFA <| pg ar oLd <| pg ar oLss <| pp oPick <| pp oAssign <| nl <| ?_
               refine cd hF (fun hF => ?_) (fun hF => ?_)
               · refine sr <| pp oAssign <| nl <| rt <| qbR <| qsR <| ?_
                 obtain rfl := inj hF
                 exact fin1
               · refine sk <| qb <| qs <| sr <| pp oAssign <| nl <| rt <| ?_
                 obtain rfl := inj hF
                 exact fin1
     · rintro r1 hF ⟨xe, xs⟩ ⟨hxe, hfin⟩
       obtain rfl : xe = Exit.ret := hxe
       obtain rfl := inj hF
       refine qbR <| qsR <| ?_
       exact hfin

/-! turnery/ast.Deep -/
noncomputable def ast_Deep_L2 (y8 : Int) (x2 : XApi_Node) (y18 : (List Int)) (y19 : Int) : Option (Lp ((List Int) × Int) (List Int)) :=
 if (decide (y19 < (x2.Kids.length : Int))) then
 ((idx x2.Kids y19).bind fun x3 =>
 (idx y18 y8).bind fun x4 =>
 (idx y18 x3).bind fun x5 =>
 (idx y18 y8).bind fun x6 =>
 some (.next ((List.set y18 ((y8) : Int).toNat (max x4 x5)), (w64 (y19 + 1)))))
 else
 (some (.out y18))
noncomputable def ast_Deep_L1 (a0 : XApi_Tree) (y6 : (List Int)) (y7 : Int) (y8 : Int) : Option (Lp ((List Int) × Int × Int) Int) :=
 if (decide (y8 < (a0.Nodes.length : Int))) then
 ((idx a0.Nodes y8).bind fun x2 =>
 (Loop (fun (s : ((List Int) × Int)) => ast_Deep_L2 y8 x2 s.1 s.2) (y6, 0)).bind fun v1 =>
 (idx v1 y8).bind fun x7 =>
 (idx v1 y8).bind fun x8 =>
 (idx (List.set v1 ((y8) : Int).toNat (w64 (x7 + 1))) y8).bind fun x9 =>
 some (.next ((List.set v1 ((y8) : Int).toNat (w64 (x7 + 1))), (max y7 x9), (w64 (y8 + 1)))))
 else
 (some (.out y7))
noncomputable def ast_Deep (a0 : XApi_Tree) : Option Int :=
 (mks (a0.Nodes.length : Int) (0 : Int)).bind fun x1 =>
 (Loop (fun (s : ((List Int) × Int × Int)) => ast_Deep_L1 a0 s.1 s.2.1 s.2.2) (x1, 0, 0)).bind fun v2 =>
 some v2
abbrev R_ast_Deep (r : Int) : AV := (I r)
set_option maxHeartbeats 4000000 in
theorem T_ast_Deep {nn : Nat} {a0 : XApi_Tree} {r : Int} (hF : ast_Deep a0 = some r) : den cx (nn + 1) 41 [(.agg (cXApi_Tree a0))] = some (R_ast_Deep r, []) := by
 unfold ast_Deep at hF
 refine fnA Try.func41 Try.ntmps41 (by exact spine) (sl := [0]) ?_
 refine sr <| pp oBoxF <| pp oAssign <| nl <| sr <| pp oFA <| pp oLd <| pp oLenSl <| ?_
 refine bb hF fun x1 h1 hF => ?_
 refine ww (oMake (c := cInt_i64) h1 rfl) <| pp oAssign <| nl <| sr <| pp oAssign <| nl <| sq <| sr <| pp oFA <| pp oLd <| pp oLenSl <| pp oMove <| nl <| ?_
 refine lp (fun (s : ((List Int) × Int × Int)) => mkSt 55 [3, 4, 14, 15, 16] [(.own ((s.1).map cInt_i64) (s.1).length), (I s.2.1), (.sl ((a0.Nodes).map cXApi_Node)), (I (a0.Nodes.length : Int)), (I s.2.2)]) (fun (s : Int) => mkSt 55 [4] [(I s)]) hF cutR' ?_ ?_
 · rintro ⟨y6, y7, y8⟩ z1 hF
   replace hF : ast_Deep_L1 a0 y6 y7 y8 = some z1 := hF
   unfold ast_Deep_L1 at hF
   refine mk ?_
   refine sr <| pp oLss <| nl <| sq <| ?_
   refine cd hF (fun hF => ?_) (fun hF => ?_)
   · refine sk <| qs <| sq <| bl <| sr <| pp oMove <| ?_
     refine bb hF fun x2 h2 hF => ?_
     refine pp (oIx h2) <| pp oLdA <| ww oAlloc <| pp oAssign <| ww oStF <| nl <| sq <| sr <| pp oFA <| pp oLd <| pp oLenSl <| pp oMove <| nl <| ?_
     refine lp (fun (s : ((List Int) × Int)) => mkSt 55 [3, 4, 5, 14, 15, 16, 22, 23, 24] [(.own ((s.1).map cInt_i64) (s.1).length), (I y7), (I y8), (.sl ((a0.Nodes).map cXApi_Node)), (I (a0.Nodes.length : Int)), (I y8), (.sl ((x2.Kids).map cInt_i64)), (I (x2.Kids.length : Int)), (I s.2)]) (fun (s : (List Int)) => mkSt 55 [3, 4, 5, 14, 15, 16] [(.own ((s).map cInt_i64) (s).length), (I y7), (I y8), (.sl ((a0.Nodes).map cXApi_Node)), (I (a0.Nodes.length : Int)), (I y8)]) hF cutR' ?_ ?_
     · rintro ⟨y18, y19⟩ z2 hF
       replace hF : ast_Deep_L2 y8 x2 y18 y19 = some z2 := hF
       unfold ast_Deep_L2 at hF
       refine mk ?_
       refine sr <| pp oLss <| nl <| sq <| ?_
       refine cd hF (fun hF => ?_) (fun hF => ?_)
       · refine sk <| qs <| sq <| bl <| sr <| ?_
         refine bb hF fun x3 h3 hF => ?_
         refine pp (oIx h3) <| pp oLd <| pp oAssign <| nl <| rgD <| pp oMove <| pp oMove <| pp oMove <| pp oMove <| ?_
         refine bb hF fun x4 h4 hF => ?_
         refine rr (oIxM h4) <| rr (oLdM (idx_nat h4)) <| pp oMove <| pp oMove <| ?_
         refine bb hF fun x5 h5 hF => ?_
         refine rr (oIxM h5) <| rr (oLdM (idx_nat h5)) <| pp oMax <| ?_
         refine bb hF fun x6 h6 hF => ?_
         refine rr (oIxM h6) <| ww (oStL (idx_nat h6) (max x4 x5)) <| nlD <| qb <| qs <| rg <| pp oAdd <| pp oMove <| nl <| ?_
         exact ln hF cutR'
       · refine ex <| qsE <| ?_
         exact lx hF cutR'
     · intro v1 hF
       refine qmk ?_
       refine qs <| sr <| pp oMove <| pp oMove <| ?_
       refine bb hF fun x7 h7 hF => ?_
       refine rr (oIxM h7) <| rr (oLdM (idx_nat h7)) <| pp oAdd <| ?_
       refine bb hF fun x8 h8 hF => ?_
       refine rr (oIxM h8) <| ww (oStL (idx_nat h8) (w64 (x7 + 1))) <| nl <| rg <| pp oMove <| pp oMove <| pp oMove <| ?_
       refine bb hF fun x9 h9 hF => ?_
       refine rr (oIxM h9) <| rr (oLdM (idx_nat h9)) <| pp oMax <| pp oAssign <| nl <| qb <| qs <| rg <| pp oAdd <| pp oMove <| nl <| ?_
       exact ln hF cutR'
   · refine ex <| qsE <| ?_
     exact lx hF cutR'
 · intro v2 hF
   refine qmk ?_
   refine qs <| sr <| pp oMove <| pp oAssign <| nl <| rt <| ?_
   obtain rfl := inj hF
   exact fin1

/-! turnery/tree.Check -/
noncomputable def tree_Check_L1 (a0 : XApi_Tree) (y6 : XTree_checker) (y7 : Int) : Option (Lp (XTree_checker × Int) (Br XTree_checker XApi_Fault)) :=
 if (decide (y7 < (a0.Nodes.length : Int))) then
 ((tree_checker_node y6 y7).bind fun x4 =>
 (eqLen x4.2.first y6.first).bind fun _ =>
 if (x4.1 != 0) then
 ((core_Fault x4.1 y7).bind fun x5 =>
 some (.out (.ret x5)))
 else
 (some (.next ((XTree_checker.mk y6.t x4.2.first), (w64 (y7 + 1))))))
 else
 (some (.out (.brk y6)))
noncomputable def tree_Check (a0 : XApi_Tree) : Option XApi_Fault :=
 (core_Within (a0.Nodes.length : Int) 1 600).bind fun x1 =>
 if (!x1) then
 ((core_Fault 2 0).bind fun x2 =>
 some x2)
 else
 ((mks (a0.Nodes.length : Int) (0 : Int)).bind fun x3 =>
 (Loop (fun (s : (XTree_checker × Int)) => tree_Check_L1 a0 s.1 s.2) ((XTree_checker.mk a0 x3), 0)).bind (Br.go (fun v1 =>
 (idx v1.first (w64 ((a0.Nodes.length : Int) - 1))).bind fun x6 =>
 if (x6 != 0) then
 ((core_Fault 5 (w64 ((a0.Nodes.length : Int) - 1))).bind fun x7 =>
 some x7)
 else
 ((ast_Deep a0).bind fun x8 =>
 if (decide (40 < x8)) then
 ((core_Fault 10 0).bind fun x9 =>
 some x9)
 else
 (some (XApi_Fault.mk 0 0)))) (fun r1 => some r1)))
abbrev R_tree_Check (r : XApi_Fault) : AV := (.agg (cXApi_Fault r))
def RR_tree_Check (r : XApi_Fault) (x : Exit × St) : Prop := x.1 = .ret ∧ Fin cx [.cell 2 27] [] (R_tree_Check r) [] x
set_option maxHeartbeats 4000000 in
theorem T_tree_Check {nn : Nat} {a0 : XApi_Tree} {r : XApi_Fault} (hF : tree_Check a0 = some r) : den cx (nn + 5) 19 [(.agg (cXApi_Tree a0))] = some (R_tree_Check r, []) := by
 unfold tree_Check at hF
 refine fnA Try.func19 Try.ntmps19 (by exact spine) (sl := [0]) ?_
 refine sr <| pp oBoxF <| ww oAlloc <| nl <| sq <| sr <| pp oFA <| pp oLd <| pp oLenSl <| ?_
 refine bb hF fun x1 h1 hF => ?_
 refine pp (oCallZ (T_core_Within h1)) <| pp oNot <| nl <| ?_
 refine cd hF (fun hF => ?_) (fun hF => ?_)
 · refine sr <| ?_
   refine bb hF fun x2 h2 hF => ?_
   refine pp (oCall (T_core_Fault h2)) <| ww oStR <| nl <| rt <| qsR <| ?_
   obtain rfl := inj hF
   exact fin1
 · refine sk <| qs <| srD <| pp oLdA <| pp oFA <| pp oLd <| pp oLenSl <| ?_
   refine bb hF fun x3 h3 hF => ?_
   refine ww (oMake (c := cInt_i64) h3 rfl) <| pp oBuild <| ww oAlloc <| ww oStR <| nlD <| sq <| sr <| pp oFA <| pp oLd <| pp oLenSl <| pp oMove <| nl <| ?_
   refine lpR (fun (s : (XTree_checker × Int)) => mkSt 52 [1, 2, 3, 20, 21] [(.vp (cXApi_Tree a0)), (.ownp (cXApi_Fault (XApi_Fault.mk 0 0))), (.ownp (cXTree_checker_SIOe s.1)), (I (a0.Nodes.length : Int)), (I s.2)]) (fun (s : XTree_checker) => mkSt 52 [1, 2, 3] [(.vp (cXApi_Tree a0)), (.ownp (cXApi_Fault (XApi_Fault.mk 0 0))), (.ownp (cXTree_checker_SIOe s))]) RR_tree_Check hF cutR' ?_ ?_ ?_
   · rintro ⟨y6, y7⟩ z1 hF
     replace hF : tree_Check_L1 a0 y6 y7 = some z1 := hF
     unfold tree_Check_L1 at hF
     refine mk ?_
     refine sr <| pp oLss <| nl <| sq <| ?_
     refine cd hF (fun hF => ?_) (fun hF => ?_)
     · refine sk <| qs <| sq <| bl <| sr <| pp oMove <| pp oAssign <| nl <| sr <| rr oLdRA <| pp oMove <| ?_
       refine bb hF fun x4 h4 hF => ?_
       refine bb hF fun _ l1 hF => ?_
       have l1 := eqLen_ok l1
       refine ww (oCallTZ (T_tree_checker_node h4)) <| pp oAssign <| nl <| sr <| pp oMove <| pp oNeq <| nl <| ?_
       refine cd hF (fun hF => ?_) (fun hF => ?_)
       · refine sr <| pp oMove <| pp oMove <| ?_
         refine bb hF fun x5 h5 hF => ?_
         refine pp (oCall (T_core_Fault h5)) <| ww oStR <| nl <| rt <| qbR <| qsR <| ?_
         exact lr hF ⟨rfl, fin1⟩
       · refine sk <| qb <| qs <| rg <| pp oAdd <| pp oMove <| nl <| ?_
         exact ln hF cutR'
     · refine ex <| qsE <| ?_
       exact lxR hF cutR'
   · intro v1 hF
     refine qmk ?_
     refine qs <| sq <| sr <| pp oFAM <| rr oLdR <| pp oFA <| pp oLd <| pp oLenSl <| pp oSub <| ?_
     refine bb hF fun x6 h6 hF => ?_
     refine rr (oIxM h6) <| rr (oLdM (idx_nat h6)) <| pp oNeq <| nl <| ?_
     refine cd hF (fun hF => ?_) (fun hF => ?_)
     · refine sr <| pp oFA <| pp oLd <| pp oLenSl <| pp oSub <| ?_
       refine bb hF fun x7 h7 hF => ?_
       refine pp (oCall (T_core_Fault h7)) <| ww oStR <| nl <| rt <| qsR <| ?_
       obtain rfl := inj hF
       exact fin1
     · refine sk <| qs <| sq <| sr <| pp oLdA <| ?_
       refine bb hF fun x8 h8 hF => ?_
       refine pp (oCallZ (T_ast_Deep h8)) <| pp oGtr <| nl <| ?_
       refine cd hF (fun hF => ?_) (fun hF => ?_)
       · refine sr <| ?_
         refine bb hF fun x9 h9 hF => ?_
         refine pp (oCall (T_core_Fault h9)) <| ww oStR <| nl <| rt <| qsR <| ?_
         obtain rfl := inj hF
         exact fin1
       · refine sk <| qs <| sr <| pp oBuild <| ww oStR <| nl <| rt <| ?_
         obtain rfl := inj hF
         exact fin1
   · rintro r1 hF ⟨xe, xs⟩ ⟨hxe, hfin⟩
     obtain rfl : xe = Exit.ret := hxe
     obtain rfl := inj hF
     refine qbR <| qsR <| ?_
     exact hfin

/-! turnery/ast.Kids -/

noncomputable def ast_Kids (a0 : XApi_Tree) (a1 : Int) : Option (XApi_Tree × Int) :=
 some (a0, a1)
abbrev R_ast_Kids (r : (XApi_Tree × Int)) : AV := (.fn (.func 42) [] [(.vp (cXApi_Tree r.1)), (.vp (cInt_i64 r.2))])
set_option maxHeartbeats 4000000 in
theorem T_ast_Kids {nn : Nat} {a0 : XApi_Tree} {a1 : Int} {r : (XApi_Tree × Int)} (hF : ast_Kids a0 a1 = some r) : den cx (nn + 1) 21 [(.agg (cXApi_Tree a0)), (I a1)] = some (R_ast_Kids r, []) := by
 unfold ast_Kids at hF
 refine fnA Try.func21 Try.ntmps21 (by exact spine) (sl := [0, 1]) ?_
 refine sr <| pp oBoxF <| pp oBoxF <| pp oAssign <| nl <| sr <| pp oFunc <| pp oAssign <| nl <| rt <| ?_
 obtain rfl := inj hF
 exact fin1

/-! turnery/scope.helps -/

noncomputable def scope_helps (a0 : ByteArray) : Option Bool :=
 some (if (a0.toList == (ByteArray.mk #[114, 101, 97, 100]).toList) then true else (a0.toList == (ByteArray.mk #[112, 114, 105, 110, 116]).toList))
abbrev R_scope_helps (r : Bool) : AV := (B r)
set_option maxHeartbeats 4000000 in
theorem T_scope_helps {nn : Nat} {a0 : ByteArray} {r : Bool} (hF : scope_helps a0 = some r) : den cx (nn + 1) 22 [(AV.val (.string a0))] = some (R_scope_helps r, []) := by
 unfold scope_helps at hF
 refine fnA Try.func22 Try.ntmps22 (by exact spine) (sl := [0]) ?_
 refine sr <| pp oAssign <| nl <| sr <| pp oMove <| pp oEqlS <| pp oMove <| pg ar oMove <| pg ar oEqlS <| pp oPick <| pp oAssign <| nl <| rt <| ?_
 obtain rfl := inj hF
 exact fin1

/-! (*turnery/scope.finder).declare -/

noncomputable def scope_finder_declare (a0 : XScope_finder) (a1 : Int) : Option (Int × XScope_finder) :=
 (stk (a0.room.1, a0.room.2)).bind fun _ =>
 (idx a0.t.Nodes a1).bind fun x1 =>
 (idx (List.take a0.room.2 a0.room.1) (w64 ((a0.room.2 : Int) - 1))).bind fun x2 =>
 if (mget eqS x2 x1.Text).isSome then
 (some (7, (XScope_finder.mk a0.t a0.out ((List.set a0.room.1 ((((w64 ((a0.room.2 : Int) - 1))) : Int).toNat) x2), a0.room.2))))
 else
 ((idx a0.out a1).bind fun x3 =>
 some (0, (XScope_finder.mk a0.t (List.set a0.out ((a1) : Int).toNat a1) ((List.set a0.room.1 ((((w64 ((a0.room.2 : Int) - 1))) : Int).toNat) (mput eqS x2 x1.Text a1)), a0.room.2))))
abbrev R_scope_finder_declare (r : (Int × XScope_finder)) : AV := (I r.1)
set_option maxHeartbeats 4000000 in
theorem T_scope_finder_declare {nn : Nat} {a0 : XScope_finder} {a1 : Int} {r : (Int × XScope_finder)} (hF : scope_finder_declare a0 a1 = some r) : den cx (nn + 1) 23 [(.ownp (cXScope_finder_SIOLMe a0)), (I a1)] = some (R_scope_finder_declare r, [(.ownp (cXScope_finder_SIOLMe r.2))]) := by
 unfold scope_finder_declare at hF
 refine fnA Try.func23 Try.ntmps23 (by exact spine) (sl := [0, 1]) ?_
 refine bb hF fun _ h1 hF => ?_
 have h1 : a0.room.2 ≤ a0.room.1.length := stk_le h1
 refine sr <| pp oAssign <| nl <| sr <| pp oMove <| pp oNil <| pp oFAM <| pp oFAM <| rr oLdR <| pp oMove <| ?_
 refine bb hF fun x1 h2 hF => ?_
 refine pp (oIx h2) <| pp oFA <| pp oLd <| pp oAssign <| nl <| srD <| pp oMove <| pp oNil <| pp oFAM <| rr oLdR <| pp oMove <| pp oNil <| pp oFAM <| rr oLdR <| ?_
 refine pp (oLenRs (m := a0.room.2)) <| pp oSub <| ?_
 refine bb hF fun x2 h3 hF => ?_
 refine rr (oIxQ (idx_bt h3) (rowM (idx_take' h3))) <| ?_
 have hk1 := (idx_take' h3)
 have hk1t := idx_nat h3
 refine ww (oLdY (rowM (idx_take' h3)) setM) <| pp oAssign <| nlD <| sq <| sr <| pp oMove <| pp oMove <| rr (oLk (k := x1.Text) (l := x2) (ek := vS) (ev := vI) (zv := (0 : Int))) <| pp oMove <| pp oExt <| pp oExt <| pp oAssign <| pp oAssign <| nl <| ?_
 refine sr <| pp oMove <| nl <| ?_
 refine cd hF (fun hF => ?_) (fun hF => ?_)
 · refine sr <| pp oAssign <| nl <| rt <| qsR <| ?_
   obtain rfl := inj hF
   exact fin1
 · refine sk <| qs <| sr <| pp oMove <| pp oMove <| pp oMove <| ww (oPut (k := x1.Text) (v := a1) (l := x2) (ek := vS) (ev := vI)) <| nl <| sr <| pp oMove <| pp oNil <| pp oFAM <| rr oLdR <| pp oMove <| ?_
   refine pp oMove <| ?_
   refine bb hF fun x3 h4 hF => ?_
   refine rr (oIxM h4) <| ww (oStL (idx_nat h4) a1) <| nl <| sr <| pp oAssign <| nl <| rt <| ?_
   obtain rfl := inj hF
   exact fin1

/-! (*turnery/scope.finder).code -/

noncomputable def scope_finder_code (a0 : XScope_finder) (a1 : Int) (a2 : Int) : Option XApi_Fault :=
 if (a1 != 0) then
 ((core_Fault a1 a2).bind fun x1 =>
 some x1)
 else
 (some (XApi_Fault.mk 0 0))
abbrev R_scope_finder_code (r : XApi_Fault) : AV := (.agg (cXApi_Fault r))
set_option maxHeartbeats 4000000 in
theorem T_scope_finder_code {nn : Nat} {a0 : XScope_finder} {a1 : Int} {a2 : Int} {r : XApi_Fault} (hF : scope_finder_code a0 a1 a2 = some r) : den cx (nn + 2) 67 [(.vp (cXScope_finder a0)), (I a1), (I a2)] = some (R_scope_finder_code r, []) := by
 unfold scope_finder_code at hF
 refine fnA Try.func67 Try.ntmps67 (by exact spine) (sl := [0, 1, 2]) ?_
 refine sr <| ww oAlloc <| nl <| sq <| sr <| pp oMove <| pp oNeq <| nl <| ?_
 refine cd hF (fun hF => ?_) (fun hF => ?_)
 · refine sr <| pp oMove <| pp oMove <| ?_
   refine bb hF fun x1 h1 hF => ?_
   refine pp (oCall (T_core_Fault h1)) <| ww oStR <| nl <| rt <| qsR <| ?_
   obtain rfl := inj hF
   exact fin1
 · refine sk <| qs <| sr <| pp oBuild <| ww oStR <| nl <| rt <| ?_
   obtain rfl := inj hF
   exact fin1

/-! (*turnery/scope.finder).find -/
noncomputable def scope_finder_find_L1 (a0 : XScope_finder) (a1 : ByteArray) (a2 : Int) (y5 : Int) : Option (Lp Int (Br Unit Int)) :=
 if (decide (a2 ≤ y5)) then
 ((idx (List.take a0.room.2 a0.room.1) y5).bind fun x1 =>
 if (mget eqS x1 a1).isSome then
 (some (.out (.ret ((mget eqS x1 a1).getD (0 : Int)))))
 else
 (some (.next (w64 (y5 - 1)))))
 else
 (some (.out (.brk ())))
noncomputable def scope_finder_find (a0 : XScope_finder) (a1 : ByteArray) (a2 : Int) : Option Int :=
 (Loop (fun (s : Int) => scope_finder_find_L1 a0 a1 a2 s) (w64 (((List.take a0.room.2 a0.room.1).length : Int) - 1))).bind (Br.go (fun _ =>
 some (-1)) (fun r1 => some r1))
abbrev R_scope_finder_find (r : Int) : AV := (I r)
def RR_scope_finder_find (r : Int) (x : Exit × St) : Prop := x.1 = .ret ∧ Fin cx [.tmp 6] [] (R_scope_finder_find r) [] x
set_option maxHeartbeats 4000000 in
theorem T_scope_finder_find {nn : Nat} {a0 : XScope_finder} {a1 : ByteArray} {a2 : Int} {r : Int} (hF : scope_finder_find a0 a1 a2 = some r) : den cx (nn + 1) 68 [(.vp (cXScope_finder a0)), (AV.val (.string a1)), (I a2)] = some (R_scope_finder_find r, []) := by
 unfold scope_finder_find at hF
 refine fnA Try.func68 Try.ntmps68 (by exact spine) (sl := [0, 1, 2]) ?_
 refine sr <| pp oAssign <| nl <| sq <| sr <| pp oMove <| pp oNil <| pp oFA <| pp oLd <| pp oLenSl <| pp oSub <| pp oAssign <| nl <| ?_
 refine lpR (fun (s : Int) => mkSt 35 [0, 1, 2, 7] [(.vp (cXScope_finder a0)), (AV.val (.string a1)), (I a2), (I s)]) (fun (s : Unit) => mkSt 35 [] []) RR_scope_finder_find hF cutR' ?_ ?_ ?_
 · rintro y5 z1 hF
   replace hF : scope_finder_find_L1 a0 a1 a2 y5 = some z1 := hF
   unfold scope_finder_find_L1 at hF
   refine mk ?_
   refine sq <| sr <| pp oMove <| pp oMove <| pp oGeq <| nl <| ?_
   refine cd hF (fun hF => ?_) (fun hF => ?_)
   · refine sk <| qs <| sq <| bl <| sr <| pp oMove <| pp oNil <| pp oFA <| pp oLd <| pp oMove <| ?_
     refine bb hF fun x1 h1 hF => ?_
     refine pp (oIx h1) <| pp oLd <| pp oMove <| pp (oLkI (k := a1) (l := x1) (ek := vS) (ev := vI) (zv := (0 : Int))) <| pp oMove <| pp oExt <| pp oExt <| pp oAssign <| pp oAssign <| nl <| sr <| pp oMove <| nl <| ?_
     refine cd hF (fun hF => ?_) (fun hF => ?_)
     · refine sr <| pp oMove <| pp oAssign <| nl <| rt <| qbR <| qsR <| ?_
       exact lr hF ⟨rfl, fin1⟩
     · refine sk <| qb <| qs <| rg <| pp oMove <| pp oSub <| pp oAssign <| nl <| ?_
       exact ln hF cutR'
   · refine ex <| qsE <| ?_
     exact lxR hF cutR'
 · intro _ hF
   refine qmk ?_
   refine qs <| sr <| pp oAssign <| nl <| rt <| ?_
   obtain rfl := inj hF
   exact fin1
 · rintro r1 hF ⟨xe, xs⟩ ⟨hxe, hfin⟩
   obtain rfl : xe = Exit.ret := hxe
   obtain rfl := inj hF
   refine qbR <| qsR <| ?_
   exact hfin

/-! (*turnery/scope.finder).all -/
noncomputable def scope_finder_all_L1 (rc43 : XScope_finder → Int → Option (XApi_Fault × XScope_finder)) (a1 : (List Int)) (y6 : XScope_finder) (y7 : Int) : Option (Lp (XScope_finder × Int) (Br XScope_finder (XApi_Fault × XScope_finder))) :=
 (stk (y6.room.1, y6.room.2)).bind fun _ =>
 if (decide (y7 < (a1.length : Int))) then
 ((idx a1 y7).bind fun x1 =>
 (rc43 (XScope_finder.mk y6.t y6.out (y6.room.1, y6.room.2)) x1).bind fun x2 =>
 if (!((x2.1.Code == 0) && ((x2.1.At == 0) && true))) then
 (some (.out (.ret (x2.1, x2.2))))
 else
 (some (.next (x2.2, (w64 (y7 + 1))))))
 else
 (some (.out (.brk (XScope_finder.mk y6.t y6.out (y6.room.1, y6.room.2)))))
noncomputable def scope_finder_all_B (fu : Nat) (rc24 : XScope_finder → (List Int) → Option (XApi_Fault × XScope_finder)) (rc66 : XScope_finder → (List Int) → Option (XApi_Fault × XScope_finder)) (rc43 : XScope_finder → Int → Option (XApi_Fault × XScope_finder)) (a0 : XScope_finder) (a1 : (List Int)) : Option (XApi_Fault × XScope_finder) :=
 (stk (a0.room.1, a0.room.2)).bind fun _ =>
 (Loop (fun (s : (XScope_finder × Int)) => scope_finder_all_L1 rc43 a1 s.1 s.2) ((XScope_finder.mk a0.t a0.out (a0.room.1, a0.room.2)), 0)).bind (Br.go (fun v1 =>
 (stk (v1.room.1, v1.room.2)).bind fun _ =>
 some ((XApi_Fault.mk 0 0), (XScope_finder.mk v1.t v1.out (v1.room.1, v1.room.2)))) (fun r1 => some r1))
/-! (*turnery/scope.finder).within -/

noncomputable def scope_finder_within_B (fu : Nat) (rc24 : XScope_finder → (List Int) → Option (XApi_Fault × XScope_finder)) (rc66 : XScope_finder → (List Int) → Option (XApi_Fault × XScope_finder)) (rc43 : XScope_finder → Int → Option (XApi_Fault × XScope_finder)) (a0 : XScope_finder) (a1 : (List Int)) : Option (XApi_Fault × XScope_finder) :=
 (stk (a0.room.1, a0.room.2)).bind fun _ =>
 (app (List.take a0.room.2 a0.room.1) [([] : (List (ByteArray × Int)))]).bind fun x1 =>
 ((rc24 (XScope_finder.mk a0.t a0.out ((List.set x1 (((((((List.take a0.room.2 a0.room.1)).length : Nat) : Int)) : Int).toNat) ([] : (List (ByteArray × Int)))), (List.set x1 (((((((List.take a0.room.2 a0.room.1)).length : Nat) : Int)) : Int).toNat) ([] : (List (ByteArray × Int)))).length)) a1).bind fun x2 =>
 some (x2.2, x2.1)).bind fun p1 =>
 (stk (p1.1.room.1, p1.1.room.2)).bind fun _ =>
 (cutN p1.1.room.2 (w64 ((p1.1.room.2 : Int) - 1))).bind fun x3 =>
 some (p1.2, (XScope_finder.mk p1.1.t p1.1.out (p1.1.room.1, x3)))
/-! (*turnery/scope.finder).walk -/
noncomputable def scope_finder_walk_J1 (rc24 : XScope_finder → (List Int) → Option (XApi_Fault × XScope_finder)) (x1 : XApi_Node) (y1 : XScope_finder) : Option (XApi_Fault × XScope_finder) :=
 (stk (y1.room.1, y1.room.2)).bind fun _ =>
 (rc24 (XScope_finder.mk y1.t y1.out (y1.room.1, y1.room.2)) x1.Kids).bind fun x2 =>
 some (x2.1, x2.2)
noncomputable def scope_finder_walk_J2 (rc24 : XScope_finder → (List Int) → Option (XApi_Fault × XScope_finder)) (rc66 : XScope_finder → (List Int) → Option (XApi_Fault × XScope_finder)) (a0 : XScope_finder) (a1 : Int) (x1 : XApi_Node) (y2 : Bool) : Option (XApi_Fault × XScope_finder) :=
 (stk ((a0.room.1, a0.room.2).1, (a0.room.1, a0.room.2).2)).bind fun _ =>
 if y2 then
 ((rc66 (XScope_finder.mk a0.t a0.out ((a0.room.1, a0.room.2).1, (a0.room.1, a0.room.2).2)) x1.Kids).bind fun x3 =>
 some (x3.1, x3.2))
 else
 (if (x1.Kind == 4) then
 ((scope_finder_declare (XScope_finder.mk a0.t a0.out ((a0.room.1, a0.room.2).1, (a0.room.1, a0.room.2).2)) a1).bind fun x4 =>
 (scope_finder_code x4.2 x4.1 a1).bind fun x5 =>
 some (x5, x4.2))
 else
 (if (x1.Kind == 12) then
 ((rc24 (XScope_finder.mk a0.t a0.out ((a0.room.1, a0.room.2).1, (a0.room.1, a0.room.2).2)) x1.Kids).bind fun x6 =>
 if (!((x6.1.Code == 0) && ((x6.1.At == 0) && true))) then
 (some (x6.1, x6.2))
 else
 ((scope_finder_declare x6.2 a1).bind fun x7 =>
 (scope_finder_code x7.2 x7.1 a1).bind fun x8 =>
 some (x8, x7.2)))
 else
 (if (x1.Kind == 32) then
 ((scope_finder_find (XScope_finder.mk a0.t a0.out ((a0.room.1, a0.room.2).1, (a0.room.1, a0.room.2).2)) x1.Text 0).bind fun x9 =>
 (if (decide (x9 < 0)) then
 (some true)
 else
 ((idx a0.t.Nodes x9).bind fun x10 =>
 some (x10.Kind == 3))).bind fun p1 =>
 (stk (((a0.room.1, a0.room.2).1, (a0.room.1, a0.room.2).2).1, ((a0.room.1, a0.room.2).1, (a0.room.1, a0.room.2).2).2)).bind fun _ =>
 if p1 then
 ((core_Fault 6 a1).bind fun x11 =>
 some (x11, (XScope_finder.mk a0.t a0.out (((a0.room.1, a0.room.2).1, (a0.room.1, a0.room.2).2).1, ((a0.room.1, a0.room.2).1, (a0.room.1, a0.room.2).2).2))))
 else
 ((idx a0.out a1).bind fun x12 =>
 scope_finder_walk_J1 rc24 x1 (XScope_finder.mk a0.t (List.set a0.out ((a1) : Int).toNat x9) (((a0.room.1, a0.room.2).1, (a0.room.1, a0.room.2).2).1, ((a0.room.1, a0.room.2).1, (a0.room.1, a0.room.2).2).2))))
 else
 (if (x1.Kind == 33) then
 ((idx (List.take ((a0.room.1, a0.room.2).2) ((a0.room.1, a0.room.2).1)) 0).bind fun x13 =>
 (if (mget eqS x13 x1.Text).isSome then
 ((idx a0.t.Nodes ((mget eqS x13 x1.Text).getD (0 : Int))).bind fun x14 =>
 some (x14.Kind == 3))
 else
 (some false)).bind fun p2 =>
 (stk (((List.set ((a0.room.1, a0.room.2).1) (((0) : Int).toNat) x13), (a0.room.1, a0.room.2).2).1, ((List.set ((a0.room.1, a0.room.2).1) (((0) : Int).toNat) x13), (a0.room.1, a0.room.2).2).2)).bind fun _ =>
 if p2 then
 ((idx a0.out a1).bind fun x15 =>
 scope_finder_walk_J1 rc24 x1 (XScope_finder.mk a0.t (List.set a0.out ((a1) : Int).toNat ((mget eqS x13 x1.Text).getD (0 : Int))) (((List.set ((a0.room.1, a0.room.2).1) (((0) : Int).toNat) x13), (a0.room.1, a0.room.2).2).1, ((List.set ((a0.room.1, a0.room.2).1) (((0) : Int).toNat) x13), (a0.room.1, a0.room.2).2).2)))
 else
 ((scope_helps x1.Text).bind fun x16 =>
 if (!x16) then
 ((core_Fault 6 a1).bind fun x17 =>
 some (x17, (XScope_finder.mk a0.t a0.out (((List.set ((a0.room.1, a0.room.2).1) (((0) : Int).toNat) x13), (a0.room.1, a0.room.2).2).1, ((List.set ((a0.room.1, a0.room.2).1) (((0) : Int).toNat) x13), (a0.room.1, a0.room.2).2).2))))
 else
 (scope_finder_walk_J1 rc24 x1 (XScope_finder.mk a0.t a0.out (((List.set ((a0.room.1, a0.room.2).1) (((0) : Int).toNat) x13), (a0.room.1, a0.room.2).2).1, ((List.set ((a0.room.1, a0.room.2).1) (((0) : Int).toNat) x13), (a0.room.1, a0.room.2).2).2)))))
 else
 (scope_finder_walk_J1 rc24 x1 (XScope_finder.mk a0.t a0.out ((a0.room.1, a0.room.2).1, (a0.room.1, a0.room.2).2)))))))
noncomputable def scope_finder_walk_B (fu : Nat) (rc24 : XScope_finder → (List Int) → Option (XApi_Fault × XScope_finder)) (rc66 : XScope_finder → (List Int) → Option (XApi_Fault × XScope_finder)) (rc43 : XScope_finder → Int → Option (XApi_Fault × XScope_finder)) (a0 : XScope_finder) (a1 : Int) : Option (XApi_Fault × XScope_finder) :=
 (stk (a0.room.1, a0.room.2)).bind fun _ =>
 (idx a0.t.Nodes a1).bind fun x1 =>
 if (x1.Kind == 3) then
 (scope_finder_walk_J2 rc24 rc66 a0 a1 x1 (x1.Kind == 3))
 else
 (if (x1.Kind == 11) then
 (scope_finder_walk_J2 rc24 rc66 a0 a1 x1 (x1.Kind == 11))
 else
 (if (x1.Kind == 17) then
 (scope_finder_walk_J2 rc24 rc66 a0 a1 x1 (x1.Kind == 17))
 else
 (scope_finder_walk_J2 rc24 rc66 a0 a1 x1 (x1.Kind == 18))))
noncomputable def scope_finder_all_grp : Nat → (XScope_finder → (List Int) → Option (XApi_Fault × XScope_finder)) × (XScope_finder → (List Int) → Option (XApi_Fault × XScope_finder)) × (XScope_finder → Int → Option (XApi_Fault × XScope_finder))
 | 0 => (fun _ _ => none, fun _ _ => none, fun _ _ => none)
 | m + 1 => (scope_finder_all_B m ((scope_finder_all_grp m).1) ((scope_finder_all_grp m).2.1) ((scope_finder_all_grp m).2.2), scope_finder_within_B m ((scope_finder_all_grp m).1) ((scope_finder_all_grp m).2.1) ((scope_finder_all_grp m).2.2), scope_finder_walk_B m ((scope_finder_all_grp m).1) ((scope_finder_all_grp m).2.1) ((scope_finder_all_grp m).2.2))
noncomputable def scope_finder_all (fu : Nat) : XScope_finder → (List Int) → Option (XApi_Fault × XScope_finder) := (scope_finder_all_grp fu).1
abbrev R_scope_finder_all (r : (XApi_Fault × XScope_finder)) : AV := (.agg (cXApi_Fault r.1))
def RR_scope_finder_all (r : (XApi_Fault × XScope_finder)) (x : Exit × St) : Prop := x.1 = .ret ∧ Fin cx [.cell 4 27] [0] (R_scope_finder_all r) [(.ownp (cXScope_finder_SIOLMe r.2))] x
noncomputable def scope_finder_within (fu : Nat) : XScope_finder → (List Int) → Option (XApi_Fault × XScope_finder) := (scope_finder_all_grp fu).2.1
abbrev R_scope_finder_within (r : (XApi_Fault × XScope_finder)) : AV := (.agg (cXApi_Fault r.1))
noncomputable def scope_finder_walk (fu : Nat) : XScope_finder → Int → Option (XApi_Fault × XScope_finder) := (scope_finder_all_grp fu).2.2
abbrev R_scope_finder_walk (r : (XApi_Fault × XScope_finder)) : AV := (.agg (cXApi_Fault r.1))
set_option maxHeartbeats 4000000 in
theorem T_scope_finder_all_B {fu nn : Nat} {rc24 : XScope_finder → (List Int) → Option (XApi_Fault × XScope_finder)} {rc66 : XScope_finder → (List Int) → Option (XApi_Fault × XScope_finder)} {rc43 : XScope_finder → Int → Option (XApi_Fault × XScope_finder)} (ih24 : ∀ {a0 : XScope_finder} {a1 : (List Int)} {r : (XApi_Fault × XScope_finder)}, rc24 a0 a1 = some r → den cx (fu + nn + 2) 24 [(.ownp (cXScope_finder_SIOLMe a0)), (.sl ((a1).map cInt_i64))] = some (R_scope_finder_all r, [(.ownp (cXScope_finder_SIOLMe r.2))])) (ih66 : ∀ {a0 : XScope_finder} {a1 : (List Int)} {r : (XApi_Fault × XScope_finder)}, rc66 a0 a1 = some r → den cx (fu + nn + 2) 66 [(.ownp (cXScope_finder_SIOLMe a0)), (.sl ((a1).map cInt_i64))] = some (R_scope_finder_within r, [(.ownp (cXScope_finder_SIOLMe r.2))])) (ih43 : ∀ {a0 : XScope_finder} {a1 : Int} {r : (XApi_Fault × XScope_finder)}, rc43 a0 a1 = some r → den cx (fu + nn + 2) 43 [(.ownp (cXScope_finder_SIOLMe a0)), (I a1)] = some (R_scope_finder_walk r, [(.ownp (cXScope_finder_SIOLMe r.2))])) {a0 : XScope_finder} {a1 : (List Int)} {r : (XApi_Fault × XScope_finder)} (hF : scope_finder_all_B fu rc24 rc66 rc43 a0 a1 = some r) : den cx (fu + nn + 3) 24 [(.ownp (cXScope_finder_SIOLMe a0)), (.sl ((a1).map cInt_i64))] = some (R_scope_finder_all r, [(.ownp (cXScope_finder_SIOLMe r.2))]) := by
 unfold scope_finder_all_B at hF
 refine fnA Try.func24 Try.ntmps24 (by exact spine) (sl := [0, 1]) ?_
 refine bb hF fun _ h1 hF => ?_
 have h1 : a0.room.2 ≤ a0.room.1.length := stk_le h1
 refine sr <| ww oAlloc <| nl <| sq <| sr <| pp oMove <| pp oLenSl <| pp oMove <| nl <| ?_
 refine lpR (fun (s : (XScope_finder × Int)) => mkSt 23 [0, 4, 8, 9, 10] [(.ownp (cXScope_finder_SIOLMe s.1)), (.ownp (cXApi_Fault (XApi_Fault.mk 0 0))), (.sl ((a1).map cInt_i64)), (I (a1.length : Int)), (I s.2)]) (fun (s : XScope_finder) => mkSt 23 [0, 4] [(.ownp (cXScope_finder_SIOLMe s)), (.ownp (cXApi_Fault (XApi_Fault.mk 0 0)))]) RR_scope_finder_all hF cutR' ?_ ?_ ?_
 · rintro ⟨y6, y7⟩ z1 hF
   replace hF : scope_finder_all_L1 rc43 a1 y6 y7 = some z1 := hF
   unfold scope_finder_all_L1 at hF
   refine mk ?_
   refine bb hF fun _ h3 hF => ?_
   have h3 : y6.room.2 ≤ y6.room.1.length := stk_le h3
   refine sr <| pp oLss <| nl <| sq <| ?_
   refine cd hF (fun hF => ?_) (fun hF => ?_)
   · refine sk <| qs <| sq <| bl <| sr <| ?_
     refine bb hF fun x1 h4 hF => ?_
     refine pp (oIx h4) <| pp oLd <| pp oAssign <| nl <| sr <| pp oMove <| pp oMove <| ?_
     refine bb hF fun x2 h5 hF => ?_
     refine ww (oCallT (ih43 h5)) <| ww oAlloc <| ww oStF <| nl <| sr <| pp oLdA <| pp oBuild <| pp (oStq (eq27_neq ..)) <| nl <| ?_
     refine cd hF (fun hF => ?_) (fun hF => ?_)
     · refine sr <| pp oLdA <| ww oStR <| nl <| rt <| qbR <| qsR <| ?_
       exact lr hF ⟨rfl, fin1⟩
     · refine sk <| qb <| qs <| rg <| pp oAdd <| pp oMove <| nl <| ?_
       exact ln hF cutR'
   · refine ex <| qsE <| ?_
     exact lxR hF cutR'
 · intro v1 hF
   refine qmk ?_
   refine bb hF fun _ h6 hF => ?_
   have h6 : v1.room.2 ≤ v1.room.1.length := stk_le h6
   refine qs <| sr <| pp oBuild <| ww oStR <| nl <| rt <| ?_
   obtain rfl := inj hF
   exact fin1
 · rintro r1 hF ⟨xe, xs⟩ ⟨hxe, hfin⟩
   obtain rfl : xe = Exit.ret := hxe
   obtain rfl := inj hF
   refine qbR <| qsR <| ?_
   exact hfin
set_option maxHeartbeats 4000000 in
theorem T_scope_finder_within_B {fu nn : Nat} {rc24 : XScope_finder → (List Int) → Option (XApi_Fault × XScope_finder)} {rc66 : XScope_finder → (List Int) → Option (XApi_Fault × XScope_finder)} {rc43 : XScope_finder → Int → Option (XApi_Fault × XScope_finder)} (ih24 : ∀ {a0 : XScope_finder} {a1 : (List Int)} {r : (XApi_Fault × XScope_finder)}, rc24 a0 a1 = some r → den cx (fu + nn + 2) 24 [(.ownp (cXScope_finder_SIOLMe a0)), (.sl ((a1).map cInt_i64))] = some (R_scope_finder_all r, [(.ownp (cXScope_finder_SIOLMe r.2))])) (ih66 : ∀ {a0 : XScope_finder} {a1 : (List Int)} {r : (XApi_Fault × XScope_finder)}, rc66 a0 a1 = some r → den cx (fu + nn + 2) 66 [(.ownp (cXScope_finder_SIOLMe a0)), (.sl ((a1).map cInt_i64))] = some (R_scope_finder_within r, [(.ownp (cXScope_finder_SIOLMe r.2))])) (ih43 : ∀ {a0 : XScope_finder} {a1 : Int} {r : (XApi_Fault × XScope_finder)}, rc43 a0 a1 = some r → den cx (fu + nn + 2) 43 [(.ownp (cXScope_finder_SIOLMe a0)), (I a1)] = some (R_scope_finder_walk r, [(.ownp (cXScope_finder_SIOLMe r.2))])) {a0 : XScope_finder} {a1 : (List Int)} {r : (XApi_Fault × XScope_finder)} (hF : scope_finder_within_B fu rc24 rc66 rc43 a0 a1 = some r) : den cx (fu + nn + 3) 66 [(.ownp (cXScope_finder_SIOLMe a0)), (.sl ((a1).map cInt_i64))] = some (R_scope_finder_within r, [(.ownp (cXScope_finder_SIOLMe r.2))]) := by
 unfold scope_finder_within_B at hF
 refine fnA Try.func66 Try.ntmps66 (by exact spine) (sl := [0, 1]) ?_
 refine bb hF fun _ h1 hF => ?_
 have h1 : a0.room.2 ≤ a0.room.1.length := stk_le h1
 refine sr <| ww oAlloc <| nl <| sr <| pp oMove <| pp oMove <| pp oNil <| pp oFAM <| rr oLdR <| ww oMkMap <| ww oBSM <| ?_
 refine bb hF fun x1 h2 hF => ?_
 have hk1 := app_get h2
 refine ww (oAppO h2 lle) <| pp oNil <| pp oFAM <| ww oStR <| nl <| ?_
 refine srC (fun (s : (XScope_finder × XApi_Fault)) => mkSt 34 [0, 4, 5] [(.ownp (cXScope_finder_SIOLMe s.1)), (.ownp (cXApi_Fault (XApi_Fault.mk 0 0))), (.vp (cXApi_Fault s.2))]) hF (fun z1 hF => ?_) (fun p1 hF => ?_)
 · refine pp oMove <| pp oMove <| ?_
   refine bb hF fun x2 h3 hF => ?_
   refine ww (oCallT (ih24 h3)) <| ww oAlloc <| ww oStF <| ?_
   obtain rfl := inj hF
   exact nlC cutR'
 · refine mk ?_
   refine bb hF fun _ h4 hF => ?_
   have h4 : p1.1.room.2 ≤ p1.1.room.1.length := stk_le h4
   refine srD <| pp oMove <| pp oMove <| pp oNil <| pp oFAM <| rr oLdR <| pp oMove <| pp oNil <| pp oFAM <| rr oLdR <| pp (oLenRs (m := p1.1.room.2)) <| pp oSub <| ?_
   refine bb hF fun x3 h5 hF => ?_
   refine rr (oCut h5) <| ?_
   have h6 : x3 ≤ p1.1.room.1.length := Nat.le_trans (cutN_le h5) lle
   refine pp oNil <| pp oFAM <| ww oStR <| nlD <| sr <| pp oLdA <| ww oStR <| nl <| rt <| ?_
   obtain rfl := inj hF
   exact fin1
set_option maxHeartbeats 4000000 in
theorem T_scope_finder_walk_B {fu nn : Nat} {rc24 : XScope_finder → (List Int) → Option (XApi_Fault × XScope_finder)} {rc66 : XScope_finder → (List Int) → Option (XApi_Fault × XScope_finder)} {rc43 : XScope_finder → Int → Option (XApi_Fault × XScope_finder)} (ih24 : ∀ {a0 : XScope_finder} {a1 : (List Int)} {r : (XApi_Fault × XScope_finder)}, rc24 a0 a1 = some r → den cx (fu + nn + 2) 24 [(.ownp (cXScope_finder_SIOLMe a0)), (.sl ((a1).map cInt_i64))] = some (R_scope_finder_all r, [(.ownp (cXScope_finder_SIOLMe r.2))])) (ih66 : ∀ {a0 : XScope_finder} {a1 : (List Int)} {r : (XApi_Fault × XScope_finder)}, rc66 a0 a1 = some r → den cx (fu + nn + 2) 66 [(.ownp (cXScope_finder_SIOLMe a0)), (.sl ((a1).map cInt_i64))] = some (R_scope_finder_within r, [(.ownp (cXScope_finder_SIOLMe r.2))])) (ih43 : ∀ {a0 : XScope_finder} {a1 : Int} {r : (XApi_Fault × XScope_finder)}, rc43 a0 a1 = some r → den cx (fu + nn + 2) 43 [(.ownp (cXScope_finder_SIOLMe a0)), (I a1)] = some (R_scope_finder_walk r, [(.ownp (cXScope_finder_SIOLMe r.2))])) {a0 : XScope_finder} {a1 : Int} {r : (XApi_Fault × XScope_finder)} (hF : scope_finder_walk_B fu rc24 rc66 rc43 a0 a1 = some r) : den cx (fu + nn + 3) 43 [(.ownp (cXScope_finder_SIOLMe a0)), (I a1)] = some (R_scope_finder_walk r, [(.ownp (cXScope_finder_SIOLMe r.2))]) := by
 unfold scope_finder_walk_B at hF
 refine fnA Try.func43 Try.ntmps43 (by exact spine) (sl := [0, 1]) ?_
 refine bb hF fun _ h1 hF => ?_
 have h1 : a0.room.2 ≤ a0.room.1.length := stk_le h1
 refine sr <| ww oAlloc <| nl <| sr <| pp oMove <| pp oNil <| pp oFAM <| pp oFAM <| rr oLdR <| pp oMove <| ?_
 refine bb hF fun x1 h2 hF => ?_
 refine pp (oIx h2) <| pp oLdA <| ww oAlloc <| ww oStF <| nl <| ?_
 refine sjn (r := r) (fun (s : XScope_finder) => mkSt 128 [0, 4, 5] [(.ownp (cXScope_finder_SIOLMe s)), (.ownp (cXApi_Fault (XApi_Fault.mk 0 0))), (.vp (cXApi_Node x1))]) (fun s => scope_finder_walk_J1 rc24 x1 s) ?_ ?_
 · refine sr <| pp oFA <| pp oLd <| nl <| bl <| ?_
   refine sjn (r := r) (fun (s : Bool) => mkSt 128 [0, 1, 4, 5, 19, 20] [(.ownp (cXScope_finder_SIOLMe (XScope_finder.mk a0.t a0.out (a0.room.1, a0.room.2)))), (I a1), (.ownp (cXApi_Fault (XApi_Fault.mk 0 0))), (.vp (cXApi_Node x1)), (I x1.Kind), (B s)]) (fun s => scope_finder_walk_J2 rc24 rc66 a0 a1 x1 s) ?_ ?_
   · refine sr <| pp oEql <| pp oAssign <| nl <| ?_
     refine cd hF (fun hF => ?_) (fun hF => ?_)
     · refine sk <| ?_
       exact qj (x1.Kind == 3) hF cutR'
     · refine sr <| pp oEql <| pp oAssign <| nl <| ?_
       refine cd hF (fun hF => ?_) (fun hF => ?_)
       · refine sk <| ?_
         exact qj (x1.Kind == 11) hF cutR'
       · refine sr <| pp oEql <| pp oAssign <| nl <| ?_
         refine cd hF (fun hF => ?_) (fun hF => ?_)
         · refine sk <| ?_
           exact qj (x1.Kind == 17) hF cutR'
         · refine rg <| pp oEql <| pp oAssign <| nl <| ?_
           exact qj (x1.Kind == 18) hF cutR'
   · rintro y2 hF
     replace hF : scope_finder_walk_J2 rc24 rc66 a0 a1 x1 y2 = some r := hF
     unfold scope_finder_walk_J2 at hF
     refine mk ?_
     refine bb hF fun _ h5 hF => ?_
     have h5 : (a0.room.1, a0.room.2).2 ≤ ((a0.room.1, a0.room.2).1).length := stk_le h5
     refine cd hF (fun hF => ?_) (fun hF => ?_)
     · refine sr <| pp oMove <| pp oFA <| pp oLd <| ?_
       refine bb hF fun x3 h6 hF => ?_
       refine ww (oCallT (ih66 h6)) <| ww oStR <| nl <| rt <| qbR <| qjR <| ?_
       obtain rfl := inj hF
       exact fin1
     · refine sr <| pp oEql <| pp oAssign <| nl <| ?_
       refine cd hF (fun hF => ?_) (fun hF => ?_)
       · refine sr <| pp oMove <| pp oMove <| pp oMove <| ?_
         refine bb hF fun x4 h7 hF => ?_
         refine ww (oCallTZ (T_scope_finder_declare h7)) <| pp oMove <| ?_
         refine bb hF fun x5 h8 hF => ?_
         refine rr (oCall (T_scope_finder_code h8)) <| ww oStR <| nl <| rt <| qbR <| qjR <| ?_
         obtain rfl := inj hF
         exact fin1
       · refine sr <| pp oEql <| pp oAssign <| nl <| ?_
         refine cd hF (fun hF => ?_) (fun hF => ?_)
         · refine sq <| sr <| pp oMove <| pp oFA <| pp oLd <| ?_
           refine bb hF fun x6 h9 hF => ?_
           refine ww (oCallT (ih24 h9)) <| ww oAlloc <| ww oStF <| nl <| sr <| pp oLdA <| pp oBuild <| pp (oStq (eq27_neq ..)) <| nl <| ?_
           refine cd hF (fun hF => ?_) (fun hF => ?_)
           · refine sr <| pp oLdA <| ww oStR <| nl <| rt <| qsR <| qbR <| qjR <| ?_
             obtain rfl := inj hF
             exact fin1
           · refine sk <| qs <| sr <| pp oMove <| pp oMove <| pp oMove <| ?_
             refine bb hF fun x7 h10 hF => ?_
             refine ww (oCallTZ (T_scope_finder_declare h10)) <| pp oMove <| ?_
             refine bb hF fun x8 h11 hF => ?_
             refine rr (oCall (T_scope_finder_code h11)) <| ww oStR <| nl <| rt <| qbR <| qjR <| ?_
             obtain rfl := inj hF
             exact fin1
         · refine sr <| pp oEql <| pp oAssign <| nl <| ?_
           refine cd hF (fun hF => ?_) (fun hF => ?_)
           · refine sr <| pp oMove <| pp oFA <| pp oLd <| ?_
             refine bb hF fun x9 h12 hF => ?_
             refine rr (oCallZ (T_scope_finder_find h12)) <| pp oAssign <| nl <| sq <| ?_
             refine srC (fun (s : Bool) => mkSt 128 [0, 1, 4, 5, 7, 72] [(.ownp (cXScope_finder_SIOLMe (XScope_finder.mk a0.t a0.out ((a0.room.1, a0.room.2).1, (a0.room.1, a0.room.2).2)))), (I a1), (.ownp (cXApi_Fault (XApi_Fault.mk 0 0))), (.vp (cXApi_Node x1)), (I x9), (B s)]) hF (fun z1 hF => ?_) (fun p1 hF => ?_)
             · refine pp oMove <| pp oLss <| pp oMove <| ?_
               refine spl (d := 61) hF (fun hF => ?_) (fun hF => ?_)
               · refine no fun u1 k1 hk1 => ?_
                 refine no fun u2 k2 hk2 => ?_
                 refine no fun u3 k3 hk3 => ?_
                 refine no fun u4 k4 hk4 => ?_
                 refine no fun u5 k5 hk5 => ?_
                 refine no fun u6 k6 hk6 => ?_
                 refine no fun u7 k7 hk7 => ?_
                 refine no fun u8 k8 hk8 => ?_
                 refine no fun u9 k9 hk9 => ?_
                 refine no fun u10 k10 hk10 => ?_
                 refine pp oPickT <| ?_
                 obtain rfl := inj hF
                 exact nlC cutR'
               · refine pt ar oMove <| pt ar oNil <| pt ar oFAM <| pt ar oFAM <| rt_ ar oLdR <| pt ar oMove <| ?_
                 refine bb hF fun x10 h13 hF => ?_
                 refine pt ar (oIx h13) <| pt ar oFA <| pt ar oLd <| pt ar oEql <| pp oPickF <| ?_
                 obtain rfl := inj hF
                 exact nlC cutR'
             · refine mk ?_
               refine bb hF fun _ h14 hF => ?_
               have h14 : ((a0.room.1, a0.room.2).1, (a0.room.1, a0.room.2).2).2 ≤ (((a0.room.1, a0.room.2).1, (a0.room.1, a0.room.2).2).1).length := stk_le h14
               refine cd hF (fun hF => ?_) (fun hF => ?_)
               · refine sr <| pp oMove <| ?_
                 refine bb hF fun x11 h15 hF => ?_
                 refine pp (oCall (T_core_Fault h15)) <| ww oStR <| nl <| rt <| qsR <| qbR <| qjR <| ?_
                 obtain rfl := inj hF
                 exact fin1
               · refine sk <| qs <| rg <| pp oMove <| pp oNil <| pp oFAM <| rr oLdR <| pp oMove <| pp oMove <| ?_
                 refine bb hF fun x12 h16 hF => ?_
                 refine rr (oIxM h16) <| ww (oStL (idx_nat h16) x9) <| nl <| qb <| ?_
                 exact qj (XScope_finder.mk a0.t (List.set a0.out ((a1) : Int).toNat x9) (((a0.room.1, a0.room.2).1, (a0.room.1, a0.room.2).2).1, ((a0.room.1, a0.room.2).1, (a0.room.1, a0.room.2).2).2)) hF cutR'
           · refine sr <| pp oEql <| pp oAssign <| nl <| ?_
             refine cd hF (fun hF => ?_) (fun hF => ?_)
             · refine srD <| pp oMove <| pp oNil <| pp oFAM <| rr oLdR <| ?_
               refine bb hF fun x13 h17 hF => ?_
               refine rr (oIxQ (idx_bt h17) (rowM (idx_take' h17))) <| ?_
               have hk11 := (idx_take' h17)
               have hk11t := idx_nat h17
               refine ww (oLdY (rowM (idx_take' h17)) setM) <| pp oFA <| pp oLd <| rr (oLk (k := x1.Text) (l := x13) (ek := vS) (ev := vI) (zv := (0 : Int))) <| pp oMove <| pp oExt <| pp oExt <| pp oAssign <| pp oAssign <| nlD <| bl <| ?_
               refine srC (fun (s : Bool) => mkSt 128 [0, 1, 4, 5, 8, 96] [(.ownp (cXScope_finder_SIOLMe (XScope_finder.mk a0.t a0.out ((List.set ((a0.room.1, a0.room.2).1) (((0) : Int).toNat) x13), (a0.room.1, a0.room.2).2)))), (I a1), (.ownp (cXApi_Fault (XApi_Fault.mk 0 0))), (.vp (cXApi_Node x1)), (I ((mget eqS x13 x1.Text).getD (0 : Int))), (B s)]) hF (fun z2 hF => ?_) (fun p2 hF => ?_)
               · refine pp oMove <| pp oMove <| ?_
                 refine spl (d := 98) hF (fun hF => ?_) (fun hF => ?_)
                 · refine pt ar oMove <| pt ar oNil <| pt ar oFAM <| pt ar oFAM <| rt_ ar oLdR <| pt ar oMove <| ?_
                   refine bb hF fun x14 h18 hF => ?_
                   refine pt ar (oIx h18) <| pt ar oFA <| pt ar oLd <| pt ar oEql <| pp oPickT <| pp oAssign <| ?_
                   obtain rfl := inj hF
                   exact nlC cutR'
                 · refine no fun u11 k11 hk12 => ?_
                   refine no fun u12 k12 hk13 => ?_
                   refine no fun u13 k13 hk14 => ?_
                   refine no fun u14 k14 hk15 => ?_
                   refine no fun u15 k15 hk16 => ?_
                   refine no fun u16 k16 hk17 => ?_
                   refine no fun u17 k17 hk18 => ?_
                   refine no fun u18 k18 hk19 => ?_
                   refine no fun u19 k19 hk20 => ?_
                   refine no fun u20 k20 hk21 => ?_
                   refine pp oPickF <| pp oAssign <| ?_
                   obtain rfl := inj hF
                   exact nlC cutR'
               · refine mk ?_
                 refine bb hF fun _ h19 hF => ?_
                 have h19 : ((List.set ((a0.room.1, a0.room.2).1) (((0) : Int).toNat) x13), (a0.room.1, a0.room.2).2).2 ≤ (((List.set ((a0.room.1, a0.room.2).1) (((0) : Int).toNat) x13), (a0.room.1, a0.room.2).2).1).length := stk_le h19
                 refine cd hF (fun hF => ?_) (fun hF => ?_)
                 · refine rg <| pp oMove <| pp oNil <| pp oFAM <| rr oLdR <| pp oMove <| pp oMove <| ?_
                   refine bb hF fun x15 h20 hF => ?_
                   refine rr (oIxM h20) <| ww (oStL (idx_nat h20) ((mget eqS x13 x1.Text).getD (0 : Int))) <| nl <| qb <| qb <| ?_
                   exact qj (XScope_finder.mk a0.t (List.set a0.out ((a1) : Int).toNat ((mget eqS x13 x1.Text).getD (0 : Int))) (((List.set ((a0.room.1, a0.room.2).1) (((0) : Int).toNat) x13), (a0.room.1, a0.room.2).2).1, ((List.set ((a0.room.1, a0.room.2).1) (((0) : Int).toNat) x13), (a0.room.1, a0.room.2).2).2)) hF cutR'
                 · refine sr <| pp oFA <| pp oLd <| ?_
                   refine bb hF fun x16 h21 hF => ?_
                   refine pp (oCallZ (T_scope_helps h21)) <| pp oNot <| pp oAssign <| nl <| ?_
                   refine cd hF (fun hF => ?_) (fun hF => ?_)
                   · refine sr <| pp oMove <| ?_
                     refine bb hF fun x17 h22 hF => ?_
                     refine pp (oCall (T_core_Fault h22)) <| ww oStR <| nl <| rt <| qbR <| qbR <| qjR <| ?_
                     obtain rfl := inj hF
                     exact fin1
                   · refine sk <| qb <| qb <| ?_
                     exact qj (XScope_finder.mk a0.t a0.out (((List.set ((a0.room.1, a0.room.2).1) (((0) : Int).toNat) x13), (a0.room.1, a0.room.2).2).1, ((List.set ((a0.room.1, a0.room.2).1) (((0) : Int).toNat) x13), (a0.room.1, a0.room.2).2).2)) hF cutR'
             · refine sk <| qb <| ?_
               exact qj (XScope_finder.mk a0.t a0.out ((a0.room.1, a0.room.2).1, (a0.room.1, a0.room.2).2)) hF cutR'
 · rintro y1 hF
   replace hF : scope_finder_walk_J1 rc24 x1 y1 = some r := hF
   unfold scope_finder_walk_J1 at hF
   refine mk ?_
   refine bb hF fun _ h3 hF => ?_
   have h3 : y1.room.2 ≤ y1.room.1.length := stk_le h3
   refine sr <| pp oMove <| pp oFA <| pp oLd <| ?_
   refine bb hF fun x2 h4 hF => ?_
   refine ww (oCallT (ih24 h4)) <| ww oStR <| nl <| rt <| ?_
   obtain rfl := inj hF
   exact fin1
theorem T_scope_finder_all_grp : ∀ (fu nn : Nat), (∀ {a0 : XScope_finder} {a1 : (List Int)} {r : (XApi_Fault × XScope_finder)}, scope_finder_all fu a0 a1 = some r → den cx (fu + nn + 3) 24 [(.ownp (cXScope_finder_SIOLMe a0)), (.sl ((a1).map cInt_i64))] = some (R_scope_finder_all r, [(.ownp (cXScope_finder_SIOLMe r.2))])) ∧ (∀ {a0 : XScope_finder} {a1 : (List Int)} {r : (XApi_Fault × XScope_finder)}, scope_finder_within fu a0 a1 = some r → den cx (fu + nn + 3) 66 [(.ownp (cXScope_finder_SIOLMe a0)), (.sl ((a1).map cInt_i64))] = some (R_scope_finder_within r, [(.ownp (cXScope_finder_SIOLMe r.2))])) ∧ (∀ {a0 : XScope_finder} {a1 : Int} {r : (XApi_Fault × XScope_finder)}, scope_finder_walk fu a0 a1 = some r → den cx (fu + nn + 3) 43 [(.ownp (cXScope_finder_SIOLMe a0)), (I a1)] = some (R_scope_finder_walk r, [(.ownp (cXScope_finder_SIOLMe r.2))]))
 | 0, _ => ⟨(fun h => by cases h), (fun h => by cases h), (fun h => by cases h)⟩
 | m + 1, nn => by
  have ih := T_scope_finder_all_grp m (nn + 0)
  rw [show m + (nn + 0) + 3 = m + (nn + 1) + 2 by omega] at ih
  rw [show m + 1 + nn + 3 = m + (nn + 1) + 3 by omega]
  exact ⟨fun h => T_scope_finder_all_B (fu := m) (nn := nn + 1) (rc24 := scope_finder_all m) (rc66 := scope_finder_within m) (rc43 := scope_finder_walk m) ih.1 ih.2.1 ih.2.2 h, fun h => T_scope_finder_within_B (fu := m) (nn := nn + 1) (rc24 := scope_finder_all m) (rc66 := scope_finder_within m) (rc43 := scope_finder_walk m) ih.1 ih.2.1 ih.2.2 h, fun h => T_scope_finder_walk_B (fu := m) (nn := nn + 1) (rc24 := scope_finder_all m) (rc66 := scope_finder_within m) (rc43 := scope_finder_walk m) ih.1 ih.2.1 ih.2.2 h⟩
theorem T_scope_finder_all {fu nn : Nat} {a0 : XScope_finder} {a1 : (List Int)} {r : (XApi_Fault × XScope_finder)} (hF : scope_finder_all fu a0 a1 = some r) : den cx (fu + nn + 3) 24 [(.ownp (cXScope_finder_SIOLMe a0)), (.sl ((a1).map cInt_i64))] = some (R_scope_finder_all r, [(.ownp (cXScope_finder_SIOLMe r.2))]) := (T_scope_finder_all_grp fu nn).1 hF
theorem T_scope_finder_within {fu nn : Nat} {a0 : XScope_finder} {a1 : (List Int)} {r : (XApi_Fault × XScope_finder)} (hF : scope_finder_within fu a0 a1 = some r) : den cx (fu + nn + 3) 66 [(.ownp (cXScope_finder_SIOLMe a0)), (.sl ((a1).map cInt_i64))] = some (R_scope_finder_within r, [(.ownp (cXScope_finder_SIOLMe r.2))]) := (T_scope_finder_all_grp fu nn).2.1 hF
theorem T_scope_finder_walk {fu nn : Nat} {a0 : XScope_finder} {a1 : Int} {r : (XApi_Fault × XScope_finder)} (hF : scope_finder_walk fu a0 a1 = some r) : den cx (fu + nn + 3) 43 [(.ownp (cXScope_finder_SIOLMe a0)), (I a1)] = some (R_scope_finder_walk r, [(.ownp (cXScope_finder_SIOLMe r.2))]) := (T_scope_finder_all_grp fu nn).2.2 hF



end Go.Ab
