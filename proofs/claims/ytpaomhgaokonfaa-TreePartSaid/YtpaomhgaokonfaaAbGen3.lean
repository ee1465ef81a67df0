/-
  Functions of the program as functions on plain data (written by gen3.py).
-/
import Derived.Test.YtpaomhgaokonfaaAbGen2
namespace Go.Ab
open Go Go.Proofs
/-! turnery/ast.Deep -/
noncomputable def ast_Deep_L2 (y8 : Int) (x2 : XApi_Node) (y18 : (List Int)) (y19 : Int) : Option (Lp ((List Int) × Int) (List Int)) :=
 if (decide (y19 < (x2.Kids.length : Int))) then
 ((idx x2.Kids y19).bind fun x3 =>
 (idx y18 y8).bind fun x4 =>
 (idx y18 x3).bind fun x5 =>
 (idx y18 y8).bind fun x6 =>
 some (.next ((List.set y18 (y8).toNat (max x4 x5)), (w64 (y19 + 1)))))
 else
 (some (.out y18))
noncomputable def ast_Deep_L1 (a0 : XApi_Tree) (y6 : (List Int)) (y7 : Int) (y8 : Int) : Option (Lp ((List Int) × Int × Int) Int) :=
 if (decide (y8 < (a0.Nodes.length : Int))) then
 ((idx a0.Nodes y8).bind fun x2 =>
 (Loop (fun (s : ((List Int) × Int)) => ast_Deep_L2 y8 x2 s.1 s.2) (y6, 0)).bind fun v1 =>
 (idx v1 y8).bind fun x7 =>
 (idx v1 y8).bind fun x8 =>
 (idx (List.set v1 (y8).toNat (w64 (x7 + 1))) y8).bind fun x9 =>
 some (.next ((List.set v1 (y8).toNat (w64 (x7 + 1))), (max y7 x9), (w64 (y8 + 1)))))
 else
 (some (.out y7))
noncomputable def ast_Deep (a0 : XApi_Tree) : Option Int :=
 (mks (a0.Nodes.length : Int) (0 : Int)).bind fun x1 =>
 (Loop (fun (s : ((List Int) × Int × Int)) => ast_Deep_L1 a0 s.1 s.2.1 s.2.2) (x1, 0, 0)).bind fun v2 =>
 some v2
abbrev R_ast_Deep (r : Int) : AV := (I r)
set_option maxHeartbeats 4000000 in
theorem T_ast_Deep {nn : Nat} {a0 : XApi_Tree} {r : Int} (hF : ast_Deep a0 = some r) : den cx (nn + 1) 26 [(.agg (cXApi_Tree a0))] = some (R_ast_Deep r, []) := by
 unfold ast_Deep at hF
 refine fnA Try.func26 Try.ntmps26 (by exact spine) (sl := [0]) ?_
 refine sr <| pp oBoxF <| pp oAssign <| nl <| sr <| pp oFA <| pp oLd <| pp oLenSl <| ?_
 refine bb hF fun x1 h1 hF => ?_
 refine ww (oMake (c := cInt_i64) h1 rfl) <| pp oAssign <| nl <| sr <| pp oAssign <| nl <| sq <| sr <| pp oFA <| pp oLd <| pp oLenSl <| pp oMove <| nl <| ?_
 refine lp (fun (s : ((List Int) × Int × Int)) => mkSt 55 [3, 4, 14, 15, 16] [(.own ((s.1).map cInt_i64)), (I s.2.1), (.sl ((a0.Nodes).map cXApi_Node)), (I (a0.Nodes.length : Int)), (I s.2.2)]) (fun (s : Int) => mkSt 55 [4] [(I s)]) hF cutR' ?_ ?_
 · rintro ⟨y6, y7, y8⟩ z1 hF
   replace hF : ast_Deep_L1 a0 y6 y7 y8 = some z1 := hF
   unfold ast_Deep_L1 at hF
   refine mk ?_
   refine sr <| pp oLss <| nl <| sq <| ?_
   refine cd hF (fun hF => ?_) (fun hF => ?_)
   · refine sk <| qs <| sq <| bl <| sr <| pp oMove <| ?_
     refine bb hF fun x2 h2 hF => ?_
     refine pp (oIx h2) <| pp oLdA <| ww oAlloc <| pp oAssign <| ww oStF <| nl <| sq <| sr <| pp oFA <| pp oLd <| pp oLenSl <| pp oMove <| nl <| ?_
     refine lp (fun (s : ((List Int) × Int)) => mkSt 55 [3, 4, 5, 14, 15, 16, 22, 23, 24] [(.own ((s.1).map cInt_i64)), (I y7), (I y8), (.sl ((a0.Nodes).map cXApi_Node)), (I (a0.Nodes.length : Int)), (I y8), (.sl ((x2.Kids).map cInt_i64)), (I (x2.Kids.length : Int)), (I s.2)]) (fun (s : (List Int)) => mkSt 55 [3, 4, 5, 14, 15, 16] [(.own ((s).map cInt_i64)), (I y7), (I y8), (.sl ((a0.Nodes).map cXApi_Node)), (I (a0.Nodes.length : Int)), (I y8)]) hF cutR' ?_ ?_
     · rintro ⟨y18, y19⟩ z2 hF
       replace hF : ast_Deep_L2 y8 x2 y18 y19 = some z2 := hF
       unfold ast_Deep_L2 at hF
       refine mk ?_
       refine sr <| pp oLss <| nl <| sq <| ?_
       refine cd hF (fun hF => ?_) (fun hF => ?_)
       · refine sk <| qs <| sq <| bl <| sr <| ?_
         refine bb hF fun x3 h3 hF => ?_
         refine pp (oIx h3) <| pp oLd <| pp oAssign <| nl <| rgD <| pp oMove <| pp oMove <| pp oMove <| pp oMove <| ?_
         refine bb hF fun x4 h4 hF => ?_
         refine rr (oIxM h4) <| rr (oLdM (idx_nat h4)) <| pp oMove <| pp oMove <| ?_
         refine bb hF fun x5 h5 hF => ?_
         refine rr (oIxM h5) <| rr (oLdM (idx_nat h5)) <| pp oMax <| ?_
         refine bb hF fun x6 h6 hF => ?_
         refine rr (oIxM h6) <| ww (oStL (idx_nat h6) (max x4 x5)) <| nlD <| qb <| qs <| rg <| pp oAdd <| pp oMove <| nl <| ?_
         exact ln hF cutR'
       · refine ex <| qsE <| ?_
         exact lx hF cutR'
     · intro v1 hF
       refine qmk ?_
       refine qs <| sr <| pp oMove <| pp oMove <| ?_
       refine bb hF fun x7 h7 hF => ?_
       refine rr (oIxM h7) <| rr (oLdM (idx_nat h7)) <| pp oAdd <| ?_
       refine bb hF fun x8 h8 hF => ?_
       refine rr (oIxM h8) <| ww (oStL (idx_nat h8) (w64 (x7 + 1))) <| nl <| rg <| pp oMove <| pp oMove <| pp oMove <| ?_
       refine bb hF fun x9 h9 hF => ?_
       refine rr (oIxM h9) <| rr (oLdM (idx_nat h9)) <| pp oMax <| pp oAssign <| nl <| qb <| qs <| rg <| pp oAdd <| pp oMove <| nl <| ?_
       exact ln hF cutR'
   · refine ex <| qsE <| ?_
     exact lx hF cutR'
 · intro v2 hF
   refine qmk ?_
   refine qs <| sr <| pp oMove <| pp oAssign <| nl <| rt <| ?_
   obtain rfl := inj hF
   exact fin

/-! turnery/tree.Check -/
noncomputable def tree_Check_L1 (a0 : XApi_Tree) (y6 : XTree_checker) (y7 : Int) : Option (Lp (XTree_checker × Int) (Br XTree_checker XApi_Fault)) :=
 if (decide (y7 < (a0.Nodes.length : Int))) then
 ((tree_checker_node y6 y7).bind fun x4 =>
 (eqLen x4.2.first y6.first).bind fun _ =>
 if (x4.1 != 0) then
 ((core_Fault x4.1 y7).bind fun x5 =>
 some (.out (.ret x5)))
 else
 (some (.next ((XTree_checker.mk y6.t x4.2.first), (w64 (y7 + 1))))))
 else
 (some (.out (.brk y6)))
noncomputable def tree_Check (a0 : XApi_Tree) : Option XApi_Fault :=
 (core_Within (a0.Nodes.length : Int) 1 600).bind fun x1 =>
 if (!x1) then
 ((core_Fault 2 0).bind fun x2 =>
 some x2)
 else
 ((mks (a0.Nodes.length : Int) (0 : Int)).bind fun x3 =>
 (Loop (fun (s : (XTree_checker × Int)) => tree_Check_L1 a0 s.1 s.2) ((XTree_checker.mk a0 x3), 0)).bind (Br.go (fun v1 =>
 (idx v1.first (w64 ((a0.Nodes.length : Int) - 1))).bind fun x6 =>
 if (x6 != 0) then
 ((core_Fault 5 (w64 ((a0.Nodes.length : Int) - 1))).bind fun x7 =>
 some x7)
 else
 ((ast_Deep a0).bind fun x8 =>
 if (decide (40 < x8)) then
 ((core_Fault 10 0).bind fun x9 =>
 some x9)
 else
 (some (XApi_Fault.mk 0 0)))) (fun r1 => some r1)))
abbrev R_tree_Check (r : XApi_Fault) : AV := (.agg (cXApi_Fault r))
def RR_tree_Check (r : XApi_Fault) (x : Exit × St) : Prop := x.1 = .ret ∧ Fin cx [.cell 2 26] [] (R_tree_Check r) [] x
set_option maxHeartbeats 4000000 in
theorem T_tree_Check {nn : Nat} {a0 : XApi_Tree} {r : XApi_Fault} (hF : tree_Check a0 = some r) : den cx (nn + 5) 8 [(.agg (cXApi_Tree a0))] = some (R_tree_Check r, []) := by
 unfold tree_Check at hF
 refine fnA Try.func8 Try.ntmps8 (by exact spine) (sl := [0]) ?_
 refine sr <| pp oBoxF <| ww oAlloc <| nl <| sq <| sr <| pp oFA <| pp oLd <| pp oLenSl <| ?_
 refine bb hF fun x1 h1 hF => ?_
 refine pp (oCallZ (T_core_Within h1)) <| pp oNot <| nl <| ?_
 refine cd hF (fun hF => ?_) (fun hF => ?_)
 · refine sr <| ?_
   refine bb hF fun x2 h2 hF => ?_
   refine pp (oCall (T_core_Fault h2)) <| ww oStR <| nl <| rt <| qsR <| ?_
   obtain rfl := inj hF
   exact fin
 · refine sk <| qs <| srD <| pp oLdA <| pp oFA <| pp oLd <| pp oLenSl <| ?_
   refine bb hF fun x3 h3 hF => ?_
   refine ww (oMake (c := cInt_i64) h3 rfl) <| pp oBuild <| ww oAlloc <| ww oStR <| nlD <| sq <| sr <| pp oFA <| pp oLd <| pp oLenSl <| pp oMove <| nl <| ?_
   refine lpR (fun (s : (XTree_checker × Int)) => mkSt 52 [1, 2, 3, 20, 21] [(.vp (cXApi_Tree a0)), (.ownp (cXApi_Fault (XApi_Fault.mk 0 0))), (.ownp (cXTree_checker_SIOe s.1)), (I (a0.Nodes.length : Int)), (I s.2)]) (fun (s : XTree_checker) => mkSt 52 [1, 2, 3] [(.vp (cXApi_Tree a0)), (.ownp (cXApi_Fault (XApi_Fault.mk 0 0))), (.ownp (cXTree_checker_SIOe s))]) RR_tree_Check hF cutR' ?_ ?_ ?_
   · rintro ⟨y6, y7⟩ z1 hF
     replace hF : tree_Check_L1 a0 y6 y7 = some z1 := hF
     unfold tree_Check_L1 at hF
     refine mk ?_
     refine sr <| pp oLss <| nl <| sq <| ?_
     refine cd hF (fun hF => ?_) (fun hF => ?_)
     · refine sk <| qs <| sq <| bl <| sr <| pp oMove <| pp oAssign <| nl <| sr <| rr oLdRA <| pp oMove <| ?_
       refine bb hF fun x4 h4 hF => ?_
       refine bb hF fun _ l1 hF => ?_
       have l1 := eqLen_ok l1
       refine ww (oCallTZ (T_tree_checker_node h4)) <| pp oAssign <| nl <| sr <| pp oMove <| pp oNeq <| nl <| ?_
       refine cd hF (fun hF => ?_) (fun hF => ?_)
       · refine sr <| pp oMove <| pp oMove <| ?_
         refine bb hF fun x5 h5 hF => ?_
         refine pp (oCall (T_core_Fault h5)) <| ww oStR <| nl <| rt <| qbR <| qsR <| ?_
         exact lr hF ⟨rfl, fin⟩
       · refine sk <| qb <| qs <| rg <| pp oAdd <| pp oMove <| nl <| ?_
         exact ln hF cutR'
     · refine ex <| qsE <| ?_
       exact lxR hF cutR'
   · intro v1 hF
     refine qmk ?_
     refine qs <| sq <| sr <| pp oFAM <| rr oLdR <| pp oFA <| pp oLd <| pp oLenSl <| pp oSub <| ?_
     refine bb hF fun x6 h6 hF => ?_
     refine rr (oIxM h6) <| rr (oLdM (idx_nat h6)) <| pp oNeq <| nl <| ?_
     refine cd hF (fun hF => ?_) (fun hF => ?_)
     · refine sr <| pp oFA <| pp oLd <| pp oLenSl <| pp oSub <| ?_
       refine bb hF fun x7 h7 hF => ?_
       refine pp (oCall (T_core_Fault h7)) <| ww oStR <| nl <| rt <| qsR <| ?_
       obtain rfl := inj hF
       exact fin
     · refine sk <| qs <| sq <| sr <| pp oLdA <| ?_
       refine bb hF fun x8 h8 hF => ?_
       refine pp (oCallZ (T_ast_Deep h8)) <| pp oGtr <| nl <| ?_
       refine cd hF (fun hF => ?_) (fun hF => ?_)
       · refine sr <| ?_
         refine bb hF fun x9 h9 hF => ?_
         refine pp (oCall (T_core_Fault h9)) <| ww oStR <| nl <| rt <| qsR <| ?_
         obtain rfl := inj hF
         exact fin
       · refine sk <| qs <| sr <| pp oBuild <| ww oStR <| nl <| rt <| ?_
         obtain rfl := inj hF
         exact fin
   · rintro r1 hF ⟨xe, xs⟩ ⟨hxe, hfin⟩
     obtain rfl : xe = Exit.ret := hxe
     obtain rfl := inj hF
     refine qbR <| qsR <| ?_
     exact hfin

/-! slices.Clone[[]int,int]: by contract -/
theorem T_clone57 {nn : Nat} {a0 : (List Int)} {r : (List Int)} (hF : clone a0 = some r) : den cx (nn + 1) 57 [.sl (a0.map cInt_i64)] = some (.own (r.map cInt_i64), []) := cloneA_of hF

/-! (*turnery/ast.Maker).Add -/

noncomputable def ast_Maker_Add (a0 : XApi_Tree) (a1 : XApi_Node) (a2 : (List Int)) : Option (Int × XApi_Tree) :=
 (clone a2).bind fun x1 =>
 (app a0.Nodes ([(XApi_Node.mk a1.Kind a1.Text a1.N a1.Size x1 a1.At)] : List XApi_Node)).bind fun x2 =>
 some ((w64 ((x2.length : Int) - 1)), (XApi_Tree.mk x2))
abbrev R_ast_Maker_Add (r : (Int × XApi_Tree)) : AV := (I r.1)
set_option maxHeartbeats 4000000 in
theorem T_ast_Maker_Add {nn : Nat} {a0 : XApi_Tree} {a1 : XApi_Node} {a2 : (List Int)} {r : (Int × XApi_Tree)} (hF : ast_Maker_Add a0 a1 a2 = some r) : den cx (nn + 2) 47 [(.ownp (cXApi_Tree_SOe a0)), (.agg (cXApi_Node a1)), (.sl ((a2).map cInt_i64))] = some (R_ast_Maker_Add r, [(.ownp (cXApi_Tree_SOe r.2))]) := by
 unfold ast_Maker_Add at hF
 refine fnA Try.func47 Try.ntmps47 (by exact spine) (sl := [0, 1, 2]) ?_
 refine sr <| ww oBoxM <| pp oAssign <| nl <| sr <| pp oMove <| ?_
 refine bb hF fun x1 h1 hF => ?_
 refine pp (oCallZ (T_clone57 h1)) <| pp oFAM <| ww oStR <| nl <| srD <| pp oMove <| pp oMove <| pp oNil <| pp oFAM <| rr oLdR <| rr oLdRA <| pp oBSF <| ?_
 refine bb hF fun x2 h2 hF => ?_
 refine ww (oApp h2) <| pp oNil <| pp oFAM <| ww oStR <| nlD <| sr <| pp oMove <| pp oNil <| pp oFAM <| rr oLdR <| pp (oLenRs (m := x2.length)) <| pp oSub <| pp oAssign <| nl <| ?_
 refine rt <| ?_
 obtain rfl := inj hF
 exact fin

/-! (*turnery/ast.Maker).Copy -/
noncomputable def ast_Maker_Copy_L1 (rc : XApi_Tree → XApi_Tree → Int → Option (Int × XApi_Tree)) (a1 : XApi_Tree) (x1 : XApi_Node) (y8 : XApi_Tree) (y9 : (List Int)) (y10 : Int) : Option (Lp (XApi_Tree × (List Int) × Int) (XApi_Tree × (List Int))) :=
 if (decide (y10 < (x1.Kids.length : Int))) then
 ((idx x1.Kids y10).bind fun x2 =>
 (rc y8 a1 x2).bind fun x3 =>
 (app y9 ([x3.1] : List Int)).bind fun x4 =>
 some (.next (x3.2, x4, (w64 (y10 + 1)))))
 else
 (some (.out (y8, y9)))
noncomputable def ast_Maker_Copy_B (rc : XApi_Tree → XApi_Tree → Int → Option (Int × XApi_Tree)) (a0 : XApi_Tree) (a1 : XApi_Tree) (a2 : Int) : Option (Int × XApi_Tree) :=
 (idx a1.Nodes a2).bind fun x1 =>
 (Loop (fun (s : (XApi_Tree × (List Int) × Int)) => ast_Maker_Copy_L1 rc a1 x1 s.1 s.2.1 s.2.2) (a0, [], 0)).bind fun v1 =>
 (idx a1.Nodes a2).bind fun x5 =>
 (ast_Maker_Add v1.1 x5 v1.2).bind fun x6 =>
 some (x6.1, x6.2)
noncomputable def ast_Maker_Copy : Nat → XApi_Tree → XApi_Tree → Int → Option (Int × XApi_Tree)
 | 0 => fun _ _ _ => none
 | m + 1 => ast_Maker_Copy_B (ast_Maker_Copy m)
abbrev R_ast_Maker_Copy (r : (Int × XApi_Tree)) : AV := (I r.1)
set_option maxHeartbeats 4000000 in
theorem T_ast_Maker_Copy_B {nn : Nat} {rc : XApi_Tree → XApi_Tree → Int → Option (Int × XApi_Tree)} (ih : ∀ {a0 : XApi_Tree} {a1 : XApi_Tree} {a2 : Int} {r : (Int × XApi_Tree)}, rc a0 a1 a2 = some r → den cx (nn + 2) 27 [(.ownp (cXApi_Tree_SOe a0)), (.agg (cXApi_Tree a1)), (I a2)] = some (R_ast_Maker_Copy r, [(.ownp (cXApi_Tree_SOe r.2))])) {a0 : XApi_Tree} {a1 : XApi_Tree} {a2 : Int} {r : (Int × XApi_Tree)} (hF : ast_Maker_Copy_B rc a0 a1 a2 = some r) : den cx (nn + 3) 27 [(.ownp (cXApi_Tree_SOe a0)), (.agg (cXApi_Tree a1)), (I a2)] = some (R_ast_Maker_Copy r, [(.ownp (cXApi_Tree_SOe r.2))]) := by
 unfold ast_Maker_Copy_B at hF
 refine fnA Try.func27 Try.ntmps27 (by exact spine) (sl := [0, 1, 2]) ?_
 refine sr <| pp oBoxF <| pp oAssign <| nl <| sr <| pp oAssign <| nl <| sq <| sr <| pp oFA <| pp oLd <| pp oMove <| ?_
 refine bb hF fun x1 h1 hF => ?_
 refine pp (oIx h1) <| pp oFA <| pp oLd <| pp oLenSl <| pp oMove <| nl <| ?_
 refine lp (fun (s : (XApi_Tree × (List Int) × Int)) => mkSt 37 [0, 2, 4, 7, 15, 16, 17] [(.ownp (cXApi_Tree_SOe s.1)), (I a2), (.vp (cXApi_Tree a1)), (.own ((s.2.1).map cInt_i64)), (.sl ((x1.Kids).map cInt_i64)), (I (x1.Kids.length : Int)), (I s.2.2)]) (fun (s : (XApi_Tree × (List Int))) => mkSt 37 [0, 2, 4, 7] [(.ownp (cXApi_Tree_SOe s.1)), (I a2), (.vp (cXApi_Tree a1)), (.own ((s.2).map cInt_i64))]) hF cutR' ?_ ?_
 · rintro ⟨y8, y9, y10⟩ z1 hF
   replace hF : ast_Maker_Copy_L1 rc a1 x1 y8 y9 y10 = some z1 := hF
   unfold ast_Maker_Copy_L1 at hF
   refine mk ?_
   refine sr <| pp oLss <| nl <| sq <| ?_
   refine cd hF (fun hF => ?_) (fun hF => ?_)
   · refine sk <| qs <| sq <| bl <| sr <| ?_
     refine bb hF fun x2 h2 hF => ?_
     refine pp (oIx h2) <| pp oLd <| pp oAssign <| nl <| rg <| pp oMove <| pp oMove <| pp oLdA <| pp oMove <| ?_
     refine bb hF fun x3 h3 hF => ?_
     refine ww (oCallTZ (ih h3)) <| pp oBSF <| ?_
     refine bb hF fun x4 h4 hF => ?_
     refine ww (oApp h4) <| pp oAssign <| nl <| qb <| qs <| rg <| pp oAdd <| pp oMove <| nl <| ?_
     exact ln hF cutR'
   · refine ex <| qsE <| ?_
     exact lx hF cutR'
 · intro v1 hF
   refine qmk ?_
   refine qs <| sr <| pp oMove <| pp oFA <| pp oLd <| pp oMove <| ?_
   refine bb hF fun x5 h5 hF => ?_
   refine pp (oIx h5) <| pp oLdA <| pp oMove <| ?_
   refine bb hF fun x6 h6 hF => ?_
   refine ww (oCallT (T_ast_Maker_Add h6)) <| pp oAssign <| nl <| rt <| ?_
   obtain rfl := inj hF
   exact fin
theorem T_ast_Maker_Copy : ∀ {fu nn : Nat} {a0 : XApi_Tree} {a1 : XApi_Tree} {a2 : Int} {r : (Int × XApi_Tree)} (hF : ast_Maker_Copy fu a0 a1 a2 = some r), den cx (fu + nn + 3) 27 [(.ownp (cXApi_Tree_SOe a0)), (.agg (cXApi_Tree a1)), (I a2)] = some (R_ast_Maker_Copy r, [(.ownp (cXApi_Tree_SOe r.2))])
 | 0, _, _, _, _, _, hF => by cases hF
 | m + 1, nn, _, _, _, _, hF => by
  rw [show m + 1 + nn + 3 = m + nn + 1 + 3 by omega]
  refine T_ast_Maker_Copy_B (nn := m + nn + 1) (rc := ast_Maker_Copy m) (fun h => ?_) hF
  have := T_ast_Maker_Copy (nn := nn) h
  rwa [show m + nn + 3 = m + nn + 1 + 2 by omega] at this

/-! (*turnery/ast.Maker).Tree -/

noncomputable def ast_Maker_Tree (a0 : XApi_Tree) : Option XApi_Tree :=
 some a0
abbrev R_ast_Maker_Tree (r : XApi_Tree) : AV := (.agg (cXApi_Tree_SOe r))
set_option maxHeartbeats 4000000 in
theorem T_ast_Maker_Tree {nn : Nat} {a0 : XApi_Tree} {r : XApi_Tree} (hF : ast_Maker_Tree a0 = some r) : den cx (nn + 1) 28 [(.ownp (cXApi_Tree_SOe a0))] = some (R_ast_Maker_Tree r, []) := by
 unfold ast_Maker_Tree at hF
 refine fnA Try.func28 Try.ntmps28 (by exact spine) (sl := [0]) ?_
 refine sr <| ww oAlloc <| nl <| sr <| pp oMove <| pp oNil <| pp oFAM <| rr oLdR <| pp oBuild <| ww oStR <| nl <| rt <| ?_
 obtain rfl := inj hF
 exact fin

/-! turnery/tree.Part -/

noncomputable def tree_Part (fu : Nat) (a0 : XApi_Tree) (a1 : Int) : Option (XApi_Tree × XApi_Fault) :=
 (tree_Check a0).bind fun x1 =>
 if (!((x1.Code == 0) && ((x1.At == 0) && true))) then
 (some ((XApi_Tree.mk []), x1))
 else
 ((core_Within a1 0 (w64 ((a0.Nodes.length : Int) - 1))).bind fun x2 =>
 if (!x2) then
 ((core_Fault 3 (-1)).bind fun x3 =>
 some ((XApi_Tree.mk []), x3))
 else
 ((ast_Maker_Copy fu (XApi_Tree.mk []) a0 a1).bind fun x4 =>
 (ast_Maker_Tree x4.2).bind fun x5 =>
 some (x5, (XApi_Fault.mk 0 0))))
abbrev R_tree_Part (r : (XApi_Tree × XApi_Fault)) : AV := (.tup [(.agg (cXApi_Tree_SOe r.1)), (.agg (cXApi_Fault r.2))])
set_option maxHeartbeats 4000000 in
theorem T_tree_Part {fu nn : Nat} {a0 : XApi_Tree} {a1 : Int} {r : (XApi_Tree × XApi_Fault)} (hF : tree_Part fu a0 a1 = some r) : den cx (fu + nn + 6) 9 [(.agg (cXApi_Tree a0)), (I a1)] = some (R_tree_Part r, []) := by
 unfold tree_Part at hF
 refine fnA Try.func9 Try.ntmps9 (by exact spine) (sl := [0, 1]) ?_
 refine sr <| pp oBoxF <| ww oAlloc <| ww oAlloc <| nl <| sq <| sr <| pp oLdA <| ?_
 refine bb hF fun x1 h1 hF => ?_
 refine pp (oCall (T_tree_Check h1)) <| ww oAlloc <| ww oStF <| nl <| sr <| pp oLdA <| pp oBuild <| pp (oStq (eq26_neq ..)) <| nl <| ?_
 refine cd hF (fun hF => ?_) (fun hF => ?_)
 · refine srD <| pp oBuild <| pp oLdA <| ww oStR <| ww oStR <| nlD <| rt <| qsR <| ?_
   obtain rfl := inj hF
   exact fin
 · refine sk <| qs <| sq <| sr <| pp oMove <| pp oFA <| pp oLd <| pp oLenSl <| pp oSub <| ?_
   refine bb hF fun x2 h2 hF => ?_
   refine pp (oCallZ (T_core_Within h2)) <| pp oNot <| nl <| ?_
   refine cd hF (fun hF => ?_) (fun hF => ?_)
   · refine sr <| pp oBuild <| ?_
     refine bb hF fun x3 h3 hF => ?_
     refine pp (oCall (T_core_Fault h3)) <| ww oStR <| ww oStR <| nl <| rt <| qsR <| ?_
     obtain rfl := inj hF
     exact fin
   · refine sk <| qs <| sr <| pp oBuild <| ww oBoxM <| pp oAssign <| nl <| sr <| pp oMove <| pp oLdA <| pp oMove <| ?_
     refine bb hF fun x4 h4 hF => ?_
     refine ww (oCallTZ (dnE (T_ast_Maker_Copy (fu := fu) (nn := nn + 2) h4) (by omega))) <| nl <| sr <| pp oMove <| ?_
     refine bb hF fun x5 h5 hF => ?_
     refine ww (oCallT (T_ast_Maker_Tree h5)) <| pp oBuild <| ww oStR <| ww oStR <| nl <| rt <| ?_
     obtain rfl := inj hF
     exact fin

/-! turnery/turnerylaw1.in -/

noncomputable def law1_in (a0 : Int) (a1 : Int) (a2 : Int) : Option Bool :=
 some (if (decide (a1 ≤ a0)) then (decide (a0 ≤ a2)) else false)
abbrev R_law1_in (r : Bool) : AV := (B r)
set_option maxHeartbeats 4000000 in
theorem T_law1_in {nn : Nat} {a0 : Int} {a1 : Int} {a2 : Int} {r : Bool} (hF : law1_in a0 a1 a2 = some r) : den cx (nn + 1) 10 [(I a0), (I a1), (I a2)] = some (R_law1_in r, []) := by
 unfold law1_in at hF
 refine fnA Try.func10 Try.ntmps10 (by exact spine) (sl := [0, 1, 2]) ?_
 refine sr <| pp oAssign <| nl <| sr <| pp oMove <| pp oMove <| pp oGeq <| pp oMove <| pg ar oMove <| pg ar oMove <| pg ar oLeq <| pp oPick <| pp oAssign <| nl <| ?_
 refine rt <| ?_
 obtain rfl := inj hF
 exact fin

/-! turnery/turnerysame.Fault -/

noncomputable def same_Fault (a0 : Int) (a1 : Int) : Option XApi_Fault :=
 some (XApi_Fault.mk a0 a1)
abbrev R_same_Fault (r : XApi_Fault) : AV := (.agg (cXApi_Fault r))
set_option maxHeartbeats 4000000 in
theorem T_same_Fault {nn : Nat} {a0 : Int} {a1 : Int} {r : XApi_Fault} (hF : same_Fault a0 a1 = some r) : den cx (nn + 1) 11 [(I a0), (I a1)] = some (R_same_Fault r, []) := by
 unfold same_Fault at hF
 refine fnA Try.func11 Try.ntmps11 (by exact spine) (sl := [0, 1]) ?_
 refine sr <| ww oAlloc <| nl <| sr <| pp oMove <| pp oMove <| pp oBuild <| ww oStR <| nl <| rt <| ?_
 obtain rfl := inj hF
 exact fin

/-! turnery/turnerylaw1.none -/

noncomputable def law1_none (a0 : XApi_Tree) : Option Bool :=
 some ((a0.Nodes.length : Int) == 0)
abbrev R_law1_none (r : Bool) : AV := (B r)
set_option maxHeartbeats 4000000 in
theorem T_law1_none {nn : Nat} {a0 : XApi_Tree} {r : Bool} (hF : law1_none a0 = some r) : den cx (nn + 1) 12 [(.agg (cXApi_Tree a0))] = some (R_law1_none r, []) := by
 unfold law1_none at hF
 refine fnA Try.func12 Try.ntmps12 (by exact spine) (sl := [0]) ?_
 refine sr <| pp oBoxF <| pp oAssign <| nl <| sr <| pp oFA <| pp oLd <| pp oLenSl <| pp oEql <| pp oAssign <| nl <| rt <| ?_
 obtain rfl := inj hF
 exact fin

/-! turnery/turneryref1.Part -/
noncomputable def ref1_Part_L2 (y7 : Int) (x2 : XApi_Node) (y19 : (List Int)) (y20 : Int) : Option (Lp ((List Int) × Int) (List Int)) :=
 if (decide (y20 < (x2.Kids.length : Int))) then
 ((idx x2.Kids y20).bind fun x3 =>
 (app y19 ([(w64 (x3 - y7))] : List Int)).bind fun x4 =>
 some (.next (x4, (w64 (y20 + 1)))))
 else
 (some (.out y19))
noncomputable def ref1_Part_L1 (a0 : XApi_Tree) (a1 : Int) (y7 : Int) (y8 : XApi_Tree) (y9 : Int) : Option (Lp (Int × XApi_Tree × Int) XApi_Tree) :=
 if (decide (y9 ≤ a1)) then
 ((idx a0.Nodes y9).bind fun x2 =>
 (Loop (fun (s : ((List Int) × Int)) => ref1_Part_L2 y7 x2 s.1 s.2) ([], 0)).bind fun v1 =>
 (app y8.Nodes ([(XApi_Node.mk x2.Kind x2.Text x2.N x2.Size v1 x2.At)] : List XApi_Node)).bind fun x5 =>
 some (.next (y7, (XApi_Tree.mk x5), (w64 (y9 + 1)))))
 else
 (some (.out y8))
noncomputable def ref1_Part (fu : Nat) (a0 : XApi_Tree) (a1 : Int) : Option XApi_Tree :=
 (ref1_Many fu a0 a1).bind fun x1 =>
 (Loop (fun (s : (Int × XApi_Tree × Int)) => ref1_Part_L1 a0 a1 s.1 s.2.1 s.2.2) ((w64 ((w64 (a1 - x1)) + 1)), (XApi_Tree.mk []), (w64 ((w64 (a1 - x1)) + 1)))).bind fun v2 =>
 some v2
abbrev R_ref1_Part (r : XApi_Tree) : AV := (.agg (cXApi_Tree_SOe r))
set_option maxHeartbeats 4000000 in
theorem T_ref1_Part {fu nn : Nat} {a0 : XApi_Tree} {a1 : Int} {r : XApi_Tree} (hF : ref1_Part fu a0 a1 = some r) : den cx (fu + nn + 2) 14 [(.agg (cXApi_Tree a0)), (I a1)] = some (R_ref1_Part r, []) := by
 unfold ref1_Part at hF
 refine fnA Try.func14 Try.ntmps14 (by exact spine) (sl := [0, 1]) ?_
 refine sr <| pp oBoxF <| ww oAlloc <| nl <| sr <| pp oMove <| pp oLdA <| pp oMove <| ?_
 refine bb hF fun x1 h1 hF => ?_
 refine pp (oCallZ (dnE (T_ref1_Many (fu := fu) (nn := nn + 0) h1) (by omega))) <| pp oSub <| pp oAdd <| pp oAssign <| nl <| sr <| ww oAlloc <| nl <| sq <| sr <| pp oMove <| pp oAssign <| nl <| ?_
 refine lp (fun (s : (Int × XApi_Tree × Int)) => mkSt 54 [1, 2, 4, 5, 6, 7] [(I a1), (.vp (cXApi_Tree a0)), (.ownp (cXApi_Tree_SOe (XApi_Tree.mk []))), (I s.1), (.ownp (cXApi_Tree_SOe s.2.1)), (I s.2.2)]) (fun (s : XApi_Tree) => mkSt 54 [4, 6] [(.ownp (cXApi_Tree_SOe (XApi_Tree.mk []))), (.ownp (cXApi_Tree_SOe s))]) hF cutR' ?_ ?_
 · rintro ⟨y7, y8, y9⟩ z1 hF
   replace hF : ref1_Part_L1 a0 a1 y7 y8 y9 = some z1 := hF
   unfold ref1_Part_L1 at hF
   refine mk ?_
   refine sq <| sr <| pp oMove <| pp oMove <| pp oLeq <| nl <| ?_
   refine cd hF (fun hF => ?_) (fun hF => ?_)
   · refine sk <| qs <| sq <| bl <| sr <| pp oFA <| pp oLd <| pp oMove <| ?_
     refine bb hF fun x2 h2 hF => ?_
     refine pp (oIx h2) <| pp oLdA <| ww oAlloc <| ww oStR <| nl <| sr <| pp oAssign <| nl <| sq <| sr <| pp oAssign <| nl <| ?_
     refine lp (fun (s : ((List Int) × Int)) => mkSt 54 [1, 2, 4, 5, 6, 7, 8, 9, 10] [(I a1), (.vp (cXApi_Tree a0)), (.ownp (cXApi_Tree_SOe (XApi_Tree.mk []))), (I y7), (.ownp (cXApi_Tree_SOe y8)), (I y9), (.ownp (cXApi_Node x2)), (.own ((s.1).map cInt_i64)), (I s.2)]) (fun (s : (List Int)) => mkSt 54 [1, 2, 4, 5, 6, 7, 8, 9] [(I a1), (.vp (cXApi_Tree a0)), (.ownp (cXApi_Tree_SOe (XApi_Tree.mk []))), (I y7), (.ownp (cXApi_Tree_SOe y8)), (I y9), (.ownp (cXApi_Node x2)), (.own ((s).map cInt_i64))]) hF cutR' ?_ ?_
     · rintro ⟨y19, y20⟩ z2 hF
       replace hF : ref1_Part_L2 y7 x2 y19 y20 = some z2 := hF
       unfold ref1_Part_L2 at hF
       refine mk ?_
       refine sq <| sr <| pp oMove <| pp oFAM <| rr oLdR <| pp oLenSl <| pp oLss <| nl <| ?_
       refine cd hF (fun hF => ?_) (fun hF => ?_)
       · refine sk <| qs <| sq <| bl <| rg <| pp oMove <| pp oFAM <| rr oLdR <| pp oMove <| ?_
         refine bb hF fun x3 h3 hF => ?_
         refine pp (oIx h3) <| pp oLd <| pp oMove <| pp oSub <| pp oBSF <| ?_
         refine bb hF fun x4 h4 hF => ?_
         refine ww (oApp h4) <| pp oAssign <| nl <| qb <| qs <| rg <| pp oMove <| pp oAdd <| pp oAssign <| nl <| ?_
         exact ln hF cutR'
       · refine ex <| qsE <| ?_
         exact lx hF cutR'
     · intro v1 hF
       refine qmk ?_
       refine qs <| sr <| pp oMove <| pp oFAM <| ww oStR <| nl <| rg <| pp oFAM <| rr oLdR <| rr oLdRA <| ww oBSZ <| ?_
       refine bb hF fun x5 h5 hF => ?_
       refine ww (oApp h5) <| pp oFAM <| ww oStR <| nl <| qb <| qs <| rg <| pp oMove <| pp oAdd <| pp oAssign <| nl <| ?_
       exact ln hF cutR'
   · refine ex <| qsE <| ?_
     exact lx hF cutR'
 · intro v2 hF
   refine qmk ?_
   refine qs <| sr <| rr oLdRA <| ww oStR <| nl <| rt <| ?_
   obtain rfl := inj hF
   exact fin

/-! turnery/turnerysame.Ints -/
noncomputable def same_Ints_L1 (a0 : (List Int)) (a1 : (List Int)) (y4 : Int) : Option (Lp Int (Br Unit Bool)) :=
 if (decide (y4 < (a0.length : Int))) then
 ((idx a0 y4).bind fun x1 =>
 (idx a1 y4).bind fun x2 =>
 if (x1 != x2) then
 (some (.out (.ret false)))
 else
 (some (.next (w64 (y4 + 1)))))
 else
 (some (.out (.brk ())))
noncomputable def same_Ints (a0 : (List Int)) (a1 : (List Int)) : Option Bool :=
 if ((a0.length : Int) != (a1.length : Int)) then
 (some false)
 else
 ((Loop (fun (s : Int) => same_Ints_L1 a0 a1 s) 0).bind (Br.go (fun _ =>
 some true) (fun r1 => some r1)))
abbrev R_same_Ints (r : Bool) : AV := (B r)
def RR_same_Ints (r : Bool) (x : Exit × St) : Prop := x.1 = .ret ∧ Fin cx [.tmp 4] [] (R_same_Ints r) [] x
set_option maxHeartbeats 4000000 in
theorem T_same_Ints {nn : Nat} {a0 : (List Int)} {a1 : (List Int)} {r : Bool} (hF : same_Ints a0 a1 = some r) : den cx (nn + 1) 48 [(.sl ((a0).map cInt_i64)), (.sl ((a1).map cInt_i64))] = some (R_same_Ints r, []) := by
 unfold same_Ints at hF
 refine fnA Try.func48 Try.ntmps48 (by exact spine) (sl := [0, 1]) ?_
 refine sr <| pp oAssign <| nl <| sq <| sr <| pp oMove <| pp oLenSl <| pp oMove <| pp oLenSl <| pp oNeq <| nl <| ?_
 refine cd hF (fun hF => ?_) (fun hF => ?_)
 · refine sr <| pp oAssign <| nl <| rt <| qsR <| ?_
   obtain rfl := inj hF
   exact fin
 · refine sk <| qs <| sq <| sr <| pp oAssign <| nl <| ?_
   refine lpR (fun (s : Int) => mkSt 26 [0, 1, 5] [(.sl ((a0).map cInt_i64)), (.sl ((a1).map cInt_i64)), (I s)]) (fun (s : Unit) => mkSt 26 [] []) RR_same_Ints hF cutR' ?_ ?_ ?_
   · rintro y4 z1 hF
     replace hF : same_Ints_L1 a0 a1 y4 = some z1 := hF
     unfold same_Ints_L1 at hF
     refine mk ?_
     refine sq <| sr <| pp oMove <| pp oMove <| pp oLenSl <| pp oLss <| nl <| ?_
     refine cd hF (fun hF => ?_) (fun hF => ?_)
     · refine sk <| qs <| sq <| bl <| srD <| pp oMove <| pp oMove <| ?_
       refine bb hF fun x1 h1 hF => ?_
       refine pp (oIx h1) <| pp oLd <| pp oMove <| pp oMove <| ?_
       refine bb hF fun x2 h2 hF => ?_
       refine pp (oIx h2) <| pp oLd <| pp oNeq <| nlD <| ?_
       refine cd hF (fun hF => ?_) (fun hF => ?_)
       · refine sr <| pp oAssign <| nl <| rt <| qbR <| qsR <| ?_
         exact lr hF ⟨rfl, fin⟩
       · refine sk <| qb <| qs <| rg <| pp oMove <| pp oAdd <| pp oAssign <| nl <| ?_
         exact ln hF cutR'
     · refine ex <| qsE <| ?_
       exact lxR hF cutR'
   · intro _ hF
     refine qmk ?_
     refine qs <| sr <| pp oAssign <| nl <| rt <| ?_
     obtain rfl := inj hF
     exact fin
   · rintro r1 hF ⟨xe, xs⟩ ⟨hxe, hfin⟩
     obtain rfl : xe = Exit.ret := hxe
     obtain rfl := inj hF
     refine qbR <| qsR <| ?_
     exact hfin

/-! turnery/turnerysame.Nodes -/

noncomputable def same_Nodes (a0 : XApi_Node) (a1 : XApi_Node) : Option Bool :=
 (if (if (if (if (if (a0.Kind == a1.Kind) then (a0.Text.toList == a1.Text.toList) else false) then (a0.N == a1.N) else false) then (a0.Size == a1.Size) else false) then (a0.At == a1.At) else false) then
 ((same_Ints a0.Kids a1.Kids).bind fun x1 =>
 some x1)
 else
 (some false)).bind fun p1 =>
 some p1
abbrev R_same_Nodes (r : Bool) : AV := (B r)
set_option maxHeartbeats 4000000 in
theorem T_same_Nodes {nn : Nat} {a0 : XApi_Node} {a1 : XApi_Node} {r : Bool} (hF : same_Nodes a0 a1 = some r) : den cx (nn + 2) 29 [(.agg (cXApi_Node a0)), (.agg (cXApi_Node a1))] = some (R_same_Nodes r, []) := by
 unfold same_Nodes at hF
 refine fnA Try.func29 Try.ntmps29 (by exact spine) (sl := [0, 1]) ?_
 refine sr <| pp oBoxF <| pp oBoxF <| pp oAssign <| nl <| ?_
 refine srC (fun (s : Bool) => mkSt 45 [4] [(B s)]) hF (fun z1 hF => ?_) (fun p1 hF => ?_)
 · refine pp oFA <| pp oLd <| pp oFA <| pp oLd <| pp oEql <| pp oMove <| pg ar oFA <| pg ar oLd <| pg ar oFA <| pg ar oLd <| pg ar oEqlS <| pp oPick <| pp oMove <| pg ar oFA <| ?_
   refine pg ar oLd <| pg ar oFA <| pg ar oLd <| pg ar oEql <| pp oPick <| pp oMove <| pg ar oFA <| pg ar oLd <| pg ar oFA <| pg ar oLd <| pg ar oEql <| pp oPick <| pp oMove <| pg ar oFA <| ?_
   refine pg ar oLd <| pg ar oFA <| pg ar oLd <| pg ar oEql <| pp oPick <| pp oMove <| ?_
   refine spl (d := 38) hF (fun hF => ?_) (fun hF => ?_)
   · refine pt ar oFA <| pt ar oLd <| pt ar oFA <| pt ar oLd <| ?_
     refine bb hF fun x1 h1 hF => ?_
     refine pt ar (oCall (T_same_Ints h1)) <| pp oPickT <| pp oAssign <| ?_
     obtain rfl := inj hF
     exact nlC cutR'
   · refine no fun u1 k1 hk1 => ?_
     refine no fun u2 k2 hk2 => ?_
     refine no fun u3 k3 hk3 => ?_
     refine no fun u4 k4 hk4 => ?_
     refine no fun u5 k5 hk5 => ?_
     refine pp oPickF <| pp oAssign <| ?_
     obtain rfl := inj hF
     exact nlC cutR'
 · refine mk ?_
   refine rt <| ?_
   obtain rfl := inj hF
   exact fin

/-! turnery/turnerysame.Trees -/
noncomputable def same_Trees_L1 (a0 : XApi_Tree) (a1 : XApi_Tree) (y4 : Int) : Option (Lp Int (Br Unit Bool)) :=
 if (decide (y4 < (a0.Nodes.length : Int))) then
 ((idx a0.Nodes y4).bind fun x1 =>
 (idx a1.Nodes y4).bind fun x2 =>
 (same_Nodes x1 x2).bind fun x3 =>
 if (!x3) then
 (some (.out (.ret false)))
 else
 (some (.next (w64 (y4 + 1)))))
 else
 (some (.out (.brk ())))
noncomputable def same_Trees (a0 : XApi_Tree) (a1 : XApi_Tree) : Option Bool :=
 if ((a0.Nodes.length : Int) != (a1.Nodes.length : Int)) then
 (some false)
 else
 ((Loop (fun (s : Int) => same_Trees_L1 a0 a1 s) 0).bind (Br.go (fun _ =>
 some true) (fun r1 => some r1)))
abbrev R_same_Trees (r : Bool) : AV := (B r)
def RR_same_Trees (r : Bool) (x : Exit × St) : Prop := x.1 = .ret ∧ Fin cx [.tmp 4] [] (R_same_Trees r) [] x
set_option maxHeartbeats 4000000 in
theorem T_same_Trees {nn : Nat} {a0 : XApi_Tree} {a1 : XApi_Tree} {r : Bool} (hF : same_Trees a0 a1 = some r) : den cx (nn + 3) 13 [(.agg (cXApi_Tree a0)), (.agg (cXApi_Tree a1))] = some (R_same_Trees r, []) := by
 unfold same_Trees at hF
 refine fnA Try.func13 Try.ntmps13 (by exact spine) (sl := [0, 1]) ?_
 refine sr <| pp oBoxF <| pp oBoxF <| pp oAssign <| nl <| sq <| sr <| pp oFA <| pp oLd <| pp oLenSl <| pp oFA <| pp oLd <| pp oLenSl <| pp oNeq <| ?_
 refine nl <| ?_
 refine cd hF (fun hF => ?_) (fun hF => ?_)
 · refine sr <| pp oAssign <| nl <| rt <| qsR <| ?_
   obtain rfl := inj hF
   exact fin
 · refine sk <| qs <| sq <| sr <| pp oAssign <| nl <| ?_
   refine lpR (fun (s : Int) => mkSt 32 [2, 3, 5] [(.vp (cXApi_Tree a0)), (.vp (cXApi_Tree a1)), (I s)]) (fun (s : Unit) => mkSt 32 [] []) RR_same_Trees hF cutR' ?_ ?_ ?_
   · rintro y4 z1 hF
     replace hF : same_Trees_L1 a0 a1 y4 = some z1 := hF
     unfold same_Trees_L1 at hF
     refine mk ?_
     refine sq <| sr <| pp oMove <| pp oFA <| pp oLd <| pp oLenSl <| pp oLss <| nl <| ?_
     refine cd hF (fun hF => ?_) (fun hF => ?_)
     · refine sk <| qs <| sq <| bl <| srD <| pp oFA <| pp oLd <| pp oMove <| ?_
       refine bb hF fun x1 h1 hF => ?_
       refine pp (oIx h1) <| pp oLdA <| pp oFA <| pp oLd <| pp oMove <| ?_
       refine bb hF fun x2 h2 hF => ?_
       refine pp (oIx h2) <| pp oLdA <| ?_
       refine bb hF fun x3 h3 hF => ?_
       refine pp (oCallZ (T_same_Nodes h3)) <| pp oNot <| nlD <| ?_
       refine cd hF (fun hF => ?_) (fun hF => ?_)
       · refine sr <| pp oAssign <| nl <| rt <| qbR <| qsR <| ?_
         exact lr hF ⟨rfl, fin⟩
       · refine sk <| qb <| qs <| rg <| pp oMove <| pp oAdd <| pp oAssign <| nl <| ?_
         exact ln hF cutR'
     · refine ex <| qsE <| ?_
       exact lxR hF cutR'
   · intro _ hF
     refine qmk ?_
     refine qs <| sr <| pp oAssign <| nl <| rt <| ?_
     obtain rfl := inj hF
     exact fin
   · rintro r1 hF ⟨xe, xs⟩ ⟨hxe, hfin⟩
     obtain rfl : xe = Exit.ret := hxe
     obtain rfl := inj hF
     refine qbR <| qsR <| ?_
     exact hfin

/-! turnery/turnerylaw1.TreeSays -/
noncomputable def law1_TreeSays_J1 (fu : Nat) (a0 : XApi_Tree) (a1 : Int) (x3 : (XApi_Tree × XApi_Fault)) (y1 : XApi_Fault) : Option Bool :=
 if (!((x3.2.Code == y1.Code) && ((x3.2.At == y1.At) && true))) then
 (some false)
 else
 (if (y1.Code != 0) then
 ((law1_none x3.1).bind fun x4 =>
 some x4)
 else
 ((ref1_Part fu a0 a1).bind fun x5 =>
 (same_Trees x3.1 x5).bind fun x6 =>
 some x6))
noncomputable def law1_TreeSays (fu : Nat) (a0 : XApi_Tree) (a1 : Int) : Option Bool :=
 if (decide (700 < (a0.Nodes.length : Int))) then
 (some true)
 else
 ((ref1_Tree fu a0).bind fun x1 =>
 (tree_Check a0).bind fun x2 =>
 (tree_Part fu a0 a1).bind fun x3 =>
 if (!((x2.Code == x1.Code) && ((x2.At == x1.At) && true))) then
 (some false)
 else
 ((if (x1.Code == 0) then
 ((law1_in a1 0 (w64 ((a0.Nodes.length : Int) - 1))).bind fun x7 =>
 some (!x7))
 else
 (some false)).bind fun p1 =>
 if p1 then
 ((same_Fault 3 (-1)).bind fun x8 =>
 law1_TreeSays_J1 fu a0 a1 x3 x8)
 else
 (law1_TreeSays_J1 fu a0 a1 x3 x1)))
abbrev R_law1_TreeSays (r : Bool) : AV := (B r)
set_option maxHeartbeats 4000000 in
theorem T_law1_TreeSays {fu nn : Nat} {a0 : XApi_Tree} {a1 : Int} {r : Bool} (hF : law1_TreeSays fu a0 a1 = some r) : den cx (fu + nn + 7) 3 [(.agg (cXApi_Tree a0)), (I a1)] = some (R_law1_TreeSays r, []) := by
 unfold law1_TreeSays at hF
 refine fnA Try.func3 Try.ntmps3 (by exact spine) (sl := [0, 1]) ?_
 refine sr <| pp oBoxF <| pp oAssign <| nl <| sq <| sr <| pp oFA <| pp oLd <| pp oLenSl <| pp oGtr <| nl <| ?_
 refine cd hF (fun hF => ?_) (fun hF => ?_)
 · refine sr <| pp oAssign <| nl <| rt <| qsR <| ?_
   obtain rfl := inj hF
   exact fin
 · refine sk <| qs <| sr <| pp oLdA <| ?_
   refine bb hF fun x1 h1 hF => ?_
   refine pp (oCallZ (dnE (T_ref1_Tree (fu := fu) (nn := nn + 1) h1) (by omega))) <| ww oAlloc <| ww oStR <| nl <| sr <| pp oLdA <| ?_
   refine bb hF fun x2 h2 hF => ?_
   refine pp (oCallZ (T_tree_Check h2)) <| ww oAlloc <| ww oStF <| nl <| sr <| pp oLdA <| pp oMove <| ?_
   refine bb hF fun x3 h3 hF => ?_
   refine pp (oCallZ (dnE (T_tree_Part (fu := fu) (nn := nn + 0) h3) (by omega))) <| pp oMove <| pp oExt <| pp oExt <| ww oAlloc <| ww oAlloc <| ww oStF <| ww oStF <| nl <| sq <| sr <| pp oLdA <| rr oLdRA <| pp (oStq (eq26_neq ..)) <| ?_
   refine nl <| ?_
   refine cd hF (fun hF => ?_) (fun hF => ?_)
   · refine sr <| pp oAssign <| nl <| rt <| qsR <| ?_
     obtain rfl := inj hF
     exact fin
   · refine sk <| qs <| ?_
     refine sjn (r := r) (fun (s : XApi_Fault) => mkSt 52 [1, 2, 5, 7, 8] [(I a1), (.vp (cXApi_Tree a0)), (.ownp (cXApi_Fault s)), (.vp (cXApi_Tree x3.1)), (.vp (cXApi_Fault x3.2))]) (fun s => law1_TreeSays_J1 fu a0 a1 x3 s) ?_ ?_
     · refine srC (fun (s : Bool) => mkSt 52 [1, 2, 5, 7, 8, 37] [(I a1), (.vp (cXApi_Tree a0)), (.ownp (cXApi_Fault x1)), (.vp (cXApi_Tree x3.1)), (.vp (cXApi_Fault x3.2)), (B s)]) hF (fun z1 hF => ?_) (fun p1 hF => ?_)
       · refine pp oFAM <| rr oLdR <| pp oEql <| pp oMove <| ?_
         refine spl (d := 29) hF (fun hF => ?_) (fun hF => ?_)
         · refine pt ar oMove <| pt ar oFA <| pt ar oLd <| pt ar oLenSl <| pt ar oSub <| ?_
           refine bb hF fun x7 h7 hF => ?_
           refine pt ar (oCallZ (T_law1_in h7)) <| pt ar oNot <| pp oPickT <| ?_
           obtain rfl := inj hF
           exact nlC cutR'
         · refine no fun u1 k1 hk1 => ?_
           refine no fun u2 k2 hk2 => ?_
           refine no fun u3 k3 hk3 => ?_
           refine no fun u4 k4 hk4 => ?_
           refine no fun u5 k5 hk5 => ?_
           refine no fun u6 k6 hk6 => ?_
           refine no fun u7 k7 hk7 => ?_
           refine pp oPickF <| ?_
           obtain rfl := inj hF
           exact nlC cutR'
       · refine mk ?_
         refine cd hF (fun hF => ?_) (fun hF => ?_)
         · refine rg <| ?_
           refine bb hF fun x8 h8 hF => ?_
           refine pp (oCallZ (T_same_Fault h8)) <| ww oStR <| nl <| ?_
           exact qj x8 hF cutR'
         · refine sk <| ?_
           exact qj x1 hF cutR'
     · rintro y1 hF
       replace hF : law1_TreeSays_J1 fu a0 a1 x3 y1 = some r := hF
       unfold law1_TreeSays_J1 at hF
       refine mk ?_
       refine sq <| sr <| pp oLdA <| rr oLdRA <| pp (oStq (eq26_neq ..)) <| nl <| ?_
       refine cd hF (fun hF => ?_) (fun hF => ?_)
       · refine sr <| pp oAssign <| nl <| rt <| qsR <| ?_
         obtain rfl := inj hF
         exact fin
       · refine sk <| qs <| sq <| sr <| pp oFAM <| rr oLdR <| pp oNeq <| nl <| ?_
         refine cd hF (fun hF => ?_) (fun hF => ?_)
         · refine sr <| pp oLdA <| ?_
           refine bb hF fun x4 h4 hF => ?_
           refine pp (oCall (T_law1_none h4)) <| pp oAssign <| nl <| rt <| qsR <| ?_
           obtain rfl := inj hF
           exact fin
         · refine sk <| qs <| srD <| pp oLdA <| pp oLdA <| pp oMove <| ?_
           refine bb hF fun x5 h5 hF => ?_
           refine pp (oCallZ (dnE (T_ref1_Part (fu := fu) (nn := nn + 4) h5) (by omega))) <| ?_
           refine bb hF fun x6 h6 hF => ?_
           refine pp (oCall (T_same_Trees h6)) <| pp oAssign <| nlD <| rt <| ?_
           obtain rfl := inj hF
           exact fin

/-! slices.Equal[[]int,int] -/
noncomputable def slices_Equal_int_int_L1 (a0 : (List Int)) (a1 : (List Int)) (y5 : Int) : Option (Lp Int (Br Unit Bool)) :=
 if (decide (y5 < (a0.length : Int))) then
 ((idx a0 y5).bind fun x1 =>
 (idx a1 y5).bind fun x2 =>
 if (x1 != x2) then
 (some (.out (.ret false)))
 else
 (some (.next (w64 (y5 + 1)))))
 else
 (some (.out (.brk ())))
noncomputable def slices_Equal_int_int (a0 : (List Int)) (a1 : (List Int)) : Option Bool :=
 if ((a0.length : Int) != (a1.length : Int)) then
 (some false)
 else
 ((Loop (fun (s : Int) => slices_Equal_int_int_L1 a0 a1 s) 0).bind (Br.go (fun _ =>
 some true) (fun r1 => some r1)))
abbrev R_slices_Equal_int_int (r : Bool) : AV := (B r)
def RR_slices_Equal_int_int (r : Bool) (x : Exit × St) : Prop := x.1 = .ret ∧ Fin cx [.tmp 4] [] (R_slices_Equal_int_int r) [] x
set_option maxHeartbeats 4000000 in
theorem T_slices_Equal_int_int {nn : Nat} {a0 : (List Int)} {a1 : (List Int)} {r : Bool} (hF : slices_Equal_int_int a0 a1 = some r) : den cx (nn + 1) 32 [(.sl ((a0).map cInt_i64)), (.sl ((a1).map cInt_i64))] = some (R_slices_Equal_int_int r, []) := by
 unfold slices_Equal_int_int at hF
 refine fnA Try.func32 Try.ntmps32 (by exact spine) (sl := [0, 1]) ?_
 refine sr <| pp oAssign <| nl <| sq <| sr <| pp oMove <| pp oLenSl <| pp oMove <| pp oLenSl <| pp oNeq <| nl <| ?_
 refine cd hF (fun hF => ?_) (fun hF => ?_)
 · refine sr <| pp oAssign <| nl <| rt <| qsR <| ?_
   obtain rfl := inj hF
   exact fin
 · refine sk <| qs <| sq <| sr <| pp oMove <| pp oLenSl <| pp oMove <| nl <| ?_
   refine lpR (fun (s : Int) => mkSt 26 [0, 1, 12, 13] [(.sl ((a0).map cInt_i64)), (.sl ((a1).map cInt_i64)), (I (a0.length : Int)), (I s)]) (fun (s : Unit) => mkSt 26 [] []) RR_slices_Equal_int_int hF cutR' ?_ ?_ ?_
   · rintro y5 z1 hF
     replace hF : slices_Equal_int_int_L1 a0 a1 y5 = some z1 := hF
     unfold slices_Equal_int_int_L1 at hF
     refine mk ?_
     refine sr <| pp oLss <| nl <| sq <| ?_
     refine cd hF (fun hF => ?_) (fun hF => ?_)
     · refine sk <| qs <| sq <| bl <| sr <| pp oMove <| pp oAssign <| nl <| srD <| pp oMove <| pp oMove <| ?_
       refine bb hF fun x1 h1 hF => ?_
       refine pp (oIx h1) <| pp oLd <| pp oMove <| pp oMove <| ?_
       refine bb hF fun x2 h2 hF => ?_
       refine pp (oIx h2) <| pp oLd <| pp oNeq <| nlD <| ?_
       refine cd hF (fun hF => ?_) (fun hF => ?_)
       · refine sr <| pp oAssign <| nl <| rt <| qbR <| qsR <| ?_
         exact lr hF ⟨rfl, fin⟩
       · refine sk <| qb <| qs <| rg <| pp oAdd <| pp oMove <| nl <| ?_
         exact ln hF cutR'
     · refine ex <| qsE <| ?_
       exact lxR hF cutR'
   · intro _ hF
     refine qmk ?_
     refine qs <| sr <| pp oAssign <| nl <| rt <| ?_
     obtain rfl := inj hF
     exact fin
   · rintro r1 hF ⟨xe, xs⟩ ⟨hxe, hfin⟩
     obtain rfl : xe = Exit.ret := hxe
     obtain rfl := inj hF
     refine qbR <| qsR <| ?_
     exact hfin

/-! turnery/tree.Same$1 -/

noncomputable def tree_Same_1 (a0 : XApi_Node) (a1 : XApi_Node) : Option Bool :=
 (if (if (if (if (a0.Kind == a1.Kind) then (a0.Text.toList == a1.Text.toList) else false) then (a0.N == a1.N) else false) then (a0.Size == a1.Size) else false) then
 ((slices_Equal_int_int a0.Kids a1.Kids).bind fun x1 =>
 some x1)
 else
 (some false)).bind fun p1 =>
 some p1
abbrev R_tree_Same_1 (r : Bool) : AV := (B r)
set_option maxHeartbeats 4000000 in
theorem T_tree_Same_1 {nn : Nat} {a0 : XApi_Node} {a1 : XApi_Node} {r : Bool} (hF : tree_Same_1 a0 a1 = some r) : den cx (nn + 2) 31 [(.agg (cXApi_Node a0)), (.agg (cXApi_Node a1))] = some (R_tree_Same_1 r, []) := by
 unfold tree_Same_1 at hF
 refine fnA Try.func31 Try.ntmps31 (by exact spine) (sl := [0, 1]) ?_
 refine sr <| pp oBoxF <| pp oBoxF <| pp oAssign <| nl <| ?_
 refine srC (fun (s : Bool) => mkSt 38 [4] [(B s)]) hF (fun z1 hF => ?_) (fun p1 hF => ?_)
 · refine pp oFA <| pp oLd <| pp oFA <| pp oLd <| pp oEql <| pp oMove <| pg ar oFA <| pg ar oLd <| pg ar oFA <| pg ar oLd <| pg ar oEqlS <| pp oPick <| pp oMove <| pg ar oFA <| ?_
   refine pg ar oLd <| pg ar oFA <| pg ar oLd <| pg ar oEql <| pp oPick <| pp oMove <| pg ar oFA <| pg ar oLd <| pg ar oFA <| pg ar oLd <| pg ar oEql <| pp oPick <| pp oMove <| ?_
   refine spl (d := 31) hF (fun hF => ?_) (fun hF => ?_)
   · refine pt ar oFA <| pt ar oLd <| pt ar oFA <| pt ar oLd <| ?_
     refine bb hF fun x1 h1 hF => ?_
     refine pt ar (oCall (T_slices_Equal_int_int h1)) <| pp oPickT <| pp oAssign <| ?_
     obtain rfl := inj hF
     exact nlC cutR'
   · refine no fun u1 k1 hk1 => ?_
     refine no fun u2 k2 hk2 => ?_
     refine no fun u3 k3 hk3 => ?_
     refine no fun u4 k4 hk4 => ?_
     refine no fun u5 k5 hk5 => ?_
     refine pp oPickF <| pp oAssign <| ?_
     obtain rfl := inj hF
     exact nlC cutR'
 · refine mk ?_
   refine rt <| ?_
   obtain rfl := inj hF
   exact fin

/-! slices.EqualFunc[[]turnery/api.Node,[]turnery/api.Node,turnery/api.Node,turnery/api.Node] -/
noncomputable def slices_EqualFunc_api_Node_api_Node_api_Node_api_Node__f31_L1 (a0 : (List XApi_Node)) (a1 : (List XApi_Node)) (y5 : Int) : Option (Lp Int (Br Unit Bool)) :=
 if (decide (y5 < (a0.length : Int))) then
 ((idx a0 y5).bind fun x1 =>
 (idx a1 y5).bind fun x2 =>
 (tree_Same_1 x1 x2).bind fun x3 =>
 if (!x3) then
 (some (.out (.ret false)))
 else
 (some (.next (w64 (y5 + 1)))))
 else
 (some (.out (.brk ())))
noncomputable def slices_EqualFunc_api_Node_api_Node_api_Node_api_Node__f31 (a0 : (List XApi_Node)) (a1 : (List XApi_Node)) : Option Bool :=
 if ((a0.length : Int) != (a1.length : Int)) then
 (some false)
 else
 ((Loop (fun (s : Int) => slices_EqualFunc_api_Node_api_Node_api_Node_api_Node__f31_L1 a0 a1 s) 0).bind (Br.go (fun _ =>
 some true) (fun r1 => some r1)))
abbrev R_slices_EqualFunc_api_Node_api_Node_api_Node_api_Node__f31 (r : Bool) : AV := (B r)
def RR_slices_EqualFunc_api_Node_api_Node_api_Node_api_Node__f31 (r : Bool) (x : Exit × St) : Prop := x.1 = .ret ∧ Fin cx [.tmp 6] [] (R_slices_EqualFunc_api_Node_api_Node_api_Node_api_Node__f31 r) [] x
set_option maxHeartbeats 4000000 in
theorem T_slices_EqualFunc_api_Node_api_Node_api_Node_api_Node__f31 {nn : Nat} {a0 : (List XApi_Node)} {a1 : (List XApi_Node)} {r : Bool} (hF : slices_EqualFunc_api_Node_api_Node_api_Node_api_Node__f31 a0 a1 = some r) : den cx (nn + 3) 30 [(.sl ((a0).map cXApi_Node)), (.sl ((a1).map cXApi_Node)), (.fn (.func 31) [] [])] = some (R_slices_EqualFunc_api_Node_api_Node_api_Node_api_Node__f31 r, []) := by
 unfold slices_EqualFunc_api_Node_api_Node_api_Node_api_Node__f31 at hF
 refine fnA Try.func30 Try.ntmps30 (by exact spine) (sl := [0, 1, 2]) ?_
 refine sr <| pp oAssign <| nl <| sq <| sr <| pp oMove <| pp oLenSl <| pp oMove <| pp oLenSl <| pp oNeq <| nl <| ?_
 refine cd hF (fun hF => ?_) (fun hF => ?_)
 · refine sr <| pp oAssign <| nl <| rt <| qsR <| ?_
   obtain rfl := inj hF
   exact fin
 · refine sk <| qs <| sq <| sr <| pp oMove <| pp oLenSl <| pp oMove <| nl <| ?_
   refine lpR (fun (s : Int) => mkSt 32 [1, 2, 15, 16, 17] [(.sl ((a1).map cXApi_Node)), (.fn (.func 31) [] []), (.sl ((a0).map cXApi_Node)), (I (a0.length : Int)), (I s)]) (fun (s : Unit) => mkSt 32 [] []) RR_slices_EqualFunc_api_Node_api_Node_api_Node_api_Node__f31 hF cutR' ?_ ?_ ?_
   · rintro y5 z1 hF
     replace hF : slices_EqualFunc_api_Node_api_Node_api_Node_api_Node__f31_L1 a0 a1 y5 = some z1 := hF
     unfold slices_EqualFunc_api_Node_api_Node_api_Node_api_Node__f31_L1 at hF
     refine mk ?_
     refine sr <| pp oLss <| nl <| sq <| ?_
     refine cd hF (fun hF => ?_) (fun hF => ?_)
     · refine sk <| qs <| sq <| bl <| sr <| pp oMove <| ?_
       refine bb hF fun x1 h1 hF => ?_
       refine pp (oIx h1) <| pp oLdA <| ww oAlloc <| pp oAssign <| ww oStF <| nl <| sr <| pp oMove <| pp oMove <| ?_
       refine bb hF fun x2 h2 hF => ?_
       refine pp (oIx h2) <| pp oLdA <| ww oAlloc <| ww oStF <| nl <| sr <| pp oMove <| pp oLdA <| pp oLdA <| ?_
       refine bb hF fun x3 h3 hF => ?_
       refine pp (oCallZ (T_tree_Same_1 h3)) <| pp oNot <| nl <| ?_
       refine cd hF (fun hF => ?_) (fun hF => ?_)
       · refine sr <| pp oAssign <| nl <| rt <| qbR <| qsR <| ?_
         exact lr hF ⟨rfl, fin⟩
       · refine sk <| qb <| qs <| rg <| pp oAdd <| pp oMove <| nl <| ?_
         exact ln hF cutR'
     · refine ex <| qsE <| ?_
       exact lxR hF cutR'
   · intro _ hF
     refine qmk ?_
     refine qs <| sr <| pp oAssign <| nl <| rt <| ?_
     obtain rfl := inj hF
     exact fin
   · rintro r1 hF ⟨xe, xs⟩ ⟨hxe, hfin⟩
     obtain rfl : xe = Exit.ret := hxe
     obtain rfl := inj hF
     refine qbR <| qsR <| ?_
     exact hfin

/-! turnery/tree.Same -/

noncomputable def tree_Same (a0 : XApi_Tree) (a1 : XApi_Tree) : Option (Bool × XApi_Fault) :=
 (tree_Check a0).bind fun x1 =>
 if (!((x1.Code == 0) && ((x1.At == 0) && true))) then
 (some (false, x1))
 else
 ((tree_Check a1).bind fun x2 =>
 if (!((x2.Code == 0) && ((x2.At == 0) && true))) then
 (some (false, x2))
 else
 ((slices_EqualFunc_api_Node_api_Node_api_Node_api_Node__f31 a0.Nodes a1.Nodes).bind fun x3 =>
 some (x3, (XApi_Fault.mk 0 0))))
abbrev R_tree_Same (r : (Bool × XApi_Fault)) : AV := (.tup [(B r.1), (.agg (cXApi_Fault r.2))])
set_option maxHeartbeats 4000000 in
theorem T_tree_Same {nn : Nat} {a0 : XApi_Tree} {a1 : XApi_Tree} {r : (Bool × XApi_Fault)} (hF : tree_Same a0 a1 = some r) : den cx (nn + 6) 15 [(.agg (cXApi_Tree a0)), (.agg (cXApi_Tree a1))] = some (R_tree_Same r, []) := by
 unfold tree_Same at hF
 refine fnA Try.func15 Try.ntmps15 (by exact spine) (sl := [0, 1]) ?_
 refine sr <| pp oBoxF <| pp oBoxF <| pp oAssign <| ww oAlloc <| nl <| sq <| sr <| pp oLdA <| ?_
 refine bb hF fun x1 h1 hF => ?_
 refine pp (oCall (T_tree_Check h1)) <| ww oAlloc <| ww oStF <| nl <| sr <| pp oLdA <| pp oBuild <| pp (oStq (eq26_neq ..)) <| nl <| ?_
 refine cd hF (fun hF => ?_) (fun hF => ?_)
 · refine srD <| pp oLdA <| pp oAssign <| ww oStR <| nlD <| rt <| qsR <| ?_
   obtain rfl := inj hF
   exact fin
 · refine sk <| qs <| sq <| sr <| pp oLdA <| ?_
   refine bb hF fun x2 h2 hF => ?_
   refine pp (oCall (T_tree_Check h2)) <| ww oAlloc <| ww oStF <| nl <| sr <| pp oLdA <| pp oBuild <| pp (oStq (eq26_neq ..)) <| nl <| ?_
   refine cd hF (fun hF => ?_) (fun hF => ?_)
   · refine srD <| pp oLdA <| pp oAssign <| ww oStR <| nlD <| rt <| qsR <| ?_
     obtain rfl := inj hF
     exact fin
   · refine sk <| qs <| sr <| pp oFA <| pp oLd <| pp oFA <| pp oLd <| ?_
     refine bb hF fun x3 h3 hF => ?_
     refine pp (oCall (T_slices_EqualFunc_api_Node_api_Node_api_Node_api_Node__f31 h3)) <| pp oBuild <| pp oAssign <| ww oStR <| nl <| rt <| ?_
     obtain rfl := inj hF
     exact fin

/-! turnery/turneryref1.Alike -/
noncomputable def ref1_Alike_L2 (x1 : XApi_Node) (x2 : XApi_Node) (y11 : Int) : Option (Lp Int (Br Unit Bool)) :=
 if (decide (y11 < (x1.Kids.length : Int))) then
 ((idx x1.Kids y11).bind fun x3 =>
 (idx x2.Kids y11).bind fun x4 =>
 if (x3 != x4) then
 (some (.out (.ret false)))
 else
 (some (.next (w64 (y11 + 1)))))
 else
 (some (.out (.brk ())))
noncomputable def ref1_Alike_L1 (a0 : XApi_Tree) (a1 : XApi_Tree) (y4 : Int) : Option (Lp Int (Br Unit Bool)) :=
 if (decide (y4 < (a0.Nodes.length : Int))) then
 ((idx a0.Nodes y4).bind fun x1 =>
 (idx a1.Nodes y4).bind fun x2 =>
 if (if (if (if (if (x1.Kind != x2.Kind) then true else (x1.Text.toList != x2.Text.toList)) then true else (x1.N != x2.N)) then true else (x1.Size != x2.Size)) then true else ((x1.Kids.length : Int) != (x2.Kids.length : Int))) then
 (some (.out (.ret false)))
 else
 ((Loop (fun (s : Int) => ref1_Alike_L2 x1 x2 s) 0).bind (Br.go (fun _ =>
 some (.next (w64 (y4 + 1)))) (fun r1 => some (.out (.ret r1))))))
 else
 (some (.out (.brk ())))
noncomputable def ref1_Alike (a0 : XApi_Tree) (a1 : XApi_Tree) : Option Bool :=
 if ((a0.Nodes.length : Int) != (a1.Nodes.length : Int)) then
 (some false)
 else
 ((Loop (fun (s : Int) => ref1_Alike_L1 a0 a1 s) 0).bind (Br.go (fun _ =>
 some true) (fun r2 => some r2)))
abbrev R_ref1_Alike (r : Bool) : AV := (B r)
def RR_ref1_Alike (r : Bool) (x : Exit × St) : Prop := x.1 = .ret ∧ Fin cx [.tmp 4] [] (R_ref1_Alike r) [] x
set_option maxHeartbeats 4000000 in
theorem T_ref1_Alike {nn : Nat} {a0 : XApi_Tree} {a1 : XApi_Tree} {r : Bool} (hF : ref1_Alike a0 a1 = some r) : den cx (nn + 1) 16 [(.agg (cXApi_Tree a0)), (.agg (cXApi_Tree a1))] = some (R_ref1_Alike r, []) := by
 unfold ref1_Alike at hF
 refine fnA Try.func16 Try.ntmps16 (by exact spine) (sl := [0, 1]) ?_
 refine sr <| pp oBoxF <| pp oBoxF <| pp oAssign <| nl <| sq <| sr <| pp oFA <| pp oLd <| pp oLenSl <| pp oFA <| pp oLd <| pp oLenSl <| pp oNeq <| ?_
 refine nl <| ?_
 refine cd hF (fun hF => ?_) (fun hF => ?_)
 · refine sr <| pp oAssign <| nl <| rt <| qsR <| ?_
   obtain rfl := inj hF
   exact fin
 · refine sk <| qs <| sq <| sr <| pp oAssign <| nl <| ?_
   refine lpR (fun (s : Int) => mkSt 86 [2, 3, 5] [(.vp (cXApi_Tree a0)), (.vp (cXApi_Tree a1)), (I s)]) (fun (s : Unit) => mkSt 86 [] []) RR_ref1_Alike hF cutR' ?_ ?_ ?_
   · rintro y4 z1 hF
     replace hF : ref1_Alike_L1 a0 a1 y4 = some z1 := hF
     unfold ref1_Alike_L1 at hF
     refine mk ?_
     refine sq <| sr <| pp oMove <| pp oFA <| pp oLd <| pp oLenSl <| pp oLss <| nl <| ?_
     refine cd hF (fun hF => ?_) (fun hF => ?_)
     · refine sk <| qs <| sq <| bl <| sr <| pp oFA <| pp oLd <| pp oMove <| ?_
       refine bb hF fun x1 h1 hF => ?_
       refine pp (oIx h1) <| pp oLdA <| ww oAlloc <| ww oStF <| nl <| sr <| pp oFA <| pp oLd <| pp oMove <| ?_
       refine bb hF fun x2 h2 hF => ?_
       refine pp (oIx h2) <| pp oLdA <| ww oAlloc <| ww oStF <| nl <| sq <| sr <| pp oFA <| pp oLd <| pp oFA <| pp oLd <| pp oNeq <| pp oMove <| pg ar oFA <| ?_
       refine pg ar oLd <| pg ar oFA <| pg ar oLd <| pg ar oNeqS <| pp oPick <| pp oMove <| pg ar oFA <| pg ar oLd <| pg ar oFA <| pg ar oLd <| pg ar oNeq <| pp oPick <| pp oMove <| pg ar oFA <| ?_
       refine pg ar oLd <| pg ar oFA <| pg ar oLd <| pg ar oNeq <| pp oPick <| pp oMove <| pg ar oFA <| pg ar oLd <| pg ar oLenSl <| pg ar oFA <| pg ar oLd <| pg ar oLenSl <| pg ar oNeq <| pp oPick <| ?_
       refine nl <| ?_
       refine cd hF (fun hF => ?_) (fun hF => ?_)
       · refine sr <| pp oAssign <| nl <| rt <| qsR <| qbR <| qsR <| ?_
         exact lr hF ⟨rfl, fin⟩
       · refine sk <| qs <| sr <| pp oAssign <| nl <| ?_
         refine lpR (fun (s : Int) => mkSt 86 [2, 3, 5, 6, 7, 8] [(.vp (cXApi_Tree a0)), (.vp (cXApi_Tree a1)), (I y4), (.vp (cXApi_Node x1)), (.vp (cXApi_Node x2)), (I s)]) (fun (s : Unit) => mkSt 86 [2, 3, 5] [(.vp (cXApi_Tree a0)), (.vp (cXApi_Tree a1)), (I y4)]) RR_ref1_Alike hF cutR' ?_ ?_ ?_
         · rintro y11 z2 hF
           replace hF : ref1_Alike_L2 x1 x2 y11 = some z2 := hF
           unfold ref1_Alike_L2 at hF
           refine mk ?_
           refine sq <| sr <| pp oMove <| pp oFA <| pp oLd <| pp oLenSl <| pp oLss <| nl <| ?_
           refine cd hF (fun hF => ?_) (fun hF => ?_)
           · refine sk <| qs <| sq <| bl <| srD <| pp oFA <| pp oLd <| pp oMove <| ?_
             refine bb hF fun x3 h3 hF => ?_
             refine pp (oIx h3) <| pp oLd <| pp oFA <| pp oLd <| pp oMove <| ?_
             refine bb hF fun x4 h4 hF => ?_
             refine pp (oIx h4) <| pp oLd <| pp oNeq <| nlD <| ?_
             refine cd hF (fun hF => ?_) (fun hF => ?_)
             · refine sr <| pp oAssign <| nl <| rt <| qbR <| qsR <| ?_
               exact lr hF ⟨rfl, fin⟩
             · refine sk <| qb <| qs <| rg <| pp oMove <| pp oAdd <| pp oAssign <| nl <| ?_
               exact ln hF cutR'
           · refine ex <| qsE <| ?_
             exact lxR hF cutR'
         · intro _ hF
           refine qmk ?_
           refine qb <| qs <| rg <| pp oMove <| pp oAdd <| pp oAssign <| nl <| ?_
           exact ln hF cutR'
         · rintro r1 hF ⟨xe, xs⟩ ⟨hxe, hfin⟩
           obtain rfl : xe = Exit.ret := hxe
           refine qbR <| qbR <| qsR <| ?_
           exact lrr hF (by simp) ⟨rfl, hfin⟩
     · refine ex <| qsE <| ?_
       exact lxR hF cutR'
   · intro _ hF
     refine qmk ?_
     refine qs <| sr <| pp oAssign <| nl <| rt <| ?_
     obtain rfl := inj hF
     exact fin
   · rintro r2 hF ⟨xe, xs⟩ ⟨hxe, hfin⟩
     obtain rfl : xe = Exit.ret := hxe
     obtain rfl := inj hF
     refine qbR <| qsR <| ?_
     exact hfin

/-! turnery/turnerylaw1.TreeAlike -/
noncomputable def law1_TreeAlike_J1 (a0 : XApi_Tree) (a1 : XApi_Tree) (y1 : XApi_Fault) : Option Bool :=
 (tree_Same a0 a1).bind fun x2 =>
 (if ((x2.2.Code == y1.Code) && ((x2.2.At == y1.At) && true)) then
 (if (y1.Code == 0) then
 ((ref1_Alike a0 a1).bind fun x3 =>
 some (x2.1 == x3))
 else
 (some (x2.1 == false)))
 else
 (some false)).bind fun p1 =>
 some p1
noncomputable def law1_TreeAlike (fu : Nat) (a0 : XApi_Tree) (a1 : XApi_Tree) : Option Bool :=
 if (if (decide (700 < (a0.Nodes.length : Int))) then true else (decide (700 < (a1.Nodes.length : Int)))) then
 (some true)
 else
 ((ref1_Tree fu a0).bind fun x1 =>
 if (x1.Code == 0) then
 ((ref1_Tree fu a1).bind fun x4 =>
 law1_TreeAlike_J1 a0 a1 x4)
 else
 (law1_TreeAlike_J1 a0 a1 x1))
abbrev R_law1_TreeAlike (r : Bool) : AV := (B r)
set_option maxHeartbeats 4000000 in
theorem T_law1_TreeAlike {fu nn : Nat} {a0 : XApi_Tree} {a1 : XApi_Tree} {r : Bool} (hF : law1_TreeAlike fu a0 a1 = some r) : den cx (fu + nn + 7) 4 [(.agg (cXApi_Tree a0)), (.agg (cXApi_Tree a1))] = some (R_law1_TreeAlike r, []) := by
 unfold law1_TreeAlike at hF
 refine fnA Try.func4 Try.ntmps4 (by exact spine) (sl := [0, 1]) ?_
 refine sr <| pp oBoxF <| pp oBoxF <| pp oAssign <| nl <| sq <| sr <| pp oFA <| pp oLd <| pp oLenSl <| pp oGtr <| pp oMove <| pg ar oFA <| pg ar oLd <| ?_
 refine pg ar oLenSl <| pg ar oGtr <| pp oPick <| nl <| ?_
 refine cd hF (fun hF => ?_) (fun hF => ?_)
 · refine sr <| pp oAssign <| nl <| rt <| qsR <| ?_
   obtain rfl := inj hF
   exact fin
 · refine sk <| qs <| sr <| pp oLdA <| ?_
   refine bb hF fun x1 h1 hF => ?_
   refine pp (oCallZ (dnE (T_ref1_Tree (fu := fu) (nn := nn + 1) h1) (by omega))) <| ww oAlloc <| ww oStR <| nl <| ?_
   refine sjn (r := r) (fun (s : XApi_Fault) => mkSt 46 [2, 3, 5] [(.vp (cXApi_Tree a0)), (.vp (cXApi_Tree a1)), (.ownp (cXApi_Fault s))]) (fun s => law1_TreeAlike_J1 a0 a1 s) ?_ ?_
   · refine sr <| pp oFAM <| rr oLdR <| pp oEql <| nl <| ?_
     refine cd hF (fun hF => ?_) (fun hF => ?_)
     · refine rg <| pp oLdA <| ?_
       refine bb hF fun x4 h4 hF => ?_
       refine pp (oCallZ (dnE (T_ref1_Tree (fu := fu) (nn := nn + 1) h4) (by omega))) <| ww oStR <| nl <| ?_
       exact qj x4 hF cutR'
     · refine sk <| ?_
       exact qj x1 hF cutR'
   · rintro y1 hF
     replace hF : law1_TreeAlike_J1 a0 a1 y1 = some r := hF
     unfold law1_TreeAlike_J1 at hF
     refine mk ?_
     refine sr <| pp oLdA <| pp oLdA <| ?_
     refine bb hF fun x2 h2 hF => ?_
     refine pp (oCallZ (T_tree_Same h2)) <| pp oMove <| pp oExt <| pp oExt <| ww oAlloc <| pp oAssign <| ww oStF <| nl <| ?_
     refine srC (fun (s : Bool) => mkSt 46 [4] [(B s)]) hF (fun z1 hF => ?_) (fun p1 hF => ?_)
     · refine pp oLdA <| rr oLdRA <| pp (oStq (eq26_eql ..)) <| pp oMove <| ?_
       refine spl (d := 34) hF (fun hF => ?_) (fun hF => ?_)
       · refine pt ar oMove <| pt ar oFAM <| rt_ ar oLdR <| pt ar oEql <| pt ar oMove <| ?_
         refine splG (d := 39) hF (fun hF => ?_) (fun hF => ?_)
         · refine pt ar oLdA <| pt ar oLdA <| ?_
           refine bb hF fun x3 h3 hF => ?_
           refine pt ar (oCallZ (T_ref1_Alike h3)) <| pt ar oPickT <| pt ar oEqlB <| pp oPickT <| pp oAssign <| ?_
           obtain rfl := inj hF
           exact nlC cutR'
         · refine no fun u1 k1 hk1 => ?_
           refine no fun u2 k2 hk2 => ?_
           refine no fun u3 k3 hk3 => ?_
           refine pt ar oPickF <| pt ar oEqlB <| pp oPickT <| pp oAssign <| ?_
           obtain rfl := inj hF
           exact nlC cutR'
       · refine no fun u4 k4 hk4 => ?_
         refine no fun u5 k5 hk5 => ?_
         refine no fun u6 k6 hk6 => ?_
         refine no fun u7 k7 hk7 => ?_
         refine no fun u8 k8 hk8 => ?_
         refine no fun u9 k9 hk9 => ?_
         refine no fun u10 k10 hk10 => ?_
         refine no fun u11 k11 hk11 => ?_
         refine no fun u12 k12 hk12 => ?_
         refine no fun u13 k13 hk13 => ?_
         refine pp oPickF <| pp oAssign <| ?_
         obtain rfl := inj hF
         exact nlC cutR'
     · refine mk ?_
       refine rt <| ?_
       obtain rfl := inj hF
       exact fin

end Go.Ab
