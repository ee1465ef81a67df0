/-
  Functions of the program as functions on plain data (written by gen3.py).
-/
import Derived.Test.YtpaomhgaokonfaaAbGen3
namespace Go.Ab
open Go Go.Proofs
/-! turnery/turnerylaw1.treeFact -/

noncomputable def law1_treeFact (fu : Nat)  : Option Bool :=
 (tree_Check (XApi_Tree.mk ([(XApi_Node.mk 31 (ByteArray.mk #[]) 1 0 [] 0), (XApi_Node.mk 32 (ByteArray.mk #[120]) 0 0 [] 0), (XApi_Node.mk 36 (ByteArray.mk #[43]) 0 0 ([0, 1] : List Int) 0)] : List XApi_Node))).bind fun x1 =>
 (tree_Part fu (XApi_Tree.mk ([(XApi_Node.mk 31 (ByteArray.mk #[]) 1 0 [] 0), (XApi_Node.mk 32 (ByteArray.mk #[120]) 0 0 [] 0), (XApi_Node.mk 36 (ByteArray.mk #[43]) 0 0 ([0, 1] : List Int) 0)] : List XApi_Node)) 1).bind fun x2 =>
 (tree_Same (XApi_Tree.mk ([(XApi_Node.mk 31 (ByteArray.mk #[]) 1 0 [] 0), (XApi_Node.mk 32 (ByteArray.mk #[120]) 0 0 [] 0), (XApi_Node.mk 36 (ByteArray.mk #[43]) 0 0 ([0, 1] : List Int) 0)] : List XApi_Node)) (XApi_Tree.mk ([(XApi_Node.mk 31 (ByteArray.mk #[]) 1 0 [] 0), (XApi_Node.mk 32 (ByteArray.mk #[120]) 0 0 [] 0), (XApi_Node.mk 36 (ByteArray.mk #[43]) 0 0 ([0, 1] : List Int) 0)] : List XApi_Node))).bind fun x3 =>
 (if (if (if (if (if (x1.Code == 0) then (x2.2.Code == 0) else false) then (x3.2.Code == 0) else false) then x3.1 else false) then ((x2.1.Nodes.length : Int) == 1) else false) then
 ((idx x2.1.Nodes 0).bind fun x4 =>
 some (x4.Text.toList == (ByteArray.mk #[120]).toList))
 else
 (some false)).bind fun p1 =>
 some p1
abbrev R_law1_treeFact (r : Bool) : AV := (B r)
set_option maxHeartbeats 4000000 in
theorem T_law1_treeFact {fu nn : Nat}  {r : Bool} (hF : law1_treeFact fu = some r) : den cx (fu + nn + 7) 17 [] = some (R_law1_treeFact r, []) := by
 unfold law1_treeFact at hF
 refine fnA Try.func17 Try.ntmps17 (by exact spine) (sl := []) ?_
 refine sr <| pp oAssign <| nl <| sr <| pp oBuild <| pp oBuild <| pp oBSF <| pp oBuild <| pp oBSF <| pp oBuild <| ww oAlloc <| ww oStF <| nl <| sr <| ?_
 refine pp oLdA <| ?_
 refine bb hF fun x1 h1 hF => ?_
 refine pp (oCallZ (T_tree_Check h1)) <| ww oAlloc <| ww oStF <| nl <| sr <| pp oLdA <| ?_
 refine bb hF fun x2 h2 hF => ?_
 refine pp (oCallZ (dnE (T_tree_Part (fu := fu) (nn := nn + 0) h2) (by omega))) <| pp oMove <| pp oExt <| pp oExt <| ww oAlloc <| ww oAlloc <| ww oStF <| ww oStF <| nl <| sr <| pp oLdA <| pp oLdA <| ?_
 refine bb hF fun x3 h3 hF => ?_
 refine pp (oCall (T_tree_Same h3)) <| pp oMove <| pp oExt <| pp oExt <| ww oAlloc <| pp oAssign <| ww oStF <| nl <| ?_
 refine srC (fun (s : Bool) => mkSt 56 [0] [(B s)]) hF (fun z1 hF => ?_) (fun p1 hF => ?_)
 · refine pp oFA <| pp oLd <| pp oEql <| pp oMove <| pg ar oFA <| pg ar oLd <| pg ar oEql <| pp oPick <| pp oMove <| pg ar oFA <| pg ar oLd <| pg ar oEql <| pp oPick <| pp oMove <| ?_
   refine pg ar oMove <| pp oPick <| pp oMove <| pg ar oFA <| pg ar oLd <| pg ar oLenSl <| pg ar oEql <| pp oPick <| pp oMove <| ?_
   refine spl (d := 48) hF (fun hF => ?_) (fun hF => ?_)
   · refine pt ar oFA <| pt ar oLd <| ?_
     refine bb hF fun x4 h4 hF => ?_
     refine pt ar (oIx h4) <| pt ar oFA <| pt ar oLd <| pt ar oEqlS <| pp oPickT <| pp oAssign <| ?_
     obtain rfl := inj hF
     exact nlC cutR'
   · refine no fun u1 k1 hk1 => ?_
     refine no fun u2 k2 hk2 => ?_
     refine no fun u3 k3 hk3 => ?_
     refine no fun u4 k4 hk4 => ?_
     refine no fun u5 k5 hk5 => ?_
     refine no fun u6 k6 hk6 => ?_
     refine pp oPickF <| pp oAssign <| ?_
     obtain rfl := inj hF
     exact nlC cutR'
 · refine mk ?_
   refine rt <| ?_
   obtain rfl := inj hF
   exact fin

/-! turnery/turnerylaw1.TreePart -/

noncomputable def law1_TreePart (fu : Nat) (a0 : XApi_Tree) (a1 : Int) (a2 : Int) : Option Bool :=
 (law1_treeFact fu).bind fun x1 =>
 if (!x1) then
 (some false)
 else
 ((tree_Part fu a0 a1).bind fun x2 =>
 if (x2.2.Code != 0) then
 ((law1_none x2.1).bind fun x3 =>
 some x3)
 else
 (((tree_Check x2.1).bind fun x4 =>
 if (x4.Code != 0) then
 (some true)
 else
 ((law1_in (x2.1.Nodes.length : Int) 1 (w64 (a1 + 1))).bind fun x5 =>
 some (!x5))).bind fun p1 =>
 if p1 then
 (some false)
 else
 ((tree_Part fu x2.1 a2).bind fun x6 =>
 if (x6.2.Code != 0) then
 (((law1_none x6.1).bind fun x7 =>
 if x7 then
 ((law1_in a2 0 (w64 ((x2.1.Nodes.length : Int) - 1))).bind fun x8 =>
 some (!x8))
 else
 (some false)).bind fun p2 =>
 some p2)
 else
 ((tree_Part fu a0 (w64 ((w64 ((w64 (a1 - (x2.1.Nodes.length : Int))) + 1)) + a2))).bind fun x9 =>
 (if (x9.2.Code == 0) then
 ((same_Trees x6.1 x9.1).bind fun x10 =>
 some x10)
 else
 (some false)).bind fun p3 =>
 some p3))))
abbrev R_law1_TreePart (r : Bool) : AV := (B r)
set_option maxHeartbeats 4000000 in
theorem T_law1_TreePart {fu nn : Nat} {a0 : XApi_Tree} {a1 : Int} {a2 : Int} {r : Bool} (hF : law1_TreePart fu a0 a1 a2 = some r) : den cx (fu + nn + 8) 5 [(.agg (cXApi_Tree a0)), (I a1), (I a2)] = some (R_law1_TreePart r, []) := by
 unfold law1_TreePart at hF
 refine fnA Try.func5 Try.ntmps5 (by exact spine) (sl := [0, 1, 2]) ?_
 refine sr <| pp oBoxF <| pp oAssign <| nl <| sr <| ?_
 refine bb hF fun x1 h1 hF => ?_
 refine pp (oCallZ (dnE (T_law1_treeFact (fu := fu) (nn := nn + 0) h1) (by omega))) <| pp oAssign <| nl <| sq <| sr <| pp oMove <| pp oNot <| nl <| ?_
 refine cd hF (fun hF => ?_) (fun hF => ?_)
 · refine sr <| pp oAssign <| nl <| rt <| qsR <| ?_
   obtain rfl := inj hF
   exact fin
 · refine sk <| qs <| sr <| pp oLdA <| pp oMove <| ?_
   refine bb hF fun x2 h2 hF => ?_
   refine pp (oCallZ (dnE (T_tree_Part (fu := fu) (nn := nn + 1) h2) (by omega))) <| pp oMove <| pp oExt <| pp oExt <| ww oAlloc <| ww oAlloc <| ww oStF <| ww oStR <| nl <| sq <| sr <| pp oFAM <| rr oLdR <| pp oNeq <| ?_
   refine nl <| ?_
   refine cd hF (fun hF => ?_) (fun hF => ?_)
   · refine sr <| pp oLdA <| ?_
     refine bb hF fun x3 h3 hF => ?_
     refine pp (oCall (T_law1_none h3)) <| pp oAssign <| nl <| rt <| qsR <| ?_
     obtain rfl := inj hF
     exact fin
   · refine sk <| qs <| sq <| ?_
     refine srC (fun (s : Bool) => mkSt 80 [1, 2, 3, 8, 9, 38] [(I a1), (I a2), (.vp (cXApi_Tree a0)), (.vp (cXApi_Tree x2.1)), (.ownp (cXApi_Fault x2.2)), (B s)]) hF (fun z3 hF => ?_) (fun p1 hF => ?_)
     · refine pp oLdA <| ?_
       refine bb hF fun x4 h4 hF => ?_
       refine pp (oCallZ (T_tree_Check h4)) <| pp oField <| pp oNeq <| pp oMove <| ?_
       refine spl (d := 30) hF (fun hF => ?_) (fun hF => ?_)
       · refine no fun u1 k1 hk1 => ?_
         refine no fun u2 k2 hk2 => ?_
         refine no fun u3 k3 hk3 => ?_
         refine no fun u4 k4 hk4 => ?_
         refine no fun u5 k5 hk5 => ?_
         refine no fun u6 k6 hk6 => ?_
         refine no fun u7 k7 hk7 => ?_
         refine pp oPickT <| ?_
         obtain rfl := inj hF
         exact nlC cutR'
       · refine pt ar oFA <| pt ar oLd <| pt ar oLenSl <| pt ar oMove <| pt ar oAdd <| ?_
         refine bb hF fun x5 h5 hF => ?_
         refine pt ar (oCallZ (T_law1_in h5)) <| pt ar oNot <| pp oPickF <| ?_
         obtain rfl := inj hF
         exact nlC cutR'
     · refine mk ?_
       refine cd hF (fun hF => ?_) (fun hF => ?_)
       · refine sr <| pp oAssign <| nl <| rt <| qsR <| ?_
         obtain rfl := inj hF
         exact fin
       · refine sk <| qs <| sr <| pp oLdA <| pp oMove <| ?_
         refine bb hF fun x6 h6 hF => ?_
         refine pp (oCallZ (dnE (T_tree_Part (fu := fu) (nn := nn + 1) h6) (by omega))) <| pp oMove <| pp oExt <| pp oExt <| ww oAlloc <| ww oStF <| ww oStR <| nl <| sq <| sr <| pp oFAM <| rr oLdR <| pp oNeq <| nl <| ?_
         refine cd hF (fun hF => ?_) (fun hF => ?_)
         · refine srC (fun (s : Bool) => mkSt 80 [6] [(B s)]) hF (fun z1 hF => ?_) (fun p2 hF => ?_)
           · refine pp oLdA <| ?_
             refine bb hF fun x7 h7 hF => ?_
             refine pp (oCall (T_law1_none h7)) <| pp oMove <| ?_
             refine spl (d := 50) hF (fun hF => ?_) (fun hF => ?_)
             · refine pt ar oMove <| pt ar oFA <| pt ar oLd <| pt ar oLenSl <| pt ar oSub <| ?_
               refine bb hF fun x8 h8 hF => ?_
               refine pt ar (oCallZ (T_law1_in h8)) <| pt ar oNot <| pp oPickT <| pp oAssign <| ?_
               obtain rfl := inj hF
               exact nlC cutR'
             · refine no fun u8 k8 hk8 => ?_
               refine no fun u9 k9 hk9 => ?_
               refine no fun u10 k10 hk10 => ?_
               refine no fun u11 k11 hk11 => ?_
               refine no fun u12 k12 hk12 => ?_
               refine no fun u13 k13 hk13 => ?_
               refine no fun u14 k14 hk14 => ?_
               refine pp oPickF <| pp oAssign <| ?_
               obtain rfl := inj hF
               exact nlC cutR'
           · refine mk ?_
             refine rt <| qsR <| ?_
             obtain rfl := inj hF
             exact fin
         · refine sk <| qs <| sr <| pp oLdA <| pp oMove <| pp oFA <| pp oLd <| pp oLenSl <| pp oSub <| pp oAdd <| pp oMove <| pp oAdd <| ?_
           refine bb hF fun x9 h9 hF => ?_
           refine pp (oCallZ (dnE (T_tree_Part (fu := fu) (nn := nn + 1) h9) (by omega))) <| pp oMove <| pp oExt <| pp oExt <| ww oAlloc <| ww oStF <| ww oStR <| nl <| ?_
           refine srC (fun (s : Bool) => mkSt 80 [6] [(B s)]) hF (fun z2 hF => ?_) (fun p3 hF => ?_)
           · refine pp oFAM <| rr oLdR <| pp oEql <| pp oMove <| ?_
             refine spl (d := 75) hF (fun hF => ?_) (fun hF => ?_)
             · refine pt ar oLdA <| pt ar oLdA <| ?_
               refine bb hF fun x10 h10 hF => ?_
               refine pt ar (oCall (T_same_Trees h10)) <| pp oPickT <| pp oAssign <| ?_
               obtain rfl := inj hF
               exact nlC cutR'
             · refine no fun u15 k15 hk15 => ?_
               refine no fun u16 k16 hk16 => ?_
               refine no fun u17 k17 hk17 => ?_
               refine pp oPickF <| pp oAssign <| ?_
               obtain rfl := inj hF
               exact nlC cutR'
           · refine mk ?_
             refine rt <| ?_
             obtain rfl := inj hF
             exact fin

/-! turnery/turnerylaw1.TreePlaces -/
noncomputable def law1_TreePlaces_L1 (a0 : XApi_Tree) (a1 : Int) (y5 : XApi_Tree) (y6 : Int) : Option (Lp (XApi_Tree × Int) XApi_Tree) :=
 if (decide (y6 < (a0.Nodes.length : Int))) then
 ((idx a0.Nodes y6).bind fun x2 =>
 (app y5.Nodes ([(XApi_Node.mk x2.Kind x2.Text x2.N x2.Size x2.Kids a1)] : List XApi_Node)).bind fun x3 =>
 some (.next ((XApi_Tree.mk x3), (w64 (y6 + 1)))))
 else
 (some (.out y5))
noncomputable def law1_TreePlaces (fu : Nat) (a0 : XApi_Tree) (a1 : Int) : Option Bool :=
 (law1_treeFact fu).bind fun x1 =>
 if (!x1) then
 (some false)
 else
 (if (decide (a1 < 0)) then
 (some true)
 else
 ((Loop (fun (s : (XApi_Tree × Int)) => law1_TreePlaces_L1 a0 a1 s.1 s.2) ((XApi_Tree.mk []), 0)).bind fun v1 =>
 (tree_Same a0 v1).bind fun x4 =>
 if (x4.2.Code != 0) then
 ((if (!x4.1) then
 ((tree_Check a0).bind fun x5 =>
 if (x5.Code != 0) then
 (some true)
 else
 ((tree_Check v1).bind fun x6 =>
 some (x6.Code != 0)))
 else
 (some false)).bind fun p1 =>
 some p1)
 else
 (some x4.1)))
abbrev R_law1_TreePlaces (r : Bool) : AV := (B r)
set_option maxHeartbeats 4000000 in
theorem T_law1_TreePlaces {fu nn : Nat} {a0 : XApi_Tree} {a1 : Int} {r : Bool} (hF : law1_TreePlaces fu a0 a1 = some r) : den cx (fu + nn + 8) 6 [(.agg (cXApi_Tree a0)), (I a1)] = some (R_law1_TreePlaces r, []) := by
 unfold law1_TreePlaces at hF
 refine fnA Try.func6 Try.ntmps6 (by exact spine) (sl := [0, 1]) ?_
 refine sr <| pp oBoxF <| pp oAssign <| nl <| sr <| ?_
 refine bb hF fun x1 h1 hF => ?_
 refine pp (oCallZ (dnE (T_law1_treeFact (fu := fu) (nn := nn + 0) h1) (by omega))) <| pp oAssign <| nl <| sq <| sr <| pp oMove <| pp oNot <| nl <| ?_
 refine cd hF (fun hF => ?_) (fun hF => ?_)
 · refine sr <| pp oAssign <| nl <| rt <| qsR <| ?_
   obtain rfl := inj hF
   exact fin
 · refine sk <| qs <| sq <| sr <| pp oMove <| pp oLss <| nl <| ?_
   refine cd hF (fun hF => ?_) (fun hF => ?_)
   · refine sr <| pp oAssign <| nl <| rt <| qsR <| ?_
     obtain rfl := inj hF
     exact fin
   · refine sk <| qs <| sr <| ww oAlloc <| nl <| sq <| sr <| pp oAssign <| nl <| ?_
     refine lp (fun (s : (XApi_Tree × Int)) => mkSt 60 [1, 2, 6, 7] [(I a1), (.vp (cXApi_Tree a0)), (.ownp (cXApi_Tree_SOe s.1)), (I s.2)]) (fun (s : XApi_Tree) => mkSt 60 [2, 6] [(.vp (cXApi_Tree a0)), (.ownp (cXApi_Tree_SOe s))]) hF cutR' ?_ ?_
     · rintro ⟨y5, y6⟩ z1 hF
       replace hF : law1_TreePlaces_L1 a0 a1 y5 y6 = some z1 := hF
       unfold law1_TreePlaces_L1 at hF
       refine mk ?_
       refine sq <| sr <| pp oMove <| pp oFA <| pp oLd <| pp oLenSl <| pp oLss <| nl <| ?_
       refine cd hF (fun hF => ?_) (fun hF => ?_)
       · refine sk <| qs <| sq <| bl <| sr <| pp oFA <| pp oLd <| pp oMove <| ?_
         refine bb hF fun x2 h2 hF => ?_
         refine pp (oIx h2) <| pp oLdA <| ww oAlloc <| ww oStR <| nl <| sr <| pp oMove <| pp oFAM <| ww oStR <| nl <| rg <| pp oFAM <| rr oLdR <| rr oLdRA <| ?_
         refine pp oBSF <| ?_
         refine bb hF fun x3 h3 hF => ?_
         refine ww (oApp h3) <| pp oFAM <| ww oStR <| nl <| qb <| qs <| rg <| pp oMove <| pp oAdd <| pp oAssign <| nl <| ?_
         exact ln hF cutR'
       · refine ex <| qsE <| ?_
         exact lx hF cutR'
     · intro v1 hF
       refine qmk ?_
       refine qs <| sr <| pp oLdA <| rr oLdRA <| ?_
       refine bb hF fun x4 h4 hF => ?_
       refine rr (oCall (T_tree_Same h4)) <| pp oMove <| pp oExt <| pp oExt <| ww oAlloc <| pp oAssign <| ww oStF <| nl <| sq <| sr <| pp oFA <| pp oLd <| pp oNeq <| nl <| ?_
       refine cd hF (fun hF => ?_) (fun hF => ?_)
       · refine srC (fun (s : Bool) => mkSt 60 [4] [(B s)]) hF (fun z2 hF => ?_) (fun p1 hF => ?_)
         · refine pp oMove <| pp oNot <| pp oMove <| ?_
           refine spl (d := 47) hF (fun hF => ?_) (fun hF => ?_)
           · refine pt ar oLdA <| ?_
             refine bb hF fun x5 h5 hF => ?_
             refine pt ar (oCallZ (T_tree_Check h5)) <| pt ar oField <| pt ar oNeq <| pt ar oMove <| ?_
             refine splG (d := 52) hF (fun hF => ?_) (fun hF => ?_)
             · refine no fun u1 k1 hk1 => ?_
               refine no fun u2 k2 hk2 => ?_
               refine no fun u3 k3 hk3 => ?_
               refine no fun u4 k4 hk4 => ?_
               refine pt ar oPickT <| pp oPickT <| pp oAssign <| ?_
               obtain rfl := inj hF
               exact nlC cutR'
             · refine rt_ ar oLdRA <| ?_
               refine bb hF fun x6 h6 hF => ?_
               refine rt_ ar (oCallZ (T_tree_Check h6)) <| pt ar oField <| pt ar oNeq <| pt ar oPickF <| pp oPickT <| pp oAssign <| ?_
               obtain rfl := inj hF
               exact nlC cutR'
           · refine no fun u5 k5 hk5 => ?_
             refine no fun u6 k6 hk6 => ?_
             refine no fun u7 k7 hk7 => ?_
             refine no fun u8 k8 hk8 => ?_
             refine no fun u9 k9 hk9 => ?_
             refine no fun u10 k10 hk10 => ?_
             refine no fun u11 k11 hk11 => ?_
             refine no fun u12 k12 hk12 => ?_
             refine no fun u13 k13 hk13 => ?_
             refine no fun u14 k14 hk14 => ?_
             refine pp oPickF <| pp oAssign <| ?_
             obtain rfl := inj hF
             exact nlC cutR'
         · refine mk ?_
           refine rt <| qsR <| ?_
           obtain rfl := inj hF
           exact fin
       · refine sk <| qs <| sr <| pp oMove <| pp oAssign <| nl <| rt <| ?_
         obtain rfl := inj hF
         exact fin

end Go.Ab
