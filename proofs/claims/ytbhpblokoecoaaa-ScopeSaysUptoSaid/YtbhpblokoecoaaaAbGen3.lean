/-
  Functions of the program as functions on plain data (written by gen3.py).
-/
import Derived.Test.YtbhpblokoecoaaaAbGen2
namespace Go.Ab
open Go Go.Proofs
/-! turnery/scope.Names -/
noncomputable def scope_Names_L1 (x4 : (List Int)) (y8 : XScope_finder) (y9 : Int) : Option (Lp (XScope_finder × Int) XScope_finder) :=
 if (decide (y9 < (x4.length : Int))) then
 ((idx y8.out y9).bind fun x5 =>
 some (.next ((XScope_finder.mk y8.t (List.set y8.out ((y9) : Int).toNat (-1)) y8.room), (w64 (y9 + 1)))))
 else
 (some (.out y8))
noncomputable def scope_Names_R2 (a0 : XApi_Tree) (y15 : (Int × XApi_Node)) (y16 : (List Int)) (y17 : XApi_Fault) (y18 : XScope_finder) : Option (Rg ((List Int) × XApi_Fault × XScope_finder)) :=
 (idx a0.Nodes (w64 ((a0.Nodes.length : Int) - 1))).bind fun x8 =>
 (idx x8.Kids y15.1).bind fun x9 =>
 (scope_helps y15.2.Text).bind fun x10 =>
 if x10 then
 ((core_Fault 12 x9).bind fun x11 =>
 some (.ret ([], x11, y18)))
 else
 ((scope_finder_declare y18 x9).bind fun x12 =>
 if (x12.1 != 0) then
 ((core_Fault x12.1 x9).bind fun x13 =>
 some (.ret ([], x13, x12.2)))
 else
 (some (.go (y16, y17, x12.2))))
noncomputable def scope_Names (fu : Nat) (a0 : XApi_Tree) : Option ((List Int) × XApi_Fault) :=
 (tree_Check a0).bind fun x1 =>
 if (!((x1.Code == 0) && ((x1.At == 0) && true))) then
 (some ([], x1))
 else
 ((idx a0.Nodes (w64 ((a0.Nodes.length : Int) - 1))).bind fun x2 =>
 if (x2.Kind != 1) then
 ((core_Fault 11 0).bind fun x3 =>
 some ([], x3))
 else
 ((mks (a0.Nodes.length : Int) (0 : Int)).bind fun x4 =>
 (Loop (fun (s : (XScope_finder × Int)) => scope_Names_L1 x4 s.1 s.2) ((XScope_finder.mk a0 x4 ([([] : (List (ByteArray × Int)))], [([] : (List (ByteArray × Int)))].length)), 0)).bind fun v1 =>
 (ast_Kids a0 (w64 ((a0.Nodes.length : Int) - 1))).bind fun x6 =>
 (kidsOf XApi_Node.Kids x6.1.Nodes x6.2).bind fun x7 =>
 (RangeL (fun (y15 : (Int × XApi_Node)) (s : ((List Int) × XApi_Fault × XScope_finder)) => scope_Names_R2 a0 y15 s.1 s.2.1 s.2.2) x7 ([], (XApi_Fault.mk 0 0), v1)).bind (Rg.on (fun (s : ((List Int) × XApi_Fault × XScope_finder)) =>
 ((idx a0.Nodes (w64 ((a0.Nodes.length : Int) - 1))).bind fun x14 =>
 (scope_finder_all fu s.2.2 x14.Kids).bind fun x15 =>
 if (!((x15.1.Code == 0) && ((x15.1.At == 0) && true))) then
 (some ([], x15.1))
 else
 (some (x15.2.out, (XApi_Fault.mk 0 0))))) (fun (s : ((List Int) × XApi_Fault × XScope_finder)) =>
 (some (s.1, s.2.1))) (fun _ => none))))
abbrev R_scope_Names (r : ((List Int) × XApi_Fault)) : AV := (.tup [(.own ((r.1).map cInt_i64) (r.1).length), (.agg (cXApi_Fault r.2))])
set_option maxHeartbeats 4000000 in
theorem T_scope_Names {fu nn : Nat} {a0 : XApi_Tree} {r : ((List Int) × XApi_Fault)} (hF : scope_Names fu a0 = some r) : den cx (fu + nn + 6) 6 [(.agg (cXApi_Tree a0))] = some (R_scope_Names r, []) := by
 unfold scope_Names at hF
 refine fnA Try.func6 Try.ntmps6 (by exact spine) (sl := [0]) ?_
 refine sr <| pp oBoxF <| ww oAlloc <| ww oAlloc <| nl <| sq <| sr <| pp oLdA <| ?_
 refine bb hF fun x1 h1 hF => ?_
 refine pp (oCall (T_tree_Check h1)) <| ww oAlloc <| ww oStF <| nl <| sr <| pp oLdA <| pp oBuild <| pp (oStq (eq27_neq ..)) <| nl <| ?_
 refine cd hF (fun hF => ?_) (fun hF => ?_)
 · refine srD <| pp oLdA <| ww oStR <| ww oStR <| nlD <| rt <| qsR <| ?_
   obtain rfl := inj hF
   exact finT
 · refine sk <| qs <| sr <| pp oFA <| pp oLd <| pp oLenSl <| pp oSub <| ww oAlloc <| ww oStF <| nl <| sq <| sr <| pp oFA <| pp oLd <| ?_
   refine pp oLd <| ?_
   refine bb hF fun x2 h2 hF => ?_
   refine pp (oIx h2) <| pp oFA <| pp oLd <| pp oNeq <| nl <| ?_
   refine cd hF (fun hF => ?_) (fun hF => ?_)
   · refine sr <| ?_
     refine bb hF fun x3 h3 hF => ?_
     refine pp (oCall (T_core_Fault h3)) <| ww oStR <| ww oStR <| nl <| rt <| qsR <| ?_
     obtain rfl := inj hF
     exact finT
   · refine sk <| qs <| srD <| pp oLdA <| pp oFA <| pp oLd <| pp oLenSl <| ?_
     refine bb hF fun x4 h4 hF => ?_
     refine ww (oMake (c := cInt_i64) h4 rfl) <| ww oMkMap <| ww oBSM <| pp oBuild <| ww oBoxM <| ww oAlloc <| ww oStR <| nlD <| sq <| sr <| rr oLdR <| pp oNil <| pp oFAM <| rr oLdR <| ?_
     refine pp (oLenRs (m := x4.length)) <| pp oMove <| nl <| ?_
     refine lp (fun (s : (XScope_finder × Int)) => mkSt 99 [1, 2, 3, 5, 6, 44, 45] [(.vp (cXApi_Tree a0)), (.ownp [(.own (([] : List Int).map cInt_i64) ([] : List Int).length)]), (.ownp (cXApi_Fault (XApi_Fault.mk 0 0))), (.vp (cInt_i64 (w64 ((a0.Nodes.length : Int) - 1)))), (.ownp [(.ownp (cXScope_finder_SIOLMe s.1))]), (I (x4.length : Int)), (I s.2)]) (fun (s : XScope_finder) => mkSt 99 [1, 2, 3, 5, 6] [(.vp (cXApi_Tree a0)), (.ownp [(.own (([] : List Int).map cInt_i64) ([] : List Int).length)]), (.ownp (cXApi_Fault (XApi_Fault.mk 0 0))), (.vp (cInt_i64 (w64 ((a0.Nodes.length : Int) - 1)))), (.ownp [(.ownp (cXScope_finder_SIOLMe s))])]) hF cutR' ?_ ?_
     · rintro ⟨y8, y9⟩ z1 hF
       replace hF : scope_Names_L1 x4 y8 y9 = some z1 := hF
       unfold scope_Names_L1 at hF
       refine mk ?_
       refine sr <| pp oLss <| nl <| sq <| ?_
       refine cd hF (fun hF => ?_) (fun hF => ?_)
       · refine sk <| qs <| sq <| bl <| sr <| pp oMove <| pp oAssign <| nl <| rg <| rr oLdR <| pp oNil <| pp oFAM <| ww oLdX <| pp oMove <| ?_
         refine bb hF fun x5 h5 hF => ?_
         refine rr (oIxM h5) <| ww (oStL (idx_nat h5) (-1)) <| nl <| qb <| qs <| rg <| pp oAdd <| pp oMove <| nl <| ?_
         exact ln hF cutR'
       · refine ex <| qsE <| ?_
         exact lx hF cutR'
     · intro v1 hF
       refine qmk ?_
       refine qs <| sq <| sr <| pp oLdA <| pp oLd <| ?_
       refine bb hF fun x6 h6 hF => ?_
       refine pp (oCallZ (T_ast_Kids h6)) <| nl <| bl <| ?_
       refine bb hF fun x7 h7 hF => ?_
       refine rng2 (fun (s : ((List Int) × XApi_Fault × XScope_finder)) => mkSt 99 [1, 2, 3, 5, 6] [(.vp (cXApi_Tree a0)), (.ownp [(.own ((s.1).map cInt_i64) (s.1).length)]), (.ownp (cXApi_Fault s.2.1)), (.vp (cInt_i64 (w64 ((a0.Nodes.length : Int) - 1)))), (.ownp [(.ownp (cXScope_finder_SIOLMe s.2.2))])]) 0 (enc := (kidE cXApi_Node)) hF (by exact kidsR (by rfl) h7) cutR' (fun _ => rfl) (fun _ => rfl) (by rfl) ?_ ?_ ?_ ?_
       · rintro y15 ⟨y16, y17, y18⟩ z2 hF
         replace hF : scope_Names_R2 a0 y15 y16 y17 y18 = some z2 := hF
         unfold scope_Names_R2 at hF
         refine rmk ?_
         refine sr <| pp oAssign <| nl <| rg <| ww oAlloc <| ww oStF <| nl <| rga <| bl <| sr <| pp oFA <| pp oLd <| pp oLd <| ?_
         refine bb hF fun x8 h8 hF => ?_
         refine pp (oIx h8) <| pp oFA <| pp oLd <| pp oMove <| ?_
         refine bb hF fun x9 h9 hF => ?_
         refine pp (oIx h9) <| pp oLd <| pp oAssign <| nl <| sq <| sr <| pp oFA <| pp oLd <| ?_
         refine bb hF fun x10 h10 hF => ?_
         refine pp (oCallZ (T_scope_helps h10)) <| nl <| ?_
         refine cd hF (fun hF => ?_) (fun hF => ?_)
         · refine sr <| pp oMove <| ?_
           refine bb hF fun x11 h11 hF => ?_
           refine pp (oCall (T_core_Fault h11)) <| ww oStR <| ww oStR <| nl <| rt <| qsR <| qbR <| ?_
           exact rgr hF cutR'
         · refine sk <| qs <| sr <| rr oLdR <| pp oMove <| ?_
           refine bb hF fun x12 h12 hF => ?_
           refine ww (oCallTZ (T_scope_finder_declare h12)) <| pp oAssign <| nl <| sr <| pp oMove <| pp oNeq <| nl <| ?_
           refine cd hF (fun hF => ?_) (fun hF => ?_)
           · refine sr <| pp oMove <| pp oMove <| ?_
             refine bb hF fun x13 h13 hF => ?_
             refine pp (oCall (T_core_Fault h13)) <| ww oStR <| ww oStR <| nl <| rt <| qbR <| ?_
             exact rgr hF cutR'
           · refine sk <| qb <| ?_
             exact rgo hF cutR'
       · intro s hF
         refine qmk ?_
         refine qb <| qs <| sq <| srD <| rr oLdR <| pp oFA <| pp oLd <| pp oLd <| ?_
         refine bb hF fun x14 h14 hF => ?_
         refine pp (oIx h14) <| pp oFA <| pp oLd <| ?_
         refine bb hF fun x15 h15 hF => ?_
         refine ww (oCallT (dnE (T_scope_finder_all (fu := fu) (nn := nn + 2) h15) (by omega))) <| ww oAlloc <| ww oStF <| nlD <| sr <| pp oLdA <| pp oBuild <| pp (oStq (eq27_neq ..)) <| nl <| ?_
         refine cd hF (fun hF => ?_) (fun hF => ?_)
         · refine srD <| pp oLdA <| ww oStR <| ww oStR <| nlD <| rt <| qsR <| ?_
           obtain rfl := inj hF
           exact finT
         · refine sk <| qs <| sr <| rr oLdR <| pp oNil <| pp oFAM <| ww oLdX <| pp oBuild <| ww oStR <| ww oStR <| nl <| rt <| ?_
           obtain rfl := inj hF
           exact finT
       · intro s hF
         refine qmk ?_
         refine qbR <| qsR <| ?_
         obtain rfl := inj hF
         exact finT
       · exact fun _ hF => by cases hF

/-! turnery/turneryref1.in -/

noncomputable def ref1_in (a0 : Int) (a1 : Int) (a2 : Int) : Option Bool :=
 some (if (decide (a1 ≤ a0)) then (decide (a0 ≤ a2)) else false)
abbrev R_ref1_in (r : Bool) : AV := (B r)
set_option maxHeartbeats 4000000 in
theorem T_ref1_in {nn : Nat} {a0 : Int} {a1 : Int} {a2 : Int} {r : Bool} (hF : ref1_in a0 a1 a2 = some r) : den cx (nn + 1) 44 [(I a0), (I a1), (I a2)] = some (R_ref1_in r, []) := by
 unfold ref1_in at hF
 refine fnA Try.func44 Try.ntmps44 (by exact spine) (sl := [0, 1, 2]) ?_
 refine sr <| pp oAssign <| nl <| sr <| pp oMove <| pp oMove <| pp oGeq <| pp oMove <| pg ar oMove <| pg ar oMove <| pg ar oLeq <| pp oPick <| pp oAssign <| nl <| ?_
 refine rt <| ?_
 obtain rfl := inj hF
 exact fin1

/-! turnery/turneryref1.fault -/

noncomputable def ref1_fault (a0 : Int) (a1 : Int) : Option XApi_Fault :=
 some (XApi_Fault.mk a0 a1)
abbrev R_ref1_fault (r : XApi_Fault) : AV := (.agg (cXApi_Fault r))
set_option maxHeartbeats 4000000 in
theorem T_ref1_fault {nn : Nat} {a0 : Int} {a1 : Int} {r : XApi_Fault} (hF : ref1_fault a0 a1 = some r) : den cx (nn + 1) 26 [(I a0), (I a1)] = some (R_ref1_fault r, []) := by
 unfold ref1_fault at hF
 refine fnA Try.func26 Try.ntmps26 (by exact spine) (sl := [0, 1]) ?_
 refine sr <| ww oAlloc <| nl <| sr <| pp oMove <| pp oMove <| pp oBuild <| ww oStR <| nl <| rt <| ?_
 obtain rfl := inj hF
 exact fin1

/-! turnery/turneryref1.Expression -/

noncomputable def ref1_Expression (a0 : Int) : Option Bool :=
 (ref1_in a0 31 40).bind fun x1 =>
 some x1
abbrev R_ref1_Expression (r : Bool) : AV := (B r)
set_option maxHeartbeats 4000000 in
theorem T_ref1_Expression {nn : Nat} {a0 : Int} {r : Bool} (hF : ref1_Expression a0 = some r) : den cx (nn + 2) 52 [(I a0)] = some (R_ref1_Expression r, []) := by
 unfold ref1_Expression at hF
 refine fnA Try.func52 Try.ntmps52 (by exact spine) (sl := [0]) ?_
 refine sr <| pp oAssign <| nl <| sr <| pp oMove <| ?_
 refine bb hF fun x1 h1 hF => ?_
 refine pp (oCall (T_ref1_in h1)) <| pp oAssign <| nl <| rt <| ?_
 obtain rfl := inj hF
 exact fin1

/-! turnery/turneryref1.kids -/

noncomputable def ref1_kids (a0 : Int) : Option (Int × Int) :=
 if (if (if (a0 == 1) then true else (a0 == 11)) then true else (a0 == 33)) then
 (some (0, 1099511627776))
 else
 (if (if (a0 == 3) then true else (a0 == 18)) then
 (some (1, 1099511627776))
 else
 (if (a0 == 2) then
 (some (0, 200))
 else
 (if (if (a0 == 12) then true else (a0 == 23)) then
 (some (0, 1))
 else
 (if (if (if (if (a0 == 13) then true else (a0 == 19)) then true else (a0 == 35)) then true else (a0 == 40)) then
 (some (1, 1))
 else
 (if (a0 == 14) then
 (some (2, 3))
 else
 (if (if (if (if (if (if (a0 == 15) then true else (a0 == 16)) then true else (a0 == 34)) then true else (a0 == 36)) then true else (a0 == 37)) then true else (a0 == 39)) then
 (some (2, 2))
 else
 (if (a0 == 38) then
 (some (3, 3))
 else
 (if (a0 == 17) then
 (some (4, 4))
 else
 (some (0, 0))))))))))
abbrev R_ref1_kids (r : (Int × Int)) : AV := (.tup [(I r.1), (I r.2)])
set_option maxHeartbeats 4000000 in
theorem T_ref1_kids {nn : Nat} {a0 : Int} {r : (Int × Int)} (hF : ref1_kids a0 = some r) : den cx (nn + 1) 69 [(I a0)] = some (R_ref1_kids r, []) := by
 unfold ref1_kids at hF
 refine fnA Try.func69 Try.ntmps69 (by exact spine) (sl := [0]) ?_
 refine sr <| pp oAssign <| pp oAssign <| nl <| sq <| sr <| pp oMove <| pp oEql <| pp oMove <| pg ar oMove <| pg ar oEql <| pp oPick <| pp oMove <| pg ar oMove <| ?_
 refine pg ar oEql <| pp oPick <| nl <| ?_
 refine cd hF (fun hF => ?_) (fun hF => ?_)
 · refine sr <| pp oAssign <| pp oAssign <| nl <| rt <| qsR <| ?_
   obtain rfl := inj hF
   exact finT
 · refine sk <| qs <| sq <| sr <| pp oMove <| pp oEql <| pp oMove <| pg ar oMove <| pg ar oEql <| pp oPick <| nl <| ?_
   refine cd hF (fun hF => ?_) (fun hF => ?_)
   · refine sr <| pp oAssign <| pp oAssign <| nl <| rt <| qsR <| ?_
     obtain rfl := inj hF
     exact finT
   · refine sk <| qs <| sq <| sr <| pp oMove <| pp oEql <| nl <| ?_
     refine cd hF (fun hF => ?_) (fun hF => ?_)
     · refine sr <| pp oAssign <| pp oAssign <| nl <| rt <| qsR <| ?_
       obtain rfl := inj hF
       exact finT
     · refine sk <| qs <| sq <| sr <| pp oMove <| pp oEql <| pp oMove <| pg ar oMove <| pg ar oEql <| pp oPick <| nl <| ?_
       refine cd hF (fun hF => ?_) (fun hF => ?_)
       · refine sr <| pp oAssign <| pp oAssign <| nl <| rt <| qsR <| ?_
         obtain rfl := inj hF
         exact finT
       · refine sk <| qs <| sq <| sr <| pp oMove <| pp oEql <| pp oMove <| pg ar oMove <| pg ar oEql <| pp oPick <| pp oMove <| pg ar oMove <| pg ar oEql <| pp oPick <| ?_
         refine pp oMove <| pg ar oMove <| pg ar oEql <| pp oPick <| nl <| ?_
         refine cd hF (fun hF => ?_) (fun hF => ?_)
         · refine sr <| pp oAssign <| pp oAssign <| nl <| rt <| qsR <| ?_
           obtain rfl := inj hF
           exact finT
         · refine sk <| qs <| sq <| sr <| pp oMove <| pp oEql <| nl <| ?_
           refine cd hF (fun hF => ?_) (fun hF => ?_)
           · refine sr <| pp oAssign <| pp oAssign <| nl <| rt <| qsR <| ?_
             obtain rfl := inj hF
             exact finT
           · refine sk <| qs <| sq <| sr <| pp oMove <| pp oEql <| pp oMove <| pg ar oMove <| pg ar oEql <| pp oPick <| pp oMove <| pg ar oMove <| pg ar oEql <| pp oPick <| ?_
             refine pp oMove <| pg ar oMove <| pg ar oEql <| pp oPick <| pp oMove <| pg ar oMove <| pg ar oEql <| pp oPick <| pp oMove <| pg ar oMove <| pg ar oEql <| pp oPick <| nl <| ?_
             refine cd hF (fun hF => ?_) (fun hF => ?_)
             · refine sr <| pp oAssign <| pp oAssign <| nl <| rt <| qsR <| ?_
               obtain rfl := inj hF
               exact finT
             · refine sk <| qs <| sq <| sr <| pp oMove <| pp oEql <| nl <| ?_
               refine cd hF (fun hF => ?_) (fun hF => ?_)
               · refine sr <| pp oAssign <| pp oAssign <| nl <| rt <| qsR <| ?_
                 obtain rfl := inj hF
                 exact finT
               · refine sk <| qs <| sq <| sr <| pp oMove <| pp oEql <| nl <| ?_
                 refine cd hF (fun hF => ?_) (fun hF => ?_)
                 · refine sr <| pp oAssign <| pp oAssign <| nl <| rt <| qsR <| ?_
                   obtain rfl := inj hF
                   exact finT
                 · refine sk <| qs <| sr <| pp oAssign <| pp oAssign <| nl <| rt <| ?_
                   obtain rfl := inj hF
                   exact finT

/-! turnery/turneryref1.Statement -/

noncomputable def ref1_Statement (a0 : Int) : Option Bool :=
 ((ref1_in a0 11 18).bind fun x1 =>
 if x1 then
 (some true)
 else
 ((ref1_in a0 21 24).bind fun x2 =>
 some x2)).bind fun p1 =>
 some p1
abbrev R_ref1_Statement (r : Bool) : AV := (B r)
set_option maxHeartbeats 4000000 in
theorem T_ref1_Statement {nn : Nat} {a0 : Int} {r : Bool} (hF : ref1_Statement a0 = some r) : den cx (nn + 2) 95 [(I a0)] = some (R_ref1_Statement r, []) := by
 unfold ref1_Statement at hF
 refine fnA Try.func95 Try.ntmps95 (by exact spine) (sl := [0]) ?_
 refine sr <| pp oAssign <| nl <| ?_
 refine srC (fun (s : Bool) => mkSt 9 [2] [(B s)]) hF (fun z1 hF => ?_) (fun p1 hF => ?_)
 · refine pp oMove <| ?_
   refine bb hF fun x1 h1 hF => ?_
   refine pp (oCall (T_ref1_in h1)) <| pp oMove <| ?_
   refine spl (d := 5) hF (fun hF => ?_) (fun hF => ?_)
   · refine no fun u1 k1 hk1 => ?_
     refine no fun u2 k2 hk2 => ?_
     refine pp oPickT <| pp oAssign <| ?_
     obtain rfl := inj hF
     exact nlC cutR'
   · refine pt ar oMove <| ?_
     refine bb hF fun x2 h2 hF => ?_
     refine pt ar (oCall (T_ref1_in h2)) <| pp oPickF <| pp oAssign <| ?_
     obtain rfl := inj hF
     exact nlC cutR'
 · refine mk ?_
   refine rt <| ?_
   obtain rfl := inj hF
   exact fin1

/-! turnery/turneryref1.goes -/

noncomputable def ref1_goes (a0 : Int) (a1 : Int) (a2 : Int) (a3 : Int) : Option Bool :=
 if (a0 == 1) then
 (some (if (a3 == 2) then true else (a3 == 3)))
 else
 (if (a0 == 3) then
 (if (a1 == (w64 (a2 - 1))) then
 (some (a3 == 11))
 else
 (some (a3 == 4)))
 else
 (if (a0 == 11) then
 ((ref1_Statement a3).bind fun x1 =>
 some x1)
 else
 (if (if (a0 == 18) then (decide (0 < a1)) else false) then
 ((ref1_Statement a3).bind fun x2 =>
 some (if (if x2 then true else (a3 == 19)) then true else (a3 == 20)))
 else
 (if (if (if (if (if (a0 == 14) then true else (a0 == 15)) then (decide (0 < a1)) else false) then true else (if (a0 == 16) then (a1 == 0) else false)) then true else (if (a0 == 17) then (a1 == 3) else false)) then
 (some (a3 == 11))
 else
 (if (if (a0 == 17) then (a1 == 0) else false) then
 (some (if (if (a3 == 12) then true else (a3 == 13)) then true else (a3 == 24)))
 else
 (if (if (a0 == 17) then (a1 == 1) else false) then
 ((ref1_Expression a3).bind fun x3 =>
 some (if x3 then true else (a3 == 24)))
 else
 (if (if (a0 == 17) then (a1 == 2) else false) then
 (some (if (a3 == 13) then true else (a3 == 24)))
 else
 ((ref1_Expression a3).bind fun x4 =>
 some x4))))))))
abbrev R_ref1_goes (r : Bool) : AV := (B r)
set_option maxHeartbeats 4000000 in
theorem T_ref1_goes {nn : Nat} {a0 : Int} {a1 : Int} {a2 : Int} {a3 : Int} {r : Bool} (hF : ref1_goes a0 a1 a2 a3 = some r) : den cx (nn + 3) 70 [(I a0), (I a1), (I a2), (I a3)] = some (R_ref1_goes r, []) := by
 unfold ref1_goes at hF
 refine fnA Try.func70 Try.ntmps70 (by exact spine) (sl := [0, 1, 2, 3]) ?_
 refine sr <| pp oAssign <| nl <| sq <| sr <| pp oMove <| pp oEql <| nl <| ?_
 refine cd hF (fun hF => ?_) (fun hF => ?_)
 · refine sr <| pp oMove <| pp oEql <| pp oMove <| pg ar oMove <| pg ar oEql <| pp oPick <| pp oAssign <| nl <| rt <| qsR <| ?_
   obtain rfl := inj hF
   exact fin1
 · refine sk <| qs <| sq <| sr <| pp oMove <| pp oEql <| nl <| ?_
   refine cd hF (fun hF => ?_) (fun hF => ?_)
   · refine sq <| sr <| pp oMove <| pp oMove <| pp oSub <| pp oEql <| nl <| ?_
     refine cd hF (fun hF => ?_) (fun hF => ?_)
     · refine sr <| pp oMove <| pp oEql <| pp oAssign <| nl <| rt <| qsR <| qsR <| ?_
       obtain rfl := inj hF
       exact fin1
     · refine sk <| qs <| sr <| pp oMove <| pp oEql <| pp oAssign <| nl <| rt <| qsR <| ?_
       obtain rfl := inj hF
       exact fin1
   · refine sk <| qs <| sq <| sr <| pp oMove <| pp oEql <| nl <| ?_
     refine cd hF (fun hF => ?_) (fun hF => ?_)
     · refine sr <| pp oMove <| ?_
       refine bb hF fun x1 h1 hF => ?_
       refine pp (oCall (T_ref1_Statement h1)) <| pp oAssign <| nl <| rt <| qsR <| ?_
       obtain rfl := inj hF
       exact fin1
     · refine sk <| qs <| sq <| sr <| pp oMove <| pp oEql <| pp oMove <| pg ar oMove <| pg ar oGtr <| pp oPick <| nl <| ?_
       refine cd hF (fun hF => ?_) (fun hF => ?_)
       · refine sr <| pp oMove <| ?_
         refine bb hF fun x2 h2 hF => ?_
         refine pp (oCall (T_ref1_Statement h2)) <| pp oMove <| pg ar oMove <| pg ar oEql <| pp oPick <| pp oMove <| pg ar oMove <| pg ar oEql <| pp oPick <| pp oAssign <| nl <| rt <| qsR <| ?_
         obtain rfl := inj hF
         exact fin1
       · refine sk <| qs <| sq <| sr <| pp oMove <| pp oEql <| pp oMove <| pg ar oMove <| pg ar oEql <| pp oPick <| pp oMove <| pg ar oMove <| pg ar oGtr <| pp oPick <| ?_
         refine pp oMove <| pg ar oMove <| pg ar oEql <| pg ar oMove <| pg ar oMove <| pg ar oEql <| pg ar oPick <| pp oPick <| pp oMove <| pg ar oMove <| pg ar oEql <| pg ar oMove <| pg ar oMove <| pg ar oEql <| ?_
         refine pg ar oPick <| pp oPick <| nl <| ?_
         refine cd hF (fun hF => ?_) (fun hF => ?_)
         · refine sr <| pp oMove <| pp oEql <| pp oAssign <| nl <| rt <| qsR <| ?_
           obtain rfl := inj hF
           exact fin1
         · refine sk <| qs <| sq <| sr <| pp oMove <| pp oEql <| pp oMove <| pg ar oMove <| pg ar oEql <| pp oPick <| nl <| ?_
           refine cd hF (fun hF => ?_) (fun hF => ?_)
           · refine sr <| pp oMove <| pp oEql <| pp oMove <| pg ar oMove <| pg ar oEql <| pp oPick <| pp oMove <| pg ar oMove <| pg ar oEql <| pp oPick <| pp oAssign <| nl <| rt <| ?_
             refine qsR <| ?_
             obtain rfl := inj hF
             exact fin1
           · refine sk <| qs <| sq <| sr <| pp oMove <| pp oEql <| pp oMove <| pg ar oMove <| pg ar oEql <| pp oPick <| nl <| ?_
             refine cd hF (fun hF => ?_) (fun hF => ?_)
             · refine sr <| pp oMove <| ?_
               refine bb hF fun x3 h3 hF => ?_
               refine pp (oCall (T_ref1_Expression h3)) <| pp oMove <| pg ar oMove <| pg ar oEql <| pp oPick <| pp oAssign <| nl <| rt <| qsR <| ?_
               obtain rfl := inj hF
               exact fin1
             · refine sk <| qs <| sq <| sr <| pp oMove <| pp oEql <| pp oMove <| pg ar oMove <| pg ar oEql <| pp oPick <| nl <| ?_
               refine cd hF (fun hF => ?_) (fun hF => ?_)
               · refine sr <| pp oMove <| pp oEql <| pp oMove <| pg ar oMove <| pg ar oEql <| pp oPick <| pp oAssign <| nl <| rt <| qsR <| ?_
                 obtain rfl := inj hF
                 exact fin1
               · refine sk <| qs <| sr <| pp oMove <| ?_
                 refine bb hF fun x4 h4 hF => ?_
                 refine pp (oCall (T_ref1_Expression h4)) <| pp oAssign <| nl <| rt <| ?_
                 obtain rfl := inj hF
                 exact fin1

/-! turnery/turneryref1.Many -/
noncomputable def ref1_Many_L1 (rc : XApi_Tree → Int → Option Int) (a0 : XApi_Tree) (a1 : Int) (y5 : Int) (y6 : Int) : Option (Lp (Int × Int) Int) :=
 (idx a0.Nodes a1).bind fun x1 =>
 if (decide (y6 < (x1.Kids.length : Int))) then
 ((idx a0.Nodes a1).bind fun x2 =>
 (idx x2.Kids y6).bind fun x3 =>
 (rc a0 x3).bind fun x4 =>
 some (.next ((w64 (y5 + x4)), (w64 (y6 + 1)))))
 else
 (some (.out y5))
noncomputable def ref1_Many_B (rc : XApi_Tree → Int → Option Int) (a0 : XApi_Tree) (a1 : Int) : Option Int :=
 (Loop (fun (s : (Int × Int)) => ref1_Many_L1 rc a0 a1 s.1 s.2) (1, 0)).bind fun v1 =>
 some v1
noncomputable def ref1_Many : Nat → XApi_Tree → Int → Option Int
 | 0 => fun _ _ => none
 | m + 1 => ref1_Many_B (ref1_Many m)
abbrev R_ref1_Many (r : Int) : AV := (I r)
set_option maxHeartbeats 4000000 in
theorem T_ref1_Many_B {nn : Nat} {rc : XApi_Tree → Int → Option Int} (ih : ∀ {a0 : XApi_Tree} {a1 : Int} {r : Int}, rc a0 a1 = some r → den cx (nn + 0) 46 [(.agg (cXApi_Tree a0)), (I a1)] = some (R_ref1_Many r, [])) {a0 : XApi_Tree} {a1 : Int} {r : Int} (hF : ref1_Many_B rc a0 a1 = some r) : den cx (nn + 1) 46 [(.agg (cXApi_Tree a0)), (I a1)] = some (R_ref1_Many r, []) := by
 unfold ref1_Many_B at hF
 refine fnA Try.func46 Try.ntmps46 (by exact spine) (sl := [0, 1]) ?_
 refine sr <| pp oBoxF <| pp oAssign <| nl <| sr <| pp oAssign <| nl <| sq <| sr <| pp oAssign <| nl <| ?_
 refine lp (fun (s : (Int × Int)) => mkSt 32 [1, 2, 5, 6] [(I a1), (.vp (cXApi_Tree a0)), (I s.1), (I s.2)]) (fun (s : Int) => mkSt 32 [5] [(I s)]) hF cutR' ?_ ?_
 · rintro ⟨y5, y6⟩ z1 hF
   replace hF : ref1_Many_L1 rc a0 a1 y5 y6 = some z1 := hF
   unfold ref1_Many_L1 at hF
   refine mk ?_
   refine sq <| sr <| pp oMove <| pp oFA <| pp oLd <| pp oMove <| ?_
   refine bb hF fun x1 h1 hF => ?_
   refine pp (oIx h1) <| pp oFA <| pp oLd <| pp oLenSl <| pp oLss <| nl <| ?_
   refine cd hF (fun hF => ?_) (fun hF => ?_)
   · refine sk <| qs <| sq <| bl <| rgD <| pp oMove <| pp oLdA <| pp oFA <| pp oLd <| pp oMove <| ?_
     refine bb hF fun x2 h2 hF => ?_
     refine pp (oIx h2) <| pp oFA <| pp oLd <| pp oMove <| ?_
     refine bb hF fun x3 h3 hF => ?_
     refine pp (oIx h3) <| pp oLd <| ?_
     refine bb hF fun x4 h4 hF => ?_
     refine pp (oCallZ (ih h4)) <| pp oAdd <| pp oAssign <| nlD <| qb <| qs <| rg <| pp oMove <| pp oAdd <| pp oAssign <| nl <| ?_
     exact ln hF cutR'
   · refine ex <| qsE <| ?_
     exact lx hF cutR'
 · intro v1 hF
   refine qmk ?_
   refine qs <| sr <| pp oMove <| pp oAssign <| nl <| rt <| ?_
   obtain rfl := inj hF
   exact fin1
theorem T_ref1_Many : ∀ {fu nn : Nat} {a0 : XApi_Tree} {a1 : Int} {r : Int} (hF : ref1_Many fu a0 a1 = some r), den cx (fu + nn + 1) 46 [(.agg (cXApi_Tree a0)), (I a1)] = some (R_ref1_Many r, [])
 | 0, _, _, _, _, hF => by cases hF
 | m + 1, nn, _, _, _, hF => by
  rw [show m + 1 + nn + 1 = m + nn + 1 + 1 by omega]
  refine T_ref1_Many_B (nn := m + nn + 1) (rc := ref1_Many m) (fun h => ?_) hF
  have := T_ref1_Many (nn := nn) h
  rwa [show m + nn + 1 = m + nn + 1 + 0 by omega] at this

/-! turnery/turneryref1.Named -/

noncomputable def ref1_Named (a0 : Int) : Option Bool :=
 some (if (if (if (if (if (a0 == 2) then true else (a0 == 3)) then true else (a0 == 4)) then true else (a0 == 12)) then true else (a0 == 32)) then true else (a0 == 33))
abbrev R_ref1_Named (r : Bool) : AV := (B r)
set_option maxHeartbeats 4000000 in
theorem T_ref1_Named {nn : Nat} {a0 : Int} {r : Bool} (hF : ref1_Named a0 = some r) : den cx (nn + 1) 71 [(I a0)] = some (R_ref1_Named r, []) := by
 unfold ref1_Named at hF
 refine fnA Try.func71 Try.ntmps71 (by exact spine) (sl := [0]) ?_
 refine sr <| pp oAssign <| nl <| sr <| pp oMove <| pp oEql <| pp oMove <| pg ar oMove <| pg ar oEql <| pp oPick <| pp oMove <| pg ar oMove <| pg ar oEql <| pp oPick <| ?_
 refine pp oMove <| pg ar oMove <| pg ar oEql <| pp oPick <| pp oMove <| pg ar oMove <| pg ar oEql <| pp oPick <| pp oMove <| pg ar oMove <| pg ar oEql <| pp oPick <| pp oAssign <| nl <| ?_
 refine rt <| ?_
 obtain rfl := inj hF
 exact fin1

/-! turnery/turneryref1.digit -/

noncomputable def ref1_digit (a0 : Int) : Option Bool :=
 some (if (decide (48 ≤ a0)) then (decide (a0 ≤ 57)) else false)
abbrev R_ref1_digit (r : Bool) : AV := (B r)
set_option maxHeartbeats 4000000 in
theorem T_ref1_digit {nn : Nat} {a0 : Int} {r : Bool} (hF : ref1_digit a0 = some r) : den cx (nn + 1) 96 [(AV.val (.int .u8 a0))] = some (R_ref1_digit r, []) := by
 unfold ref1_digit at hF
 refine fnA Try.func96 Try.ntmps96 (by exact spine) (sl := [0]) ?_
 refine sr <| pp oAssign <| nl <| sr <| pp oMove <| pp oGeq <| pp oMove <| pg ar oMove <| pg ar oLeq <| pp oPick <| pp oAssign <| nl <| rt <| ?_
 obtain rfl := inj hF
 exact fin1

/-! turnery/turneryref1.letter -/

noncomputable def ref1_letter (a0 : Int) : Option Bool :=
 some (if (if (if (decide (97 ≤ a0)) then (decide (a0 ≤ 122)) else false) then true else (if (decide (65 ≤ a0)) then (decide (a0 ≤ 90)) else false)) then true else (a0 == 95))
abbrev R_ref1_letter (r : Bool) : AV := (B r)
set_option maxHeartbeats 4000000 in
theorem T_ref1_letter {nn : Nat} {a0 : Int} {r : Bool} (hF : ref1_letter a0 = some r) : den cx (nn + 1) 97 [(AV.val (.int .u8 a0))] = some (R_ref1_letter r, []) := by
 unfold ref1_letter at hF
 refine fnA Try.func97 Try.ntmps97 (by exact spine) (sl := [0]) ?_
 refine sr <| pp oAssign <| nl <| sr <| pp oMove <| pp oGeq <| pp oMove <| pg ar oMove <| pg ar oLeq <| pp oPick <| pp oMove <| pg ar oMove <| pg ar oGeq <| pg ar oMove <| ?_
 refine pg ar oMove <| pg ar oLeq <| pg ar oPick <| pp oPick <| pp oMove <| pg ar oMove <| pg ar oEql <| pp oPick <| pp oAssign <| nl <| rt <| ?_
 obtain rfl := inj hF
 exact fin1

/-! turnery/turneryref1.Name -/
noncomputable def ref1_Name_L1 (a0 : ByteArray) (y3 : Int) : Option (Lp Int (Br Unit Bool)) :=
 if (decide (y3 < (a0.size : Int))) then
 (((sidx a0 y3).bind fun x4 =>
 (ref1_letter (x4.toNat : Int)).bind fun x5 =>
 if (!x5) then
 ((sidx a0 y3).bind fun x6 =>
 (ref1_digit (x6.toNat : Int)).bind fun x7 =>
 some (!x7))
 else
 (some false)).bind fun p2 =>
 if p2 then
 (some (.out (.ret false)))
 else
 (some (.next (w64 (y3 + 1)))))
 else
 (some (.out (.brk ())))
noncomputable def ref1_Name (a0 : ByteArray) : Option Bool :=
 ((ref1_in (a0.size : Int) 1 12).bind fun x1 =>
 if (!x1) then
 (some true)
 else
 ((sidx a0 0).bind fun x2 =>
 (ref1_digit (x2.toNat : Int)).bind fun x3 =>
 some x3)).bind fun p1 =>
 if p1 then
 (some false)
 else
 ((Loop (fun (s : Int) => ref1_Name_L1 a0 s) 0).bind (Br.go (fun _ =>
 some true) (fun r1 => some r1)))
abbrev R_ref1_Name (r : Bool) : AV := (B r)
def RR_ref1_Name (r : Bool) (x : Exit × St) : Prop := x.1 = .ret ∧ Fin cx [.tmp 2] [] (R_ref1_Name r) [] x
set_option maxHeartbeats 4000000 in
theorem T_ref1_Name {nn : Nat} {a0 : ByteArray} {r : Bool} (hF : ref1_Name a0 = some r) : den cx (nn + 2) 72 [(AV.val (.string a0))] = some (R_ref1_Name r, []) := by
 unfold ref1_Name at hF
 refine fnA Try.func72 Try.ntmps72 (by exact spine) (sl := [0]) ?_
 refine sr <| pp oAssign <| nl <| sq <| ?_
 refine srC (fun (s : Bool) => mkSt 31 [0, 12] [(AV.val (.string a0)), (B s)]) hF (fun z3 hF => ?_) (fun p1 hF => ?_)
 · refine pp oMove <| pp oLenS <| ?_
   refine bb hF fun x1 h1 hF => ?_
   refine pp (oCallZ (T_ref1_in h1)) <| pp oNot <| pp oMove <| ?_
   refine spl (d := 8) hF (fun hF => ?_) (fun hF => ?_)
   · refine no fun u1 k1 hk1 => ?_
     refine no fun u2 k2 hk2 => ?_
     refine no fun u3 k3 hk3 => ?_
     refine pp oPickT <| ?_
     obtain rfl := inj hF
     exact nlC cutR'
   · refine pt ar oMove <| ?_
     refine bb hF fun x2 h2 hF => ?_
     refine pt ar (oIxS h2) <| ?_
     refine bb hF fun x3 h3 hF => ?_
     refine pt ar (oCallZ (T_ref1_digit h3)) <| pp oPickF <| ?_
     obtain rfl := inj hF
     exact nlC cutR'
 · refine mk ?_
   refine cd hF (fun hF => ?_) (fun hF => ?_)
   · refine sr <| pp oAssign <| nl <| rt <| qsR <| ?_
     obtain rfl := inj hF
     exact fin1
   · refine sk <| qs <| sq <| sr <| pp oAssign <| nl <| ?_
     refine lpR (fun (s : Int) => mkSt 31 [0, 3] [(AV.val (.string a0)), (I s)]) (fun (s : Unit) => mkSt 31 [] []) RR_ref1_Name hF cutR' ?_ ?_ ?_
     · rintro y3 z1 hF
       replace hF : ref1_Name_L1 a0 y3 = some z1 := hF
       unfold ref1_Name_L1 at hF
       refine mk ?_
       refine sq <| sr <| pp oMove <| pp oMove <| pp oLenS <| pp oLss <| nl <| ?_
       refine cd hF (fun hF => ?_) (fun hF => ?_)
       · refine sk <| qs <| sq <| bl <| ?_
         refine srC (fun (s : Bool) => mkSt 31 [0, 3, 30] [(AV.val (.string a0)), (I y3), (B s)]) hF (fun z2 hF => ?_) (fun p2 hF => ?_)
         · refine pp oMove <| pp oMove <| ?_
           refine bb hF fun x4 h4 hF => ?_
           refine pp (oIxS h4) <| ?_
           refine bb hF fun x5 h5 hF => ?_
           refine pp (oCallZ (T_ref1_letter h5)) <| pp oNot <| pp oMove <| ?_
           refine spl (d := 24) hF (fun hF => ?_) (fun hF => ?_)
           · refine pt ar oMove <| pt ar oMove <| ?_
             refine bb hF fun x6 h6 hF => ?_
             refine pt ar (oIxS h6) <| ?_
             refine bb hF fun x7 h7 hF => ?_
             refine pt ar (oCallZ (T_ref1_digit h7)) <| pt ar oNot <| pp oPickT <| ?_
             obtain rfl := inj hF
             exact nlC cutR'
           · refine no fun u4 k4 hk4 => ?_
             refine no fun u5 k5 hk5 => ?_
             refine no fun u6 k6 hk6 => ?_
             refine no fun u7 k7 hk7 => ?_
             refine no fun u8 k8 hk8 => ?_
             refine pp oPickF <| ?_
             obtain rfl := inj hF
             exact nlC cutR'
         · refine mk ?_
           refine cd hF (fun hF => ?_) (fun hF => ?_)
           · refine sr <| pp oAssign <| nl <| rt <| qbR <| qsR <| ?_
             exact lr hF ⟨rfl, fin1⟩
           · refine sk <| qb <| qs <| rg <| pp oMove <| pp oAdd <| pp oAssign <| nl <| ?_
             exact ln hF cutR'
       · refine ex <| qsE <| ?_
         exact lxR hF cutR'
     · intro _ hF
       refine qmk ?_
       refine qs <| sr <| pp oAssign <| nl <| rt <| ?_
       obtain rfl := inj hF
       exact fin1
     · rintro r1 hF ⟨xe, xs⟩ ⟨hxe, hfin⟩
       obtain rfl : xe = Exit.ret := hxe
       obtain rfl := inj hF
       refine qbR <| qsR <| ?_
       exact hfin

/-! turnery/turneryref1.among -/
noncomputable def ref1_among_L1 (a0 : (List ByteArray)) (a1 : ByteArray) (y4 : Int) : Option (Lp Int (Br Unit Bool)) :=
 if (decide (y4 < (a0.length : Int))) then
 ((idx a0 y4).bind fun x1 =>
 if (x1.toList == a1.toList) then
 (some (.out (.ret true)))
 else
 (some (.next (w64 (y4 + 1)))))
 else
 (some (.out (.brk ())))
noncomputable def ref1_among (a0 : (List ByteArray)) (a1 : ByteArray) : Option Bool :=
 (Loop (fun (s : Int) => ref1_among_L1 a0 a1 s) 0).bind (Br.go (fun _ =>
 some false) (fun r1 => some r1))
abbrev R_ref1_among (r : Bool) : AV := (B r)
def RR_ref1_among (r : Bool) (x : Exit × St) : Prop := x.1 = .ret ∧ Fin cx [.tmp 4] [] (R_ref1_among r) [] x
set_option maxHeartbeats 4000000 in
theorem T_ref1_among {nn : Nat} {a0 : (List ByteArray)} {a1 : ByteArray} {r : Bool} (hF : ref1_among a0 a1 = some r) : den cx (nn + 1) 98 [(.sl ((a0).map cStr)), (AV.val (.string a1))] = some (R_ref1_among r, []) := by
 unfold ref1_among at hF
 refine fnA Try.func98 Try.ntmps98 (by exact spine) (sl := [0, 1]) ?_
 refine sr <| pp oAssign <| nl <| sq <| sr <| pp oAssign <| nl <| ?_
 refine lpR (fun (s : Int) => mkSt 18 [0, 1, 5] [(.sl ((a0).map cStr)), (AV.val (.string a1)), (I s)]) (fun (s : Unit) => mkSt 18 [] []) RR_ref1_among hF cutR' ?_ ?_ ?_
 · rintro y4 z1 hF
   replace hF : ref1_among_L1 a0 a1 y4 = some z1 := hF
   unfold ref1_among_L1 at hF
   refine mk ?_
   refine sq <| sr <| pp oMove <| pp oMove <| pp oLenSl <| pp oLss <| nl <| ?_
   refine cd hF (fun hF => ?_) (fun hF => ?_)
   · refine sk <| qs <| sq <| bl <| sr <| pp oMove <| pp oMove <| ?_
     refine bb hF fun x1 h1 hF => ?_
     refine pp (oIx h1) <| pp oLd <| pp oMove <| pp oEqlS <| nl <| ?_
     refine cd hF (fun hF => ?_) (fun hF => ?_)
     · refine sr <| pp oAssign <| nl <| rt <| qbR <| qsR <| ?_
       exact lr hF ⟨rfl, fin1⟩
     · refine sk <| qb <| qs <| rg <| pp oMove <| pp oAdd <| pp oAssign <| nl <| ?_
       exact ln hF cutR'
   · refine ex <| qsE <| ?_
     exact lxR hF cutR'
 · intro _ hF
   refine qmk ?_
   refine qs <| sr <| pp oAssign <| nl <| rt <| ?_
   obtain rfl := inj hF
   exact fin1
 · rintro r1 hF ⟨xe, xs⟩ ⟨hxe, hfin⟩
   obtain rfl : xe = Exit.ret := hxe
   obtain rfl := inj hF
   refine qbR <| qsR <| ?_
   exact hfin

/-! turnery/turneryref1.texts -/

noncomputable def ref1_texts (a0 : Int) (a1 : ByteArray) : Option Bool :=
 if (a0 == 35) then
 ((ref1_among ([(ByteArray.mk #[45]), (ByteArray.mk #[33]), (ByteArray.mk #[126]), (ByteArray.mk #[42]), (ByteArray.mk #[38])] : List ByteArray) a1).bind fun x1 =>
 some x1)
 else
 (if (a0 == 36) then
 (((ref1_among ([(ByteArray.mk #[43]), (ByteArray.mk #[45]), (ByteArray.mk #[42]), (ByteArray.mk #[47]), (ByteArray.mk #[37]), (ByteArray.mk #[38]), (ByteArray.mk #[124]), (ByteArray.mk #[94]), (ByteArray.mk #[60, 60]), (ByteArray.mk #[62, 62])] : List ByteArray) a1).bind fun x2 =>
 if x2 then
 (some true)
 else
 ((ref1_among ([(ByteArray.mk #[61, 61]), (ByteArray.mk #[33, 61]), (ByteArray.mk #[60]), (ByteArray.mk #[60, 61]), (ByteArray.mk #[62]), (ByteArray.mk #[62, 61])] : List ByteArray) a1).bind fun x3 =>
 some x3)).bind fun p1 =>
 some p1)
 else
 (if (a0 == 37) then
 (some (if (a1.toList == (ByteArray.mk #[38, 38]).toList) then true else (a1.toList == (ByteArray.mk #[124, 124]).toList)))
 else
 (if (a0 == 39) then
 ((if (a1.toList == (ByteArray.mk #[61]).toList) then
 (some true)
 else
 (if (decide (1 < (a1.size : Int))) then
 ((sidx a1 (w64 ((a1.size : Int) - 1))).bind fun x4 =>
 if ((x4.toNat : Int) == 61) then
 ((sslc a1 none (some (w64 ((a1.size : Int) - 1)))).bind fun x5 =>
 (ref1_among ([(ByteArray.mk #[43]), (ByteArray.mk #[45]), (ByteArray.mk #[42]), (ByteArray.mk #[47]), (ByteArray.mk #[37]), (ByteArray.mk #[38]), (ByteArray.mk #[124]), (ByteArray.mk #[94]), (ByteArray.mk #[60, 60]), (ByteArray.mk #[62, 62])] : List ByteArray) x5).bind fun x6 =>
 some x6)
 else
 (some false))
 else
 (some false))).bind fun p2 =>
 some p2)
 else
 (if (a0 == 40) then
 (some (if (a1.toList == (ByteArray.mk #[43, 43]).toList) then true else (a1.toList == (ByteArray.mk #[45, 45]).toList)))
 else
 (some (a1.toList == (ByteArray.mk #[]).toList))))))
abbrev R_ref1_texts (r : Bool) : AV := (B r)
set_option maxHeartbeats 4000000 in
theorem T_ref1_texts {nn : Nat} {a0 : Int} {a1 : ByteArray} {r : Bool} (hF : ref1_texts a0 a1 = some r) : den cx (nn + 2) 73 [(I a0), (AV.val (.string a1))] = some (R_ref1_texts r, []) := by
 unfold ref1_texts at hF
 refine fnA Try.func73 Try.ntmps73 (by exact spine) (sl := [0, 1]) ?_
 refine sr <| pp oAssign <| nl <| sr <| pp oBSF <| pp oAssign <| nl <| sq <| sr <| pp oMove <| pp oEql <| nl <| ?_
 refine cd hF (fun hF => ?_) (fun hF => ?_)
 · refine sr <| pp oBSF <| pp oMove <| ?_
   refine bb hF fun x1 h1 hF => ?_
   refine pp (oCall (T_ref1_among h1)) <| pp oAssign <| nl <| rt <| qsR <| ?_
   obtain rfl := inj hF
   exact fin1
 · refine sk <| qs <| sq <| sr <| pp oMove <| pp oEql <| nl <| ?_
   refine cd hF (fun hF => ?_) (fun hF => ?_)
   · refine srC (fun (s : Bool) => mkSt 66 [4] [(B s)]) hF (fun z1 hF => ?_) (fun p1 hF => ?_)
     · refine pp oMove <| pp oMove <| ?_
       refine bb hF fun x2 h2 hF => ?_
       refine pp (oCall (T_ref1_among h2)) <| pp oMove <| ?_
       refine spl (d := 17) hF (fun hF => ?_) (fun hF => ?_)
       · refine no fun u1 k1 hk1 => ?_
         refine no fun u2 k2 hk2 => ?_
         refine no fun u3 k3 hk3 => ?_
         refine pp oPickT <| pp oAssign <| ?_
         obtain rfl := inj hF
         exact nlC cutR'
       · refine pt ar oBSF <| pt ar oMove <| ?_
         refine bb hF fun x3 h3 hF => ?_
         refine pt ar (oCall (T_ref1_among h3)) <| pp oPickF <| pp oAssign <| ?_
         obtain rfl := inj hF
         exact nlC cutR'
     · refine mk ?_
       refine rt <| qsR <| ?_
       obtain rfl := inj hF
       exact fin1
   · refine sk <| qs <| sq <| sr <| pp oMove <| pp oEql <| nl <| ?_
     refine cd hF (fun hF => ?_) (fun hF => ?_)
     · refine sr <| pp oMove <| pp oEqlS <| pp oMove <| pg ar oMove <| pg ar oEqlS <| pp oPick <| pp oAssign <| nl <| rt <| qsR <| ?_
       obtain rfl := inj hF
       exact fin1
     · refine sk <| qs <| sq <| sr <| pp oMove <| pp oEql <| nl <| ?_
       refine cd hF (fun hF => ?_) (fun hF => ?_)
       · refine srC (fun (s : Bool) => mkSt 66 [4] [(B s)]) hF (fun z2 hF => ?_) (fun p2 hF => ?_)
         · refine pp oMove <| pp oEqlS <| pp oMove <| ?_
           refine spl (d := 34) hF (fun hF => ?_) (fun hF => ?_)
           · refine no fun u4 k4 hk4 => ?_
             refine no fun u5 k5 hk5 => ?_
             refine no fun u6 k6 hk6 => ?_
             refine no fun u7 k7 hk7 => ?_
             refine no fun u8 k8 hk8 => ?_
             refine no fun u9 k9 hk9 => ?_
             refine no fun u10 k10 hk10 => ?_
             refine no fun u11 k11 hk11 => ?_
             refine no fun u12 k12 hk12 => ?_
             refine no fun u13 k13 hk13 => ?_
             refine no fun u14 k14 hk14 => ?_
             refine no fun u15 k15 hk15 => ?_
             refine no fun u16 k16 hk16 => ?_
             refine no fun u17 k17 hk17 => ?_
             refine no fun u18 k18 hk18 => ?_
             refine no fun u19 k19 hk19 => ?_
             refine no fun u20 k20 hk20 => ?_
             refine no fun u21 k21 hk21 => ?_
             refine no fun u22 k22 hk22 => ?_
             refine no fun u23 k23 hk23 => ?_
             refine pp oPickT <| pp oAssign <| ?_
             obtain rfl := inj hF
             exact nlC cutR'
           · refine pt ar oMove <| pt ar oLenS <| pt ar oGtr <| pt ar oMove <| ?_
             refine splG (d := 38) hF (fun hF => ?_) (fun hF => ?_)
             · refine pt ar oMove <| pt ar oMove <| pt ar oLenS <| pt ar oSub <| ?_
               refine bb hF fun x4 h4 hF => ?_
               refine pt ar (oIxS h4) <| pt ar oEql <| pt ar oPickT <| pt ar oMove <| ?_
               refine splG (d := 46) hF (fun hF => ?_) (fun hF => ?_)
               · refine pt ar oMove <| pt ar oMove <| pt ar oMove <| pt ar oLenS <| pt ar oSub <| ?_
                 refine bb hF fun x5 h5 hF => ?_
                 refine pt ar (oSlcS h5) <| ?_
                 refine bb hF fun x6 h6 hF => ?_
                 refine pt ar (oCall (T_ref1_among h6)) <| pt ar oPickT <| pp oPickF <| pp oAssign <| ?_
                 obtain rfl := inj hF
                 exact nlC cutR'
               · refine no fun u24 k24 hk24 => ?_
                 refine no fun u25 k25 hk25 => ?_
                 refine no fun u26 k26 hk26 => ?_
                 refine no fun u27 k27 hk27 => ?_
                 refine no fun u28 k28 hk28 => ?_
                 refine no fun u29 k29 hk29 => ?_
                 refine no fun u30 k30 hk30 => ?_
                 refine pt ar oPickF <| pp oPickF <| pp oAssign <| ?_
                 obtain rfl := inj hF
                 exact nlC cutR'
             · refine no fun u31 k31 hk31 => ?_
               refine no fun u32 k32 hk32 => ?_
               refine no fun u33 k33 hk33 => ?_
               refine no fun u34 k34 hk34 => ?_
               refine no fun u35 k35 hk35 => ?_
               refine no fun u36 k36 hk36 => ?_
               refine pt ar oPickF <| pt ar oMove <| ?_
               refine no fun u37 k37 hk37 => ?_
               refine no fun u38 k38 hk38 => ?_
               refine no fun u39 k39 hk39 => ?_
               refine no fun u40 k40 hk40 => ?_
               refine no fun u41 k41 hk41 => ?_
               refine no fun u42 k42 hk42 => ?_
               refine no fun u43 k43 hk43 => ?_
               refine pt ar oPickF <| pp oPickF <| pp oAssign <| ?_
               obtain rfl := inj hF
               exact nlC cutR'
         · refine mk ?_
           refine rt <| qsR <| ?_
           obtain rfl := inj hF
           exact fin1
       · refine sk <| qs <| sq <| sr <| pp oMove <| pp oEql <| nl <| ?_
         refine cd hF (fun hF => ?_) (fun hF => ?_)
         · refine sr <| pp oMove <| pp oEqlS <| pp oMove <| pg ar oMove <| pg ar oEqlS <| pp oPick <| pp oAssign <| nl <| rt <| qsR <| ?_
           obtain rfl := inj hF
           exact fin1
         · refine sk <| qs <| sr <| pp oMove <| pp oEqlS <| pp oAssign <| nl <| rt <| ?_
           obtain rfl := inj hF
           exact fin1

/-! turnery/turneryref1.numbers -/

noncomputable def ref1_numbers (a0 : XApi_Node) : Option Bool :=
 if (if (a0.Kind == 2) then (a0.N == 3) else false) then
 ((ref1_in a0.Size 1 200).bind fun x1 =>
 some (if x1 then (decide ((a0.Kids.length : Int) ≤ a0.Size)) else false))
 else
 (if (a0.Size != 0) then
 (some false)
 else
 (if (a0.Kind == 2) then
 ((ref1_in a0.N 1 2).bind fun x2 =>
 some (if x2 then (decide ((a0.Kids.length : Int) < 2)) else false))
 else
 (if (a0.Kind == 3) then
 ((ref1_in a0.N 0 2).bind fun x3 =>
 some x3)
 else
 (if (if (a0.Kind == 4) then true else (a0.Kind == 12)) then
 ((ref1_in a0.N 1 2).bind fun x4 =>
 some x4)
 else
 (if (a0.Kind == 31) then
 (some (decide (0 ≤ a0.N)))
 else
 (if (a0.Kind == 40) then
 ((ref1_in a0.N 0 1).bind fun x5 =>
 some x5)
 else
 (some (a0.N == 0))))))))
abbrev R_ref1_numbers (r : Bool) : AV := (B r)
set_option maxHeartbeats 4000000 in
theorem T_ref1_numbers {nn : Nat} {a0 : XApi_Node} {r : Bool} (hF : ref1_numbers a0 = some r) : den cx (nn + 2) 74 [(.agg (cXApi_Node a0))] = some (R_ref1_numbers r, []) := by
 unfold ref1_numbers at hF
 refine fnA Try.func74 Try.ntmps74 (by exact spine) (sl := [0]) ?_
 refine sr <| pp oBoxF <| pp oAssign <| nl <| sq <| sr <| pp oFA <| pp oLd <| pp oEql <| pp oMove <| pg ar oFA <| pg ar oLd <| pg ar oEql <| pp oPick <| ?_
 refine nl <| ?_
 refine cd hF (fun hF => ?_) (fun hF => ?_)
 · refine sr <| pp oFA <| pp oLd <| ?_
   refine bb hF fun x1 h1 hF => ?_
   refine pp (oCall (T_ref1_in h1)) <| pp oMove <| pg ar oFA <| pg ar oLd <| pg ar oLenSl <| pg ar oFA <| pg ar oLd <| pg ar oLeq <| pp oPick <| pp oAssign <| nl <| rt <| qsR <| ?_
   obtain rfl := inj hF
   exact fin1
 · refine sk <| qs <| sq <| sr <| pp oFA <| pp oLd <| pp oNeq <| nl <| ?_
   refine cd hF (fun hF => ?_) (fun hF => ?_)
   · refine sr <| pp oAssign <| nl <| rt <| qsR <| ?_
     obtain rfl := inj hF
     exact fin1
   · refine sk <| qs <| sq <| sr <| pp oFA <| pp oLd <| pp oEql <| nl <| ?_
     refine cd hF (fun hF => ?_) (fun hF => ?_)
     · refine sr <| pp oFA <| pp oLd <| ?_
       refine bb hF fun x2 h2 hF => ?_
       refine pp (oCall (T_ref1_in h2)) <| pp oMove <| pg ar oFA <| pg ar oLd <| pg ar oLenSl <| pg ar oLss <| pp oPick <| pp oAssign <| nl <| rt <| qsR <| ?_
       obtain rfl := inj hF
       exact fin1
     · refine sk <| qs <| sq <| sr <| pp oFA <| pp oLd <| pp oEql <| nl <| ?_
       refine cd hF (fun hF => ?_) (fun hF => ?_)
       · refine sr <| pp oFA <| pp oLd <| ?_
         refine bb hF fun x3 h3 hF => ?_
         refine pp (oCall (T_ref1_in h3)) <| pp oAssign <| nl <| rt <| qsR <| ?_
         obtain rfl := inj hF
         exact fin1
       · refine sk <| qs <| sq <| sr <| pp oFA <| pp oLd <| pp oEql <| pp oMove <| pg ar oFA <| pg ar oLd <| pg ar oEql <| pp oPick <| nl <| ?_
         refine cd hF (fun hF => ?_) (fun hF => ?_)
         · refine sr <| pp oFA <| pp oLd <| ?_
           refine bb hF fun x4 h4 hF => ?_
           refine pp (oCall (T_ref1_in h4)) <| pp oAssign <| nl <| rt <| qsR <| ?_
           obtain rfl := inj hF
           exact fin1
         · refine sk <| qs <| sq <| sr <| pp oFA <| pp oLd <| pp oEql <| nl <| ?_
           refine cd hF (fun hF => ?_) (fun hF => ?_)
           · refine sr <| pp oFA <| pp oLd <| pp oGeq <| pp oAssign <| nl <| rt <| qsR <| ?_
             obtain rfl := inj hF
             exact fin1
           · refine sk <| qs <| sq <| sr <| pp oFA <| pp oLd <| pp oEql <| nl <| ?_
             refine cd hF (fun hF => ?_) (fun hF => ?_)
             · refine sr <| pp oFA <| pp oLd <| ?_
               refine bb hF fun x5 h5 hF => ?_
               refine pp (oCall (T_ref1_in h5)) <| pp oAssign <| nl <| rt <| qsR <| ?_
               obtain rfl := inj hF
               exact fin1
             · refine sk <| qs <| sr <| pp oFA <| pp oLd <| pp oEql <| pp oAssign <| nl <| rt <| ?_
               obtain rfl := inj hF
               exact fin1

/-! turnery/turneryref1.wrong -/
noncomputable def ref1_wrong_L1 (fu : Nat) (a0 : XApi_Tree) (x1 : XApi_Node) (y5 : Int) (y6 : Int) : Option (Lp (Int × Int) (Br Unit Int)) :=
 if (decide (0 ≤ y6)) then
 ((if (y5 == 0) then
 (some true)
 else
 ((idx x1.Kids y6).bind fun x7 =>
 if (x7 != (w64 (y5 - 1))) then
 (some true)
 else
 ((idx a0.Nodes (w64 (y5 - 1))).bind fun x8 =>
 (ref1_goes x1.Kind y6 (x1.Kids.length : Int) x8.Kind).bind fun x9 =>
 some (!x9)))).bind fun p2 =>
 if p2 then
 (some (.out (.ret 5)))
 else
 ((ref1_Many fu a0 (w64 (y5 - 1))).bind fun x10 =>
 some (.next ((w64 (y5 - x10)), (w64 (y6 - 1))))))
 else
 (some (.out (.brk ())))
noncomputable def ref1_wrong (fu : Nat) (a0 : XApi_Tree) (a1 : Int) : Option Int :=
 (idx a0.Nodes a1).bind fun x1 =>
 ((ref1_in x1.Kind 1 4).bind fun x2 =>
 if (!x2) then
 ((ref1_in x1.Kind 11 24).bind fun x3 =>
 if (!x3) then
 ((ref1_Expression x1.Kind).bind fun x4 =>
 some (!x4))
 else
 (some false))
 else
 (some false)).bind fun p1 =>
 if p1 then
 (some 4)
 else
 ((ref1_kids x1.Kind).bind fun x5 =>
 (ref1_in (x1.Kids.length : Int) x5.1 x5.2).bind fun x6 =>
 if (!x6) then
 (some 9)
 else
 ((Loop (fun (s : (Int × Int)) => ref1_wrong_L1 fu a0 x1 s.1 s.2) (a1, (w64 ((x1.Kids.length : Int) - 1)))).bind (Br.go (fun _ =>
 ((ref1_Named x1.Kind).bind fun x11 =>
 if x11 then
 ((ref1_Name x1.Text).bind fun x12 =>
 some (!x12))
 else
 (some false)).bind fun p3 =>
 if p3 then
 (some 12)
 else
 (((ref1_Named x1.Kind).bind fun x13 =>
 if (!x13) then
 ((ref1_texts x1.Kind x1.Text).bind fun x14 =>
 some (!x14))
 else
 (some false)).bind fun p4 =>
 if p4 then
 (some 1)
 else
 ((ref1_numbers x1).bind fun x15 =>
 if (if (!x15) then true else (decide (x1.At < 0))) then
 (some 3)
 else
 (some 0)))) (fun r1 => some r1))))
abbrev R_ref1_wrong (r : Int) : AV := (I r)
def RR_ref1_wrong (r : Int) (x : Exit × St) : Prop := x.1 = .ret ∧ Fin cx [.tmp 4] [] (R_ref1_wrong r) [] x
set_option maxHeartbeats 4000000 in
theorem T_ref1_wrong {fu nn : Nat} {a0 : XApi_Tree} {a1 : Int} {r : Int} (hF : ref1_wrong fu a0 a1 = some r) : den cx (fu + nn + 4) 45 [(.agg (cXApi_Tree a0)), (I a1)] = some (R_ref1_wrong r, []) := by
 unfold ref1_wrong at hF
 refine fnA Try.func45 Try.ntmps45 (by exact spine) (sl := [0, 1]) ?_
 refine sr <| pp oBoxF <| pp oAssign <| nl <| sr <| pp oFA <| pp oLd <| pp oMove <| ?_
 refine bb hF fun x1 h1 hF => ?_
 refine pp (oIx h1) <| pp oLdA <| ww oAlloc <| ww oStF <| nl <| sq <| ?_
 refine srC (fun (s : Bool) => mkSt 117 [1, 2, 5, 30] [(I a1), (.vp (cXApi_Tree a0)), (.vp (cXApi_Node x1)), (B s)]) hF (fun z5 hF => ?_) (fun p1 hF => ?_)
 · refine pp oFA <| pp oLd <| ?_
   refine bb hF fun x2 h2 hF => ?_
   refine pp (oCallZ (T_ref1_in h2)) <| pp oNot <| pp oMove <| ?_
   refine spl (d := 19) hF (fun hF => ?_) (fun hF => ?_)
   · refine pt ar oFA <| pt ar oLd <| ?_
     refine bb hF fun x3 h3 hF => ?_
     refine pt ar (oCallZ (T_ref1_in h3)) <| pt ar oNot <| pp oPickT <| pp oMove <| ?_
     refine spl (d := 25) hF (fun hF => ?_) (fun hF => ?_)
     · refine pt ar oFA <| pt ar oLd <| ?_
       refine bb hF fun x4 h4 hF => ?_
       refine pt ar (oCallZ (T_ref1_Expression h4)) <| pt ar oNot <| pp oPickT <| ?_
       obtain rfl := inj hF
       exact nlC cutR'
     · refine no fun u1 k1 hk1 => ?_
       refine no fun u2 k2 hk2 => ?_
       refine no fun u3 k3 hk3 => ?_
       refine no fun u4 k4 hk4 => ?_
       refine pp oPickF <| ?_
       obtain rfl := inj hF
       exact nlC cutR'
   · refine no fun u5 k5 hk5 => ?_
     refine no fun u6 k6 hk6 => ?_
     refine no fun u7 k7 hk7 => ?_
     refine no fun u8 k8 hk8 => ?_
     refine pp oPickF <| pp oMove <| ?_
     refine no fun u9 k9 hk9 => ?_
     refine no fun u10 k10 hk10 => ?_
     refine no fun u11 k11 hk11 => ?_
     refine no fun u12 k12 hk12 => ?_
     refine pp oPickF <| ?_
     obtain rfl := inj hF
     exact nlC cutR'
 · refine mk ?_
   refine cd hF (fun hF => ?_) (fun hF => ?_)
   · refine sr <| pp oAssign <| nl <| rt <| qsR <| ?_
     obtain rfl := inj hF
     exact fin1
   · refine sk <| qs <| sr <| pp oFA <| pp oLd <| ?_
     refine bb hF fun x5 h5 hF => ?_
     refine pp (oCallZ (T_ref1_kids h5)) <| pp oMove <| pp oExt <| pp oExt <| pp oAssign <| pp oAssign <| nl <| sq <| sr <| pp oFA <| pp oLd <| pp oLenSl <| pp oMove <| pp oMove <| ?_
     refine bb hF fun x6 h6 hF => ?_
     refine pp (oCallZ (T_ref1_in h6)) <| pp oNot <| nl <| ?_
     refine cd hF (fun hF => ?_) (fun hF => ?_)
     · refine sr <| pp oAssign <| nl <| rt <| qsR <| ?_
       obtain rfl := inj hF
       exact fin1
     · refine sk <| qs <| sr <| pp oMove <| pp oAssign <| nl <| sq <| sr <| pp oFA <| pp oLd <| pp oLenSl <| pp oSub <| pp oAssign <| nl <| ?_
       refine lpR (fun (s : (Int × Int)) => mkSt 117 [2, 5, 8, 9] [(.vp (cXApi_Tree a0)), (.vp (cXApi_Node x1)), (I s.1), (I s.2)]) (fun (s : Unit) => mkSt 117 [5] [(.vp (cXApi_Node x1))]) RR_ref1_wrong hF cutR' ?_ ?_ ?_
       · rintro ⟨y5, y6⟩ z1 hF
         replace hF : ref1_wrong_L1 fu a0 x1 y5 y6 = some z1 := hF
         unfold ref1_wrong_L1 at hF
         refine mk ?_
         refine sq <| sr <| pp oMove <| pp oGeq <| nl <| ?_
         refine cd hF (fun hF => ?_) (fun hF => ?_)
         · refine sk <| qs <| sq <| bl <| sq <| ?_
           refine srC (fun (s : Bool) => mkSt 117 [2, 5, 8, 9, 81] [(.vp (cXApi_Tree a0)), (.vp (cXApi_Node x1)), (I y5), (I y6), (B s)]) hF (fun z2 hF => ?_) (fun p2 hF => ?_)
           · refine pp oMove <| pp oEql <| pp oMove <| ?_
             refine spl (d := 55) hF (fun hF => ?_) (fun hF => ?_)
             · refine no fun u13 k13 hk13 => ?_
               refine no fun u14 k14 hk14 => ?_
               refine no fun u15 k15 hk15 => ?_
               refine no fun u16 k16 hk16 => ?_
               refine no fun u17 k17 hk17 => ?_
               refine no fun u18 k18 hk18 => ?_
               refine no fun u19 k19 hk19 => ?_
               refine no fun u20 k20 hk20 => ?_
               refine pp oPickT <| pp oMove <| ?_
               refine no fun u21 k21 hk21 => ?_
               refine no fun u22 k22 hk22 => ?_
               refine no fun u23 k23 hk23 => ?_
               refine no fun u24 k24 hk24 => ?_
               refine no fun u25 k25 hk25 => ?_
               refine no fun u26 k26 hk26 => ?_
               refine no fun u27 k27 hk27 => ?_
               refine no fun u28 k28 hk28 => ?_
               refine no fun u29 k29 hk29 => ?_
               refine no fun u30 k30 hk30 => ?_
               refine no fun u31 k31 hk31 => ?_
               refine no fun u32 k32 hk32 => ?_
               refine no fun u33 k33 hk33 => ?_
               refine no fun u34 k34 hk34 => ?_
               refine no fun u35 k35 hk35 => ?_
               refine pp oPickT <| ?_
               obtain rfl := inj hF
               exact nlCD (hf := rok) cutR'
             · refine pt ar oFA <| pt ar oLd <| pt ar oMove <| ?_
               refine bb hF fun x7 h7 hF => ?_
               refine pt ar (oIx h7) <| pt ar oLd <| pt ar oMove <| pt ar oSub <| pt ar oNeq <| pp oPickF <| pp oMove <| ?_
               refine spl (d := 65) hF (fun hF => ?_) (fun hF => ?_)
               · refine no fun u36 k36 hk36 => ?_
                 refine no fun u37 k37 hk37 => ?_
                 refine no fun u38 k38 hk38 => ?_
                 refine no fun u39 k39 hk39 => ?_
                 refine no fun u40 k40 hk40 => ?_
                 refine no fun u41 k41 hk41 => ?_
                 refine no fun u42 k42 hk42 => ?_
                 refine no fun u43 k43 hk43 => ?_
                 refine no fun u44 k44 hk44 => ?_
                 refine no fun u45 k45 hk45 => ?_
                 refine no fun u46 k46 hk46 => ?_
                 refine no fun u47 k47 hk47 => ?_
                 refine no fun u48 k48 hk48 => ?_
                 refine no fun u49 k49 hk49 => ?_
                 refine no fun u50 k50 hk50 => ?_
                 refine pp oPickT <| ?_
                 obtain rfl := inj hF
                 exact nlCD (hf := rok) cutR'
               · refine pt ar oFA <| pt ar oLd <| pt ar oMove <| pt ar oFA <| pt ar oLd <| pt ar oLenSl <| pt ar oFA <| pt ar oLd <| pt ar oMove <| pt ar oSub <| ?_
                 refine bb hF fun x8 h8 hF => ?_
                 refine pt ar (oIx h8) <| pt ar oFA <| pt ar oLd <| ?_
                 refine bb hF fun x9 h9 hF => ?_
                 refine pt ar (oCallZ (T_ref1_goes h9)) <| pt ar oNot <| pp oPickF <| ?_
                 obtain rfl := inj hF
                 exact nlCD cutR'
           · refine mk ?_
             refine cd hF (fun hF => ?_) (fun hF => ?_)
             · refine sr <| pp oAssign <| nl <| rt <| qsR <| qbR <| qsR <| ?_
               exact lr hF ⟨rfl, fin1⟩
             · refine sk <| qs <| rg <| pp oMove <| pp oLdA <| pp oMove <| pp oSub <| ?_
               refine bb hF fun x10 h10 hF => ?_
               refine pp (oCallZ (dnE (T_ref1_Many (fu := fu) (nn := nn + 2) h10) (by omega))) <| pp oSub <| pp oAssign <| nl <| qb <| qs <| rg <| pp oMove <| pp oSub <| pp oAssign <| nl <| ?_
               exact ln hF cutR'
         · refine ex <| qsE <| ?_
           exact lxR hF cutR'
       · intro _ hF
         refine qmk ?_
         refine qs <| sq <| ?_
         refine srC (fun (s : Bool) => mkSt 117 [5, 96] [(.vp (cXApi_Node x1)), (B s)]) hF (fun z4 hF => ?_) (fun p3 hF => ?_)
         · refine pp oFA <| pp oLd <| ?_
           refine bb hF fun x11 h11 hF => ?_
           refine pp (oCallZ (T_ref1_Named h11)) <| pp oMove <| ?_
           refine spl (d := 91) hF (fun hF => ?_) (fun hF => ?_)
           · refine pt ar oFA <| pt ar oLd <| ?_
             refine bb hF fun x12 h12 hF => ?_
             refine pt ar (oCallZ (T_ref1_Name h12)) <| pt ar oNot <| pp oPickT <| ?_
             obtain rfl := inj hF
             exact nlC cutR'
           · refine no fun u51 k51 hk51 => ?_
             refine no fun u52 k52 hk52 => ?_
             refine no fun u53 k53 hk53 => ?_
             refine no fun u54 k54 hk54 => ?_
             refine pp oPickF <| ?_
             obtain rfl := inj hF
             exact nlC cutR'
         · refine mk ?_
           refine cd hF (fun hF => ?_) (fun hF => ?_)
           · refine sr <| pp oAssign <| nl <| rt <| qsR <| ?_
             obtain rfl := inj hF
             exact fin1
           · refine sk <| qs <| sq <| ?_
             refine srC (fun (s : Bool) => mkSt 117 [5, 108] [(.vp (cXApi_Node x1)), (B s)]) hF (fun z3 hF => ?_) (fun p4 hF => ?_)
             · refine pp oFA <| pp oLd <| ?_
               refine bb hF fun x13 h13 hF => ?_
               refine pp (oCallZ (T_ref1_Named h13)) <| pp oNot <| pp oMove <| ?_
               refine spl (d := 101) hF (fun hF => ?_) (fun hF => ?_)
               · refine pt ar oFA <| pt ar oLd <| pt ar oFA <| pt ar oLd <| ?_
                 refine bb hF fun x14 h14 hF => ?_
                 refine pt ar (oCallZ (T_ref1_texts h14)) <| pt ar oNot <| pp oPickT <| ?_
                 obtain rfl := inj hF
                 exact nlC cutR'
               · refine no fun u55 k55 hk55 => ?_
                 refine no fun u56 k56 hk56 => ?_
                 refine no fun u57 k57 hk57 => ?_
                 refine no fun u58 k58 hk58 => ?_
                 refine no fun u59 k59 hk59 => ?_
                 refine no fun u60 k60 hk60 => ?_
                 refine pp oPickF <| ?_
                 obtain rfl := inj hF
                 exact nlC cutR'
             · refine mk ?_
               refine cd hF (fun hF => ?_) (fun hF => ?_)
               · refine sr <| pp oAssign <| nl <| rt <| qsR <| ?_
                 obtain rfl := inj hF
                 exact fin1
               · refine sk <| qs <| sq <| sr <| pp oLdA <| ?_
                 refine bb hF fun x15 h15 hF => ?_
                 refine pp (oCallZ (T_ref1_numbers h15)) <| pp oNot <| pp oMove <| pg ar oFA <| pg ar oLd <| pg ar oLss <| pp oPick <| nl <| ?_
                 refine cd hF (fun hF => ?_) (fun hF => ?_)
                 · refine sr <| pp oAssign <| nl <| rt <| qsR <| ?_
                   obtain rfl := inj hF
                   exact fin1
                 · refine sk <| qs <| sr <| pp oAssign <| nl <| rt <| ?_
                   obtain rfl := inj hF
                   exact fin1
       · rintro r1 hF ⟨xe, xs⟩ ⟨hxe, hfin⟩
         obtain rfl : xe = Exit.ret := hxe
         obtain rfl := inj hF
         refine qbR <| qsR <| ?_
         exact hfin

end Go.Ab
