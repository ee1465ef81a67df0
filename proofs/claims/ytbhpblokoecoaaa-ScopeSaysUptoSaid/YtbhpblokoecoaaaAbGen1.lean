/-
  Functions of the program as functions on plain data (written by gen3.py).
-/
import Derived.Test.YtbhpblokoecoaaaAbGenTy
namespace Go.Ab
open Go Go.Proofs
/-! turnery/core.Within -/

noncomputable def core_Within (a0 : Int) (a1 : Int) (a2 : Int) : Option Bool :=
 some (if (decide (a1 ≤ a0)) then (decide (a0 ≤ a2)) else false)
abbrev R_core_Within (r : Bool) : AV := (B r)
set_option maxHeartbeats 4000000 in
theorem T_core_Within {nn : Nat} {a0 : Int} {a1 : Int} {a2 : Int} {r : Bool} (hF : core_Within a0 a1 a2 = some r) : den cx (nn + 1) 39 [(I a0), (I a1), (I a2)] = some (R_core_Within r, []) := by
 unfold core_Within at hF
 refine fnA Try.func39 Try.ntmps39 (by exact spine) (sl := [0, 1, 2]) ?_
 refine sr <| pp oAssign <| nl <| sr <| pp oMove <| pp oMove <| pp oGeq <| pp oMove <| pg ar oMove <| pg ar oMove <| pg ar oLeq <| pp oPick <| pp oAssign <| nl <| ?_
 refine rt <| ?_
 obtain rfl := inj hF
 exact fin1

/-! turnery/core.Fault -/

noncomputable def core_Fault (a0 : Int) (a1 : Int) : Option XApi_Fault :=
 some (XApi_Fault.mk a0 a1)
abbrev R_core_Fault (r : XApi_Fault) : AV := (.agg (cXApi_Fault r))
set_option maxHeartbeats 4000000 in
theorem T_core_Fault {nn : Nat} {a0 : Int} {a1 : Int} {r : XApi_Fault} (hF : core_Fault a0 a1 = some r) : den cx (nn + 1) 20 [(I a0), (I a1)] = some (R_core_Fault r, []) := by
 unfold core_Fault at hF
 refine fnA Try.func20 Try.ntmps20 (by exact spine) (sl := [0, 1]) ?_
 refine sr <| ww oAlloc <| nl <| sr <| pp oMove <| pp oMove <| pp oBuild <| ww oStR <| nl <| rt <| ?_
 obtain rfl := inj hF
 exact fin1

/-! turnery/ast.Expression -/

noncomputable def ast_Expression (a0 : Int) : Option Bool :=
 some (if (decide (31 ≤ a0)) then (decide (a0 ≤ 40)) else false)
abbrev R_ast_Expression (r : Bool) : AV := (B r)
set_option maxHeartbeats 4000000 in
theorem T_ast_Expression {nn : Nat} {a0 : Int} {r : Bool} (hF : ast_Expression a0 = some r) : den cx (nn + 1) 49 [(I a0)] = some (R_ast_Expression r, []) := by
 unfold ast_Expression at hF
 refine fnA Try.func49 Try.ntmps49 (by exact spine) (sl := [0]) ?_
 refine sr <| pp oAssign <| nl <| sr <| pp oMove <| pp oGeq <| pp oMove <| pg ar oMove <| pg ar oLeq <| pp oPick <| pp oAssign <| nl <| rt <| ?_
 obtain rfl := inj hF
 exact fin1

/-! turnery/tree.known -/

noncomputable def tree_known (a0 : Int) : Option Bool :=
 (if (if (if (decide (1 ≤ a0)) then (decide (a0 ≤ 4)) else false) then true else (if (decide (11 ≤ a0)) then (decide (a0 ≤ 24)) else false)) then
 (some true)
 else
 ((ast_Expression a0).bind fun x1 =>
 some x1)).bind fun p1 =>
 some p1
abbrev R_tree_known (r : Bool) : AV := (B r)
set_option maxHeartbeats 4000000 in
theorem T_tree_known {nn : Nat} {a0 : Int} {r : Bool} (hF : tree_known a0 = some r) : den cx (nn + 2) 59 [(I a0)] = some (R_tree_known r, []) := by
 unfold tree_known at hF
 refine fnA Try.func59 Try.ntmps59 (by exact spine) (sl := [0]) ?_
 refine sr <| pp oAssign <| nl <| ?_
 refine srC (fun (s : Bool) => mkSt 21 [2] [(B s)]) hF (fun z1 hF => ?_) (fun p1 hF => ?_)
 · refine pp oMove <| pp oGeq <| pp oMove <| pg ar oMove <| pg ar oLeq <| pp oPick <| pp oMove <| pg ar oMove <| pg ar oGeq <| pg ar oMove <| pg ar oMove <| pg ar oLeq <| pg ar oPick <| pp oPick <| ?_
   refine pp oMove <| ?_
   refine spl (d := 17) hF (fun hF => ?_) (fun hF => ?_)
   · refine no fun u1 k1 hk1 => ?_
     refine no fun u2 k2 hk2 => ?_
     refine pp oPickT <| pp oAssign <| ?_
     obtain rfl := inj hF
     exact nlC cutR'
   · refine pt ar oMove <| ?_
     refine bb hF fun x1 h1 hF => ?_
     refine pt ar (oCall (T_ast_Expression h1)) <| pp oPickF <| pp oAssign <| ?_
     obtain rfl := inj hF
     exact nlC cutR'
 · refine mk ?_
   refine rt <| ?_
   obtain rfl := inj hF
   exact fin1

/-! turnery/tree.shape -/
noncomputable def tree_shape_J5 (a0 : Int) (y5 : Bool) : Option (Int × Int) :=
 if y5 then
 (some (2, 2))
 else
 (if (a0 == 38) then
 (some (3, 3))
 else
 (if (a0 == 17) then
 (some (4, 4))
 else
 (some (0, 0))))
noncomputable def tree_shape_J4 (a0 : Int) (y4 : Bool) : Option (Int × Int) :=
 if y4 then
 (some (1, 1))
 else
 (if (a0 == 14) then
 (some (2, 3))
 else
 (if (a0 == 15) then
 (tree_shape_J5 a0 (a0 == 15))
 else
 (if (a0 == 16) then
 (tree_shape_J5 a0 (a0 == 16))
 else
 (if (a0 == 34) then
 (tree_shape_J5 a0 (a0 == 34))
 else
 (if (a0 == 36) then
 (tree_shape_J5 a0 (a0 == 36))
 else
 (if (a0 == 37) then
 (tree_shape_J5 a0 (a0 == 37))
 else
 (tree_shape_J5 a0 (a0 == 39))))))))
noncomputable def tree_shape_J3 (a0 : Int) (y3 : Bool) : Option (Int × Int) :=
 if y3 then
 (some (0, 1))
 else
 (if (a0 == 13) then
 (tree_shape_J4 a0 (a0 == 13))
 else
 (if (a0 == 19) then
 (tree_shape_J4 a0 (a0 == 19))
 else
 (if (a0 == 35) then
 (tree_shape_J4 a0 (a0 == 35))
 else
 (tree_shape_J4 a0 (a0 == 40)))))
noncomputable def tree_shape_J2 (a0 : Int) (y2 : Bool) : Option (Int × Int) :=
 if y2 then
 (some (1, (-1)))
 else
 (if (a0 == 2) then
 (some (0, 200))
 else
 (if (a0 == 12) then
 (tree_shape_J3 a0 (a0 == 12))
 else
 (tree_shape_J3 a0 (a0 == 23))))
noncomputable def tree_shape_J1 (a0 : Int) (y1 : Bool) : Option (Int × Int) :=
 if y1 then
 (some (0, (-1)))
 else
 (if (a0 == 3) then
 (tree_shape_J2 a0 (a0 == 3))
 else
 (tree_shape_J2 a0 (a0 == 18)))
noncomputable def tree_shape (a0 : Int) : Option (Int × Int) :=
 if (a0 == 1) then
 (tree_shape_J1 a0 (a0 == 1))
 else
 (if (a0 == 11) then
 (tree_shape_J1 a0 (a0 == 11))
 else
 (tree_shape_J1 a0 (a0 == 33)))
abbrev R_tree_shape (r : (Int × Int)) : AV := (.tup [(I r.1), (I r.2)])
set_option maxHeartbeats 4000000 in
theorem T_tree_shape {nn : Nat} {a0 : Int} {r : (Int × Int)} (hF : tree_shape a0 = some r) : den cx (nn + 1) 60 [(I a0)] = some (R_tree_shape r, []) := by
 unfold tree_shape at hF
 refine fnA Try.func60 Try.ntmps60 (by exact spine) (sl := [0]) ?_
 refine sr <| pp oAssign <| pp oAssign <| nl <| sq <| sr <| pp oMove <| nl <| bl <| ?_
 refine sjn (r := r) (fun (s : Bool) => mkSt 35 [4, 5] [(I a0), (B s)]) (fun s => tree_shape_J1 a0 s) ?_ ?_
 · refine sr <| pp oEql <| pp oAssign <| nl <| ?_
   refine cd hF (fun hF => ?_) (fun hF => ?_)
   · refine sk <| ?_
     exact qj (a0 == 1) hF cutR'
   · refine sr <| pp oEql <| pp oAssign <| nl <| ?_
     refine cd hF (fun hF => ?_) (fun hF => ?_)
     · refine sk <| ?_
       exact qj (a0 == 11) hF cutR'
     · refine rg <| pp oEql <| pp oAssign <| nl <| ?_
       exact qj (a0 == 33) hF cutR'
 · rintro y1 hF
   replace hF : tree_shape_J1 a0 y1 = some r := hF
   unfold tree_shape_J1 at hF
   refine mk ?_
   refine cd hF (fun hF => ?_) (fun hF => ?_)
   · refine sr <| pp oAssign <| pp oAssign <| nl <| rt <| qbR <| qsR <| ?_
     obtain rfl := inj hF
     exact finT
   · refine sjn (r := r) (fun (s : Bool) => mkSt 35 [4, 9] [(I a0), (B s)]) (fun s => tree_shape_J2 a0 s) ?_ ?_
     · refine sr <| pp oEql <| pp oAssign <| nl <| ?_
       refine cd hF (fun hF => ?_) (fun hF => ?_)
       · refine sk <| ?_
         exact qj (a0 == 3) hF cutR'
       · refine rg <| pp oEql <| pp oAssign <| nl <| ?_
         exact qj (a0 == 18) hF cutR'
     · rintro y2 hF
       replace hF : tree_shape_J2 a0 y2 = some r := hF
       unfold tree_shape_J2 at hF
       refine mk ?_
       refine cd hF (fun hF => ?_) (fun hF => ?_)
       · refine sr <| pp oAssign <| pp oAssign <| nl <| rt <| qbR <| qsR <| ?_
         obtain rfl := inj hF
         exact finT
       · refine sr <| pp oEql <| pp oAssign <| nl <| ?_
         refine cd hF (fun hF => ?_) (fun hF => ?_)
         · refine sr <| pp oAssign <| pp oAssign <| nl <| rt <| qbR <| qsR <| ?_
           obtain rfl := inj hF
           exact finT
         · refine sjn (r := r) (fun (s : Bool) => mkSt 35 [4, 14] [(I a0), (B s)]) (fun s => tree_shape_J3 a0 s) ?_ ?_
           · refine sr <| pp oEql <| pp oAssign <| nl <| ?_
             refine cd hF (fun hF => ?_) (fun hF => ?_)
             · refine sk <| ?_
               exact qj (a0 == 12) hF cutR'
             · refine rg <| pp oEql <| pp oAssign <| nl <| ?_
               exact qj (a0 == 23) hF cutR'
           · rintro y3 hF
             replace hF : tree_shape_J3 a0 y3 = some r := hF
             unfold tree_shape_J3 at hF
             refine mk ?_
             refine cd hF (fun hF => ?_) (fun hF => ?_)
             · refine sr <| pp oAssign <| pp oAssign <| nl <| rt <| qbR <| qsR <| ?_
               obtain rfl := inj hF
               exact finT
             · refine sjn (r := r) (fun (s : Bool) => mkSt 35 [4, 17] [(I a0), (B s)]) (fun s => tree_shape_J4 a0 s) ?_ ?_
               · refine sr <| pp oEql <| pp oAssign <| nl <| ?_
                 refine cd hF (fun hF => ?_) (fun hF => ?_)
                 · refine sk <| ?_
                   exact qj (a0 == 13) hF cutR'
                 · refine sr <| pp oEql <| pp oAssign <| nl <| ?_
                   refine cd hF (fun hF => ?_) (fun hF => ?_)
                   · refine sk <| ?_
                     exact qj (a0 == 19) hF cutR'
                   · refine sr <| pp oEql <| pp oAssign <| nl <| ?_
                     refine cd hF (fun hF => ?_) (fun hF => ?_)
                     · refine sk <| ?_
                       exact qj (a0 == 35) hF cutR'
                     · refine rg <| pp oEql <| pp oAssign <| nl <| ?_
                       exact qj (a0 == 40) hF cutR'
               · rintro y4 hF
                 replace hF : tree_shape_J4 a0 y4 = some r := hF
                 unfold tree_shape_J4 at hF
                 refine mk ?_
                 refine cd hF (fun hF => ?_) (fun hF => ?_)
                 · refine sr <| pp oAssign <| pp oAssign <| nl <| rt <| qbR <| qsR <| ?_
                   obtain rfl := inj hF
                   exact finT
                 · refine sr <| pp oEql <| pp oAssign <| nl <| ?_
                   refine cd hF (fun hF => ?_) (fun hF => ?_)
                   · refine sr <| pp oAssign <| pp oAssign <| nl <| rt <| qbR <| qsR <| ?_
                     obtain rfl := inj hF
                     exact finT
                   · refine sjn (r := r) (fun (s : Bool) => mkSt 35 [4, 24] [(I a0), (B s)]) (fun s => tree_shape_J5 a0 s) ?_ ?_
                     · refine sr <| pp oEql <| pp oAssign <| nl <| ?_
                       refine cd hF (fun hF => ?_) (fun hF => ?_)
                       · refine sk <| ?_
                         exact qj (a0 == 15) hF cutR'
                       · refine sr <| pp oEql <| pp oAssign <| nl <| ?_
                         refine cd hF (fun hF => ?_) (fun hF => ?_)
                         · refine sk <| ?_
                           exact qj (a0 == 16) hF cutR'
                         · refine sr <| pp oEql <| pp oAssign <| nl <| ?_
                           refine cd hF (fun hF => ?_) (fun hF => ?_)
                           · refine sk <| ?_
                             exact qj (a0 == 34) hF cutR'
                           · refine sr <| pp oEql <| pp oAssign <| nl <| ?_
                             refine cd hF (fun hF => ?_) (fun hF => ?_)
                             · refine sk <| ?_
                               exact qj (a0 == 36) hF cutR'
                             · refine sr <| pp oEql <| pp oAssign <| nl <| ?_
                               refine cd hF (fun hF => ?_) (fun hF => ?_)
                               · refine sk <| ?_
                                 exact qj (a0 == 37) hF cutR'
                               · refine rg <| pp oEql <| pp oAssign <| nl <| ?_
                                 exact qj (a0 == 39) hF cutR'
                     · rintro y5 hF
                       replace hF : tree_shape_J5 a0 y5 = some r := hF
                       unfold tree_shape_J5 at hF
                       refine mk ?_
                       refine cd hF (fun hF => ?_) (fun hF => ?_)
                       · refine sr <| pp oAssign <| pp oAssign <| nl <| rt <| qbR <| qsR <| ?_
                         obtain rfl := inj hF
                         exact finT
                       · refine sr <| pp oEql <| pp oAssign <| nl <| ?_
                         refine cd hF (fun hF => ?_) (fun hF => ?_)
                         · refine sr <| pp oAssign <| pp oAssign <| nl <| rt <| qbR <| qsR <| ?_
                           obtain rfl := inj hF
                           exact finT
                         · refine sr <| pp oEql <| pp oAssign <| nl <| ?_
                           refine cd hF (fun hF => ?_) (fun hF => ?_)
                           · refine sr <| pp oAssign <| pp oAssign <| nl <| rt <| qbR <| qsR <| ?_
                             obtain rfl := inj hF
                             exact finT
                           · refine sk <| qb <| qs <| sr <| pp oAssign <| pp oAssign <| nl <| rt <| ?_
                             obtain rfl := inj hF
                             exact finT

/-! turnery/ast.Statement -/

noncomputable def ast_Statement (a0 : Int) : Option Bool :=
 some (if (if (decide (11 ≤ a0)) then (decide (a0 ≤ 18)) else false) then true else (if (decide (21 ≤ a0)) then (decide (a0 ≤ 24)) else false))
abbrev R_ast_Statement (r : Bool) : AV := (B r)
set_option maxHeartbeats 4000000 in
theorem T_ast_Statement {nn : Nat} {a0 : Int} {r : Bool} (hF : ast_Statement a0 = some r) : den cx (nn + 1) 93 [(I a0)] = some (R_ast_Statement r, []) := by
 unfold ast_Statement at hF
 refine fnA Try.func93 Try.ntmps93 (by exact spine) (sl := [0]) ?_
 refine sr <| pp oAssign <| nl <| sr <| pp oMove <| pp oGeq <| pp oMove <| pg ar oMove <| pg ar oLeq <| pp oPick <| pp oMove <| pg ar oMove <| pg ar oGeq <| pg ar oMove <| ?_
 refine pg ar oMove <| pg ar oLeq <| pg ar oPick <| pp oPick <| pp oAssign <| nl <| rt <| ?_
 obtain rfl := inj hF
 exact fin1

/-! turnery/tree.kid -/
noncomputable def tree_kid_J1 (a0 : XApi_Node) (a1 : Int) (a2 : Int) (y1 : Bool) : Option Bool :=
 if y1 then
 ((if (a1 == 0) then
 ((ast_Expression a2).bind fun x5 =>
 some (if x5 then true else (if (decide (0 < a1)) then (a2 == 11) else false)))
 else
 (some (if (decide (0 < a1)) then (a2 == 11) else false))).bind fun p2 =>
 some p2)
 else
 (if (a0.Kind == 16) then
 ((if (a1 == 1) then
 ((ast_Expression a2).bind fun x6 =>
 some (if x6 then true else (if (a1 == 0) then (a2 == 11) else false)))
 else
 (some (if (a1 == 0) then (a2 == 11) else false))).bind fun p3 =>
 some p3)
 else
 (if (a0.Kind == 17) then
 (if (a1 == 0) then
 (some (if (if (a2 == 12) then true else (a2 == 13)) then true else (a2 == 24)))
 else
 (if (a1 == 1) then
 ((ast_Expression a2).bind fun x7 =>
 some (if x7 then true else (a2 == 24)))
 else
 (if (a1 == 2) then
 (some (if (a2 == 13) then true else (a2 == 24)))
 else
 (some (a2 == 11)))))
 else
 ((ast_Expression a2).bind fun x8 =>
 some x8)))
noncomputable def tree_kid (a0 : XApi_Node) (a1 : Int) (a2 : Int) : Option Bool :=
 if (a0.Kind == 1) then
 (some (if (a2 == 2) then true else (a2 == 3)))
 else
 (if (a0.Kind == 3) then
 (some (if (if (!(a1 == (w64 ((a0.Kids.length : Int) - 1)))) then (a2 == 4) else false) then true else (if (a1 == (w64 ((a0.Kids.length : Int) - 1))) then (a2 == 11) else false)))
 else
 (if (a0.Kind == 11) then
 ((ast_Statement a2).bind fun x1 =>
 some x1)
 else
 (if (a0.Kind == 18) then
 ((if (a1 == 0) then
 ((ast_Expression a2).bind fun x2 =>
 if x2 then
 (some true)
 else
 (if (decide (0 < a1)) then
 ((ast_Statement a2).bind fun x3 =>
 some (if (if x3 then true else (a2 == 19)) then true else (a2 == 20)))
 else
 (some false)))
 else
 (if (decide (0 < a1)) then
 ((ast_Statement a2).bind fun x4 =>
 some (if (if x4 then true else (a2 == 19)) then true else (a2 == 20)))
 else
 (some false))).bind fun p1 =>
 some p1)
 else
 (if (a0.Kind == 14) then
 (tree_kid_J1 a0 a1 a2 (a0.Kind == 14))
 else
 (tree_kid_J1 a0 a1 a2 (a0.Kind == 15))))))
abbrev R_tree_kid (r : Bool) : AV := (B r)
set_option maxHeartbeats 4000000 in
theorem T_tree_kid {nn : Nat} {a0 : XApi_Node} {a1 : Int} {a2 : Int} {r : Bool} (hF : tree_kid a0 a1 a2 = some r) : den cx (nn + 2) 61 [(.agg (cXApi_Node a0)), (I a1), (I a2)] = some (R_tree_kid r, []) := by
 unfold tree_kid at hF
 refine fnA Try.func61 Try.ntmps61 (by exact spine) (sl := [0, 1, 2]) ?_
 refine sr <| pp oBoxF <| pp oAssign <| nl <| sr <| pp oMove <| pp oFA <| pp oLd <| pp oLenSl <| pp oSub <| pp oEql <| pp oAssign <| nl <| sq <| ?_
 refine sr <| pp oFA <| pp oLd <| nl <| bl <| sr <| pp oEql <| pp oAssign <| nl <| ?_
 refine cd hF (fun hF => ?_) (fun hF => ?_)
 · refine sr <| pp oMove <| pp oEql <| pp oMove <| pg ar oMove <| pg ar oEql <| pp oPick <| pp oAssign <| nl <| rt <| qbR <| qsR <| ?_
   obtain rfl := inj hF
   exact fin1
 · refine sr <| pp oEql <| pp oAssign <| nl <| ?_
   refine cd hF (fun hF => ?_) (fun hF => ?_)
   · refine sr <| pp oMove <| pp oNot <| pp oMove <| pg ar oMove <| pg ar oEql <| pp oPick <| pp oMove <| pg ar oMove <| pg ar oMove <| pg ar oMove <| pg ar oEql <| pg ar oPick <| pp oPick <| ?_
     refine pp oAssign <| nl <| rt <| qbR <| qsR <| ?_
     obtain rfl := inj hF
     exact fin1
   · refine sr <| pp oEql <| pp oAssign <| nl <| ?_
     refine cd hF (fun hF => ?_) (fun hF => ?_)
     · refine sr <| pp oMove <| ?_
       refine bb hF fun x1 h1 hF => ?_
       refine pp (oCall (T_ast_Statement h1)) <| pp oAssign <| nl <| rt <| qbR <| qsR <| ?_
       obtain rfl := inj hF
       exact fin1
     · refine sr <| pp oEql <| pp oAssign <| nl <| ?_
       refine cd hF (fun hF => ?_) (fun hF => ?_)
       · refine srC (fun (s : Bool) => mkSt 135 [6] [(B s)]) hF (fun z1 hF => ?_) (fun p1 hF => ?_)
         · refine pp oMove <| pp oEql <| pp oMove <| ?_
           refine spl (d := 47) hF (fun hF => ?_) (fun hF => ?_)
           · refine pt ar oMove <| ?_
             refine bb hF fun x2 h2 hF => ?_
             refine pt ar (oCall (T_ast_Expression h2)) <| pp oPickT <| pp oMove <| ?_
             refine spl (d := 51) hF (fun hF => ?_) (fun hF => ?_)
             · refine no fun u1 k1 hk1 => ?_
               refine no fun u2 k2 hk2 => ?_
               refine no fun u3 k3 hk3 => ?_
               refine no fun u4 k4 hk4 => ?_
               refine no fun u5 k5 hk5 => ?_
               refine no fun u6 k6 hk6 => ?_
               refine no fun u7 k7 hk7 => ?_
               refine no fun u8 k8 hk8 => ?_
               refine no fun u9 k9 hk9 => ?_
               refine no fun u10 k10 hk10 => ?_
               refine no fun u11 k11 hk11 => ?_
               refine no fun u12 k12 hk12 => ?_
               refine no fun u13 k13 hk13 => ?_
               refine no fun u14 k14 hk14 => ?_
               refine pp oPickT <| pp oAssign <| ?_
               obtain rfl := inj hF
               exact nlC cutR'
             · refine pt ar oMove <| pt ar oGtr <| pt ar oMove <| ?_
               refine splG (d := 54) hF (fun hF => ?_) (fun hF => ?_)
               · refine pt ar oMove <| ?_
                 refine bb hF fun x3 h3 hF => ?_
                 refine pt ar (oCall (T_ast_Statement h3)) <| pt ar oMove <| pg ar oMove <| pg ar oEql <| pt ar oPick <| pt ar oMove <| pg ar oMove <| pg ar oEql <| pt ar oPick <| pt ar oPickT <| pp oPickF <| pp oAssign <| ?_
                 obtain rfl := inj hF
                 exact nlC cutR'
               · refine no fun u15 k15 hk15 => ?_
                 refine no fun u16 k16 hk16 => ?_
                 refine no fun u17 k17 hk17 => ?_
                 refine no fun u18 k18 hk18 => ?_
                 refine no fun u19 k19 hk19 => ?_
                 refine no fun u20 k20 hk20 => ?_
                 refine no fun u21 k21 hk21 => ?_
                 refine no fun u22 k22 hk22 => ?_
                 refine no fun u23 k23 hk23 => ?_
                 refine no fun u24 k24 hk24 => ?_
                 refine pt ar oPickF <| pp oPickF <| pp oAssign <| ?_
                 obtain rfl := inj hF
                 exact nlC cutR'
           · refine no fun u25 k25 hk25 => ?_
             refine no fun u26 k26 hk26 => ?_
             refine pp oPickF <| pp oMove <| pt ar oMove <| pt ar oGtr <| pt ar oMove <| ?_
             refine splG (d := 54) hF (fun hF => ?_) (fun hF => ?_)
             · refine pt ar oMove <| ?_
               refine bb hF fun x4 h4 hF => ?_
               refine pt ar (oCall (T_ast_Statement h4)) <| pt ar oMove <| pg ar oMove <| pg ar oEql <| pt ar oPick <| pt ar oMove <| pg ar oMove <| pg ar oEql <| pt ar oPick <| pt ar oPickT <| pp oPickF <| pp oAssign <| ?_
               obtain rfl := inj hF
               exact nlC cutR'
             · refine no fun u27 k27 hk27 => ?_
               refine no fun u28 k28 hk28 => ?_
               refine no fun u29 k29 hk29 => ?_
               refine no fun u30 k30 hk30 => ?_
               refine no fun u31 k31 hk31 => ?_
               refine no fun u32 k32 hk32 => ?_
               refine no fun u33 k33 hk33 => ?_
               refine no fun u34 k34 hk34 => ?_
               refine no fun u35 k35 hk35 => ?_
               refine no fun u36 k36 hk36 => ?_
               refine pt ar oPickF <| pp oPickF <| pp oAssign <| ?_
               obtain rfl := inj hF
               exact nlC cutR'
         · refine mk ?_
           refine rt <| qbR <| qsR <| ?_
           obtain rfl := inj hF
           exact fin1
       · refine sjn (r := r) (fun (s : Bool) => mkSt 135 [1, 2, 15, 67] [(I a1), (I a2), (I a0.Kind), (B s)]) (fun s => tree_kid_J1 a0 a1 a2 s) ?_ ?_
         · refine sr <| pp oEql <| pp oAssign <| nl <| ?_
           refine cd hF (fun hF => ?_) (fun hF => ?_)
           · refine sk <| ?_
             exact qj (a0.Kind == 14) hF cutR'
           · refine rg <| pp oEql <| pp oAssign <| nl <| ?_
             exact qj (a0.Kind == 15) hF cutR'
         · rintro y1 hF
           replace hF : tree_kid_J1 a0 a1 a2 y1 = some r := hF
           unfold tree_kid_J1 at hF
           refine mk ?_
           refine cd hF (fun hF => ?_) (fun hF => ?_)
           · refine srC (fun (s : Bool) => mkSt 135 [6] [(B s)]) hF (fun z2 hF => ?_) (fun p2 hF => ?_)
             · refine pp oMove <| pp oEql <| pp oMove <| ?_
               refine spl (d := 72) hF (fun hF => ?_) (fun hF => ?_)
               · refine pt ar oMove <| ?_
                 refine bb hF fun x5 h5 hF => ?_
                 refine pt ar (oCall (T_ast_Expression h5)) <| pp oPickT <| pp oMove <| pg ar oMove <| pg ar oGtr <| pg ar oMove <| pg ar oMove <| pg ar oEql <| pg ar oPick <| pp oPick <| pp oAssign <| ?_
                 obtain rfl := inj hF
                 exact nlC cutR'
               · refine no fun u37 k37 hk37 => ?_
                 refine no fun u38 k38 hk38 => ?_
                 refine pp oPickF <| pp oMove <| pt ar oMove <| pt ar oGtr <| pt ar oMove <| pg ar oMove <| pg ar oEql <| pt ar oPick <| pp oPickF <| pp oAssign <| ?_
                 obtain rfl := inj hF
                 exact nlC cutR'
             · refine mk ?_
               refine rt <| qbR <| qsR <| ?_
               obtain rfl := inj hF
               exact fin1
           · refine sr <| pp oEql <| pp oAssign <| nl <| ?_
             refine cd hF (fun hF => ?_) (fun hF => ?_)
             · refine srC (fun (s : Bool) => mkSt 135 [6] [(B s)]) hF (fun z3 hF => ?_) (fun p3 hF => ?_)
               · refine pp oMove <| pp oEql <| pp oMove <| ?_
                 refine spl (d := 88) hF (fun hF => ?_) (fun hF => ?_)
                 · refine pt ar oMove <| ?_
                   refine bb hF fun x6 h6 hF => ?_
                   refine pt ar (oCall (T_ast_Expression h6)) <| pp oPickT <| pp oMove <| pg ar oMove <| pg ar oEql <| pg ar oMove <| pg ar oMove <| pg ar oEql <| pg ar oPick <| pp oPick <| pp oAssign <| ?_
                   obtain rfl := inj hF
                   exact nlC cutR'
                 · refine no fun u39 k39 hk39 => ?_
                   refine no fun u40 k40 hk40 => ?_
                   refine pp oPickF <| pp oMove <| pt ar oMove <| pt ar oEql <| pt ar oMove <| pg ar oMove <| pg ar oEql <| pt ar oPick <| pp oPickF <| pp oAssign <| ?_
                   obtain rfl := inj hF
                   exact nlC cutR'
               · refine mk ?_
                 refine rt <| qbR <| qsR <| ?_
                 obtain rfl := inj hF
                 exact fin1
             · refine sr <| pp oEql <| pp oAssign <| nl <| ?_
               refine cd hF (fun hF => ?_) (fun hF => ?_)
               · refine sq <| sr <| pp oMove <| nl <| bl <| sr <| pp oEql <| pp oAssign <| nl <| ?_
                 refine cd hF (fun hF => ?_) (fun hF => ?_)
                 · refine sr <| pp oMove <| pp oEql <| pp oMove <| pg ar oMove <| pg ar oEql <| pp oPick <| pp oMove <| pg ar oMove <| pg ar oEql <| pp oPick <| pp oAssign <| nl <| rt <| ?_
                   refine qbR <| qsR <| qbR <| qsR <| ?_
                   obtain rfl := inj hF
                   exact fin1
                 · refine sr <| pp oEql <| pp oAssign <| nl <| ?_
                   refine cd hF (fun hF => ?_) (fun hF => ?_)
                   · refine sr <| pp oMove <| ?_
                     refine bb hF fun x7 h7 hF => ?_
                     refine pp (oCall (T_ast_Expression h7)) <| pp oMove <| pg ar oMove <| pg ar oEql <| pp oPick <| pp oAssign <| nl <| rt <| qbR <| qsR <| qbR <| qsR <| ?_
                     obtain rfl := inj hF
                     exact fin1
                   · refine sr <| pp oEql <| pp oAssign <| nl <| ?_
                     refine cd hF (fun hF => ?_) (fun hF => ?_)
                     · refine sr <| pp oMove <| pp oEql <| pp oMove <| pg ar oMove <| pg ar oEql <| pp oPick <| pp oAssign <| nl <| rt <| qbR <| qsR <| qbR <| qsR <| ?_
                       obtain rfl := inj hF
                       exact fin1
                     · refine sk <| qb <| qs <| sr <| pp oMove <| pp oEql <| pp oAssign <| nl <| rt <| qbR <| qsR <| ?_
                       obtain rfl := inj hF
                       exact fin1
               · refine sk <| qb <| qs <| sr <| pp oMove <| ?_
                 refine bb hF fun x8 h8 hF => ?_
                 refine pp (oCall (T_ast_Expression h8)) <| pp oAssign <| nl <| rt <| ?_
                 obtain rfl := inj hF
                 exact fin1

/-! turnery/tree.named -/

noncomputable def tree_named (a0 : Int) : Option Bool :=
 some (if (if (if (if (if (a0 == 2) then true else (a0 == 3)) then true else (a0 == 4)) then true else (a0 == 12)) then true else (a0 == 32)) then true else (a0 == 33))
abbrev R_tree_named (r : Bool) : AV := (B r)
set_option maxHeartbeats 4000000 in
theorem T_tree_named {nn : Nat} {a0 : Int} {r : Bool} (hF : tree_named a0 = some r) : den cx (nn + 1) 62 [(I a0)] = some (R_tree_named r, []) := by
 unfold tree_named at hF
 refine fnA Try.func62 Try.ntmps62 (by exact spine) (sl := [0]) ?_
 refine sr <| pp oAssign <| nl <| sr <| pp oMove <| pp oEql <| pp oMove <| pg ar oMove <| pg ar oEql <| pp oPick <| pp oMove <| pg ar oMove <| pg ar oEql <| pp oPick <| ?_
 refine pp oMove <| pg ar oMove <| pg ar oEql <| pp oPick <| pp oMove <| pg ar oMove <| pg ar oEql <| pp oPick <| pp oMove <| pg ar oMove <| pg ar oEql <| pp oPick <| pp oAssign <| nl <| ?_
 refine rt <| ?_
 obtain rfl := inj hF
 exact fin1

/-! turnery/core.Name -/
noncomputable def core_Name_L1 (a0 : ByteArray) (y4 : Int) : Option (Lp Int (Br Unit Bool)) :=
 if (decide (y4 < (a0.size : Int))) then
 ((sidx a0 y4).bind fun x1 =>
 if (!(if (if (if (if (decide (97 ≤ (x1.toNat : Int))) then (decide ((x1.toNat : Int) ≤ 122)) else false) then true else (if (decide (65 ≤ (x1.toNat : Int))) then (decide ((x1.toNat : Int) ≤ 90)) else false)) then true else ((x1.toNat : Int) == 95)) then true else (if (if (decide (0 < y4)) then (decide (48 ≤ (x1.toNat : Int))) else false) then (decide ((x1.toNat : Int) ≤ 57)) else false))) then
 (some (.out (.ret false)))
 else
 (some (.next (w64 (y4 + 1)))))
 else
 (some (.out (.brk ())))
noncomputable def core_Name (a0 : ByteArray) : Option Bool :=
 if (if (decide ((a0.size : Int) < 1)) then true else (decide (12 < (a0.size : Int)))) then
 (some false)
 else
 ((Loop (fun (s : Int) => core_Name_L1 a0 s) 0).bind (Br.go (fun _ =>
 some true) (fun r1 => some r1)))
abbrev R_core_Name (r : Bool) : AV := (B r)
def RR_core_Name (r : Bool) (x : Exit × St) : Prop := x.1 = .ret ∧ Fin cx [.tmp 2] [] (R_core_Name r) [] x
set_option maxHeartbeats 4000000 in
theorem T_core_Name {nn : Nat} {a0 : ByteArray} {r : Bool} (hF : core_Name a0 = some r) : den cx (nn + 1) 63 [(AV.val (.string a0))] = some (R_core_Name r, []) := by
 unfold core_Name at hF
 refine fnA Try.func63 Try.ntmps63 (by exact spine) (sl := [0]) ?_
 refine sr <| pp oAssign <| nl <| sq <| sr <| pp oMove <| pp oLenS <| pp oLss <| pp oMove <| pg ar oMove <| pg ar oLenS <| pg ar oGtr <| pp oPick <| nl <| ?_
 refine cd hF (fun hF => ?_) (fun hF => ?_)
 · refine sr <| pp oAssign <| nl <| rt <| qsR <| ?_
   obtain rfl := inj hF
   exact fin1
 · refine sk <| qs <| sq <| sr <| pp oMove <| pp oLenS <| pp oMove <| nl <| ?_
   refine lpR (fun (s : Int) => mkSt 53 [0, 14, 15] [(AV.val (.string a0)), (I (a0.size : Int)), (I s)]) (fun (s : Unit) => mkSt 53 [] []) RR_core_Name hF cutR' ?_ ?_ ?_
   · rintro y4 z1 hF
     replace hF : core_Name_L1 a0 y4 = some z1 := hF
     unfold core_Name_L1 at hF
     refine mk ?_
     refine sr <| pp oLss <| nl <| sq <| ?_
     refine cd hF (fun hF => ?_) (fun hF => ?_)
     · refine sk <| qs <| sq <| bl <| sr <| pp oMove <| pp oAssign <| nl <| sr <| pp oMove <| pp oMove <| ?_
       refine bb hF fun x1 h1 hF => ?_
       refine pp (oIxS h1) <| pp oAssign <| nl <| sr <| pp oMove <| pp oGeq <| pp oMove <| pg ar oMove <| pg ar oLeq <| pp oPick <| pp oMove <| pg ar oMove <| pg ar oGeq <| pg ar oMove <| ?_
       refine pg ar oMove <| pg ar oLeq <| pg ar oPick <| pp oPick <| pp oMove <| pg ar oMove <| pg ar oEql <| pp oPick <| pp oMove <| pg ar oMove <| pg ar oGtr <| pg ar oMove <| pg ar oMove <| pg ar oGeq <| ?_
       refine pg ar oPick <| pg ar oMove <| pg ar oMove <| pg ar oLeq <| pg ar oPick <| pp oPick <| pp oNot <| nl <| ?_
       refine cd hF (fun hF => ?_) (fun hF => ?_)
       · refine sr <| pp oAssign <| nl <| rt <| qbR <| qsR <| ?_
         exact lr hF ⟨rfl, fin1⟩
       · refine sk <| qb <| qs <| rg <| pp oAdd <| pp oMove <| nl <| ?_
         exact ln hF cutR'
     · refine ex <| qsE <| ?_
       exact lxR hF cutR'
   · intro _ hF
     refine qmk ?_
     refine qs <| sr <| pp oAssign <| nl <| rt <| ?_
     obtain rfl := inj hF
     exact fin1
   · rintro r1 hF ⟨xe, xs⟩ ⟨hxe, hfin⟩
     obtain rfl : xe = Exit.ret := hxe
     obtain rfl := inj hF
     refine qbR <| qsR <| ?_
     exact hfin

/-! turnery/ast.TwoOf -/

noncomputable def ast_TwoOf (a0 : ByteArray) : Option (XAst_Two × Bool) :=
 if (a0.toList == (ByteArray.mk #[43]).toList) then
 (some ((XAst_Two.mk 2 false), true))
 else
 (if (a0.toList == (ByteArray.mk #[45]).toList) then
 (some ((XAst_Two.mk 3 false), true))
 else
 (if (a0.toList == (ByteArray.mk #[42]).toList) then
 (some ((XAst_Two.mk 4 false), true))
 else
 (if (a0.toList == (ByteArray.mk #[47]).toList) then
 (some ((XAst_Two.mk 5 false), true))
 else
 (if (a0.toList == (ByteArray.mk #[37]).toList) then
 (some ((XAst_Two.mk 6 false), true))
 else
 (if (a0.toList == (ByteArray.mk #[38]).toList) then
 (some ((XAst_Two.mk 7 false), true))
 else
 (if (a0.toList == (ByteArray.mk #[124]).toList) then
 (some ((XAst_Two.mk 8 false), true))
 else
 (if (a0.toList == (ByteArray.mk #[94]).toList) then
 (some ((XAst_Two.mk 9 false), true))
 else
 (if (a0.toList == (ByteArray.mk #[60, 60]).toList) then
 (some ((XAst_Two.mk 10 false), true))
 else
 (if (a0.toList == (ByteArray.mk #[62, 62]).toList) then
 (some ((XAst_Two.mk 11 false), true))
 else
 (if (a0.toList == (ByteArray.mk #[61, 61]).toList) then
 (some ((XAst_Two.mk 12 false), true))
 else
 (if (a0.toList == (ByteArray.mk #[33, 61]).toList) then
 (some ((XAst_Two.mk 13 false), true))
 else
 (if (a0.toList == (ByteArray.mk #[60]).toList) then
 (some ((XAst_Two.mk 14 false), true))
 else
 (if (a0.toList == (ByteArray.mk #[60, 61]).toList) then
 (some ((XAst_Two.mk 15 false), true))
 else
 (if (a0.toList == (ByteArray.mk #[62]).toList) then
 (some ((XAst_Two.mk 14 true), true))
 else
 (if (a0.toList == (ByteArray.mk #[62, 61]).toList) then
 (some ((XAst_Two.mk 15 true), true))
 else
 (some ((XAst_Two.mk 0 false), false)))))))))))))))))
abbrev R_ast_TwoOf (r : (XAst_Two × Bool)) : AV := (.tup [(.agg (cXAst_Two r.1)), (B r.2)])
set_option maxHeartbeats 4000000 in
theorem T_ast_TwoOf {nn : Nat} {a0 : ByteArray} {r : (XAst_Two × Bool)} (hF : ast_TwoOf a0 = some r) : den cx (nn + 1) 91 [(AV.val (.string a0))] = some (R_ast_TwoOf r, []) := by
 unfold ast_TwoOf at hF
 refine fnA Try.func91 Try.ntmps91 (by exact spine) (sl := [0]) ?_
 refine sr <| ww oAlloc <| pp oAssign <| nl <| sq <| sr <| pp oMove <| nl <| bl <| sr <| pp oEqlS <| pp oAssign <| nl <| ?_
 refine cd hF (fun hF => ?_) (fun hF => ?_)
 · refine sr <| pp oBuild <| ww oStR <| pp oAssign <| nl <| rt <| qbR <| qsR <| ?_
   obtain rfl := inj hF
   exact finT
 · refine sr <| pp oEqlS <| pp oAssign <| nl <| ?_
   refine cd hF (fun hF => ?_) (fun hF => ?_)
   · refine sr <| pp oBuild <| ww oStR <| pp oAssign <| nl <| rt <| qbR <| qsR <| ?_
     obtain rfl := inj hF
     exact finT
   · refine sr <| pp oEqlS <| pp oAssign <| nl <| ?_
     refine cd hF (fun hF => ?_) (fun hF => ?_)
     · refine sr <| pp oBuild <| ww oStR <| pp oAssign <| nl <| rt <| qbR <| qsR <| ?_
       obtain rfl := inj hF
       exact finT
     · refine sr <| pp oEqlS <| pp oAssign <| nl <| ?_
       refine cd hF (fun hF => ?_) (fun hF => ?_)
       · refine sr <| pp oBuild <| ww oStR <| pp oAssign <| nl <| rt <| qbR <| qsR <| ?_
         obtain rfl := inj hF
         exact finT
       · refine sr <| pp oEqlS <| pp oAssign <| nl <| ?_
         refine cd hF (fun hF => ?_) (fun hF => ?_)
         · refine sr <| pp oBuild <| ww oStR <| pp oAssign <| nl <| rt <| qbR <| qsR <| ?_
           obtain rfl := inj hF
           exact finT
         · refine sr <| pp oEqlS <| pp oAssign <| nl <| ?_
           refine cd hF (fun hF => ?_) (fun hF => ?_)
           · refine sr <| pp oBuild <| ww oStR <| pp oAssign <| nl <| rt <| qbR <| qsR <| ?_
             obtain rfl := inj hF
             exact finT
           · refine sr <| pp oEqlS <| pp oAssign <| nl <| ?_
             refine cd hF (fun hF => ?_) (fun hF => ?_)
             · refine sr <| pp oBuild <| ww oStR <| pp oAssign <| nl <| rt <| qbR <| qsR <| ?_
               obtain rfl := inj hF
               exact finT
             · refine sr <| pp oEqlS <| pp oAssign <| nl <| ?_
               refine cd hF (fun hF => ?_) (fun hF => ?_)
               · refine sr <| pp oBuild <| ww oStR <| pp oAssign <| nl <| rt <| qbR <| qsR <| ?_
                 obtain rfl := inj hF
                 exact finT
               · refine sr <| pp oEqlS <| pp oAssign <| nl <| ?_
                 refine cd hF (fun hF => ?_) (fun hF => ?_)
                 · refine sr <| pp oBuild <| ww oStR <| pp oAssign <| nl <| rt <| qbR <| qsR <| ?_
                   obtain rfl := inj hF
                   exact finT
                 · refine sr <| pp oEqlS <| pp oAssign <| nl <| ?_
                   refine cd hF (fun hF => ?_) (fun hF => ?_)
                   · refine sr <| pp oBuild <| ww oStR <| pp oAssign <| nl <| rt <| qbR <| qsR <| ?_
                     obtain rfl := inj hF
                     exact finT
                   · refine sr <| pp oEqlS <| pp oAssign <| nl <| ?_
                     refine cd hF (fun hF => ?_) (fun hF => ?_)
                     · refine sr <| pp oBuild <| ww oStR <| pp oAssign <| nl <| rt <| qbR <| qsR <| ?_
                       obtain rfl := inj hF
                       exact finT
                     · refine sr <| pp oEqlS <| pp oAssign <| nl <| ?_
                       refine cd hF (fun hF => ?_) (fun hF => ?_)
                       · refine sr <| pp oBuild <| ww oStR <| pp oAssign <| nl <| rt <| qbR <| qsR <| ?_
                         obtain rfl := inj hF
                         exact finT
                       · refine sr <| pp oEqlS <| pp oAssign <| nl <| ?_
                         refine cd hF (fun hF => ?_) (fun hF => ?_)
                         · refine sr <| pp oBuild <| ww oStR <| pp oAssign <| nl <| rt <| qbR <| qsR <| ?_
                           obtain rfl := inj hF
                           exact finT
                         · refine sr <| pp oEqlS <| pp oAssign <| nl <| ?_
                           refine cd hF (fun hF => ?_) (fun hF => ?_)
                           · refine sr <| pp oBuild <| ww oStR <| pp oAssign <| nl <| rt <| qbR <| qsR <| ?_
                             obtain rfl := inj hF
                             exact finT
                           · refine sr <| pp oEqlS <| pp oAssign <| nl <| ?_
                             refine cd hF (fun hF => ?_) (fun hF => ?_)
                             · refine sr <| pp oBuild <| ww oStR <| pp oAssign <| nl <| rt <| qbR <| qsR <| ?_
                               obtain rfl := inj hF
                               exact finT
                             · refine sr <| pp oEqlS <| pp oAssign <| nl <| ?_
                               refine cd hF (fun hF => ?_) (fun hF => ?_)
                               · refine sr <| pp oBuild <| ww oStR <| pp oAssign <| nl <| rt <| qbR <| qsR <| ?_
                                 obtain rfl := inj hF
                                 exact finT
                               · refine sk <| qb <| qs <| sr <| pp oBuild <| ww oStR <| pp oAssign <| nl <| rt <| ?_
                                 obtain rfl := inj hF
                                 exact finT

/-! slices.Index[[]string,string] -/
noncomputable def slices_Index_string_string_L1 (a0 : (List ByteArray)) (a1 : ByteArray) (y5 : Int) : Option (Lp Int (Br Unit Int)) :=
 if (decide (y5 < (a0.length : Int))) then
 ((idx a0 y5).bind fun x1 =>
 if (a1.toList == x1.toList) then
 (some (.out (.ret y5)))
 else
 (some (.next (w64 (y5 + 1)))))
 else
 (some (.out (.brk ())))
noncomputable def slices_Index_string_string (a0 : (List ByteArray)) (a1 : ByteArray) : Option Int :=
 (Loop (fun (s : Int) => slices_Index_string_string_L1 a0 a1 s) 0).bind (Br.go (fun _ =>
 some (-1)) (fun r1 => some r1))
abbrev R_slices_Index_string_string (r : Int) : AV := (I r)
def RR_slices_Index_string_string (r : Int) (x : Exit × St) : Prop := x.1 = .ret ∧ Fin cx [.tmp 4] [] (R_slices_Index_string_string r) [] x
set_option maxHeartbeats 4000000 in
theorem T_slices_Index_string_string {nn : Nat} {a0 : (List ByteArray)} {a1 : ByteArray} {r : Int} (hF : slices_Index_string_string a0 a1 = some r) : den cx (nn + 1) 102 [(.sl ((a0).map cStr)), (AV.val (.string a1))] = some (R_slices_Index_string_string r, []) := by
 unfold slices_Index_string_string at hF
 refine fnA Try.func102 Try.ntmps102 (by exact spine) (sl := [0, 1]) ?_
 refine sr <| pp oAssign <| nl <| sq <| sr <| pp oMove <| pp oLenSl <| pp oMove <| nl <| ?_
 refine lpR (fun (s : Int) => mkSt 19 [0, 1, 7, 8] [(.sl ((a0).map cStr)), (AV.val (.string a1)), (I (a0.length : Int)), (I s)]) (fun (s : Unit) => mkSt 19 [] []) RR_slices_Index_string_string hF cutR' ?_ ?_ ?_
 · rintro y5 z1 hF
   replace hF : slices_Index_string_string_L1 a0 a1 y5 = some z1 := hF
   unfold slices_Index_string_string_L1 at hF
   refine mk ?_
   refine sr <| pp oLss <| nl <| sq <| ?_
   refine cd hF (fun hF => ?_) (fun hF => ?_)
   · refine sk <| qs <| sq <| bl <| sr <| pp oMove <| pp oAssign <| nl <| sr <| pp oMove <| pp oMove <| pp oMove <| ?_
     refine bb hF fun x1 h1 hF => ?_
     refine pp (oIx h1) <| pp oLd <| pp oEqlS <| nl <| ?_
     refine cd hF (fun hF => ?_) (fun hF => ?_)
     · refine sr <| pp oMove <| pp oAssign <| nl <| rt <| qbR <| qsR <| ?_
       exact lr hF ⟨rfl, fin1⟩
     · refine sk <| qb <| qs <| rg <| pp oAdd <| pp oMove <| nl <| ?_
       exact ln hF cutR'
   · refine ex <| qsE <| ?_
     exact lxR hF cutR'
 · intro _ hF
   refine qmk ?_
   refine qs <| sr <| pp oAssign <| nl <| rt <| ?_
   obtain rfl := inj hF
   exact fin1
 · rintro r1 hF ⟨xe, xs⟩ ⟨hxe, hfin⟩
   obtain rfl : xe = Exit.ret := hxe
   obtain rfl := inj hF
   refine qbR <| qsR <| ?_
   exact hfin

/-! slices.Contains[[]string,string] -/

noncomputable def slices_Contains_string_string (a0 : (List ByteArray)) (a1 : ByteArray) : Option Bool :=
 (slices_Index_string_string a0 a1).bind fun x1 =>
 some (decide (0 ≤ x1))
abbrev R_slices_Contains_string_string (r : Bool) : AV := (B r)
set_option maxHeartbeats 4000000 in
theorem T_slices_Contains_string_string {nn : Nat} {a0 : (List ByteArray)} {a1 : ByteArray} {r : Bool} (hF : slices_Contains_string_string a0 a1 = some r) : den cx (nn + 2) 94 [(.sl ((a0).map cStr)), (AV.val (.string a1))] = some (R_slices_Contains_string_string r, []) := by
 unfold slices_Contains_string_string at hF
 refine fnA Try.func94 Try.ntmps94 (by exact spine) (sl := [0, 1]) ?_
 refine sr <| pp oAssign <| nl <| sr <| pp oMove <| pp oMove <| ?_
 refine bb hF fun x1 h1 hF => ?_
 refine pp (oCallZ (T_slices_Index_string_string h1)) <| pp oGeq <| pp oAssign <| nl <| rt <| ?_
 obtain rfl := inj hF
 exact fin1

/-! turnery/tree.sign -/

noncomputable def tree_sign (a0 : Int) (a1 : ByteArray) : Option Bool :=
 (ast_TwoOf a1).bind fun x1 =>
 if (a0 == 35) then
 ((slices_Contains_string_string ([(ByteArray.mk #[45]), (ByteArray.mk #[33]), (ByteArray.mk #[126]), (ByteArray.mk #[42]), (ByteArray.mk #[38])] : List ByteArray) a1).bind fun x2 =>
 some x2)
 else
 (if (a0 == 36) then
 (some x1.2)
 else
 (if (a0 == 37) then
 (some (if (a1.toList == (ByteArray.mk #[38, 38]).toList) then true else (a1.toList == (ByteArray.mk #[124, 124]).toList)))
 else
 (if (a0 == 39) then
 (if (a1.toList == (ByteArray.mk #[61]).toList) then
 (some true)
 else
 ((sslc a1 none (some (max 0 (w64 ((a1.size : Int) - 1))))).bind fun x3 =>
 (ast_TwoOf x3).bind fun x4 =>
 (if x4.2 then
 ((sidx a1 (w64 ((a1.size : Int) - 1))).bind fun x5 =>
 some (if ((x5.toNat : Int) == 61) then (decide (x4.1.Op ≤ 11)) else false))
 else
 (some false)).bind fun p1 =>
 some p1))
 else
 (if (a0 == 40) then
 (some (if (a1.toList == (ByteArray.mk #[43, 43]).toList) then true else (a1.toList == (ByteArray.mk #[45, 45]).toList)))
 else
 (some (a1.toList == (ByteArray.mk #[]).toList))))))
abbrev R_tree_sign (r : Bool) : AV := (B r)
set_option maxHeartbeats 4000000 in
theorem T_tree_sign {nn : Nat} {a0 : Int} {a1 : ByteArray} {r : Bool} (hF : tree_sign a0 a1 = some r) : den cx (nn + 3) 64 [(I a0), (AV.val (.string a1))] = some (R_tree_sign r, []) := by
 unfold tree_sign at hF
 refine fnA Try.func64 Try.ntmps64 (by exact spine) (sl := [0, 1]) ?_
 refine sr <| pp oAssign <| nl <| sr <| pp oMove <| ?_
 refine bb hF fun x1 h1 hF => ?_
 refine pp (oCall (T_ast_TwoOf h1)) <| pp oMove <| pp oExt <| pp oExt <| ww oAlloc <| ww oStF <| pp oAssign <| nl <| sq <| sr <| pp oMove <| nl <| bl <| sr <| ?_
 refine pp oEql <| pp oAssign <| nl <| ?_
 refine cd hF (fun hF => ?_) (fun hF => ?_)
 · refine sr <| pp oBSF <| pp oMove <| ?_
   refine bb hF fun x2 h2 hF => ?_
   refine pp (oCall (T_slices_Contains_string_string h2)) <| pp oAssign <| nl <| rt <| qbR <| qsR <| ?_
   obtain rfl := inj hF
   exact fin1
 · refine sr <| pp oEql <| pp oAssign <| nl <| ?_
   refine cd hF (fun hF => ?_) (fun hF => ?_)
   · refine sr <| pp oMove <| pp oAssign <| nl <| rt <| qbR <| qsR <| ?_
     obtain rfl := inj hF
     exact fin1
   · refine sr <| pp oEql <| pp oAssign <| nl <| ?_
     refine cd hF (fun hF => ?_) (fun hF => ?_)
     · refine sr <| pp oMove <| pp oEqlS <| pp oMove <| pg ar oMove <| pg ar oEqlS <| pp oPick <| pp oAssign <| nl <| rt <| qbR <| qsR <| ?_
       obtain rfl := inj hF
       exact fin1
     · refine sr <| pp oEql <| pp oAssign <| nl <| ?_
       refine cd hF (fun hF => ?_) (fun hF => ?_)
       · refine sq <| sr <| pp oMove <| pp oEqlS <| nl <| ?_
         refine cd hF (fun hF => ?_) (fun hF => ?_)
         · refine sr <| pp oAssign <| nl <| rt <| qsR <| qbR <| qsR <| ?_
           obtain rfl := inj hF
           exact fin1
         · refine sk <| qs <| sr <| pp oMove <| pp oMove <| pp oLenS <| pp oSub <| pp oMax <| ?_
           refine bb hF fun x3 h3 hF => ?_
           refine pp (oSlcS h3) <| ?_
           refine bb hF fun x4 h4 hF => ?_
           refine pp (oCall (T_ast_TwoOf h4)) <| pp oMove <| pp oExt <| pp oExt <| ww oAlloc <| ww oStF <| pp oAssign <| nl <| ?_
           refine srC (fun (s : Bool) => mkSt 69 [4] [(B s)]) hF (fun z1 hF => ?_) (fun p1 hF => ?_)
           · refine pp oMove <| pp oMove <| ?_
             refine spl (d := 46) hF (fun hF => ?_) (fun hF => ?_)
             · refine pt ar oMove <| pt ar oMove <| pt ar oLenS <| pt ar oSub <| ?_
               refine bb hF fun x5 h5 hF => ?_
               refine pt ar (oIxS h5) <| pt ar oEql <| pp oPickT <| pp oMove <| pg ar oFA <| pg ar oLd <| pg ar oLeq <| pp oPick <| pp oAssign <| ?_
               obtain rfl := inj hF
               exact nlC cutR'
             · refine no fun u1 k1 hk1 => ?_
               refine no fun u2 k2 hk2 => ?_
               refine no fun u3 k3 hk3 => ?_
               refine no fun u4 k4 hk4 => ?_
               refine no fun u5 k5 hk5 => ?_
               refine no fun u6 k6 hk6 => ?_
               refine pp oPickF <| pp oMove <| ?_
               refine no fun u7 k7 hk7 => ?_
               refine no fun u8 k8 hk8 => ?_
               refine no fun u9 k9 hk9 => ?_
               refine pp oPickF <| pp oAssign <| ?_
               obtain rfl := inj hF
               exact nlC cutR'
           · refine mk ?_
             refine rt <| qbR <| qsR <| ?_
             obtain rfl := inj hF
             exact fin1
       · refine sr <| pp oEql <| pp oAssign <| nl <| ?_
         refine cd hF (fun hF => ?_) (fun hF => ?_)
         · refine sr <| pp oMove <| pp oEqlS <| pp oMove <| pg ar oMove <| pg ar oEqlS <| pp oPick <| pp oAssign <| nl <| rt <| qbR <| qsR <| ?_
           obtain rfl := inj hF
           exact fin1
         · refine sk <| qb <| qs <| sr <| pp oMove <| pp oEqlS <| pp oAssign <| nl <| rt <| ?_
           obtain rfl := inj hF
           exact fin1

/-! turnery/tree.numbers -/
noncomputable def tree_numbers_J1 (a0 : XApi_Node) (y1 : Bool) : Option Bool :=
 if y1 then
 ((core_Within a0.N 1 2).bind fun x3 =>
 some (if x3 then (a0.Size == 0) else false))
 else
 (if (a0.Kind == 31) then
 (some (if (decide (0 ≤ a0.N)) then (a0.Size == 0) else false))
 else
 (if (a0.Kind == 40) then
 ((core_Within a0.N 0 1).bind fun x4 =>
 some (if x4 then (a0.Size == 0) else false))
 else
 (some (if (a0.N == 0) then (a0.Size == 0) else false))))
noncomputable def tree_numbers (a0 : XApi_Node) : Option Bool :=
 if (a0.Kind == 2) then
 (if (a0.N == 3) then
 ((core_Within a0.Size 1 200).bind fun x1 =>
 some (if x1 then (decide ((a0.Kids.length : Int) ≤ a0.Size)) else false))
 else
 (some (if (if (if (a0.N == 1) then true else (a0.N == 2)) then (a0.Size == 0) else false) then (decide ((a0.Kids.length : Int) ≤ 1)) else false)))
 else
 (if (a0.Kind == 3) then
 ((core_Within a0.N 0 2).bind fun x2 =>
 some (if x2 then (a0.Size == 0) else false))
 else
 (if (a0.Kind == 4) then
 (tree_numbers_J1 a0 (a0.Kind == 4))
 else
 (tree_numbers_J1 a0 (a0.Kind == 12))))
abbrev R_tree_numbers (r : Bool) : AV := (B r)
set_option maxHeartbeats 4000000 in
theorem T_tree_numbers {nn : Nat} {a0 : XApi_Node} {r : Bool} (hF : tree_numbers a0 = some r) : den cx (nn + 2) 65 [(.agg (cXApi_Node a0))] = some (R_tree_numbers r, []) := by
 unfold tree_numbers at hF
 refine fnA Try.func65 Try.ntmps65 (by exact spine) (sl := [0]) ?_
 refine sr <| pp oBoxF <| pp oAssign <| nl <| sq <| sr <| pp oFA <| pp oLd <| nl <| bl <| sr <| pp oEql <| pp oAssign <| nl <| ?_
 refine cd hF (fun hF => ?_) (fun hF => ?_)
 · refine sq <| sr <| pp oFA <| pp oLd <| pp oEql <| nl <| ?_
   refine cd hF (fun hF => ?_) (fun hF => ?_)
   · refine sr <| pp oFA <| pp oLd <| ?_
     refine bb hF fun x1 h1 hF => ?_
     refine pp (oCall (T_core_Within h1)) <| pp oMove <| pg ar oFA <| pg ar oLd <| pg ar oLenSl <| pg ar oFA <| pg ar oLd <| pg ar oLeq <| pp oPick <| pp oAssign <| nl <| rt <| qsR <| qbR <| ?_
     refine qsR <| ?_
     obtain rfl := inj hF
     exact fin1
   · refine sk <| qs <| sr <| pp oFA <| pp oLd <| pp oEql <| pp oMove <| pg ar oFA <| pg ar oLd <| pg ar oEql <| pp oPick <| pp oMove <| pg ar oFA <| pg ar oLd <| ?_
     refine pg ar oEql <| pp oPick <| pp oMove <| pg ar oFA <| pg ar oLd <| pg ar oLenSl <| pg ar oLeq <| pp oPick <| pp oAssign <| nl <| rt <| qbR <| qsR <| ?_
     obtain rfl := inj hF
     exact fin1
 · refine sr <| pp oEql <| pp oAssign <| nl <| ?_
   refine cd hF (fun hF => ?_) (fun hF => ?_)
   · refine sr <| pp oFA <| pp oLd <| ?_
     refine bb hF fun x2 h2 hF => ?_
     refine pp (oCall (T_core_Within h2)) <| pp oMove <| pg ar oFA <| pg ar oLd <| pg ar oEql <| pp oPick <| pp oAssign <| nl <| rt <| qbR <| qsR <| ?_
     obtain rfl := inj hF
     exact fin1
   · refine sjn (r := r) (fun (s : Bool) => mkSt 89 [1, 4, 50] [(.vp (cXApi_Node a0)), (I a0.Kind), (B s)]) (fun s => tree_numbers_J1 a0 s) ?_ ?_
     · refine sr <| pp oEql <| pp oAssign <| nl <| ?_
       refine cd hF (fun hF => ?_) (fun hF => ?_)
       · refine sk <| ?_
         exact qj (a0.Kind == 4) hF cutR'
       · refine rg <| pp oEql <| pp oAssign <| nl <| ?_
         exact qj (a0.Kind == 12) hF cutR'
     · rintro y1 hF
       replace hF : tree_numbers_J1 a0 y1 = some r := hF
       unfold tree_numbers_J1 at hF
       refine mk ?_
       refine cd hF (fun hF => ?_) (fun hF => ?_)
       · refine sr <| pp oFA <| pp oLd <| ?_
         refine bb hF fun x3 h3 hF => ?_
         refine pp (oCall (T_core_Within h3)) <| pp oMove <| pg ar oFA <| pg ar oLd <| pg ar oEql <| pp oPick <| pp oAssign <| nl <| rt <| qbR <| qsR <| ?_
         obtain rfl := inj hF
         exact fin1
       · refine sr <| pp oEql <| pp oAssign <| nl <| ?_
         refine cd hF (fun hF => ?_) (fun hF => ?_)
         · refine sr <| pp oFA <| pp oLd <| pp oGeq <| pp oMove <| pg ar oFA <| pg ar oLd <| pg ar oEql <| pp oPick <| pp oAssign <| nl <| rt <| qbR <| qsR <| ?_
           obtain rfl := inj hF
           exact fin1
         · refine sr <| pp oEql <| pp oAssign <| nl <| ?_
           refine cd hF (fun hF => ?_) (fun hF => ?_)
           · refine sr <| pp oFA <| pp oLd <| ?_
             refine bb hF fun x4 h4 hF => ?_
             refine pp (oCall (T_core_Within h4)) <| pp oMove <| pg ar oFA <| pg ar oLd <| pg ar oEql <| pp oPick <| pp oAssign <| nl <| rt <| qbR <| qsR <| ?_
             obtain rfl := inj hF
             exact fin1
           · refine sk <| qb <| qs <| sr <| pp oFA <| pp oLd <| pp oEql <| pp oMove <| pg ar oFA <| pg ar oLd <| pg ar oEql <| pp oPick <| pp oAssign <| nl <| ?_
             refine rt <| ?_
             obtain rfl := inj hF
             exact fin1

end Go.Ab
