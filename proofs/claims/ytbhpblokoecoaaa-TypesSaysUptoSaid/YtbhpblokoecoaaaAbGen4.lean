/-
  Functions of the program as functions on plain data (written by gen3.py).
-/
/-
  Functions of the program as functions on plain data (written by gen3.py).
-/
/-
  Functions of the program as functions on plain data (written by gen3.py).
-/
/-
  Functions of the program as functions on plain data (written by gen3.py).
-/
import Derived.Test.YtbhpblokoecoaaaAbGenTy
namespace Go.Ab
open Go Go.Proofs
noncomputable def core_Within (a0 : Int) (a1 : Int) (a2 : Int) : Option Bool :=
 some (if (decide (a1 ≤ a0)) then (decide (a0 ≤ a2)) else false)
abbrev R_core_Within (r : Bool) : AV := (B r)
set_option maxHeartbeats 4000000 in
theorem T_core_Within {nn : Nat} {a0 : Int} {a1 : Int} {a2 : Int} {r : Bool} (hF : core_Within a0 a1 a2 = some r) : den cx (nn + 1) 39 [(I a0), (I a1), (I a2)] = some (R_core_Within r, []) := by
 unfold core_Within at hF
 refine fnA Try.func39 Try.ntmps39 (by exact spine) (sl := [0, 1, 2]) ?_
 refine sr <| pp oAssign <| nl <| sr <| pp oMove <| pp oMove <| pp oGeq <| pp oMove <| pg ar oMove <| pg ar oMove <| pg ar oLeq <| pp oPick <| pp oAssign <| nl <| ?_
 refine rt <| ?_
 obtain rfl := inj hF
 exact fin1
noncomputable def core_Fault (a0 : Int) (a1 : Int) : Option XApi_Fault :=
 some (XApi_Fault.mk a0 a1)
abbrev R_core_Fault (r : XApi_Fault) : AV := (.agg (cXApi_Fault r))
set_option maxHeartbeats 4000000 in
theorem T_core_Fault {nn : Nat} {a0 : Int} {a1 : Int} {r : XApi_Fault} (hF : core_Fault a0 a1 = some r) : den cx (nn + 1) 20 [(I a0), (I a1)] = some (R_core_Fault r, []) := by
 unfold core_Fault at hF
 refine fnA Try.func20 Try.ntmps20 (by exact spine) (sl := [0, 1]) ?_
 refine sr <| ww oAlloc <| nl <| sr <| pp oMove <| pp oMove <| pp oBuild <| ww oStR <| nl <| rt <| ?_
 obtain rfl := inj hF
 exact fin1
noncomputable def ast_Expression (a0 : Int) : Option Bool :=
 some (if (decide (31 ≤ a0)) then (decide (a0 ≤ 40)) else false)
abbrev R_ast_Expression (r : Bool) : AV := (B r)
set_option maxHeartbeats 4000000 in
theorem T_ast_Expression {nn : Nat} {a0 : Int} {r : Bool} (hF : ast_Expression a0 = some r) : den cx (nn + 1) 49 [(I a0)] = some (R_ast_Expression r, []) := by
 unfold ast_Expression at hF
 refine fnA Try.func49 Try.ntmps49 (by exact spine) (sl := [0]) ?_
 refine sr <| pp oAssign <| nl <| sr <| pp oMove <| pp oGeq <| pp oMove <| pg ar oMove <| pg ar oLeq <| pp oPick <| pp oAssign <| nl <| rt <| ?_
 obtain rfl := inj hF
 exact fin1
noncomputable def tree_known (a0 : Int) : Option Bool :=
 (if (if (if (decide (1 ≤ a0)) then (decide (a0 ≤ 4)) else false) then true else (if (decide (11 ≤ a0)) then (decide (a0 ≤ 24)) else false)) then
 (some true)
 else
 ((ast_Expression a0).bind fun x1 =>
 some x1)).bind fun p1 =>
 some p1
abbrev R_tree_known (r : Bool) : AV := (B r)
set_option maxHeartbeats 4000000 in
theorem T_tree_known {nn : Nat} {a0 : Int} {r : Bool} (hF : tree_known a0 = some r) : den cx (nn + 2) 59 [(I a0)] = some (R_tree_known r, []) := by
 unfold tree_known at hF
 refine fnA Try.func59 Try.ntmps59 (by exact spine) (sl := [0]) ?_
 refine sr <| pp oAssign <| nl <| ?_
 refine srC (fun (s : Bool) => mkSt 21 [2] [(B s)]) hF (fun z1 hF => ?_) (fun p1 hF => ?_)
 · refine pp oMove <| pp oGeq <| pp oMove <| pg ar oMove <| pg ar oLeq <| pp oPick <| pp oMove <| pg ar oMove <| pg ar oGeq <| pg ar oMove <| pg ar oMove <| pg ar oLeq <| pg ar oPick <| pp oPick <| ?_
   refine pp oMove <| ?_
   refine spl (d := 17) hF (fun hF => ?_) (fun hF => ?_)
   · refine no fun u1 k1 hk1 => ?_
     refine no fun u2 k2 hk2 => ?_
     refine pp oPickT <| pp oAssign <| ?_
     obtain rfl := inj hF
     exact nlC cutR'
   · refine pt ar oMove <| ?_
     refine bb hF fun x1 h1 hF => ?_
     refine pt ar (oCall (T_ast_Expression h1)) <| pp oPickF <| pp oAssign <| ?_
     obtain rfl := inj hF
     exact nlC cutR'
 · refine mk ?_
   refine rt <| ?_
   obtain rfl := inj hF
   exact fin1
noncomputable def tree_shape_J5 (a0 : Int) (y5 : Bool) : Option (Int × Int) :=
 if y5 then
 (some (2, 2))
 else
 (if (a0 == 38) then
 (some (3, 3))
 else
 (if (a0 == 17) then
 (some (4, 4))
 else
 (some (0, 0))))
noncomputable def tree_shape_J4 (a0 : Int) (y4 : Bool) : Option (Int × Int) :=
 if y4 then
 (some (1, 1))
 else
 (if (a0 == 14) then
 (some (2, 3))
 else
 (if (a0 == 15) then
 (tree_shape_J5 a0 (a0 == 15))
 else
 (if (a0 == 16) then
 (tree_shape_J5 a0 (a0 == 16))
 else
 (if (a0 == 34) then
 (tree_shape_J5 a0 (a0 == 34))
 else
 (if (a0 == 36) then
 (tree_shape_J5 a0 (a0 == 36))
 else
 (if (a0 == 37) then
 (tree_shape_J5 a0 (a0 == 37))
 else
 (tree_shape_J5 a0 (a0 == 39))))))))
noncomputable def tree_shape_J3 (a0 : Int) (y3 : Bool) : Option (Int × Int) :=
 if y3 then
 (some (0, 1))
 else
 (if (a0 == 13) then
 (tree_shape_J4 a0 (a0 == 13))
 else
 (if (a0 == 19) then
 (tree_shape_J4 a0 (a0 == 19))
 else
 (if (a0 == 35) then
 (tree_shape_J4 a0 (a0 == 35))
 else
 (tree_shape_J4 a0 (a0 == 40)))))
noncomputable def tree_shape_J2 (a0 : Int) (y2 : Bool) : Option (Int × Int) :=
 if y2 then
 (some (1, (-1)))
 else
 (if (a0 == 2) then
 (some (0, 200))
 else
 (if (a0 == 12) then
 (tree_shape_J3 a0 (a0 == 12))
 else
 (tree_shape_J3 a0 (a0 == 23))))
noncomputable def tree_shape_J1 (a0 : Int) (y1 : Bool) : Option (Int × Int) :=
 if y1 then
 (some (0, (-1)))
 else
 (if (a0 == 3) then
 (tree_shape_J2 a0 (a0 == 3))
 else
 (tree_shape_J2 a0 (a0 == 18)))
noncomputable def tree_shape (a0 : Int) : Option (Int × Int) :=
 if (a0 == 1) then
 (tree_shape_J1 a0 (a0 == 1))
 else
 (if (a0 == 11) then
 (tree_shape_J1 a0 (a0 == 11))
 else
 (tree_shape_J1 a0 (a0 == 33)))
abbrev R_tree_shape (r : (Int × Int)) : AV := (.tup [(I r.1), (I r.2)])
set_option maxHeartbeats 4000000 in
theorem T_tree_shape {nn : Nat} {a0 : Int} {r : (Int × Int)} (hF : tree_shape a0 = some r) : den cx (nn + 1) 60 [(I a0)] = some (R_tree_shape r, []) := by
 unfold tree_shape at hF
 refine fnA Try.func60 Try.ntmps60 (by exact spine) (sl := [0]) ?_
 refine sr <| pp oAssign <| pp oAssign <| nl <| sq <| sr <| pp oMove <| nl <| bl <| ?_
 refine sjn (r := r) (fun (s : Bool) => mkSt 35 [4, 5] [(I a0), (B s)]) (fun s => tree_shape_J1 a0 s) ?_ ?_
 · refine sr <| pp oEql <| pp oAssign <| nl <| ?_
   refine cd hF (fun hF => ?_) (fun hF => ?_)
   · refine sk <| ?_
     exact qj (a0 == 1) hF cutR'
   · refine sr <| pp oEql <| pp oAssign <| nl <| ?_
     refine cd hF (fun hF => ?_) (fun hF => ?_)
     · refine sk <| ?_
       exact qj (a0 == 11) hF cutR'
     · refine rg <| pp oEql <| pp oAssign <| nl <| ?_
       exact qj (a0 == 33) hF cutR'
 · rintro y1 hF
   replace hF : tree_shape_J1 a0 y1 = some r := hF
   unfold tree_shape_J1 at hF
   refine mk ?_
   refine cd hF (fun hF => ?_) (fun hF => ?_)
   · refine sr <| pp oAssign <| pp oAssign <| nl <| rt <| qbR <| qsR <| ?_
     obtain rfl := inj hF
     exact finT
   · refine sjn (r := r) (fun (s : Bool) => mkSt 35 [4, 9] [(I a0), (B s)]) (fun s => tree_shape_J2 a0 s) ?_ ?_
     · refine sr <| pp oEql <| pp oAssign <| nl <| ?_
       refine cd hF (fun hF => ?_) (fun hF => ?_)
       · refine sk <| ?_
         exact qj (a0 == 3) hF cutR'
       · refine rg <| pp oEql <| pp oAssign <| nl <| ?_
         exact qj (a0 == 18) hF cutR'
     · rintro y2 hF
       replace hF : tree_shape_J2 a0 y2 = some r := hF
       unfold tree_shape_J2 at hF
       refine mk ?_
       refine cd hF (fun hF => ?_) (fun hF => ?_)
       · refine sr <| pp oAssign <| pp oAssign <| nl <| rt <| qbR <| qsR <| ?_
         obtain rfl := inj hF
         exact finT
       · refine sr <| pp oEql <| pp oAssign <| nl <| ?_
         refine cd hF (fun hF => ?_) (fun hF => ?_)
         · refine sr <| pp oAssign <| pp oAssign <| nl <| rt <| qbR <| qsR <| ?_
           obtain rfl := inj hF
           exact finT
         · refine sjn (r := r) (fun (s : Bool) => mkSt 35 [4, 14] [(I a0), (B s)]) (fun s => tree_shape_J3 a0 s) ?_ ?_
           · refine sr <| pp oEql <| pp oAssign <| nl <| ?_
             refine cd hF (fun hF => ?_) (fun hF => ?_)
             · refine sk <| ?_
               exact qj (a0 == 12) hF cutR'
             · refine rg <| pp oEql <| pp oAssign <| nl <| ?_
               exact qj (a0 == 23) hF cutR'
           · rintro y3 hF
             replace hF : tree_shape_J3 a0 y3 = some r := hF
             unfold tree_shape_J3 at hF
             refine mk ?_
             refine cd hF (fun hF => ?_) (fun hF => ?_)
             · refine sr <| pp oAssign <| pp oAssign <| nl <| rt <| qbR <| qsR <| ?_
               obtain rfl := inj hF
               exact finT
             · refine sjn (r := r) (fun (s : Bool) => mkSt 35 [4, 17] [(I a0), (B s)]) (fun s => tree_shape_J4 a0 s) ?_ ?_
               · refine sr <| pp oEql <| pp oAssign <| nl <| ?_
                 refine cd hF (fun hF => ?_) (fun hF => ?_)
                 · refine sk <| ?_
                   exact qj (a0 == 13) hF cutR'
                 · refine sr <| pp oEql <| pp oAssign <| nl <| ?_
                   refine cd hF (fun hF => ?_) (fun hF => ?_)
                   · refine sk <| ?_
                     exact qj (a0 == 19) hF cutR'
                   · refine sr <| pp oEql <| pp oAssign <| nl <| ?_
                     refine cd hF (fun hF => ?_) (fun hF => ?_)
                     · refine sk <| ?_
                       exact qj (a0 == 35) hF cutR'
                     · refine rg <| pp oEql <| pp oAssign <| nl <| ?_
                       exact qj (a0 == 40) hF cutR'
               · rintro y4 hF
                 replace hF : tree_shape_J4 a0 y4 = some r := hF
                 unfold tree_shape_J4 at hF
                 refine mk ?_
                 refine cd hF (fun hF => ?_) (fun hF => ?_)
                 · refine sr <| pp oAssign <| pp oAssign <| nl <| rt <| qbR <| qsR <| ?_
                   obtain rfl := inj hF
                   exact finT
                 · refine sr <| pp oEql <| pp oAssign <| nl <| ?_
                   refine cd hF (fun hF => ?_) (fun hF => ?_)
                   · refine sr <| pp oAssign <| pp oAssign <| nl <| rt <| qbR <| qsR <| ?_
                     obtain rfl := inj hF
                     exact finT
                   · refine sjn (r := r) (fun (s : Bool) => mkSt 35 [4, 24] [(I a0), (B s)]) (fun s => tree_shape_J5 a0 s) ?_ ?_
                     · refine sr <| pp oEql <| pp oAssign <| nl <| ?_
                       refine cd hF (fun hF => ?_) (fun hF => ?_)
                       · refine sk <| ?_
                         exact qj (a0 == 15) hF cutR'
                       · refine sr <| pp oEql <| pp oAssign <| nl <| ?_
                         refine cd hF (fun hF => ?_) (fun hF => ?_)
                         · refine sk <| ?_
                           exact qj (a0 == 16) hF cutR'
                         · refine sr <| pp oEql <| pp oAssign <| nl <| ?_
                           refine cd hF (fun hF => ?_) (fun hF => ?_)
                           · refine sk <| ?_
                             exact qj (a0 == 34) hF cutR'
                           · refine sr <| pp oEql <| pp oAssign <| nl <| ?_
                             refine cd hF (fun hF => ?_) (fun hF => ?_)
                             · refine sk <| ?_
                               exact qj (a0 == 36) hF cutR'
                             · refine sr <| pp oEql <| pp oAssign <| nl <| ?_
                               refine cd hF (fun hF => ?_) (fun hF => ?_)
                               · refine sk <| ?_
                                 exact qj (a0 == 37) hF cutR'
                               · refine rg <| pp oEql <| pp oAssign <| nl <| ?_
                                 exact qj (a0 == 39) hF cutR'
                     · rintro y5 hF
                       replace hF : tree_shape_J5 a0 y5 = some r := hF
                       unfold tree_shape_J5 at hF
                       refine mk ?_
                       refine cd hF (fun hF => ?_) (fun hF => ?_)
                       · refine sr <| pp oAssign <| pp oAssign <| nl <| rt <| qbR <| qsR <| ?_
                         obtain rfl := inj hF
                         exact finT
                       · refine sr <| pp oEql <| pp oAssign <| nl <| ?_
                         refine cd hF (fun hF => ?_) (fun hF => ?_)
                         · refine sr <| pp oAssign <| pp oAssign <| nl <| rt <| qbR <| qsR <| ?_
                           obtain rfl := inj hF
                           exact finT
                         · refine sr <| pp oEql <| pp oAssign <| nl <| ?_
                           refine cd hF (fun hF => ?_) (fun hF => ?_)
                           · refine sr <| pp oAssign <| pp oAssign <| nl <| rt <| qbR <| qsR <| ?_
                             obtain rfl := inj hF
                             exact finT
                           · refine sk <| qb <| qs <| sr <| pp oAssign <| pp oAssign <| nl <| rt <| ?_
                             obtain rfl := inj hF
                             exact finT
noncomputable def ast_Statement (a0 : Int) : Option Bool :=
 some (if (if (decide (11 ≤ a0)) then (decide (a0 ≤ 18)) else false) then true else (if (decide (21 ≤ a0)) then (decide (a0 ≤ 24)) else false))
abbrev R_ast_Statement (r : Bool) : AV := (B r)
set_option maxHeartbeats 4000000 in
theorem T_ast_Statement {nn : Nat} {a0 : Int} {r : Bool} (hF : ast_Statement a0 = some r) : den cx (nn + 1) 93 [(I a0)] = some (R_ast_Statement r, []) := by
 unfold ast_Statement at hF
 refine fnA Try.func93 Try.ntmps93 (by exact spine) (sl := [0]) ?_
 refine sr <| pp oAssign <| nl <| sr <| pp oMove <| pp oGeq <| pp oMove <| pg ar oMove <| pg ar oLeq <| pp oPick <| pp oMove <| pg ar oMove <| pg ar oGeq <| pg ar oMove <| ?_
 refine pg ar oMove <| pg ar oLeq <| pg ar oPick <| pp oPick <| pp oAssign <| nl <| rt <| ?_
 obtain rfl := inj hF
 exact fin1
noncomputable def tree_kid_J1 (a0 : XApi_Node) (a1 : Int) (a2 : Int) (y1 : Bool) : Option Bool :=
 if y1 then
 ((if (a1 == 0) then
 ((ast_Expression a2).bind fun x5 =>
 some (if x5 then true else (if (decide (0 < a1)) then (a2 == 11) else false)))
 else
 (some (if (decide (0 < a1)) then (a2 == 11) else false))).bind fun p2 =>
 some p2)
 else
 (if (a0.Kind == 16) then
 ((if (a1 == 1) then
 ((ast_Expression a2).bind fun x6 =>
 some (if x6 then true else (if (a1 == 0) then (a2 == 11) else false)))
 else
 (some (if (a1 == 0) then (a2 == 11) else false))).bind fun p3 =>
 some p3)
 else
 (if (a0.Kind == 17) then
 (if (a1 == 0) then
 (some (if (if (a2 == 12) then true else (a2 == 13)) then true else (a2 == 24)))
 else
 (if (a1 == 1) then
 ((ast_Expression a2).bind fun x7 =>
 some (if x7 then true else (a2 == 24)))
 else
 (if (a1 == 2) then
 (some (if (a2 == 13) then true else (a2 == 24)))
 else
 (some (a2 == 11)))))
 else
 ((ast_Expression a2).bind fun x8 =>
 some x8)))
noncomputable def tree_kid (a0 : XApi_Node) (a1 : Int) (a2 : Int) : Option Bool :=
 if (a0.Kind == 1) then
 (some (if (a2 == 2) then true else (a2 == 3)))
 else
 (if (a0.Kind == 3) then
 (some (if (if (!(a1 == (w64 ((a0.Kids.length : Int) - 1)))) then (a2 == 4) else false) then true else (if (a1 == (w64 ((a0.Kids.length : Int) - 1))) then (a2 == 11) else false)))
 else
 (if (a0.Kind == 11) then
 ((ast_Statement a2).bind fun x1 =>
 some x1)
 else
 (if (a0.Kind == 18) then
 ((if (a1 == 0) then
 ((ast_Expression a2).bind fun x2 =>
 if x2 then
 (some true)
 else
 (if (decide (0 < a1)) then
 ((ast_Statement a2).bind fun x3 =>
 some (if (if x3 then true else (a2 == 19)) then true else (a2 == 20)))
 else
 (some false)))
 else
 (if (decide (0 < a1)) then
 ((ast_Statement a2).bind fun x4 =>
 some (if (if x4 then true else (a2 == 19)) then true else (a2 == 20)))
 else
 (some false))).bind fun p1 =>
 some p1)
 else
 (if (a0.Kind == 14) then
 (tree_kid_J1 a0 a1 a2 (a0.Kind == 14))
 else
 (tree_kid_J1 a0 a1 a2 (a0.Kind == 15))))))
abbrev R_tree_kid (r : Bool) : AV := (B r)
set_option maxHeartbeats 4000000 in
theorem T_tree_kid {nn : Nat} {a0 : XApi_Node} {a1 : Int} {a2 : Int} {r : Bool} (hF : tree_kid a0 a1 a2 = some r) : den cx (nn + 2) 61 [(.agg (cXApi_Node a0)), (I a1), (I a2)] = some (R_tree_kid r, []) := by
 unfold tree_kid at hF
 refine fnA Try.func61 Try.ntmps61 (by exact spine) (sl := [0, 1, 2]) ?_
 refine sr <| pp oBoxF <| pp oAssign <| nl <| sr <| pp oMove <| pp oFA <| pp oLd <| pp oLenSl <| pp oSub <| pp oEql <| pp oAssign <| nl <| sq <| ?_
 refine sr <| pp oFA <| pp oLd <| nl <| bl <| sr <| pp oEql <| pp oAssign <| nl <| ?_
 refine cd hF (fun hF => ?_) (fun hF => ?_)
 · refine sr <| pp oMove <| pp oEql <| pp oMove <| pg ar oMove <| pg ar oEql <| pp oPick <| pp oAssign <| nl <| rt <| qbR <| qsR <| ?_
   obtain rfl := inj hF
   exact fin1
 · refine sr <| pp oEql <| pp oAssign <| nl <| ?_
   refine cd hF (fun hF => ?_) (fun hF => ?_)
   · refine sr <| pp oMove <| pp oNot <| pp oMove <| pg ar oMove <| pg ar oEql <| pp oPick <| pp oMove <| pg ar oMove <| pg ar oMove <| pg ar oMove <| pg ar oEql <| pg ar oPick <| pp oPick <| ?_
     refine pp oAssign <| nl <| rt <| qbR <| qsR <| ?_
     obtain rfl := inj hF
     exact fin1
   · refine sr <| pp oEql <| pp oAssign <| nl <| ?_
     refine cd hF (fun hF => ?_) (fun hF => ?_)
     · refine sr <| pp oMove <| ?_
       refine bb hF fun x1 h1 hF => ?_
       refine pp (oCall (T_ast_Statement h1)) <| pp oAssign <| nl <| rt <| qbR <| qsR <| ?_
       obtain rfl := inj hF
       exact fin1
     · refine sr <| pp oEql <| pp oAssign <| nl <| ?_
       refine cd hF (fun hF => ?_) (fun hF => ?_)
       · refine srC (fun (s : Bool) => mkSt 135 [6] [(B s)]) hF (fun z1 hF => ?_) (fun p1 hF => ?_)
         · refine pp oMove <| pp oEql <| pp oMove <| ?_
           refine spl (d := 47) hF (fun hF => ?_) (fun hF => ?_)
           · refine pt ar oMove <| ?_
             refine bb hF fun x2 h2 hF => ?_
             refine pt ar (oCall (T_ast_Expression h2)) <| pp oPickT <| pp oMove <| ?_
             refine spl (d := 51) hF (fun hF => ?_) (fun hF => ?_)
             · refine no fun u1 k1 hk1 => ?_
               refine no fun u2 k2 hk2 => ?_
               refine no fun u3 k3 hk3 => ?_
               refine no fun u4 k4 hk4 => ?_
               refine no fun u5 k5 hk5 => ?_
               refine no fun u6 k6 hk6 => ?_
               refine no fun u7 k7 hk7 => ?_
               refine no fun u8 k8 hk8 => ?_
               refine no fun u9 k9 hk9 => ?_
               refine no fun u10 k10 hk10 => ?_
               refine no fun u11 k11 hk11 => ?_
               refine no fun u12 k12 hk12 => ?_
               refine no fun u13 k13 hk13 => ?_
               refine no fun u14 k14 hk14 => ?_
               refine pp oPickT <| pp oAssign <| ?_
               obtain rfl := inj hF
               exact nlC cutR'
             · refine pt ar oMove <| pt ar oGtr <| pt ar oMove <| ?_
               refine splG (d := 54) hF (fun hF => ?_) (fun hF => ?_)
               · refine pt ar oMove <| ?_
                 refine bb hF fun x3 h3 hF => ?_
                 refine pt ar (oCall (T_ast_Statement h3)) <| pt ar oMove <| pg ar oMove <| pg ar oEql <| pt ar oPick <| pt ar oMove <| pg ar oMove <| pg ar oEql <| pt ar oPick <| pt ar oPickT <| pp oPickF <| pp oAssign <| ?_
                 obtain rfl := inj hF
                 exact nlC cutR'
               · refine no fun u15 k15 hk15 => ?_
                 refine no fun u16 k16 hk16 => ?_
                 refine no fun u17 k17 hk17 => ?_
                 refine no fun u18 k18 hk18 => ?_
                 refine no fun u19 k19 hk19 => ?_
                 refine no fun u20 k20 hk20 => ?_
                 refine no fun u21 k21 hk21 => ?_
                 refine no fun u22 k22 hk22 => ?_
                 refine no fun u23 k23 hk23 => ?_
                 refine no fun u24 k24 hk24 => ?_
                 refine pt ar oPickF <| pp oPickF <| pp oAssign <| ?_
                 obtain rfl := inj hF
                 exact nlC cutR'
           · refine no fun u25 k25 hk25 => ?_
             refine no fun u26 k26 hk26 => ?_
             refine pp oPickF <| pp oMove <| pt ar oMove <| pt ar oGtr <| pt ar oMove <| ?_
             refine splG (d := 54) hF (fun hF => ?_) (fun hF => ?_)
             · refine pt ar oMove <| ?_
               refine bb hF fun x4 h4 hF => ?_
               refine pt ar (oCall (T_ast_Statement h4)) <| pt ar oMove <| pg ar oMove <| pg ar oEql <| pt ar oPick <| pt ar oMove <| pg ar oMove <| pg ar oEql <| pt ar oPick <| pt ar oPickT <| pp oPickF <| pp oAssign <| ?_
               obtain rfl := inj hF
               exact nlC cutR'
             · refine no fun u27 k27 hk27 => ?_
               refine no fun u28 k28 hk28 => ?_
               refine no fun u29 k29 hk29 => ?_
               refine no fun u30 k30 hk30 => ?_
               refine no fun u31 k31 hk31 => ?_
               refine no fun u32 k32 hk32 => ?_
               refine no fun u33 k33 hk33 => ?_
               refine no fun u34 k34 hk34 => ?_
               refine no fun u35 k35 hk35 => ?_
               refine no fun u36 k36 hk36 => ?_
               refine pt ar oPickF <| pp oPickF <| pp oAssign <| ?_
               obtain rfl := inj hF
               exact nlC cutR'
         · refine mk ?_
           refine rt <| qbR <| qsR <| ?_
           obtain rfl := inj hF
           exact fin1
       · refine sjn (r := r) (fun (s : Bool) => mkSt 135 [1, 2, 15, 67] [(I a1), (I a2), (I a0.Kind), (B s)]) (fun s => tree_kid_J1 a0 a1 a2 s) ?_ ?_
         · refine sr <| pp oEql <| pp oAssign <| nl <| ?_
           refine cd hF (fun hF => ?_) (fun hF => ?_)
           · refine sk <| ?_
             exact qj (a0.Kind == 14) hF cutR'
           · refine rg <| pp oEql <| pp oAssign <| nl <| ?_
             exact qj (a0.Kind == 15) hF cutR'
         · rintro y1 hF
           replace hF : tree_kid_J1 a0 a1 a2 y1 = some r := hF
           unfold tree_kid_J1 at hF
           refine mk ?_
           refine cd hF (fun hF => ?_) (fun hF => ?_)
           · refine srC (fun (s : Bool) => mkSt 135 [6] [(B s)]) hF (fun z2 hF => ?_) (fun p2 hF => ?_)
             · refine pp oMove <| pp oEql <| pp oMove <| ?_
               refine spl (d := 72) hF (fun hF => ?_) (fun hF => ?_)
               · refine pt ar oMove <| ?_
                 refine bb hF fun x5 h5 hF => ?_
                 refine pt ar (oCall (T_ast_Expression h5)) <| pp oPickT <| pp oMove <| pg ar oMove <| pg ar oGtr <| pg ar oMove <| pg ar oMove <| pg ar oEql <| pg ar oPick <| pp oPick <| pp oAssign <| ?_
                 obtain rfl := inj hF
                 exact nlC cutR'
               · refine no fun u37 k37 hk37 => ?_
                 refine no fun u38 k38 hk38 => ?_
                 refine pp oPickF <| pp oMove <| pt ar oMove <| pt ar oGtr <| pt ar oMove <| pg ar oMove <| pg ar oEql <| pt ar oPick <| pp oPickF <| pp oAssign <| ?_
                 obtain rfl := inj hF
                 exact nlC cutR'
             · refine mk ?_
               refine rt <| qbR <| qsR <| ?_
               obtain rfl := inj hF
               exact fin1
           · refine sr <| pp oEql <| pp oAssign <| nl <| ?_
             refine cd hF (fun hF => ?_) (fun hF => ?_)
             · refine srC (fun (s : Bool) => mkSt 135 [6] [(B s)]) hF (fun z3 hF => ?_) (fun p3 hF => ?_)
               · refine pp oMove <| pp oEql <| pp oMove <| ?_
                 refine spl (d := 88) hF (fun hF => ?_) (fun hF => ?_)
                 · refine pt ar oMove <| ?_
                   refine bb hF fun x6 h6 hF => ?_
                   refine pt ar (oCall (T_ast_Expression h6)) <| pp oPickT <| pp oMove <| pg ar oMove <| pg ar oEql <| pg ar oMove <| pg ar oMove <| pg ar oEql <| pg ar oPick <| pp oPick <| pp oAssign <| ?_
                   obtain rfl := inj hF
                   exact nlC cutR'
                 · refine no fun u39 k39 hk39 => ?_
                   refine no fun u40 k40 hk40 => ?_
                   refine pp oPickF <| pp oMove <| pt ar oMove <| pt ar oEql <| pt ar oMove <| pg ar oMove <| pg ar oEql <| pt ar oPick <| pp oPickF <| pp oAssign <| ?_
                   obtain rfl := inj hF
                   exact nlC cutR'
               · refine mk ?_
                 refine rt <| qbR <| qsR <| ?_
                 obtain rfl := inj hF
                 exact fin1
             · refine sr <| pp oEql <| pp oAssign <| nl <| ?_
               refine cd hF (fun hF => ?_) (fun hF => ?_)
               · refine sq <| sr <| pp oMove <| nl <| bl <| sr <| pp oEql <| pp oAssign <| nl <| ?_
                 refine cd hF (fun hF => ?_) (fun hF => ?_)
                 · refine sr <| pp oMove <| pp oEql <| pp oMove <| pg ar oMove <| pg ar oEql <| pp oPick <| pp oMove <| pg ar oMove <| pg ar oEql <| pp oPick <| pp oAssign <| nl <| rt <| ?_
                   refine qbR <| qsR <| qbR <| qsR <| ?_
                   obtain rfl := inj hF
                   exact fin1
                 · refine sr <| pp oEql <| pp oAssign <| nl <| ?_
                   refine cd hF (fun hF => ?_) (fun hF => ?_)
                   · refine sr <| pp oMove <| ?_
                     refine bb hF fun x7 h7 hF => ?_
                     refine pp (oCall (T_ast_Expression h7)) <| pp oMove <| pg ar oMove <| pg ar oEql <| pp oPick <| pp oAssign <| nl <| rt <| qbR <| qsR <| qbR <| qsR <| ?_
                     obtain rfl := inj hF
                     exact fin1
                   · refine sr <| pp oEql <| pp oAssign <| nl <| ?_
                     refine cd hF (fun hF => ?_) (fun hF => ?_)
                     · refine sr <| pp oMove <| pp oEql <| pp oMove <| pg ar oMove <| pg ar oEql <| pp oPick <| pp oAssign <| nl <| rt <| qbR <| qsR <| qbR <| qsR <| ?_
                       obtain rfl := inj hF
                       exact fin1
                     · refine sk <| qb <| qs <| sr <| pp oMove <| pp oEql <| pp oAssign <| nl <| rt <| qbR <| qsR <| ?_
                       obtain rfl := inj hF
                       exact fin1
               · refine sk <| qb <| qs <| sr <| pp oMove <| ?_
                 refine bb hF fun x8 h8 hF => ?_
                 refine pp (oCall (T_ast_Expression h8)) <| pp oAssign <| nl <| rt <| ?_
                 obtain rfl := inj hF
                 exact fin1
noncomputable def tree_named (a0 : Int) : Option Bool :=
 some (if (if (if (if (if (a0 == 2) then true else (a0 == 3)) then true else (a0 == 4)) then true else (a0 == 12)) then true else (a0 == 32)) then true else (a0 == 33))
abbrev R_tree_named (r : Bool) : AV := (B r)
set_option maxHeartbeats 4000000 in
theorem T_tree_named {nn : Nat} {a0 : Int} {r : Bool} (hF : tree_named a0 = some r) : den cx (nn + 1) 62 [(I a0)] = some (R_tree_named r, []) := by
 unfold tree_named at hF
 refine fnA Try.func62 Try.ntmps62 (by exact spine) (sl := [0]) ?_
 refine sr <| pp oAssign <| nl <| sr <| pp oMove <| pp oEql <| pp oMove <| pg ar oMove <| pg ar oEql <| pp oPick <| pp oMove <| pg ar oMove <| pg ar oEql <| pp oPick <| ?_
 refine pp oMove <| pg ar oMove <| pg ar oEql <| pp oPick <| pp oMove <| pg ar oMove <| pg ar oEql <| pp oPick <| pp oMove <| pg ar oMove <| pg ar oEql <| pp oPick <| pp oAssign <| nl <| ?_
 refine rt <| ?_
 obtain rfl := inj hF
 exact fin1
noncomputable def core_Name_L1 (a0 : ByteArray) (y4 : Int) : Option (Lp Int (Br Unit Bool)) :=
 if (decide (y4 < (a0.size : Int))) then
 ((sidx a0 y4).bind fun x1 =>
 if (!(if (if (if (if (decide (97 ≤ (x1.toNat : Int))) then (decide ((x1.toNat : Int) ≤ 122)) else false) then true else (if (decide (65 ≤ (x1.toNat : Int))) then (decide ((x1.toNat : Int) ≤ 90)) else false)) then true else ((x1.toNat : Int) == 95)) then true else (if (if (decide (0 < y4)) then (decide (48 ≤ (x1.toNat : Int))) else false) then (decide ((x1.toNat : Int) ≤ 57)) else false))) then
 (some (.out (.ret false)))
 else
 (some (.next (w64 (y4 + 1)))))
 else
 (some (.out (.brk ())))
noncomputable def core_Name (a0 : ByteArray) : Option Bool :=
 if (if (decide ((a0.size : Int) < 1)) then true else (decide (12 < (a0.size : Int)))) then
 (some false)
 else
 ((Loop (fun (s : Int) => core_Name_L1 a0 s) 0).bind (Br.go (fun _ =>
 some true) (fun r1 => some r1)))
abbrev R_core_Name (r : Bool) : AV := (B r)
def RR_core_Name (r : Bool) (x : Exit × St) : Prop := x.1 = .ret ∧ Fin cx [.tmp 2] [] (R_core_Name r) [] x
set_option maxHeartbeats 4000000 in
theorem T_core_Name {nn : Nat} {a0 : ByteArray} {r : Bool} (hF : core_Name a0 = some r) : den cx (nn + 1) 63 [(AV.val (.string a0))] = some (R_core_Name r, []) := by
 unfold core_Name at hF
 refine fnA Try.func63 Try.ntmps63 (by exact spine) (sl := [0]) ?_
 refine sr <| pp oAssign <| nl <| sq <| sr <| pp oMove <| pp oLenS <| pp oLss <| pp oMove <| pg ar oMove <| pg ar oLenS <| pg ar oGtr <| pp oPick <| nl <| ?_
 refine cd hF (fun hF => ?_) (fun hF => ?_)
 · refine sr <| pp oAssign <| nl <| rt <| qsR <| ?_
   obtain rfl := inj hF
   exact fin1
 · refine sk <| qs <| sq <| sr <| pp oMove <| pp oLenS <| pp oMove <| nl <| ?_
   refine lpR (fun (s : Int) => mkSt 53 [0, 14, 15] [(AV.val (.string a0)), (I (a0.size : Int)), (I s)]) (fun (s : Unit) => mkSt 53 [] []) RR_core_Name hF cutR' ?_ ?_ ?_
   · rintro y4 z1 hF
     replace hF : core_Name_L1 a0 y4 = some z1 := hF
     unfold core_Name_L1 at hF
     refine mk ?_
     refine sr <| pp oLss <| nl <| sq <| ?_
     refine cd hF (fun hF => ?_) (fun hF => ?_)
     · refine sk <| qs <| sq <| bl <| sr <| pp oMove <| pp oAssign <| nl <| sr <| pp oMove <| pp oMove <| ?_
       refine bb hF fun x1 h1 hF => ?_
       refine pp (oIxS h1) <| pp oAssign <| nl <| sr <| pp oMove <| pp oGeq <| pp oMove <| pg ar oMove <| pg ar oLeq <| pp oPick <| pp oMove <| pg ar oMove <| pg ar oGeq <| pg ar oMove <| ?_
       refine pg ar oMove <| pg ar oLeq <| pg ar oPick <| pp oPick <| pp oMove <| pg ar oMove <| pg ar oEql <| pp oPick <| pp oMove <| pg ar oMove <| pg ar oGtr <| pg ar oMove <| pg ar oMove <| pg ar oGeq <| ?_
       refine pg ar oPick <| pg ar oMove <| pg ar oMove <| pg ar oLeq <| pg ar oPick <| pp oPick <| pp oNot <| nl <| ?_
       refine cd hF (fun hF => ?_) (fun hF => ?_)
       · refine sr <| pp oAssign <| nl <| rt <| qbR <| qsR <| ?_
         exact lr hF ⟨rfl, fin1⟩
       · refine sk <| qb <| qs <| rg <| pp oAdd <| pp oMove <| nl <| ?_
         exact ln hF cutR'
     · refine ex <| qsE <| ?_
       exact lxR hF cutR'
   · intro _ hF
     refine qmk ?_
     refine qs <| sr <| pp oAssign <| nl <| rt <| ?_
     obtain rfl := inj hF
     exact fin1
   · rintro r1 hF ⟨xe, xs⟩ ⟨hxe, hfin⟩
     obtain rfl : xe = Exit.ret := hxe
     obtain rfl := inj hF
     refine qbR <| qsR <| ?_
     exact hfin
noncomputable def ast_TwoOf (a0 : ByteArray) : Option (XAst_Two × Bool) :=
 if (a0.toList == (ByteArray.mk #[43]).toList) then
 (some ((XAst_Two.mk 2 false), true))
 else
 (if (a0.toList == (ByteArray.mk #[45]).toList) then
 (some ((XAst_Two.mk 3 false), true))
 else
 (if (a0.toList == (ByteArray.mk #[42]).toList) then
 (some ((XAst_Two.mk 4 false), true))
 else
 (if (a0.toList == (ByteArray.mk #[47]).toList) then
 (some ((XAst_Two.mk 5 false), true))
 else
 (if (a0.toList == (ByteArray.mk #[37]).toList) then
 (some ((XAst_Two.mk 6 false), true))
 else
 (if (a0.toList == (ByteArray.mk #[38]).toList) then
 (some ((XAst_Two.mk 7 false), true))
 else
 (if (a0.toList == (ByteArray.mk #[124]).toList) then
 (some ((XAst_Two.mk 8 false), true))
 else
 (if (a0.toList == (ByteArray.mk #[94]).toList) then
 (some ((XAst_Two.mk 9 false), true))
 else
 (if (a0.toList == (ByteArray.mk #[60, 60]).toList) then
 (some ((XAst_Two.mk 10 false), true))
 else
 (if (a0.toList == (ByteArray.mk #[62, 62]).toList) then
 (some ((XAst_Two.mk 11 false), true))
 else
 (if (a0.toList == (ByteArray.mk #[61, 61]).toList) then
 (some ((XAst_Two.mk 12 false), true))
 else
 (if (a0.toList == (ByteArray.mk #[33, 61]).toList) then
 (some ((XAst_Two.mk 13 false), true))
 else
 (if (a0.toList == (ByteArray.mk #[60]).toList) then
 (some ((XAst_Two.mk 14 false), true))
 else
 (if (a0.toList == (ByteArray.mk #[60, 61]).toList) then
 (some ((XAst_Two.mk 15 false), true))
 else
 (if (a0.toList == (ByteArray.mk #[62]).toList) then
 (some ((XAst_Two.mk 14 true), true))
 else
 (if (a0.toList == (ByteArray.mk #[62, 61]).toList) then
 (some ((XAst_Two.mk 15 true), true))
 else
 (some ((XAst_Two.mk 0 false), false)))))))))))))))))
abbrev R_ast_TwoOf (r : (XAst_Two × Bool)) : AV := (.tup [(.agg (cXAst_Two r.1)), (B r.2)])
set_option maxHeartbeats 4000000 in
theorem T_ast_TwoOf {nn : Nat} {a0 : ByteArray} {r : (XAst_Two × Bool)} (hF : ast_TwoOf a0 = some r) : den cx (nn + 1) 91 [(AV.val (.string a0))] = some (R_ast_TwoOf r, []) := by
 unfold ast_TwoOf at hF
 refine fnA Try.func91 Try.ntmps91 (by exact spine) (sl := [0]) ?_
 refine sr <| ww oAlloc <| pp oAssign <| nl <| sq <| sr <| pp oMove <| nl <| bl <| sr <| pp oEqlS <| pp oAssign <| nl <| ?_
 refine cd hF (fun hF => ?_) (fun hF => ?_)
 · refine sr <| pp oBuild <| ww oStR <| pp oAssign <| nl <| rt <| qbR <| qsR <| ?_
   obtain rfl := inj hF
   exact finT
 · refine sr <| pp oEqlS <| pp oAssign <| nl <| ?_
   refine cd hF (fun hF => ?_) (fun hF => ?_)
   · refine sr <| pp oBuild <| ww oStR <| pp oAssign <| nl <| rt <| qbR <| qsR <| ?_
     obtain rfl := inj hF
     exact finT
   · refine sr <| pp oEqlS <| pp oAssign <| nl <| ?_
     refine cd hF (fun hF => ?_) (fun hF => ?_)
     · refine sr <| pp oBuild <| ww oStR <| pp oAssign <| nl <| rt <| qbR <| qsR <| ?_
       obtain rfl := inj hF
       exact finT
     · refine sr <| pp oEqlS <| pp oAssign <| nl <| ?_
       refine cd hF (fun hF => ?_) (fun hF => ?_)
       · refine sr <| pp oBuild <| ww oStR <| pp oAssign <| nl <| rt <| qbR <| qsR <| ?_
         obtain rfl := inj hF
         exact finT
       · refine sr <| pp oEqlS <| pp oAssign <| nl <| ?_
         refine cd hF (fun hF => ?_) (fun hF => ?_)
         · refine sr <| pp oBuild <| ww oStR <| pp oAssign <| nl <| rt <| qbR <| qsR <| ?_
           obtain rfl := inj hF
           exact finT
         · refine sr <| pp oEqlS <| pp oAssign <| nl <| ?_
           refine cd hF (fun hF => ?_) (fun hF => ?_)
           · refine sr <| pp oBuild <| ww oStR <| pp oAssign <| nl <| rt <| qbR <| qsR <| ?_
             obtain rfl := inj hF
             exact finT
           · refine sr <| pp oEqlS <| pp oAssign <| nl <| ?_
             refine cd hF (fun hF => ?_) (fun hF => ?_)
             · refine sr <| pp oBuild <| ww oStR <| pp oAssign <| nl <| rt <| qbR <| qsR <| ?_
               obtain rfl := inj hF
               exact finT
             · refine sr <| pp oEqlS <| pp oAssign <| nl <| ?_
               refine cd hF (fun hF => ?_) (fun hF => ?_)
               · refine sr <| pp oBuild <| ww oStR <| pp oAssign <| nl <| rt <| qbR <| qsR <| ?_
                 obtain rfl := inj hF
                 exact finT
               · refine sr <| pp oEqlS <| pp oAssign <| nl <| ?_
                 refine cd hF (fun hF => ?_) (fun hF => ?_)
                 · refine sr <| pp oBuild <| ww oStR <| pp oAssign <| nl <| rt <| qbR <| qsR <| ?_
                   obtain rfl := inj hF
                   exact finT
                 · refine sr <| pp oEqlS <| pp oAssign <| nl <| ?_
                   refine cd hF (fun hF => ?_) (fun hF => ?_)
                   · refine sr <| pp oBuild <| ww oStR <| pp oAssign <| nl <| rt <| qbR <| qsR <| ?_
                     obtain rfl := inj hF
                     exact finT
                   · refine sr <| pp oEqlS <| pp oAssign <| nl <| ?_
                     refine cd hF (fun hF => ?_) (fun hF => ?_)
                     · refine sr <| pp oBuild <| ww oStR <| pp oAssign <| nl <| rt <| qbR <| qsR <| ?_
                       obtain rfl := inj hF
                       exact finT
                     · refine sr <| pp oEqlS <| pp oAssign <| nl <| ?_
                       refine cd hF (fun hF => ?_) (fun hF => ?_)
                       · refine sr <| pp oBuild <| ww oStR <| pp oAssign <| nl <| rt <| qbR <| qsR <| ?_
                         obtain rfl := inj hF
                         exact finT
                       · refine sr <| pp oEqlS <| pp oAssign <| nl <| ?_
                         refine cd hF (fun hF => ?_) (fun hF => ?_)
                         · refine sr <| pp oBuild <| ww oStR <| pp oAssign <| nl <| rt <| qbR <| qsR <| ?_
                           obtain rfl := inj hF
                           exact finT
                         · refine sr <| pp oEqlS <| pp oAssign <| nl <| ?_
                           refine cd hF (fun hF => ?_) (fun hF => ?_)
                           · refine sr <| pp oBuild <| ww oStR <| pp oAssign <| nl <| rt <| qbR <| qsR <| ?_
                             obtain rfl := inj hF
                             exact finT
                           · refine sr <| pp oEqlS <| pp oAssign <| nl <| ?_
                             refine cd hF (fun hF => ?_) (fun hF => ?_)
                             · refine sr <| pp oBuild <| ww oStR <| pp oAssign <| nl <| rt <| qbR <| qsR <| ?_
                               obtain rfl := inj hF
                               exact finT
                             · refine sr <| pp oEqlS <| pp oAssign <| nl <| ?_
                               refine cd hF (fun hF => ?_) (fun hF => ?_)
                               · refine sr <| pp oBuild <| ww oStR <| pp oAssign <| nl <| rt <| qbR <| qsR <| ?_
                                 obtain rfl := inj hF
                                 exact finT
                               · refine sk <| qb <| qs <| sr <| pp oBuild <| ww oStR <| pp oAssign <| nl <| rt <| ?_
                                 obtain rfl := inj hF
                                 exact finT
noncomputable def slices_Index_string_string_L1 (a0 : (List ByteArray)) (a1 : ByteArray) (y5 : Int) : Option (Lp Int (Br Unit Int)) :=
 if (decide (y5 < (a0.length : Int))) then
 ((idx a0 y5).bind fun x1 =>
 if (a1.toList == x1.toList) then
 (some (.out (.ret y5)))
 else
 (some (.next (w64 (y5 + 1)))))
 else
 (some (.out (.brk ())))
noncomputable def slices_Index_string_string (a0 : (List ByteArray)) (a1 : ByteArray) : Option Int :=
 (Loop (fun (s : Int) => slices_Index_string_string_L1 a0 a1 s) 0).bind (Br.go (fun _ =>
 some (-1)) (fun r1 => some r1))
abbrev R_slices_Index_string_string (r : Int) : AV := (I r)
def RR_slices_Index_string_string (r : Int) (x : Exit × St) : Prop := x.1 = .ret ∧ Fin cx [.tmp 4] [] (R_slices_Index_string_string r) [] x
set_option maxHeartbeats 4000000 in
theorem T_slices_Index_string_string {nn : Nat} {a0 : (List ByteArray)} {a1 : ByteArray} {r : Int} (hF : slices_Index_string_string a0 a1 = some r) : den cx (nn + 1) 102 [(.sl ((a0).map cStr)), (AV.val (.string a1))] = some (R_slices_Index_string_string r, []) := by
 unfold slices_Index_string_string at hF
 refine fnA Try.func102 Try.ntmps102 (by exact spine) (sl := [0, 1]) ?_
 refine sr <| pp oAssign <| nl <| sq <| sr <| pp oMove <| pp oLenSl <| pp oMove <| nl <| ?_
 refine lpR (fun (s : Int) => mkSt 19 [0, 1, 7, 8] [(.sl ((a0).map cStr)), (AV.val (.string a1)), (I (a0.length : Int)), (I s)]) (fun (s : Unit) => mkSt 19 [] []) RR_slices_Index_string_string hF cutR' ?_ ?_ ?_
 · rintro y5 z1 hF
   replace hF : slices_Index_string_string_L1 a0 a1 y5 = some z1 := hF
   unfold slices_Index_string_string_L1 at hF
   refine mk ?_
   refine sr <| pp oLss <| nl <| sq <| ?_
   refine cd hF (fun hF => ?_) (fun hF => ?_)
   · refine sk <| qs <| sq <| bl <| sr <| pp oMove <| pp oAssign <| nl <| sr <| pp oMove <| pp oMove <| pp oMove <| ?_
     refine bb hF fun x1 h1 hF => ?_
     refine pp (oIx h1) <| pp oLd <| pp oEqlS <| nl <| ?_
     refine cd hF (fun hF => ?_) (fun hF => ?_)
     · refine sr <| pp oMove <| pp oAssign <| nl <| rt <| qbR <| qsR <| ?_
       exact lr hF ⟨rfl, fin1⟩
     · refine sk <| qb <| qs <| rg <| pp oAdd <| pp oMove <| nl <| ?_
       exact ln hF cutR'
   · refine ex <| qsE <| ?_
     exact lxR hF cutR'
 · intro _ hF
   refine qmk ?_
   refine qs <| sr <| pp oAssign <| nl <| rt <| ?_
   obtain rfl := inj hF
   exact fin1
 · rintro r1 hF ⟨xe, xs⟩ ⟨hxe, hfin⟩
   obtain rfl : xe = Exit.ret := hxe
   obtain rfl := inj hF
   refine qbR <| qsR <| ?_
   exact hfin
noncomputable def slices_Contains_string_string (a0 : (List ByteArray)) (a1 : ByteArray) : Option Bool :=
 (slices_Index_string_string a0 a1).bind fun x1 =>
 some (decide (0 ≤ x1))
abbrev R_slices_Contains_string_string (r : Bool) : AV := (B r)
set_option maxHeartbeats 4000000 in
theorem T_slices_Contains_string_string {nn : Nat} {a0 : (List ByteArray)} {a1 : ByteArray} {r : Bool} (hF : slices_Contains_string_string a0 a1 = some r) : den cx (nn + 2) 94 [(.sl ((a0).map cStr)), (AV.val (.string a1))] = some (R_slices_Contains_string_string r, []) := by
 unfold slices_Contains_string_string at hF
 refine fnA Try.func94 Try.ntmps94 (by exact spine) (sl := [0, 1]) ?_
 refine sr <| pp oAssign <| nl <| sr <| pp oMove <| pp oMove <| ?_
 refine bb hF fun x1 h1 hF => ?_
 refine pp (oCallZ (T_slices_Index_string_string h1)) <| pp oGeq <| pp oAssign <| nl <| rt <| ?_
 obtain rfl := inj hF
 exact fin1
noncomputable def tree_sign (a0 : Int) (a1 : ByteArray) : Option Bool :=
 (ast_TwoOf a1).bind fun x1 =>
 if (a0 == 35) then
 ((slices_Contains_string_string ([(ByteArray.mk #[45]), (ByteArray.mk #[33]), (ByteArray.mk #[126]), (ByteArray.mk #[42]), (ByteArray.mk #[38])] : List ByteArray) a1).bind fun x2 =>
 some x2)
 else
 (if (a0 == 36) then
 (some x1.2)
 else
 (if (a0 == 37) then
 (some (if (a1.toList == (ByteArray.mk #[38, 38]).toList) then true else (a1.toList == (ByteArray.mk #[124, 124]).toList)))
 else
 (if (a0 == 39) then
 (if (a1.toList == (ByteArray.mk #[61]).toList) then
 (some true)
 else
 ((sslc a1 none (some (max 0 (w64 ((a1.size : Int) - 1))))).bind fun x3 =>
 (ast_TwoOf x3).bind fun x4 =>
 (if x4.2 then
 ((sidx a1 (w64 ((a1.size : Int) - 1))).bind fun x5 =>
 some (if ((x5.toNat : Int) == 61) then (decide (x4.1.Op ≤ 11)) else false))
 else
 (some false)).bind fun p1 =>
 some p1))
 else
 (if (a0 == 40) then
 (some (if (a1.toList == (ByteArray.mk #[43, 43]).toList) then true else (a1.toList == (ByteArray.mk #[45, 45]).toList)))
 else
 (some (a1.toList == (ByteArray.mk #[]).toList))))))
abbrev R_tree_sign (r : Bool) : AV := (B r)
set_option maxHeartbeats 4000000 in
theorem T_tree_sign {nn : Nat} {a0 : Int} {a1 : ByteArray} {r : Bool} (hF : tree_sign a0 a1 = some r) : den cx (nn + 3) 64 [(I a0), (AV.val (.string a1))] = some (R_tree_sign r, []) := by
 unfold tree_sign at hF
 refine fnA Try.func64 Try.ntmps64 (by exact spine) (sl := [0, 1]) ?_
 refine sr <| pp oAssign <| nl <| sr <| pp oMove <| ?_
 refine bb hF fun x1 h1 hF => ?_
 refine pp (oCall (T_ast_TwoOf h1)) <| pp oMove <| pp oExt <| pp oExt <| ww oAlloc <| ww oStF <| pp oAssign <| nl <| sq <| sr <| pp oMove <| nl <| bl <| sr <| ?_
 refine pp oEql <| pp oAssign <| nl <| ?_
 refine cd hF (fun hF => ?_) (fun hF => ?_)
 · refine sr <| pp oBSF <| pp oMove <| ?_
   refine bb hF fun x2 h2 hF => ?_
   refine pp (oCall (T_slices_Contains_string_string h2)) <| pp oAssign <| nl <| rt <| qbR <| qsR <| ?_
   obtain rfl := inj hF
   exact fin1
 · refine sr <| pp oEql <| pp oAssign <| nl <| ?_
   refine cd hF (fun hF => ?_) (fun hF => ?_)
   · refine sr <| pp oMove <| pp oAssign <| nl <| rt <| qbR <| qsR <| ?_
     obtain rfl := inj hF
     exact fin1
   · refine sr <| pp oEql <| pp oAssign <| nl <| ?_
     refine cd hF (fun hF => ?_) (fun hF => ?_)
     · refine sr <| pp oMove <| pp oEqlS <| pp oMove <| pg ar oMove <| pg ar oEqlS <| pp oPick <| pp oAssign <| nl <| rt <| qbR <| qsR <| ?_
       obtain rfl := inj hF
       exact fin1
     · refine sr <| pp oEql <| pp oAssign <| nl <| ?_
       refine cd hF (fun hF => ?_) (fun hF => ?_)
       · refine sq <| sr <| pp oMove <| pp oEqlS <| nl <| ?_
         refine cd hF (fun hF => ?_) (fun hF => ?_)
         · refine sr <| pp oAssign <| nl <| rt <| qsR <| qbR <| qsR <| ?_
           obtain rfl := inj hF
           exact fin1
         · refine sk <| qs <| sr <| pp oMove <| pp oMove <| pp oLenS <| pp oSub <| pp oMax <| ?_
           refine bb hF fun x3 h3 hF => ?_
           refine pp (oSlcS h3) <| ?_
           refine bb hF fun x4 h4 hF => ?_
           refine pp (oCall (T_ast_TwoOf h4)) <| pp oMove <| pp oExt <| pp oExt <| ww oAlloc <| ww oStF <| pp oAssign <| nl <| ?_
           refine srC (fun (s : Bool) => mkSt 69 [4] [(B s)]) hF (fun z1 hF => ?_) (fun p1 hF => ?_)
           · refine pp oMove <| pp oMove <| ?_
             refine spl (d := 46) hF (fun hF => ?_) (fun hF => ?_)
             · refine pt ar oMove <| pt ar oMove <| pt ar oLenS <| pt ar oSub <| ?_
               refine bb hF fun x5 h5 hF => ?_
               refine pt ar (oIxS h5) <| pt ar oEql <| pp oPickT <| pp oMove <| pg ar oFA <| pg ar oLd <| pg ar oLeq <| pp oPick <| pp oAssign <| ?_
               obtain rfl := inj hF
               exact nlC cutR'
             · refine no fun u1 k1 hk1 => ?_
               refine no fun u2 k2 hk2 => ?_
               refine no fun u3 k3 hk3 => ?_
               refine no fun u4 k4 hk4 => ?_
               refine no fun u5 k5 hk5 => ?_
               refine no fun u6 k6 hk6 => ?_
               refine pp oPickF <| pp oMove <| ?_
               refine no fun u7 k7 hk7 => ?_
               refine no fun u8 k8 hk8 => ?_
               refine no fun u9 k9 hk9 => ?_
               refine pp oPickF <| pp oAssign <| ?_
               obtain rfl := inj hF
               exact nlC cutR'
           · refine mk ?_
             refine rt <| qbR <| qsR <| ?_
             obtain rfl := inj hF
             exact fin1
       · refine sr <| pp oEql <| pp oAssign <| nl <| ?_
         refine cd hF (fun hF => ?_) (fun hF => ?_)
         · refine sr <| pp oMove <| pp oEqlS <| pp oMove <| pg ar oMove <| pg ar oEqlS <| pp oPick <| pp oAssign <| nl <| rt <| qbR <| qsR <| ?_
           obtain rfl := inj hF
           exact fin1
         · refine sk <| qb <| qs <| sr <| pp oMove <| pp oEqlS <| pp oAssign <| nl <| rt <| ?_
           obtain rfl := inj hF
           exact fin1
noncomputable def tree_numbers_J1 (a0 : XApi_Node) (y1 : Bool) : Option Bool :=
 if y1 then
 ((core_Within a0.N 1 2).bind fun x3 =>
 some (if x3 then (a0.Size == 0) else false))
 else
 (if (a0.Kind == 31) then
 (some (if (decide (0 ≤ a0.N)) then (a0.Size == 0) else false))
 else
 (if (a0.Kind == 40) then
 ((core_Within a0.N 0 1).bind fun x4 =>
 some (if x4 then (a0.Size == 0) else false))
 else
 (some (if (a0.N == 0) then (a0.Size == 0) else false))))
noncomputable def tree_numbers (a0 : XApi_Node) : Option Bool :=
 if (a0.Kind == 2) then
 (if (a0.N == 3) then
 ((core_Within a0.Size 1 200).bind fun x1 =>
 some (if x1 then (decide ((a0.Kids.length : Int) ≤ a0.Size)) else false))
 else
 (some (if (if (if (a0.N == 1) then true else (a0.N == 2)) then (a0.Size == 0) else false) then (decide ((a0.Kids.length : Int) ≤ 1)) else false)))
 else
 (if (a0.Kind == 3) then
 ((core_Within a0.N 0 2).bind fun x2 =>
 some (if x2 then (a0.Size == 0) else false))
 else
 (if (a0.Kind == 4) then
 (tree_numbers_J1 a0 (a0.Kind == 4))
 else
 (tree_numbers_J1 a0 (a0.Kind == 12))))
abbrev R_tree_numbers (r : Bool) : AV := (B r)
set_option maxHeartbeats 4000000 in
theorem T_tree_numbers {nn : Nat} {a0 : XApi_Node} {r : Bool} (hF : tree_numbers a0 = some r) : den cx (nn + 2) 65 [(.agg (cXApi_Node a0))] = some (R_tree_numbers r, []) := by
 unfold tree_numbers at hF
 refine fnA Try.func65 Try.ntmps65 (by exact spine) (sl := [0]) ?_
 refine sr <| pp oBoxF <| pp oAssign <| nl <| sq <| sr <| pp oFA <| pp oLd <| nl <| bl <| sr <| pp oEql <| pp oAssign <| nl <| ?_
 refine cd hF (fun hF => ?_) (fun hF => ?_)
 · refine sq <| sr <| pp oFA <| pp oLd <| pp oEql <| nl <| ?_
   refine cd hF (fun hF => ?_) (fun hF => ?_)
   · refine sr <| pp oFA <| pp oLd <| ?_
     refine bb hF fun x1 h1 hF => ?_
     refine pp (oCall (T_core_Within h1)) <| pp oMove <| pg ar oFA <| pg ar oLd <| pg ar oLenSl <| pg ar oFA <| pg ar oLd <| pg ar oLeq <| pp oPick <| pp oAssign <| nl <| rt <| qsR <| qbR <| ?_
     refine qsR <| ?_
     obtain rfl := inj hF
     exact fin1
   · refine sk <| qs <| sr <| pp oFA <| pp oLd <| pp oEql <| pp oMove <| pg ar oFA <| pg ar oLd <| pg ar oEql <| pp oPick <| pp oMove <| pg ar oFA <| pg ar oLd <| ?_
     refine pg ar oEql <| pp oPick <| pp oMove <| pg ar oFA <| pg ar oLd <| pg ar oLenSl <| pg ar oLeq <| pp oPick <| pp oAssign <| nl <| rt <| qbR <| qsR <| ?_
     obtain rfl := inj hF
     exact fin1
 · refine sr <| pp oEql <| pp oAssign <| nl <| ?_
   refine cd hF (fun hF => ?_) (fun hF => ?_)
   · refine sr <| pp oFA <| pp oLd <| ?_
     refine bb hF fun x2 h2 hF => ?_
     refine pp (oCall (T_core_Within h2)) <| pp oMove <| pg ar oFA <| pg ar oLd <| pg ar oEql <| pp oPick <| pp oAssign <| nl <| rt <| qbR <| qsR <| ?_
     obtain rfl := inj hF
     exact fin1
   · refine sjn (r := r) (fun (s : Bool) => mkSt 89 [1, 4, 50] [(.vp (cXApi_Node a0)), (I a0.Kind), (B s)]) (fun s => tree_numbers_J1 a0 s) ?_ ?_
     · refine sr <| pp oEql <| pp oAssign <| nl <| ?_
       refine cd hF (fun hF => ?_) (fun hF => ?_)
       · refine sk <| ?_
         exact qj (a0.Kind == 4) hF cutR'
       · refine rg <| pp oEql <| pp oAssign <| nl <| ?_
         exact qj (a0.Kind == 12) hF cutR'
     · rintro y1 hF
       replace hF : tree_numbers_J1 a0 y1 = some r := hF
       unfold tree_numbers_J1 at hF
       refine mk ?_
       refine cd hF (fun hF => ?_) (fun hF => ?_)
       · refine sr <| pp oFA <| pp oLd <| ?_
         refine bb hF fun x3 h3 hF => ?_
         refine pp (oCall (T_core_Within h3)) <| pp oMove <| pg ar oFA <| pg ar oLd <| pg ar oEql <| pp oPick <| pp oAssign <| nl <| rt <| qbR <| qsR <| ?_
         obtain rfl := inj hF
         exact fin1
       · refine sr <| pp oEql <| pp oAssign <| nl <| ?_
         refine cd hF (fun hF => ?_) (fun hF => ?_)
         · refine sr <| pp oFA <| pp oLd <| pp oGeq <| pp oMove <| pg ar oFA <| pg ar oLd <| pg ar oEql <| pp oPick <| pp oAssign <| nl <| rt <| qbR <| qsR <| ?_
           obtain rfl := inj hF
           exact fin1
         · refine sr <| pp oEql <| pp oAssign <| nl <| ?_
           refine cd hF (fun hF => ?_) (fun hF => ?_)
           · refine sr <| pp oFA <| pp oLd <| ?_
             refine bb hF fun x4 h4 hF => ?_
             refine pp (oCall (T_core_Within h4)) <| pp oMove <| pg ar oFA <| pg ar oLd <| pg ar oEql <| pp oPick <| pp oAssign <| nl <| rt <| qbR <| qsR <| ?_
             obtain rfl := inj hF
             exact fin1
           · refine sk <| qb <| qs <| sr <| pp oFA <| pp oLd <| pp oEql <| pp oMove <| pg ar oFA <| pg ar oLd <| pg ar oEql <| pp oPick <| pp oAssign <| nl <| ?_
             refine rt <| ?_
             obtain rfl := inj hF
             exact fin1
end Go.Ab
namespace Go.Ab
open Go Go.Proofs
noncomputable def tree_checker_node_L1 (a0 : XTree_checker) (x1 : XApi_Node) (y8 : Int) (y9 : Int) : Option (Lp (Int × Int) (Br Int (Int × XTree_checker))) :=
 if (decide (0 ≤ y9)) then
 ((if (y8 == 0) then
 (some true)
 else
 ((idx x1.Kids y9).bind fun x4 =>
 some (x4 != (w64 (y8 - 1))))).bind fun p1 =>
 if p1 then
 (some (.out (.ret (5, a0))))
 else
 ((idx a0.first (w64 (y8 - 1))).bind fun x5 =>
 (idx x1.Kids y9).bind fun x6 =>
 (idx a0.t.Nodes x6).bind fun x7 =>
 (tree_kid x1 y9 x7.Kind).bind fun x8 =>
 if (!x8) then
 (some (.out (.ret (5, a0))))
 else
 (some (.next (x5, (w64 (y9 - 1)))))))
 else
 (some (.out (.brk y8)))
noncomputable def tree_checker_node (a0 : XTree_checker) (a1 : Int) : Option (Int × XTree_checker) :=
 (idx a0.t.Nodes a1).bind fun x1 =>
 (tree_known x1.Kind).bind fun x2 =>
 if (!x2) then
 (some (4, a0))
 else
 ((tree_shape x1.Kind).bind fun x3 =>
 if (if (decide ((x1.Kids.length : Int) < x3.1)) then true else (if (decide (0 ≤ x3.2)) then (decide (x3.2 < (x1.Kids.length : Int))) else false)) then
 (some (9, a0))
 else
 ((Loop (fun (s : (Int × Int)) => tree_checker_node_L1 a0 x1 s.1 s.2) (a1, (w64 ((x1.Kids.length : Int) - 1)))).bind (Br.go (fun v1 =>
 (idx a0.first a1).bind fun x9 =>
 ((tree_named x1.Kind).bind fun x10 =>
 if x10 then
 ((core_Name x1.Text).bind fun x11 =>
 some (!x11))
 else
 (some false)).bind fun p2 =>
 if p2 then
 (some (12, (XTree_checker.mk a0.t (List.set a0.first ((a1) : Int).toNat v1))))
 else
 (((tree_named x1.Kind).bind fun x12 =>
 if (!x12) then
 ((tree_sign x1.Kind x1.Text).bind fun x13 =>
 some (!x13))
 else
 (some false)).bind fun p3 =>
 if p3 then
 (some (1, (XTree_checker.mk a0.t (List.set a0.first ((a1) : Int).toNat v1))))
 else
 ((tree_numbers x1).bind fun x14 =>
 if (if (!x14) then true else (decide (x1.At < 0))) then
 (some (3, (XTree_checker.mk a0.t (List.set a0.first ((a1) : Int).toNat v1))))
 else
 (some (0, (XTree_checker.mk a0.t (List.set a0.first ((a1) : Int).toNat v1))))))) (fun r1 => some r1))))
abbrev R_tree_checker_node (r : (Int × XTree_checker)) : AV := (I r.1)
def RR_tree_checker_node (r : (Int × XTree_checker)) (x : Exit × St) : Prop := x.1 = .ret ∧ Fin cx [.tmp 4] [0] (R_tree_checker_node r) [(.agg (cXTree_checker_SIOe r.2))] x
set_option maxHeartbeats 4000000 in
theorem T_tree_checker_node {nn : Nat} {a0 : XTree_checker} {a1 : Int} {r : (Int × XTree_checker)} (hF : tree_checker_node a0 a1 = some r) : den cx (nn + 4) 40 [(.agg (cXTree_checker_SIOe a0)), (I a1)] = some (R_tree_checker_node r, [(.agg (cXTree_checker_SIOe r.2))]) := by
 unfold tree_checker_node at hF
 refine fnA Try.func40 Try.ntmps40 (by exact spine) (sl := [0, 1]) ?_
 refine sr <| ww oBoxM <| pp oAssign <| nl <| sr <| pp oFAM <| pp oFAM <| rr oLdR <| pp oMove <| ?_
 refine bb hF fun x1 h1 hF => ?_
 refine pp (oIx h1) <| pp oLdA <| ww oAlloc <| ww oStF <| nl <| sq <| sr <| pp oFA <| pp oLd <| ?_
 refine bb hF fun x2 h2 hF => ?_
 refine pp (oCallZ (T_tree_known h2)) <| pp oNot <| nl <| ?_
 refine cd hF (fun hF => ?_) (fun hF => ?_)
 · refine sr <| pp oAssign <| nl <| rt <| qsR <| ?_
   obtain rfl := inj hF
   exact fin1
 · refine sk <| qs <| sr <| pp oFA <| pp oLd <| ?_
   refine bb hF fun x3 h3 hF => ?_
   refine pp (oCallZ (T_tree_shape h3)) <| pp oMove <| pp oExt <| pp oExt <| pp oAssign <| pp oAssign <| nl <| sq <| sr <| pp oFA <| pp oLd <| pp oLenSl <| pp oMove <| pp oLss <| ?_
   refine pp oMove <| pg ar oMove <| pg ar oGeq <| pg ar oMove <| pg ar oFA <| pg ar oLd <| pg ar oLenSl <| pg ar oMove <| pg ar oGtr <| pg ar oPick <| pp oPick <| nl <| ?_
   refine cd hF (fun hF => ?_) (fun hF => ?_)
   · refine sr <| pp oAssign <| nl <| rt <| qsR <| ?_
     obtain rfl := inj hF
     exact fin1
   · refine sk <| qs <| sr <| pp oMove <| pp oAssign <| nl <| sq <| sr <| pp oFA <| pp oLd <| pp oLenSl <| pp oSub <| pp oAssign <| nl <| ?_
     refine lpR (fun (s : (Int × Int)) => stN 121 [(0, (.agg [(.sl ((a0.t.Nodes).map cXApi_Node)), (.rs [1, 0, 0] 0 a0.first.length)])), (1, (I a1)), (2, (.mp [0, 2] 0 0)), (5, (.vp (cXApi_Node x1))), (8, (I s.1)), (9, (I s.2))] [([1, 0, 0], (a0.first).map cInt_i64), ([0, 2], [[(.sl ((a0.t.Nodes).map cXApi_Node)), (.rs [1, 0, 0] 0 a0.first.length)]])]) (fun (s : Int) => stN 121 [(0, (.agg [(.sl ((a0.t.Nodes).map cXApi_Node)), (.rs [1, 0, 0] 0 a0.first.length)])), (1, (I a1)), (2, (.mp [0, 2] 0 0)), (5, (.vp (cXApi_Node x1))), (8, (I s))] [([1, 0, 0], (a0.first).map cInt_i64), ([0, 2], [[(.sl ((a0.t.Nodes).map cXApi_Node)), (.rs [1, 0, 0] 0 a0.first.length)]])]) RR_tree_checker_node hF cutN' ?_ ?_ ?_
     · rintro ⟨y8, y9⟩ z1 hF
       replace hF : tree_checker_node_L1 a0 x1 y8 y9 = some z1 := hF
       unfold tree_checker_node_L1 at hF
       refine stm <| sq <| sr <| pp oMove <| pp oGeq <| nl <| ?_
       refine cd hF (fun hF => ?_) (fun hF => ?_)
       · refine sk <| qs <| sq <| bl <| sq <| ?_
         refine srC (fun (s : Bool) => stN 121 [(0, (.agg [(.sl ((a0.t.Nodes).map cXApi_Node)), (.rs [1, 0, 0] 0 a0.first.length)])), (1, (I a1)), (2, (.mp [0, 2] 0 0)), (5, (.vp (cXApi_Node x1))), (8, (I y8)), (9, (I y9)), (62, (B s))] [([1, 0, 0], (a0.first).map cInt_i64), ([0, 2], [[(.sl ((a0.t.Nodes).map cXApi_Node)), (.rs [1, 0, 0] 0 a0.first.length)]])]) hF (fun z2 hF => ?_) (fun p1 hF => ?_)
         · refine pp oMove <| pp oEql <| pp oMove <| ?_
           refine spl (d := 53) hF (fun hF => ?_) (fun hF => ?_)
           · refine no fun u1 k1 hk1 => ?_
             refine no fun u2 k2 hk2 => ?_
             refine no fun u3 k3 hk3 => ?_
             refine no fun u4 k4 hk4 => ?_
             refine no fun u5 k5 hk5 => ?_
             refine no fun u6 k6 hk6 => ?_
             refine no fun u7 k7 hk7 => ?_
             refine no fun u8 k8 hk8 => ?_
             refine pp oPickT <| ?_
             obtain rfl := inj hF
             exact nlC cutN'
           · refine pt ar oFA <| pt ar oLd <| pt ar oMove <| ?_
             refine bb hF fun x4 h4 hF => ?_
             refine pt ar (oIx h4) <| pt ar oLd <| pt ar oMove <| pt ar oSub <| pt ar oNeq <| pp oPickF <| ?_
             obtain rfl := inj hF
             exact nlC cutN'
         · refine stm <| ?_
           refine cd hF (fun hF => ?_) (fun hF => ?_)
           · refine sr <| pp oAssign <| nl <| rt <| qsR <| qbR <| qsR <| ?_
             exact lr hF ⟨rfl, fin1⟩
           · refine sk <| qs <| sr <| pp oFAM <| rr oLdR <| pp oMove <| pp oSub <| ?_
             refine bb hF fun x5 h5 hF => ?_
             refine rr (oIxM h5) <| rr (oLdM (idx_nat h5)) <| pp oAssign <| nl <| srD <| pp oLdA <| pp oMove <| pp oFAM <| pp oFAM <| rr oLdR <| pp oFA <| pp oLd <| pp oMove <| ?_
             refine bb hF fun x6 h6 hF => ?_
             refine pp (oIx h6) <| pp oLd <| ?_
             refine bb hF fun x7 h7 hF => ?_
             refine pp (oIx h7) <| pp oFA <| pp oLd <| ?_
             refine bb hF fun x8 h8 hF => ?_
             refine pp (oCallZ (T_tree_kid h8)) <| pp oNot <| nlD <| ?_
             refine cd hF (fun hF => ?_) (fun hF => ?_)
             · refine sr <| pp oAssign <| nl <| rt <| qbR <| qsR <| ?_
               exact lr hF ⟨rfl, fin1⟩
             · refine sk <| qb <| qs <| rg <| pp oMove <| pp oSub <| pp oAssign <| nl <| ?_
               exact ln hF cutN'
       · refine ex <| qsE <| ?_
         exact lxR hF cutN'
     · intro v1 hF
       refine qst <| qs <| sr <| pp oFAM <| rr oLdR <| pp oMove <| pp oMove <| ?_
       refine bb hF fun x9 h9 hF => ?_
       refine rr (oIxM h9) <| ww (oStL (idx_nat h9) v1) <| nl <| sq <| bl <| ?_
       refine srC (fun (s : Bool) => mkSt 121 [0, 5, 89] [(.agg (cXTree_checker_SIOe (XTree_checker.mk a0.t (List.set a0.first ((a1) : Int).toNat v1)))), (.vp (cXApi_Node x1)), (B s)]) hF (fun z4 hF => ?_) (fun p2 hF => ?_)
       · refine pp oFA <| pp oLd <| ?_
         refine bb hF fun x10 h10 hF => ?_
         refine pp (oCallZ (T_tree_named h10)) <| pp oMove <| ?_
         refine spl (d := 93) hF (fun hF => ?_) (fun hF => ?_)
         · refine pt ar oFA <| pt ar oLd <| ?_
           refine bb hF fun x11 h11 hF => ?_
           refine pt ar (oCallZ (T_core_Name h11)) <| pt ar oNot <| pp oPickT <| pp oAssign <| ?_
           obtain rfl := inj hF
           exact nlC cutR'
         · refine no fun u9 k9 hk9 => ?_
           refine no fun u10 k10 hk10 => ?_
           refine no fun u11 k11 hk11 => ?_
           refine no fun u12 k12 hk12 => ?_
           refine pp oPickF <| pp oAssign <| ?_
           obtain rfl := inj hF
           exact nlC cutR'
       · refine mk ?_
         refine cd hF (fun hF => ?_) (fun hF => ?_)
         · refine sr <| pp oAssign <| nl <| rt <| qbR <| qsR <| ?_
           obtain rfl := inj hF
           exact fin1
         · refine srC (fun (s : Bool) => mkSt 121 [0, 5, 99] [(.agg (cXTree_checker_SIOe (XTree_checker.mk a0.t (List.set a0.first ((a1) : Int).toNat v1)))), (.vp (cXApi_Node x1)), (B s)]) hF (fun z3 hF => ?_) (fun p3 hF => ?_)
           · refine pp oFA <| pp oLd <| ?_
             refine bb hF fun x12 h12 hF => ?_
             refine pp (oCallZ (T_tree_named h12)) <| pp oNot <| pp oMove <| ?_
             refine spl (d := 104) hF (fun hF => ?_) (fun hF => ?_)
             · refine pt ar oFA <| pt ar oLd <| pt ar oFA <| pt ar oLd <| ?_
               refine bb hF fun x13 h13 hF => ?_
               refine pt ar (oCallZ (T_tree_sign h13)) <| pt ar oNot <| pp oPickT <| pp oAssign <| ?_
               obtain rfl := inj hF
               exact nlC cutR'
             · refine no fun u13 k13 hk13 => ?_
               refine no fun u14 k14 hk14 => ?_
               refine no fun u15 k15 hk15 => ?_
               refine no fun u16 k16 hk16 => ?_
               refine no fun u17 k17 hk17 => ?_
               refine no fun u18 k18 hk18 => ?_
               refine pp oPickF <| pp oAssign <| ?_
               obtain rfl := inj hF
               exact nlC cutR'
           · refine mk ?_
             refine cd hF (fun hF => ?_) (fun hF => ?_)
             · refine sr <| pp oAssign <| nl <| rt <| qbR <| qsR <| ?_
               obtain rfl := inj hF
               exact fin1
             · refine sr <| pp oLdA <| ?_
               refine bb hF fun x14 h14 hF => ?_
               refine pp (oCallZ (T_tree_numbers h14)) <| pp oNot <| pp oMove <| pg ar oFA <| pg ar oLd <| pg ar oLss <| pp oPick <| pp oAssign <| nl <| ?_
               refine cd hF (fun hF => ?_) (fun hF => ?_)
               · refine sr <| pp oAssign <| nl <| rt <| qbR <| qsR <| ?_
                 obtain rfl := inj hF
                 exact fin1
               · refine sk <| qb <| qs <| sr <| pp oAssign <| nl <| rt <| ?_
                 obtain rfl := inj hF
                 exact fin1
     · rintro r1 hF ⟨xe, xs⟩ ⟨hxe, hfin⟩
       obtain rfl : xe = Exit.ret := hxe
       obtain rfl := inj hF
       refine qbR <| qsR <| ?_
       exact hfin
noncomputable def ast_Deep_L2 (y8 : Int) (x2 : XApi_Node) (y18 : (List Int)) (y19 : Int) : Option (Lp ((List Int) × Int) (List Int)) :=
 if (decide (y19 < (x2.Kids.length : Int))) then
 ((idx x2.Kids y19).bind fun x3 =>
 (idx y18 y8).bind fun x4 =>
 (idx y18 x3).bind fun x5 =>
 (idx y18 y8).bind fun x6 =>
 some (.next ((List.set y18 ((y8) : Int).toNat (max x4 x5)), (w64 (y19 + 1)))))
 else
 (some (.out y18))
noncomputable def ast_Deep_L1 (a0 : XApi_Tree) (y6 : (List Int)) (y7 : Int) (y8 : Int) : Option (Lp ((List Int) × Int × Int) Int) :=
 if (decide (y8 < (a0.Nodes.length : Int))) then
 ((idx a0.Nodes y8).bind fun x2 =>
 (Loop (fun (s : ((List Int) × Int)) => ast_Deep_L2 y8 x2 s.1 s.2) (y6, 0)).bind fun v1 =>
 (idx v1 y8).bind fun x7 =>
 (idx v1 y8).bind fun x8 =>
 (idx (List.set v1 ((y8) : Int).toNat (w64 (x7 + 1))) y8).bind fun x9 =>
 some (.next ((List.set v1 ((y8) : Int).toNat (w64 (x7 + 1))), (max y7 x9), (w64 (y8 + 1)))))
 else
 (some (.out y7))
noncomputable def ast_Deep (a0 : XApi_Tree) : Option Int :=
 (mks (a0.Nodes.length : Int) (0 : Int)).bind fun x1 =>
 (Loop (fun (s : ((List Int) × Int × Int)) => ast_Deep_L1 a0 s.1 s.2.1 s.2.2) (x1, 0, 0)).bind fun v2 =>
 some v2
abbrev R_ast_Deep (r : Int) : AV := (I r)
set_option maxHeartbeats 4000000 in
theorem T_ast_Deep {nn : Nat} {a0 : XApi_Tree} {r : Int} (hF : ast_Deep a0 = some r) : den cx (nn + 1) 41 [(.agg (cXApi_Tree a0))] = some (R_ast_Deep r, []) := by
 unfold ast_Deep at hF
 refine fnA Try.func41 Try.ntmps41 (by exact spine) (sl := [0]) ?_
 refine sr <| pp oBoxF <| pp oAssign <| nl <| sr <| pp oFA <| pp oLd <| pp oLenSl <| ?_
 refine bb hF fun x1 h1 hF => ?_
 refine ww (oMake (c := cInt_i64) h1 rfl) <| pp oAssign <| nl <| sr <| pp oAssign <| nl <| sq <| sr <| pp oFA <| pp oLd <| pp oLenSl <| pp oMove <| nl <| ?_
 refine lp (fun (s : ((List Int) × Int × Int)) => mkSt 55 [3, 4, 14, 15, 16] [(.own ((s.1).map cInt_i64) (s.1).length), (I s.2.1), (.sl ((a0.Nodes).map cXApi_Node)), (I (a0.Nodes.length : Int)), (I s.2.2)]) (fun (s : Int) => mkSt 55 [4] [(I s)]) hF cutR' ?_ ?_
 · rintro ⟨y6, y7, y8⟩ z1 hF
   replace hF : ast_Deep_L1 a0 y6 y7 y8 = some z1 := hF
   unfold ast_Deep_L1 at hF
   refine mk ?_
   refine sr <| pp oLss <| nl <| sq <| ?_
   refine cd hF (fun hF => ?_) (fun hF => ?_)
   · refine sk <| qs <| sq <| bl <| sr <| pp oMove <| ?_
     refine bb hF fun x2 h2 hF => ?_
     refine pp (oIx h2) <| pp oLdA <| ww oAlloc <| pp oAssign <| ww oStF <| nl <| sq <| sr <| pp oFA <| pp oLd <| pp oLenSl <| pp oMove <| nl <| ?_
     refine lp (fun (s : ((List Int) × Int)) => mkSt 55 [3, 4, 5, 14, 15, 16, 22, 23, 24] [(.own ((s.1).map cInt_i64) (s.1).length), (I y7), (I y8), (.sl ((a0.Nodes).map cXApi_Node)), (I (a0.Nodes.length : Int)), (I y8), (.sl ((x2.Kids).map cInt_i64)), (I (x2.Kids.length : Int)), (I s.2)]) (fun (s : (List Int)) => mkSt 55 [3, 4, 5, 14, 15, 16] [(.own ((s).map cInt_i64) (s).length), (I y7), (I y8), (.sl ((a0.Nodes).map cXApi_Node)), (I (a0.Nodes.length : Int)), (I y8)]) hF cutR' ?_ ?_
     · rintro ⟨y18, y19⟩ z2 hF
       replace hF : ast_Deep_L2 y8 x2 y18 y19 = some z2 := hF
       unfold ast_Deep_L2 at hF
       refine mk ?_
       refine sr <| pp oLss <| nl <| sq <| ?_
       refine cd hF (fun hF => ?_) (fun hF => ?_)
       · refine sk <| qs <| sq <| bl <| sr <| ?_
         refine bb hF fun x3 h3 hF => ?_
         refine pp (oIx h3) <| pp oLd <| pp oAssign <| nl <| rgD <| pp oMove <| pp oMove <| pp oMove <| pp oMove <| ?_
         refine bb hF fun x4 h4 hF => ?_
         refine rr (oIxM h4) <| rr (oLdM (idx_nat h4)) <| pp oMove <| pp oMove <| ?_
         refine bb hF fun x5 h5 hF => ?_
         refine rr (oIxM h5) <| rr (oLdM (idx_nat h5)) <| pp oMax <| ?_
         refine bb hF fun x6 h6 hF => ?_
         refine rr (oIxM h6) <| ww (oStL (idx_nat h6) (max x4 x5)) <| nlD <| qb <| qs <| rg <| pp oAdd <| pp oMove <| nl <| ?_
         exact ln hF cutR'
       · refine ex <| qsE <| ?_
         exact lx hF cutR'
     · intro v1 hF
       refine qmk ?_
       refine qs <| sr <| pp oMove <| pp oMove <| ?_
       refine bb hF fun x7 h7 hF => ?_
       refine rr (oIxM h7) <| rr (oLdM (idx_nat h7)) <| pp oAdd <| ?_
       refine bb hF fun x8 h8 hF => ?_
       refine rr (oIxM h8) <| ww (oStL (idx_nat h8) (w64 (x7 + 1))) <| nl <| rg <| pp oMove <| pp oMove <| pp oMove <| ?_
       refine bb hF fun x9 h9 hF => ?_
       refine rr (oIxM h9) <| rr (oLdM (idx_nat h9)) <| pp oMax <| pp oAssign <| nl <| qb <| qs <| rg <| pp oAdd <| pp oMove <| nl <| ?_
       exact ln hF cutR'
   · refine ex <| qsE <| ?_
     exact lx hF cutR'
 · intro v2 hF
   refine qmk ?_
   refine qs <| sr <| pp oMove <| pp oAssign <| nl <| rt <| ?_
   obtain rfl := inj hF
   exact fin1
noncomputable def tree_Check_L1 (a0 : XApi_Tree) (y6 : XTree_checker) (y7 : Int) : Option (Lp (XTree_checker × Int) (Br XTree_checker XApi_Fault)) :=
 if (decide (y7 < (a0.Nodes.length : Int))) then
 ((tree_checker_node y6 y7).bind fun x4 =>
 (eqLen x4.2.first y6.first).bind fun _ =>
 if (x4.1 != 0) then
 ((core_Fault x4.1 y7).bind fun x5 =>
 some (.out (.ret x5)))
 else
 (some (.next ((XTree_checker.mk y6.t x4.2.first), (w64 (y7 + 1))))))
 else
 (some (.out (.brk y6)))
noncomputable def tree_Check (a0 : XApi_Tree) : Option XApi_Fault :=
 (core_Within (a0.Nodes.length : Int) 1 600).bind fun x1 =>
 if (!x1) then
 ((core_Fault 2 0).bind fun x2 =>
 some x2)
 else
 ((mks (a0.Nodes.length : Int) (0 : Int)).bind fun x3 =>
 (Loop (fun (s : (XTree_checker × Int)) => tree_Check_L1 a0 s.1 s.2) ((XTree_checker.mk a0 x3), 0)).bind (Br.go (fun v1 =>
 (idx v1.first (w64 ((a0.Nodes.length : Int) - 1))).bind fun x6 =>
 if (x6 != 0) then
 ((core_Fault 5 (w64 ((a0.Nodes.length : Int) - 1))).bind fun x7 =>
 some x7)
 else
 ((ast_Deep a0).bind fun x8 =>
 if (decide (40 < x8)) then
 ((core_Fault 10 0).bind fun x9 =>
 some x9)
 else
 (some (XApi_Fault.mk 0 0)))) (fun r1 => some r1)))
abbrev R_tree_Check (r : XApi_Fault) : AV := (.agg (cXApi_Fault r))
def RR_tree_Check (r : XApi_Fault) (x : Exit × St) : Prop := x.1 = .ret ∧ Fin cx [.cell 2 27] [] (R_tree_Check r) [] x
set_option maxHeartbeats 4000000 in
theorem T_tree_Check {nn : Nat} {a0 : XApi_Tree} {r : XApi_Fault} (hF : tree_Check a0 = some r) : den cx (nn + 5) 19 [(.agg (cXApi_Tree a0))] = some (R_tree_Check r, []) := by
 unfold tree_Check at hF
 refine fnA Try.func19 Try.ntmps19 (by exact spine) (sl := [0]) ?_
 refine sr <| pp oBoxF <| ww oAlloc <| nl <| sq <| sr <| pp oFA <| pp oLd <| pp oLenSl <| ?_
 refine bb hF fun x1 h1 hF => ?_
 refine pp (oCallZ (T_core_Within h1)) <| pp oNot <| nl <| ?_
 refine cd hF (fun hF => ?_) (fun hF => ?_)
 · refine sr <| ?_
   refine bb hF fun x2 h2 hF => ?_
   refine pp (oCall (T_core_Fault h2)) <| ww oStR <| nl <| rt <| qsR <| ?_
   obtain rfl := inj hF
   exact fin1
 · refine sk <| qs <| srD <| pp oLdA <| pp oFA <| pp oLd <| pp oLenSl <| ?_
   refine bb hF fun x3 h3 hF => ?_
   refine ww (oMake (c := cInt_i64) h3 rfl) <| pp oBuild <| ww oAlloc <| ww oStR <| nlD <| sq <| sr <| pp oFA <| pp oLd <| pp oLenSl <| pp oMove <| nl <| ?_
   refine lpR (fun (s : (XTree_checker × Int)) => mkSt 52 [1, 2, 3, 20, 21] [(.vp (cXApi_Tree a0)), (.ownp (cXApi_Fault (XApi_Fault.mk 0 0))), (.ownp (cXTree_checker_SIOe s.1)), (I (a0.Nodes.length : Int)), (I s.2)]) (fun (s : XTree_checker) => mkSt 52 [1, 2, 3] [(.vp (cXApi_Tree a0)), (.ownp (cXApi_Fault (XApi_Fault.mk 0 0))), (.ownp (cXTree_checker_SIOe s))]) RR_tree_Check hF cutR' ?_ ?_ ?_
   · rintro ⟨y6, y7⟩ z1 hF
     replace hF : tree_Check_L1 a0 y6 y7 = some z1 := hF
     unfold tree_Check_L1 at hF
     refine mk ?_
     refine sr <| pp oLss <| nl <| sq <| ?_
     refine cd hF (fun hF => ?_) (fun hF => ?_)
     · refine sk <| qs <| sq <| bl <| sr <| pp oMove <| pp oAssign <| nl <| sr <| rr oLdRA <| pp oMove <| ?_
       refine bb hF fun x4 h4 hF => ?_
       refine bb hF fun _ l1 hF => ?_
       have l1 := eqLen_ok l1
       refine ww (oCallTZ (T_tree_checker_node h4)) <| pp oAssign <| nl <| sr <| pp oMove <| pp oNeq <| nl <| ?_
       refine cd hF (fun hF => ?_) (fun hF => ?_)
       · refine sr <| pp oMove <| pp oMove <| ?_
         refine bb hF fun x5 h5 hF => ?_
         refine pp (oCall (T_core_Fault h5)) <| ww oStR <| nl <| rt <| qbR <| qsR <| ?_
         exact lr hF ⟨rfl, fin1⟩
       · refine sk <| qb <| qs <| rg <| pp oAdd <| pp oMove <| nl <| ?_
         exact ln hF cutR'
     · refine ex <| qsE <| ?_
       exact lxR hF cutR'
   · intro v1 hF
     refine qmk ?_
     refine qs <| sq <| sr <| pp oFAM <| rr oLdR <| pp oFA <| pp oLd <| pp oLenSl <| pp oSub <| ?_
     refine bb hF fun x6 h6 hF => ?_
     refine rr (oIxM h6) <| rr (oLdM (idx_nat h6)) <| pp oNeq <| nl <| ?_
     refine cd hF (fun hF => ?_) (fun hF => ?_)
     · refine sr <| pp oFA <| pp oLd <| pp oLenSl <| pp oSub <| ?_
       refine bb hF fun x7 h7 hF => ?_
       refine pp (oCall (T_core_Fault h7)) <| ww oStR <| nl <| rt <| qsR <| ?_
       obtain rfl := inj hF
       exact fin1
     · refine sk <| qs <| sq <| sr <| pp oLdA <| ?_
       refine bb hF fun x8 h8 hF => ?_
       refine pp (oCallZ (T_ast_Deep h8)) <| pp oGtr <| nl <| ?_
       refine cd hF (fun hF => ?_) (fun hF => ?_)
       · refine sr <| ?_
         refine bb hF fun x9 h9 hF => ?_
         refine pp (oCall (T_core_Fault h9)) <| ww oStR <| nl <| rt <| qsR <| ?_
         obtain rfl := inj hF
         exact fin1
       · refine sk <| qs <| sr <| pp oBuild <| ww oStR <| nl <| rt <| ?_
         obtain rfl := inj hF
         exact fin1
   · rintro r1 hF ⟨xe, xs⟩ ⟨hxe, hfin⟩
     obtain rfl : xe = Exit.ret := hxe
     obtain rfl := inj hF
     refine qbR <| qsR <| ?_
     exact hfin
noncomputable def ast_Kids (a0 : XApi_Tree) (a1 : Int) : Option (XApi_Tree × Int) :=
 some (a0, a1)
abbrev R_ast_Kids (r : (XApi_Tree × Int)) : AV := (.fn (.func 42) [] [(.vp (cXApi_Tree r.1)), (.vp (cInt_i64 r.2))])
set_option maxHeartbeats 4000000 in
theorem T_ast_Kids {nn : Nat} {a0 : XApi_Tree} {a1 : Int} {r : (XApi_Tree × Int)} (hF : ast_Kids a0 a1 = some r) : den cx (nn + 1) 21 [(.agg (cXApi_Tree a0)), (I a1)] = some (R_ast_Kids r, []) := by
 unfold ast_Kids at hF
 refine fnA Try.func21 Try.ntmps21 (by exact spine) (sl := [0, 1]) ?_
 refine sr <| pp oBoxF <| pp oBoxF <| pp oAssign <| nl <| sr <| pp oFunc <| pp oAssign <| nl <| rt <| ?_
 obtain rfl := inj hF
 exact fin1
noncomputable def scope_helps (a0 : ByteArray) : Option Bool :=
 some (if (a0.toList == (ByteArray.mk #[114, 101, 97, 100]).toList) then true else (a0.toList == (ByteArray.mk #[112, 114, 105, 110, 116]).toList))
abbrev R_scope_helps (r : Bool) : AV := (B r)
set_option maxHeartbeats 4000000 in
theorem T_scope_helps {nn : Nat} {a0 : ByteArray} {r : Bool} (hF : scope_helps a0 = some r) : den cx (nn + 1) 22 [(AV.val (.string a0))] = some (R_scope_helps r, []) := by
 unfold scope_helps at hF
 refine fnA Try.func22 Try.ntmps22 (by exact spine) (sl := [0]) ?_
 refine sr <| pp oAssign <| nl <| sr <| pp oMove <| pp oEqlS <| pp oMove <| pg ar oMove <| pg ar oEqlS <| pp oPick <| pp oAssign <| nl <| rt <| ?_
 obtain rfl := inj hF
 exact fin1
noncomputable def scope_finder_declare (a0 : XScope_finder) (a1 : Int) : Option (Int × XScope_finder) :=
 (stk (a0.room.1, a0.room.2)).bind fun _ =>
 (idx a0.t.Nodes a1).bind fun x1 =>
 (idx (List.take a0.room.2 a0.room.1) (w64 ((a0.room.2 : Int) - 1))).bind fun x2 =>
 if (mget eqS x2 x1.Text).isSome then
 (some (7, (XScope_finder.mk a0.t a0.out ((List.set a0.room.1 ((((w64 ((a0.room.2 : Int) - 1))) : Int).toNat) x2), a0.room.2))))
 else
 ((idx a0.out a1).bind fun x3 =>
 some (0, (XScope_finder.mk a0.t (List.set a0.out ((a1) : Int).toNat a1) ((List.set a0.room.1 ((((w64 ((a0.room.2 : Int) - 1))) : Int).toNat) (mput eqS x2 x1.Text a1)), a0.room.2))))
abbrev R_scope_finder_declare (r : (Int × XScope_finder)) : AV := (I r.1)
set_option maxHeartbeats 4000000 in
theorem T_scope_finder_declare {nn : Nat} {a0 : XScope_finder} {a1 : Int} {r : (Int × XScope_finder)} (hF : scope_finder_declare a0 a1 = some r) : den cx (nn + 1) 23 [(.ownp (cXScope_finder_SIOLMe a0)), (I a1)] = some (R_scope_finder_declare r, [(.ownp (cXScope_finder_SIOLMe r.2))]) := by
 unfold scope_finder_declare at hF
 refine fnA Try.func23 Try.ntmps23 (by exact spine) (sl := [0, 1]) ?_
 refine bb hF fun _ h1 hF => ?_
 have h1 : a0.room.2 ≤ a0.room.1.length := stk_le h1
 refine sr <| pp oAssign <| nl <| sr <| pp oMove <| pp oNil <| pp oFAM <| pp oFAM <| rr oLdR <| pp oMove <| ?_
 refine bb hF fun x1 h2 hF => ?_
 refine pp (oIx h2) <| pp oFA <| pp oLd <| pp oAssign <| nl <| srD <| pp oMove <| pp oNil <| pp oFAM <| rr oLdR <| pp oMove <| pp oNil <| pp oFAM <| rr oLdR <| ?_
 refine pp (oLenRs (m := a0.room.2)) <| pp oSub <| ?_
 refine bb hF fun x2 h3 hF => ?_
 refine rr (oIxQ (idx_bt h3) (rowM (idx_take' h3))) <| ?_
 have hk1 := (idx_take' h3)
 have hk1t := idx_nat h3
 refine ww (oLdY (rowM (idx_take' h3)) setM) <| pp oAssign <| nlD <| sq <| sr <| pp oMove <| pp oMove <| rr (oLk (k := x1.Text) (l := x2) (ek := vS) (ev := vI) (zv := (0 : Int))) <| pp oMove <| pp oExt <| pp oExt <| pp oAssign <| pp oAssign <| nl <| ?_
 refine sr <| pp oMove <| nl <| ?_
 refine cd hF (fun hF => ?_) (fun hF => ?_)
 · refine sr <| pp oAssign <| nl <| rt <| qsR <| ?_
   obtain rfl := inj hF
   exact fin1
 · refine sk <| qs <| sr <| pp oMove <| pp oMove <| pp oMove <| ww (oPut (k := x1.Text) (v := a1) (l := x2) (ek := vS) (ev := vI)) <| nl <| sr <| pp oMove <| pp oNil <| pp oFAM <| rr oLdR <| pp oMove <| ?_
   refine pp oMove <| ?_
   refine bb hF fun x3 h4 hF => ?_
   refine rr (oIxM h4) <| ww (oStL (idx_nat h4) a1) <| nl <| sr <| pp oAssign <| nl <| rt <| ?_
   obtain rfl := inj hF
   exact fin1
noncomputable def scope_finder_code (a0 : XScope_finder) (a1 : Int) (a2 : Int) : Option XApi_Fault :=
 if (a1 != 0) then
 ((core_Fault a1 a2).bind fun x1 =>
 some x1)
 else
 (some (XApi_Fault.mk 0 0))
abbrev R_scope_finder_code (r : XApi_Fault) : AV := (.agg (cXApi_Fault r))
set_option maxHeartbeats 4000000 in
theorem T_scope_finder_code {nn : Nat} {a0 : XScope_finder} {a1 : Int} {a2 : Int} {r : XApi_Fault} (hF : scope_finder_code a0 a1 a2 = some r) : den cx (nn + 2) 67 [(.vp (cXScope_finder a0)), (I a1), (I a2)] = some (R_scope_finder_code r, []) := by
 unfold scope_finder_code at hF
 refine fnA Try.func67 Try.ntmps67 (by exact spine) (sl := [0, 1, 2]) ?_
 refine sr <| ww oAlloc <| nl <| sq <| sr <| pp oMove <| pp oNeq <| nl <| ?_
 refine cd hF (fun hF => ?_) (fun hF => ?_)
 · refine sr <| pp oMove <| pp oMove <| ?_
   refine bb hF fun x1 h1 hF => ?_
   refine pp (oCall (T_core_Fault h1)) <| ww oStR <| nl <| rt <| qsR <| ?_
   obtain rfl := inj hF
   exact fin1
 · refine sk <| qs <| sr <| pp oBuild <| ww oStR <| nl <| rt <| ?_
   obtain rfl := inj hF
   exact fin1
noncomputable def scope_finder_find_L1 (a0 : XScope_finder) (a1 : ByteArray) (a2 : Int) (y5 : Int) : Option (Lp Int (Br Unit Int)) :=
 if (decide (a2 ≤ y5)) then
 ((idx (List.take a0.room.2 a0.room.1) y5).bind fun x1 =>
 if (mget eqS x1 a1).isSome then
 (some (.out (.ret ((mget eqS x1 a1).getD (0 : Int)))))
 else
 (some (.next (w64 (y5 - 1)))))
 else
 (some (.out (.brk ())))
noncomputable def scope_finder_find (a0 : XScope_finder) (a1 : ByteArray) (a2 : Int) : Option Int :=
 (Loop (fun (s : Int) => scope_finder_find_L1 a0 a1 a2 s) (w64 (((List.take a0.room.2 a0.room.1).length : Int) - 1))).bind (Br.go (fun _ =>
 some (-1)) (fun r1 => some r1))
abbrev R_scope_finder_find (r : Int) : AV := (I r)
def RR_scope_finder_find (r : Int) (x : Exit × St) : Prop := x.1 = .ret ∧ Fin cx [.tmp 6] [] (R_scope_finder_find r) [] x
set_option maxHeartbeats 4000000 in
theorem T_scope_finder_find {nn : Nat} {a0 : XScope_finder} {a1 : ByteArray} {a2 : Int} {r : Int} (hF : scope_finder_find a0 a1 a2 = some r) : den cx (nn + 1) 68 [(.vp (cXScope_finder a0)), (AV.val (.string a1)), (I a2)] = some (R_scope_finder_find r, []) := by
 unfold scope_finder_find at hF
 refine fnA Try.func68 Try.ntmps68 (by exact spine) (sl := [0, 1, 2]) ?_
 refine sr <| pp oAssign <| nl <| sq <| sr <| pp oMove <| pp oNil <| pp oFA <| pp oLd <| pp oLenSl <| pp oSub <| pp oAssign <| nl <| ?_
 refine lpR (fun (s : Int) => mkSt 35 [0, 1, 2, 7] [(.vp (cXScope_finder a0)), (AV.val (.string a1)), (I a2), (I s)]) (fun (s : Unit) => mkSt 35 [] []) RR_scope_finder_find hF cutR' ?_ ?_ ?_
 · rintro y5 z1 hF
   replace hF : scope_finder_find_L1 a0 a1 a2 y5 = some z1 := hF
   unfold scope_finder_find_L1 at hF
   refine mk ?_
   refine sq <| sr <| pp oMove <| pp oMove <| pp oGeq <| nl <| ?_
   refine cd hF (fun hF => ?_) (fun hF => ?_)
   · refine sk <| qs <| sq <| bl <| sr <| pp oMove <| pp oNil <| pp oFA <| pp oLd <| pp oMove <| ?_
     refine bb hF fun x1 h1 hF => ?_
     refine pp (oIx h1) <| pp oLd <| pp oMove <| pp (oLkI (k := a1) (l := x1) (ek := vS) (ev := vI) (zv := (0 : Int))) <| pp oMove <| pp oExt <| pp oExt <| pp oAssign <| pp oAssign <| nl <| sr <| pp oMove <| nl <| ?_
     refine cd hF (fun hF => ?_) (fun hF => ?_)
     · refine sr <| pp oMove <| pp oAssign <| nl <| rt <| qbR <| qsR <| ?_
       exact lr hF ⟨rfl, fin1⟩
     · refine sk <| qb <| qs <| rg <| pp oMove <| pp oSub <| pp oAssign <| nl <| ?_
       exact ln hF cutR'
   · refine ex <| qsE <| ?_
     exact lxR hF cutR'
 · intro _ hF
   refine qmk ?_
   refine qs <| sr <| pp oAssign <| nl <| rt <| ?_
   obtain rfl := inj hF
   exact fin1
 · rintro r1 hF ⟨xe, xs⟩ ⟨hxe, hfin⟩
   obtain rfl : xe = Exit.ret := hxe
   obtain rfl := inj hF
   refine qbR <| qsR <| ?_
   exact hfin
noncomputable def scope_finder_all_L1 (rc43 : XScope_finder → Int → Option (XApi_Fault × XScope_finder)) (a1 : (List Int)) (y6 : XScope_finder) (y7 : Int) : Option (Lp (XScope_finder × Int) (Br XScope_finder (XApi_Fault × XScope_finder))) :=
 (stk (y6.room.1, y6.room.2)).bind fun _ =>
 if (decide (y7 < (a1.length : Int))) then
 ((idx a1 y7).bind fun x1 =>
 (rc43 (XScope_finder.mk y6.t y6.out (y6.room.1, y6.room.2)) x1).bind fun x2 =>
 if (!((x2.1.Code == 0) && ((x2.1.At == 0) && true))) then
 (some (.out (.ret (x2.1, x2.2))))
 else
 (some (.next (x2.2, (w64 (y7 + 1))))))
 else
 (some (.out (.brk (XScope_finder.mk y6.t y6.out (y6.room.1, y6.room.2)))))
noncomputable def scope_finder_all_B (fu : Nat) (rc24 : XScope_finder → (List Int) → Option (XApi_Fault × XScope_finder)) (rc66 : XScope_finder → (List Int) → Option (XApi_Fault × XScope_finder)) (rc43 : XScope_finder → Int → Option (XApi_Fault × XScope_finder)) (a0 : XScope_finder) (a1 : (List Int)) : Option (XApi_Fault × XScope_finder) :=
 (stk (a0.room.1, a0.room.2)).bind fun _ =>
 (Loop (fun (s : (XScope_finder × Int)) => scope_finder_all_L1 rc43 a1 s.1 s.2) ((XScope_finder.mk a0.t a0.out (a0.room.1, a0.room.2)), 0)).bind (Br.go (fun v1 =>
 (stk (v1.room.1, v1.room.2)).bind fun _ =>
 some ((XApi_Fault.mk 0 0), (XScope_finder.mk v1.t v1.out (v1.room.1, v1.room.2)))) (fun r1 => some r1))
noncomputable def scope_finder_within_B (fu : Nat) (rc24 : XScope_finder → (List Int) → Option (XApi_Fault × XScope_finder)) (rc66 : XScope_finder → (List Int) → Option (XApi_Fault × XScope_finder)) (rc43 : XScope_finder → Int → Option (XApi_Fault × XScope_finder)) (a0 : XScope_finder) (a1 : (List Int)) : Option (XApi_Fault × XScope_finder) :=
 (stk (a0.room.1, a0.room.2)).bind fun _ =>
 (app (List.take a0.room.2 a0.room.1) [([] : (List (ByteArray × Int)))]).bind fun x1 =>
 ((rc24 (XScope_finder.mk a0.t a0.out ((List.set x1 (((((((List.take a0.room.2 a0.room.1)).length : Nat) : Int)) : Int).toNat) ([] : (List (ByteArray × Int)))), (List.set x1 (((((((List.take a0.room.2 a0.room.1)).length : Nat) : Int)) : Int).toNat) ([] : (List (ByteArray × Int)))).length)) a1).bind fun x2 =>
 some (x2.2, x2.1)).bind fun p1 =>
 (stk (p1.1.room.1, p1.1.room.2)).bind fun _ =>
 (cutN p1.1.room.2 (w64 ((p1.1.room.2 : Int) - 1))).bind fun x3 =>
 some (p1.2, (XScope_finder.mk p1.1.t p1.1.out (p1.1.room.1, x3)))
noncomputable def scope_finder_walk_J1 (rc24 : XScope_finder → (List Int) → Option (XApi_Fault × XScope_finder)) (x1 : XApi_Node) (y1 : XScope_finder) : Option (XApi_Fault × XScope_finder) :=
 (stk (y1.room.1, y1.room.2)).bind fun _ =>
 (rc24 (XScope_finder.mk y1.t y1.out (y1.room.1, y1.room.2)) x1.Kids).bind fun x2 =>
 some (x2.1, x2.2)
noncomputable def scope_finder_walk_J2 (rc24 : XScope_finder → (List Int) → Option (XApi_Fault × XScope_finder)) (rc66 : XScope_finder → (List Int) → Option (XApi_Fault × XScope_finder)) (a0 : XScope_finder) (a1 : Int) (x1 : XApi_Node) (y2 : Bool) : Option (XApi_Fault × XScope_finder) :=
 (stk ((a0.room.1, a0.room.2).1, (a0.room.1, a0.room.2).2)).bind fun _ =>
 if y2 then
 ((rc66 (XScope_finder.mk a0.t a0.out ((a0.room.1, a0.room.2).1, (a0.room.1, a0.room.2).2)) x1.Kids).bind fun x3 =>
 some (x3.1, x3.2))
 else
 (if (x1.Kind == 4) then
 ((scope_finder_declare (XScope_finder.mk a0.t a0.out ((a0.room.1, a0.room.2).1, (a0.room.1, a0.room.2).2)) a1).bind fun x4 =>
 (scope_finder_code x4.2 x4.1 a1).bind fun x5 =>
 some (x5, x4.2))
 else
 (if (x1.Kind == 12) then
 ((rc24 (XScope_finder.mk a0.t a0.out ((a0.room.1, a0.room.2).1, (a0.room.1, a0.room.2).2)) x1.Kids).bind fun x6 =>
 if (!((x6.1.Code == 0) && ((x6.1.At == 0) && true))) then
 (some (x6.1, x6.2))
 else
 ((scope_finder_declare x6.2 a1).bind fun x7 =>
 (scope_finder_code x7.2 x7.1 a1).bind fun x8 =>
 some (x8, x7.2)))
 else
 (if (x1.Kind == 32) then
 ((scope_finder_find (XScope_finder.mk a0.t a0.out ((a0.room.1, a0.room.2).1, (a0.room.1, a0.room.2).2)) x1.Text 0).bind fun x9 =>
 (if (decide (x9 < 0)) then
 (some true)
 else
 ((idx a0.t.Nodes x9).bind fun x10 =>
 some (x10.Kind == 3))).bind fun p1 =>
 (stk (((a0.room.1, a0.room.2).1, (a0.room.1, a0.room.2).2).1, ((a0.room.1, a0.room.2).1, (a0.room.1, a0.room.2).2).2)).bind fun _ =>
 if p1 then
 ((core_Fault 6 a1).bind fun x11 =>
 some (x11, (XScope_finder.mk a0.t a0.out (((a0.room.1, a0.room.2).1, (a0.room.1, a0.room.2).2).1, ((a0.room.1, a0.room.2).1, (a0.room.1, a0.room.2).2).2))))
 else
 ((idx a0.out a1).bind fun x12 =>
 scope_finder_walk_J1 rc24 x1 (XScope_finder.mk a0.t (List.set a0.out ((a1) : Int).toNat x9) (((a0.room.1, a0.room.2).1, (a0.room.1, a0.room.2).2).1, ((a0.room.1, a0.room.2).1, (a0.room.1, a0.room.2).2).2))))
 else
 (if (x1.Kind == 33) then
 ((idx (List.take ((a0.room.1, a0.room.2).2) ((a0.room.1, a0.room.2).1)) 0).bind fun x13 =>
 (if (mget eqS x13 x1.Text).isSome then
 ((idx a0.t.Nodes ((mget eqS x13 x1.Text).getD (0 : Int))).bind fun x14 =>
 some (x14.Kind == 3))
 else
 (some false)).bind fun p2 =>
 (stk (((List.set ((a0.room.1, a0.room.2).1) (((0) : Int).toNat) x13), (a0.room.1, a0.room.2).2).1, ((List.set ((a0.room.1, a0.room.2).1) (((0) : Int).toNat) x13), (a0.room.1, a0.room.2).2).2)).bind fun _ =>
 if p2 then
 ((idx a0.out a1).bind fun x15 =>
 scope_finder_walk_J1 rc24 x1 (XScope_finder.mk a0.t (List.set a0.out ((a1) : Int).toNat ((mget eqS x13 x1.Text).getD (0 : Int))) (((List.set ((a0.room.1, a0.room.2).1) (((0) : Int).toNat) x13), (a0.room.1, a0.room.2).2).1, ((List.set ((a0.room.1, a0.room.2).1) (((0) : Int).toNat) x13), (a0.room.1, a0.room.2).2).2)))
 else
 ((scope_helps x1.Text).bind fun x16 =>
 if (!x16) then
 ((core_Fault 6 a1).bind fun x17 =>
 some (x17, (XScope_finder.mk a0.t a0.out (((List.set ((a0.room.1, a0.room.2).1) (((0) : Int).toNat) x13), (a0.room.1, a0.room.2).2).1, ((List.set ((a0.room.1, a0.room.2).1) (((0) : Int).toNat) x13), (a0.room.1, a0.room.2).2).2))))
 else
 (scope_finder_walk_J1 rc24 x1 (XScope_finder.mk a0.t a0.out (((List.set ((a0.room.1, a0.room.2).1) (((0) : Int).toNat) x13), (a0.room.1, a0.room.2).2).1, ((List.set ((a0.room.1, a0.room.2).1) (((0) : Int).toNat) x13), (a0.room.1, a0.room.2).2).2)))))
 else
 (scope_finder_walk_J1 rc24 x1 (XScope_finder.mk a0.t a0.out ((a0.room.1, a0.room.2).1, (a0.room.1, a0.room.2).2)))))))
noncomputable def scope_finder_walk_B (fu : Nat) (rc24 : XScope_finder → (List Int) → Option (XApi_Fault × XScope_finder)) (rc66 : XScope_finder → (List Int) → Option (XApi_Fault × XScope_finder)) (rc43 : XScope_finder → Int → Option (XApi_Fault × XScope_finder)) (a0 : XScope_finder) (a1 : Int) : Option (XApi_Fault × XScope_finder) :=
 (stk (a0.room.1, a0.room.2)).bind fun _ =>
 (idx a0.t.Nodes a1).bind fun x1 =>
 if (x1.Kind == 3) then
 (scope_finder_walk_J2 rc24 rc66 a0 a1 x1 (x1.Kind == 3))
 else
 (if (x1.Kind == 11) then
 (scope_finder_walk_J2 rc24 rc66 a0 a1 x1 (x1.Kind == 11))
 else
 (if (x1.Kind == 17) then
 (scope_finder_walk_J2 rc24 rc66 a0 a1 x1 (x1.Kind == 17))
 else
 (scope_finder_walk_J2 rc24 rc66 a0 a1 x1 (x1.Kind == 18))))
noncomputable def scope_finder_all_grp : Nat → (XScope_finder → (List Int) → Option (XApi_Fault × XScope_finder)) × (XScope_finder → (List Int) → Option (XApi_Fault × XScope_finder)) × (XScope_finder → Int → Option (XApi_Fault × XScope_finder))
 | 0 => (fun _ _ => none, fun _ _ => none, fun _ _ => none)
 | m + 1 => (scope_finder_all_B m ((scope_finder_all_grp m).1) ((scope_finder_all_grp m).2.1) ((scope_finder_all_grp m).2.2), scope_finder_within_B m ((scope_finder_all_grp m).1) ((scope_finder_all_grp m).2.1) ((scope_finder_all_grp m).2.2), scope_finder_walk_B m ((scope_finder_all_grp m).1) ((scope_finder_all_grp m).2.1) ((scope_finder_all_grp m).2.2))
noncomputable def scope_finder_all (fu : Nat) : XScope_finder → (List Int) → Option (XApi_Fault × XScope_finder) := (scope_finder_all_grp fu).1
abbrev R_scope_finder_all (r : (XApi_Fault × XScope_finder)) : AV := (.agg (cXApi_Fault r.1))
def RR_scope_finder_all (r : (XApi_Fault × XScope_finder)) (x : Exit × St) : Prop := x.1 = .ret ∧ Fin cx [.cell 4 27] [0] (R_scope_finder_all r) [(.ownp (cXScope_finder_SIOLMe r.2))] x
noncomputable def scope_finder_within (fu : Nat) : XScope_finder → (List Int) → Option (XApi_Fault × XScope_finder) := (scope_finder_all_grp fu).2.1
abbrev R_scope_finder_within (r : (XApi_Fault × XScope_finder)) : AV := (.agg (cXApi_Fault r.1))
noncomputable def scope_finder_walk (fu : Nat) : XScope_finder → Int → Option (XApi_Fault × XScope_finder) := (scope_finder_all_grp fu).2.2
abbrev R_scope_finder_walk (r : (XApi_Fault × XScope_finder)) : AV := (.agg (cXApi_Fault r.1))
set_option maxHeartbeats 4000000 in
theorem T_scope_finder_all_B {fu nn : Nat} {rc24 : XScope_finder → (List Int) → Option (XApi_Fault × XScope_finder)} {rc66 : XScope_finder → (List Int) → Option (XApi_Fault × XScope_finder)} {rc43 : XScope_finder → Int → Option (XApi_Fault × XScope_finder)} (ih24 : ∀ {a0 : XScope_finder} {a1 : (List Int)} {r : (XApi_Fault × XScope_finder)}, rc24 a0 a1 = some r → den cx (fu + nn + 2) 24 [(.ownp (cXScope_finder_SIOLMe a0)), (.sl ((a1).map cInt_i64))] = some (R_scope_finder_all r, [(.ownp (cXScope_finder_SIOLMe r.2))])) (ih66 : ∀ {a0 : XScope_finder} {a1 : (List Int)} {r : (XApi_Fault × XScope_finder)}, rc66 a0 a1 = some r → den cx (fu + nn + 2) 66 [(.ownp (cXScope_finder_SIOLMe a0)), (.sl ((a1).map cInt_i64))] = some (R_scope_finder_within r, [(.ownp (cXScope_finder_SIOLMe r.2))])) (ih43 : ∀ {a0 : XScope_finder} {a1 : Int} {r : (XApi_Fault × XScope_finder)}, rc43 a0 a1 = some r → den cx (fu + nn + 2) 43 [(.ownp (cXScope_finder_SIOLMe a0)), (I a1)] = some (R_scope_finder_walk r, [(.ownp (cXScope_finder_SIOLMe r.2))])) {a0 : XScope_finder} {a1 : (List Int)} {r : (XApi_Fault × XScope_finder)} (hF : scope_finder_all_B fu rc24 rc66 rc43 a0 a1 = some r) : den cx (fu + nn + 3) 24 [(.ownp (cXScope_finder_SIOLMe a0)), (.sl ((a1).map cInt_i64))] = some (R_scope_finder_all r, [(.ownp (cXScope_finder_SIOLMe r.2))]) := by
 unfold scope_finder_all_B at hF
 refine fnA Try.func24 Try.ntmps24 (by exact spine) (sl := [0, 1]) ?_
 refine bb hF fun _ h1 hF => ?_
 have h1 : a0.room.2 ≤ a0.room.1.length := stk_le h1
 refine sr <| ww oAlloc <| nl <| sq <| sr <| pp oMove <| pp oLenSl <| pp oMove <| nl <| ?_
 refine lpR (fun (s : (XScope_finder × Int)) => mkSt 23 [0, 4, 8, 9, 10] [(.ownp (cXScope_finder_SIOLMe s.1)), (.ownp (cXApi_Fault (XApi_Fault.mk 0 0))), (.sl ((a1).map cInt_i64)), (I (a1.length : Int)), (I s.2)]) (fun (s : XScope_finder) => mkSt 23 [0, 4] [(.ownp (cXScope_finder_SIOLMe s)), (.ownp (cXApi_Fault (XApi_Fault.mk 0 0)))]) RR_scope_finder_all hF cutR' ?_ ?_ ?_
 · rintro ⟨y6, y7⟩ z1 hF
   replace hF : scope_finder_all_L1 rc43 a1 y6 y7 = some z1 := hF
   unfold scope_finder_all_L1 at hF
   refine mk ?_
   refine bb hF fun _ h3 hF => ?_
   have h3 : y6.room.2 ≤ y6.room.1.length := stk_le h3
   refine sr <| pp oLss <| nl <| sq <| ?_
   refine cd hF (fun hF => ?_) (fun hF => ?_)
   · refine sk <| qs <| sq <| bl <| sr <| ?_
     refine bb hF fun x1 h4 hF => ?_
     refine pp (oIx h4) <| pp oLd <| pp oAssign <| nl <| sr <| pp oMove <| pp oMove <| ?_
     refine bb hF fun x2 h5 hF => ?_
     refine ww (oCallT (ih43 h5)) <| ww oAlloc <| ww oStF <| nl <| sr <| pp oLdA <| pp oBuild <| pp (oStq (eq27_neq ..)) <| nl <| ?_
     refine cd hF (fun hF => ?_) (fun hF => ?_)
     · refine sr <| pp oLdA <| ww oStR <| nl <| rt <| qbR <| qsR <| ?_
       exact lr hF ⟨rfl, fin1⟩
     · refine sk <| qb <| qs <| rg <| pp oAdd <| pp oMove <| nl <| ?_
       exact ln hF cutR'
   · refine ex <| qsE <| ?_
     exact lxR hF cutR'
 · intro v1 hF
   refine qmk ?_
   refine bb hF fun _ h6 hF => ?_
   have h6 : v1.room.2 ≤ v1.room.1.length := stk_le h6
   refine qs <| sr <| pp oBuild <| ww oStR <| nl <| rt <| ?_
   obtain rfl := inj hF
   exact fin1
 · rintro r1 hF ⟨xe, xs⟩ ⟨hxe, hfin⟩
   obtain rfl : xe = Exit.ret := hxe
   obtain rfl := inj hF
   refine qbR <| qsR <| ?_
   exact hfin
set_option maxHeartbeats 4000000 in
theorem T_scope_finder_within_B {fu nn : Nat} {rc24 : XScope_finder → (List Int) → Option (XApi_Fault × XScope_finder)} {rc66 : XScope_finder → (List Int) → Option (XApi_Fault × XScope_finder)} {rc43 : XScope_finder → Int → Option (XApi_Fault × XScope_finder)} (ih24 : ∀ {a0 : XScope_finder} {a1 : (List Int)} {r : (XApi_Fault × XScope_finder)}, rc24 a0 a1 = some r → den cx (fu + nn + 2) 24 [(.ownp (cXScope_finder_SIOLMe a0)), (.sl ((a1).map cInt_i64))] = some (R_scope_finder_all r, [(.ownp (cXScope_finder_SIOLMe r.2))])) (ih66 : ∀ {a0 : XScope_finder} {a1 : (List Int)} {r : (XApi_Fault × XScope_finder)}, rc66 a0 a1 = some r → den cx (fu + nn + 2) 66 [(.ownp (cXScope_finder_SIOLMe a0)), (.sl ((a1).map cInt_i64))] = some (R_scope_finder_within r, [(.ownp (cXScope_finder_SIOLMe r.2))])) (ih43 : ∀ {a0 : XScope_finder} {a1 : Int} {r : (XApi_Fault × XScope_finder)}, rc43 a0 a1 = some r → den cx (fu + nn + 2) 43 [(.ownp (cXScope_finder_SIOLMe a0)), (I a1)] = some (R_scope_finder_walk r, [(.ownp (cXScope_finder_SIOLMe r.2))])) {a0 : XScope_finder} {a1 : (List Int)} {r : (XApi_Fault × XScope_finder)} (hF : scope_finder_within_B fu rc24 rc66 rc43 a0 a1 = some r) : den cx (fu + nn + 3) 66 [(.ownp (cXScope_finder_SIOLMe a0)), (.sl ((a1).map cInt_i64))] = some (R_scope_finder_within r, [(.ownp (cXScope_finder_SIOLMe r.2))]) := by
 unfold scope_finder_within_B at hF
 refine fnA Try.func66 Try.ntmps66 (by exact spine) (sl := [0, 1]) ?_
 refine bb hF fun _ h1 hF => ?_
 have h1 : a0.room.2 ≤ a0.room.1.length := stk_le h1
 refine sr <| ww oAlloc <| nl <| sr <| pp oMove <| pp oMove <| pp oNil <| pp oFAM <| rr oLdR <| ww oMkMap <| ww oBSM <| ?_
 refine bb hF fun x1 h2 hF => ?_
 have hk1 := app_get h2
 refine ww (oAppO h2 lle) <| pp oNil <| pp oFAM <| ww oStR <| nl <| ?_
 refine srC (fun (s : (XScope_finder × XApi_Fault)) => mkSt 34 [0, 4, 5] [(.ownp (cXScope_finder_SIOLMe s.1)), (.ownp (cXApi_Fault (XApi_Fault.mk 0 0))), (.vp (cXApi_Fault s.2))]) hF (fun z1 hF => ?_) (fun p1 hF => ?_)
 · refine pp oMove <| pp oMove <| ?_
   refine bb hF fun x2 h3 hF => ?_
   refine ww (oCallT (ih24 h3)) <| ww oAlloc <| ww oStF <| ?_
   obtain rfl := inj hF
   exact nlC cutR'
 · refine mk ?_
   refine bb hF fun _ h4 hF => ?_
   have h4 : p1.1.room.2 ≤ p1.1.room.1.length := stk_le h4
   refine srD <| pp oMove <| pp oMove <| pp oNil <| pp oFAM <| rr oLdR <| pp oMove <| pp oNil <| pp oFAM <| rr oLdR <| pp (oLenRs (m := p1.1.room.2)) <| pp oSub <| ?_
   refine bb hF fun x3 h5 hF => ?_
   refine rr (oCut h5) <| ?_
   have h6 : x3 ≤ p1.1.room.1.length := Nat.le_trans (cutN_le h5) lle
   refine pp oNil <| pp oFAM <| ww oStR <| nlD <| sr <| pp oLdA <| ww oStR <| nl <| rt <| ?_
   obtain rfl := inj hF
   exact fin1
set_option maxHeartbeats 4000000 in
theorem T_scope_finder_walk_B {fu nn : Nat} {rc24 : XScope_finder → (List Int) → Option (XApi_Fault × XScope_finder)} {rc66 : XScope_finder → (List Int) → Option (XApi_Fault × XScope_finder)} {rc43 : XScope_finder → Int → Option (XApi_Fault × XScope_finder)} (ih24 : ∀ {a0 : XScope_finder} {a1 : (List Int)} {r : (XApi_Fault × XScope_finder)}, rc24 a0 a1 = some r → den cx (fu + nn + 2) 24 [(.ownp (cXScope_finder_SIOLMe a0)), (.sl ((a1).map cInt_i64))] = some (R_scope_finder_all r, [(.ownp (cXScope_finder_SIOLMe r.2))])) (ih66 : ∀ {a0 : XScope_finder} {a1 : (List Int)} {r : (XApi_Fault × XScope_finder)}, rc66 a0 a1 = some r → den cx (fu + nn + 2) 66 [(.ownp (cXScope_finder_SIOLMe a0)), (.sl ((a1).map cInt_i64))] = some (R_scope_finder_within r, [(.ownp (cXScope_finder_SIOLMe r.2))])) (ih43 : ∀ {a0 : XScope_finder} {a1 : Int} {r : (XApi_Fault × XScope_finder)}, rc43 a0 a1 = some r → den cx (fu + nn + 2) 43 [(.ownp (cXScope_finder_SIOLMe a0)), (I a1)] = some (R_scope_finder_walk r, [(.ownp (cXScope_finder_SIOLMe r.2))])) {a0 : XScope_finder} {a1 : Int} {r : (XApi_Fault × XScope_finder)} (hF : scope_finder_walk_B fu rc24 rc66 rc43 a0 a1 = some r) : den cx (fu + nn + 3) 43 [(.ownp (cXScope_finder_SIOLMe a0)), (I a1)] = some (R_scope_finder_walk r, [(.ownp (cXScope_finder_SIOLMe r.2))]) := by
 unfold scope_finder_walk_B at hF
 refine fnA Try.func43 Try.ntmps43 (by exact spine) (sl := [0, 1]) ?_
 refine bb hF fun _ h1 hF => ?_
 have h1 : a0.room.2 ≤ a0.room.1.length := stk_le h1
 refine sr <| ww oAlloc <| nl <| sr <| pp oMove <| pp oNil <| pp oFAM <| pp oFAM <| rr oLdR <| pp oMove <| ?_
 refine bb hF fun x1 h2 hF => ?_
 refine pp (oIx h2) <| pp oLdA <| ww oAlloc <| ww oStF <| nl <| ?_
 refine sjn (r := r) (fun (s : XScope_finder) => mkSt 128 [0, 4, 5] [(.ownp (cXScope_finder_SIOLMe s)), (.ownp (cXApi_Fault (XApi_Fault.mk 0 0))), (.vp (cXApi_Node x1))]) (fun s => scope_finder_walk_J1 rc24 x1 s) ?_ ?_
 · refine sr <| pp oFA <| pp oLd <| nl <| bl <| ?_
   refine sjn (r := r) (fun (s : Bool) => mkSt 128 [0, 1, 4, 5, 19, 20] [(.ownp (cXScope_finder_SIOLMe (XScope_finder.mk a0.t a0.out (a0.room.1, a0.room.2)))), (I a1), (.ownp (cXApi_Fault (XApi_Fault.mk 0 0))), (.vp (cXApi_Node x1)), (I x1.Kind), (B s)]) (fun s => scope_finder_walk_J2 rc24 rc66 a0 a1 x1 s) ?_ ?_
   · refine sr <| pp oEql <| pp oAssign <| nl <| ?_
     refine cd hF (fun hF => ?_) (fun hF => ?_)
     · refine sk <| ?_
       exact qj (x1.Kind == 3) hF cutR'
     · refine sr <| pp oEql <| pp oAssign <| nl <| ?_
       refine cd hF (fun hF => ?_) (fun hF => ?_)
       · refine sk <| ?_
         exact qj (x1.Kind == 11) hF cutR'
       · refine sr <| pp oEql <| pp oAssign <| nl <| ?_
         refine cd hF (fun hF => ?_) (fun hF => ?_)
         · refine sk <| ?_
           exact qj (x1.Kind == 17) hF cutR'
         · refine rg <| pp oEql <| pp oAssign <| nl <| ?_
           exact qj (x1.Kind == 18) hF cutR'
   · rintro y2 hF
     replace hF : scope_finder_walk_J2 rc24 rc66 a0 a1 x1 y2 = some r := hF
     unfold scope_finder_walk_J2 at hF
     refine mk ?_
     refine bb hF fun _ h5 hF => ?_
     have h5 : (a0.room.1, a0.room.2).2 ≤ ((a0.room.1, a0.room.2).1).length := stk_le h5
     refine cd hF (fun hF => ?_) (fun hF => ?_)
     · refine sr <| pp oMove <| pp oFA <| pp oLd <| ?_
       refine bb hF fun x3 h6 hF => ?_
       refine ww (oCallT (ih66 h6)) <| ww oStR <| nl <| rt <| qbR <| qjR <| ?_
       obtain rfl := inj hF
       exact fin1
     · refine sr <| pp oEql <| pp oAssign <| nl <| ?_
       refine cd hF (fun hF => ?_) (fun hF => ?_)
       · refine sr <| pp oMove <| pp oMove <| pp oMove <| ?_
         refine bb hF fun x4 h7 hF => ?_
         refine ww (oCallTZ (T_scope_finder_declare h7)) <| pp oMove <| ?_
         refine bb hF fun x5 h8 hF => ?_
         refine rr (oCall (T_scope_finder_code h8)) <| ww oStR <| nl <| rt <| qbR <| qjR <| ?_
         obtain rfl := inj hF
         exact fin1
       · refine sr <| pp oEql <| pp oAssign <| nl <| ?_
         refine cd hF (fun hF => ?_) (fun hF => ?_)
         · refine sq <| sr <| pp oMove <| pp oFA <| pp oLd <| ?_
           refine bb hF fun x6 h9 hF => ?_
           refine ww (oCallT (ih24 h9)) <| ww oAlloc <| ww oStF <| nl <| sr <| pp oLdA <| pp oBuild <| pp (oStq (eq27_neq ..)) <| nl <| ?_
           refine cd hF (fun hF => ?_) (fun hF => ?_)
           · refine sr <| pp oLdA <| ww oStR <| nl <| rt <| qsR <| qbR <| qjR <| ?_
             obtain rfl := inj hF
             exact fin1
           · refine sk <| qs <| sr <| pp oMove <| pp oMove <| pp oMove <| ?_
             refine bb hF fun x7 h10 hF => ?_
             refine ww (oCallTZ (T_scope_finder_declare h10)) <| pp oMove <| ?_
             refine bb hF fun x8 h11 hF => ?_
             refine rr (oCall (T_scope_finder_code h11)) <| ww oStR <| nl <| rt <| qbR <| qjR <| ?_
             obtain rfl := inj hF
             exact fin1
         · refine sr <| pp oEql <| pp oAssign <| nl <| ?_
           refine cd hF (fun hF => ?_) (fun hF => ?_)
           · refine sr <| pp oMove <| pp oFA <| pp oLd <| ?_
             refine bb hF fun x9 h12 hF => ?_
             refine rr (oCallZ (T_scope_finder_find h12)) <| pp oAssign <| nl <| sq <| ?_
             refine srC (fun (s : Bool) => mkSt 128 [0, 1, 4, 5, 7, 72] [(.ownp (cXScope_finder_SIOLMe (XScope_finder.mk a0.t a0.out ((a0.room.1, a0.room.2).1, (a0.room.1, a0.room.2).2)))), (I a1), (.ownp (cXApi_Fault (XApi_Fault.mk 0 0))), (.vp (cXApi_Node x1)), (I x9), (B s)]) hF (fun z1 hF => ?_) (fun p1 hF => ?_)
             · refine pp oMove <| pp oLss <| pp oMove <| ?_
               refine spl (d := 61) hF (fun hF => ?_) (fun hF => ?_)
               · refine no fun u1 k1 hk1 => ?_
                 refine no fun u2 k2 hk2 => ?_
                 refine no fun u3 k3 hk3 => ?_
                 refine no fun u4 k4 hk4 => ?_
                 refine no fun u5 k5 hk5 => ?_
                 refine no fun u6 k6 hk6 => ?_
                 refine no fun u7 k7 hk7 => ?_
                 refine no fun u8 k8 hk8 => ?_
                 refine no fun u9 k9 hk9 => ?_
                 refine no fun u10 k10 hk10 => ?_
                 refine pp oPickT <| ?_
                 obtain rfl := inj hF
                 exact nlC cutR'
               · refine pt ar oMove <| pt ar oNil <| pt ar oFAM <| pt ar oFAM <| rt_ ar oLdR <| pt ar oMove <| ?_
                 refine bb hF fun x10 h13 hF => ?_
                 refine pt ar (oIx h13) <| pt ar oFA <| pt ar oLd <| pt ar oEql <| pp oPickF <| ?_
                 obtain rfl := inj hF
                 exact nlC cutR'
             · refine mk ?_
               refine bb hF fun _ h14 hF => ?_
               have h14 : ((a0.room.1, a0.room.2).1, (a0.room.1, a0.room.2).2).2 ≤ (((a0.room.1, a0.room.2).1, (a0.room.1, a0.room.2).2).1).length := stk_le h14
               refine cd hF (fun hF => ?_) (fun hF => ?_)
               · refine sr <| pp oMove <| ?_
                 refine bb hF fun x11 h15 hF => ?_
                 refine pp (oCall (T_core_Fault h15)) <| ww oStR <| nl <| rt <| qsR <| qbR <| qjR <| ?_
                 obtain rfl := inj hF
                 exact fin1
               · refine sk <| qs <| rg <| pp oMove <| pp oNil <| pp oFAM <| rr oLdR <| pp oMove <| pp oMove <| ?_
                 refine bb hF fun x12 h16 hF => ?_
                 refine rr (oIxM h16) <| ww (oStL (idx_nat h16) x9) <| nl <| qb <| ?_
                 exact qj (XScope_finder.mk a0.t (List.set a0.out ((a1) : Int).toNat x9) (((a0.room.1, a0.room.2).1, (a0.room.1, a0.room.2).2).1, ((a0.room.1, a0.room.2).1, (a0.room.1, a0.room.2).2).2)) hF cutR'
           · refine sr <| pp oEql <| pp oAssign <| nl <| ?_
             refine cd hF (fun hF => ?_) (fun hF => ?_)
             · refine srD <| pp oMove <| pp oNil <| pp oFAM <| rr oLdR <| ?_
               refine bb hF fun x13 h17 hF => ?_
               refine rr (oIxQ (idx_bt h17) (rowM (idx_take' h17))) <| ?_
               have hk11 := (idx_take' h17)
               have hk11t := idx_nat h17
               refine ww (oLdY (rowM (idx_take' h17)) setM) <| pp oFA <| pp oLd <| rr (oLk (k := x1.Text) (l := x13) (ek := vS) (ev := vI) (zv := (0 : Int))) <| pp oMove <| pp oExt <| pp oExt <| pp oAssign <| pp oAssign <| nlD <| bl <| ?_
               refine srC (fun (s : Bool) => mkSt 128 [0, 1, 4, 5, 8, 96] [(.ownp (cXScope_finder_SIOLMe (XScope_finder.mk a0.t a0.out ((List.set ((a0.room.1, a0.room.2).1) (((0) : Int).toNat) x13), (a0.room.1, a0.room.2).2)))), (I a1), (.ownp (cXApi_Fault (XApi_Fault.mk 0 0))), (.vp (cXApi_Node x1)), (I ((mget eqS x13 x1.Text).getD (0 : Int))), (B s)]) hF (fun z2 hF => ?_) (fun p2 hF => ?_)
               · refine pp oMove <| pp oMove <| ?_
                 refine spl (d := 98) hF (fun hF => ?_) (fun hF => ?_)
                 · refine pt ar oMove <| pt ar oNil <| pt ar oFAM <| pt ar oFAM <| rt_ ar oLdR <| pt ar oMove <| ?_
                   refine bb hF fun x14 h18 hF => ?_
                   refine pt ar (oIx h18) <| pt ar oFA <| pt ar oLd <| pt ar oEql <| pp oPickT <| pp oAssign <| ?_
                   obtain rfl := inj hF
                   exact nlC cutR'
                 · refine no fun u11 k11 hk12 => ?_
                   refine no fun u12 k12 hk13 => ?_
                   refine no fun u13 k13 hk14 => ?_
                   refine no fun u14 k14 hk15 => ?_
                   refine no fun u15 k15 hk16 => ?_
                   refine no fun u16 k16 hk17 => ?_
                   refine no fun u17 k17 hk18 => ?_
                   refine no fun u18 k18 hk19 => ?_
                   refine no fun u19 k19 hk20 => ?_
                   refine no fun u20 k20 hk21 => ?_
                   refine pp oPickF <| pp oAssign <| ?_
                   obtain rfl := inj hF
                   exact nlC cutR'
               · refine mk ?_
                 refine bb hF fun _ h19 hF => ?_
                 have h19 : ((List.set ((a0.room.1, a0.room.2).1) (((0) : Int).toNat) x13), (a0.room.1, a0.room.2).2).2 ≤ (((List.set ((a0.room.1, a0.room.2).1) (((0) : Int).toNat) x13), (a0.room.1, a0.room.2).2).1).length := stk_le h19
                 refine cd hF (fun hF => ?_) (fun hF => ?_)
                 · refine rg <| pp oMove <| pp oNil <| pp oFAM <| rr oLdR <| pp oMove <| pp oMove <| ?_
                   refine bb hF fun x15 h20 hF => ?_
                   refine rr (oIxM h20) <| ww (oStL (idx_nat h20) ((mget eqS x13 x1.Text).getD (0 : Int))) <| nl <| qb <| qb <| ?_
                   exact qj (XScope_finder.mk a0.t (List.set a0.out ((a1) : Int).toNat ((mget eqS x13 x1.Text).getD (0 : Int))) (((List.set ((a0.room.1, a0.room.2).1) (((0) : Int).toNat) x13), (a0.room.1, a0.room.2).2).1, ((List.set ((a0.room.1, a0.room.2).1) (((0) : Int).toNat) x13), (a0.room.1, a0.room.2).2).2)) hF cutR'
                 · refine sr <| pp oFA <| pp oLd <| ?_
                   refine bb hF fun x16 h21 hF => ?_
                   refine pp (oCallZ (T_scope_helps h21)) <| pp oNot <| pp oAssign <| nl <| ?_
                   refine cd hF (fun hF => ?_) (fun hF => ?_)
                   · refine sr <| pp oMove <| ?_
                     refine bb hF fun x17 h22 hF => ?_
                     refine pp (oCall (T_core_Fault h22)) <| ww oStR <| nl <| rt <| qbR <| qbR <| qjR <| ?_
                     obtain rfl := inj hF
                     exact fin1
                   · refine sk <| qb <| qb <| ?_
                     exact qj (XScope_finder.mk a0.t a0.out (((List.set ((a0.room.1, a0.room.2).1) (((0) : Int).toNat) x13), (a0.room.1, a0.room.2).2).1, ((List.set ((a0.room.1, a0.room.2).1) (((0) : Int).toNat) x13), (a0.room.1, a0.room.2).2).2)) hF cutR'
             · refine sk <| qb <| ?_
               exact qj (XScope_finder.mk a0.t a0.out ((a0.room.1, a0.room.2).1, (a0.room.1, a0.room.2).2)) hF cutR'
 · rintro y1 hF
   replace hF : scope_finder_walk_J1 rc24 x1 y1 = some r := hF
   unfold scope_finder_walk_J1 at hF
   refine mk ?_
   refine bb hF fun _ h3 hF => ?_
   have h3 : y1.room.2 ≤ y1.room.1.length := stk_le h3
   refine sr <| pp oMove <| pp oFA <| pp oLd <| ?_
   refine bb hF fun x2 h4 hF => ?_
   refine ww (oCallT (ih24 h4)) <| ww oStR <| nl <| rt <| ?_
   obtain rfl := inj hF
   exact fin1
theorem T_scope_finder_all_grp : ∀ (fu nn : Nat), (∀ {a0 : XScope_finder} {a1 : (List Int)} {r : (XApi_Fault × XScope_finder)}, scope_finder_all fu a0 a1 = some r → den cx (fu + nn + 3) 24 [(.ownp (cXScope_finder_SIOLMe a0)), (.sl ((a1).map cInt_i64))] = some (R_scope_finder_all r, [(.ownp (cXScope_finder_SIOLMe r.2))])) ∧ (∀ {a0 : XScope_finder} {a1 : (List Int)} {r : (XApi_Fault × XScope_finder)}, scope_finder_within fu a0 a1 = some r → den cx (fu + nn + 3) 66 [(.ownp (cXScope_finder_SIOLMe a0)), (.sl ((a1).map cInt_i64))] = some (R_scope_finder_within r, [(.ownp (cXScope_finder_SIOLMe r.2))])) ∧ (∀ {a0 : XScope_finder} {a1 : Int} {r : (XApi_Fault × XScope_finder)}, scope_finder_walk fu a0 a1 = some r → den cx (fu + nn + 3) 43 [(.ownp (cXScope_finder_SIOLMe a0)), (I a1)] = some (R_scope_finder_walk r, [(.ownp (cXScope_finder_SIOLMe r.2))]))
 | 0, _ => ⟨(fun h => by cases h), (fun h => by cases h), (fun h => by cases h)⟩
 | m + 1, nn => by
  have ih := T_scope_finder_all_grp m (nn + 0)
  rw [show m + (nn + 0) + 3 = m + (nn + 1) + 2 by omega] at ih
  rw [show m + 1 + nn + 3 = m + (nn + 1) + 3 by omega]
  exact ⟨fun h => T_scope_finder_all_B (fu := m) (nn := nn + 1) (rc24 := scope_finder_all m) (rc66 := scope_finder_within m) (rc43 := scope_finder_walk m) ih.1 ih.2.1 ih.2.2 h, fun h => T_scope_finder_within_B (fu := m) (nn := nn + 1) (rc24 := scope_finder_all m) (rc66 := scope_finder_within m) (rc43 := scope_finder_walk m) ih.1 ih.2.1 ih.2.2 h, fun h => T_scope_finder_walk_B (fu := m) (nn := nn + 1) (rc24 := scope_finder_all m) (rc66 := scope_finder_within m) (rc43 := scope_finder_walk m) ih.1 ih.2.1 ih.2.2 h⟩
theorem T_scope_finder_all {fu nn : Nat} {a0 : XScope_finder} {a1 : (List Int)} {r : (XApi_Fault × XScope_finder)} (hF : scope_finder_all fu a0 a1 = some r) : den cx (fu + nn + 3) 24 [(.ownp (cXScope_finder_SIOLMe a0)), (.sl ((a1).map cInt_i64))] = some (R_scope_finder_all r, [(.ownp (cXScope_finder_SIOLMe r.2))]) := (T_scope_finder_all_grp fu nn).1 hF
end Go.Ab
namespace Go.Ab
open Go Go.Proofs
noncomputable def scope_Names_L1 (x4 : (List Int)) (y8 : XScope_finder) (y9 : Int) : Option (Lp (XScope_finder × Int) XScope_finder) :=
 if (decide (y9 < (x4.length : Int))) then
 ((idx y8.out y9).bind fun x5 =>
 some (.next ((XScope_finder.mk y8.t (List.set y8.out ((y9) : Int).toNat (-1)) y8.room), (w64 (y9 + 1)))))
 else
 (some (.out y8))
noncomputable def scope_Names_R2 (a0 : XApi_Tree) (y15 : (Int × XApi_Node)) (y16 : XScope_finder) : Option (Rg XScope_finder (XApi_Tree × XApi_Fault × Int × XScope_finder)) :=
 (idx a0.Nodes (w64 ((a0.Nodes.length : Int) - 1))).bind fun x8 =>
 (idx x8.Kids y15.1).bind fun x9 =>
 (scope_helps y15.2.Text).bind fun x10 =>
 if x10 then
 ((core_Fault 12 x9).bind fun x11 =>
 some (.ret (a0, x11, (w64 ((a0.Nodes.length : Int) - 1)), y16)))
 else
 ((scope_finder_declare y16 x9).bind fun x12 =>
 if (x12.1 != 0) then
 ((core_Fault x12.1 x9).bind fun x13 =>
 some (.ret (a0, x13, (w64 ((a0.Nodes.length : Int) - 1)), x12.2)))
 else
 (some (.go x12.2)))
noncomputable def scope_Names (fu : Nat) (a0 : XApi_Tree) : Option ((List Int) × XApi_Fault) :=
 (tree_Check a0).bind fun x1 =>
 if (!((x1.Code == 0) && ((x1.At == 0) && true))) then
 (some ([], x1))
 else
 ((idx a0.Nodes (w64 ((a0.Nodes.length : Int) - 1))).bind fun x2 =>
 if (x2.Kind != 1) then
 ((core_Fault 11 0).bind fun x3 =>
 some ([], x3))
 else
 ((mks (a0.Nodes.length : Int) (0 : Int)).bind fun x4 =>
 (Loop (fun (s : (XScope_finder × Int)) => scope_Names_L1 x4 s.1 s.2) ((XScope_finder.mk a0 x4 ([([] : (List (ByteArray × Int)))], [([] : (List (ByteArray × Int)))].length)), 0)).bind fun v1 =>
 (ast_Kids a0 (w64 ((a0.Nodes.length : Int) - 1))).bind fun x6 =>
 (kidsOf XApi_Node.Kids x6.1.Nodes x6.2).bind fun x7 =>
 (RangeL (fun (y15 : (Int × XApi_Node)) (s : XScope_finder) => scope_Names_R2 a0 y15 s) x7 v1).bind (Rg.on (fun (s : XScope_finder) =>
 ((idx a0.Nodes (w64 ((a0.Nodes.length : Int) - 1))).bind fun x14 =>
 (scope_finder_all fu s x14.Kids).bind fun x15 =>
 if (!((x15.1.Code == 0) && ((x15.1.At == 0) && true))) then
 (some ([], x15.1))
 else
 (some (x15.2.out, (XApi_Fault.mk 0 0))))) (fun (s : (XApi_Tree × XApi_Fault × Int × XScope_finder)) =>
 (some ([], s.2.1))) (fun _ => none))))
abbrev R_scope_Names (r : ((List Int) × XApi_Fault)) : AV := (.tup [(.own ((r.1).map cInt_i64) (r.1).length), (.agg (cXApi_Fault r.2))])
set_option maxHeartbeats 4000000 in
theorem T_scope_Names {fu nn : Nat} {a0 : XApi_Tree} {r : ((List Int) × XApi_Fault)} (hF : scope_Names fu a0 = some r) : den cx (fu + nn + 6) 6 [(.agg (cXApi_Tree a0))] = some (R_scope_Names r, []) := by
 unfold scope_Names at hF
 refine fnA Try.func6 Try.ntmps6 (by exact spine) (sl := [0]) ?_
 refine sr <| pp oBoxF <| ww oAlloc <| ww oAlloc <| nl <| sq <| sr <| pp oLdA <| ?_
 refine bb hF fun x1 h1 hF => ?_
 refine pp (oCall (T_tree_Check h1)) <| ww oAlloc <| ww oStF <| nl <| sr <| pp oLdA <| pp oBuild <| pp (oStq (eq27_neq ..)) <| nl <| ?_
 refine cd hF (fun hF => ?_) (fun hF => ?_)
 · refine srD <| pp oLdA <| ww oStR <| ww oStR <| nlD <| rt <| qsR <| ?_
   obtain rfl := inj hF
   exact finT
 · refine sk <| qs <| sr <| pp oFA <| pp oLd <| pp oLenSl <| pp oSub <| ww oAlloc <| ww oStF <| nl <| sq <| sr <| pp oFA <| pp oLd <| ?_
   refine pp oLd <| ?_
   refine bb hF fun x2 h2 hF => ?_
   refine pp (oIx h2) <| pp oFA <| pp oLd <| pp oNeq <| nl <| ?_
   refine cd hF (fun hF => ?_) (fun hF => ?_)
   · refine sr <| ?_
     refine bb hF fun x3 h3 hF => ?_
     refine pp (oCall (T_core_Fault h3)) <| ww oStR <| ww oStR <| nl <| rt <| qsR <| ?_
     obtain rfl := inj hF
     exact finT
   · refine sk <| qs <| srD <| pp oLdA <| pp oFA <| pp oLd <| pp oLenSl <| ?_
     refine bb hF fun x4 h4 hF => ?_
     refine ww (oMake (c := cInt_i64) h4 rfl) <| ww oMkMap <| ww oBSM <| pp oBuild <| ww oBoxM <| ww oAlloc <| ww oStR <| nlD <| sq <| sr <| rr oLdR <| pp oNil <| pp oFAM <| rr oLdR <| ?_
     refine pp (oLenRs (m := x4.length)) <| pp oMove <| nl <| ?_
     refine lp (fun (s : (XScope_finder × Int)) => mkSt 99 [1, 2, 3, 5, 6, 44, 45] [(.vp (cXApi_Tree a0)), (.ownp [(.own (([] : List Int).map cInt_i64) ([] : List Int).length)]), (.ownp (cXApi_Fault (XApi_Fault.mk 0 0))), (.vp (cInt_i64 (w64 ((a0.Nodes.length : Int) - 1)))), (.ownp [(.ownp (cXScope_finder_SIOLMe s.1))]), (I (x4.length : Int)), (I s.2)]) (fun (s : XScope_finder) => mkSt 99 [1, 2, 3, 5, 6] [(.vp (cXApi_Tree a0)), (.ownp [(.own (([] : List Int).map cInt_i64) ([] : List Int).length)]), (.ownp (cXApi_Fault (XApi_Fault.mk 0 0))), (.vp (cInt_i64 (w64 ((a0.Nodes.length : Int) - 1)))), (.ownp [(.ownp (cXScope_finder_SIOLMe s))])]) hF cutR' ?_ ?_
     · rintro ⟨y8, y9⟩ z1 hF
       replace hF : scope_Names_L1 x4 y8 y9 = some z1 := hF
       unfold scope_Names_L1 at hF
       refine mk ?_
       refine sr <| pp oLss <| nl <| sq <| ?_
       refine cd hF (fun hF => ?_) (fun hF => ?_)
       · refine sk <| qs <| sq <| bl <| sr <| pp oMove <| pp oAssign <| nl <| rg <| rr oLdR <| pp oNil <| pp oFAM <| ww oLdX <| pp oMove <| ?_
         refine bb hF fun x5 h5 hF => ?_
         refine rr (oIxM h5) <| ww (oStL (idx_nat h5) (-1)) <| nl <| qb <| qs <| rg <| pp oAdd <| pp oMove <| nl <| ?_
         exact ln hF cutR'
       · refine ex <| qsE <| ?_
         exact lx hF cutR'
     · intro v1 hF
       refine qmk ?_
       refine qs <| sq <| sr <| pp oLdA <| pp oLd <| ?_
       refine bb hF fun x6 h6 hF => ?_
       refine pp (oCallZ (T_ast_Kids h6)) <| nl <| bl <| ?_
       refine bb hF fun x7 h7 hF => ?_
       refine rng2 (fun (s : XScope_finder) => mkSt 99 [1, 2, 3, 5, 6] [(.vp (cXApi_Tree a0)), (.ownp [(.own (([] : List Int).map cInt_i64) ([] : List Int).length)]), (.ownp (cXApi_Fault (XApi_Fault.mk 0 0))), (.vp (cInt_i64 (w64 ((a0.Nodes.length : Int) - 1)))), (.ownp [(.ownp (cXScope_finder_SIOLMe s))])]) (fun (s : (XApi_Tree × XApi_Fault × Int × XScope_finder)) => mkSt 99 [1, 2, 3, 5, 6] [(.vp (cXApi_Tree s.1)), (.ownp [(.own (([] : List Int).map cInt_i64) ([] : List Int).length)]), (.ownp (cXApi_Fault s.2.1)), (.vp (cInt_i64 s.2.2.1)), (.ownp [(.ownp (cXScope_finder_SIOLMe s.2.2.2))])]) 0 (enc := (kidE cXApi_Node)) hF (by exact kidsR (by rfl) h7) cutR' (fun _ => rfl) (fun _ => rfl) (by rfl) ?_ ?_ ?_ ?_
       · rintro y15 y16 z2 hF
         replace hF : scope_Names_R2 a0 y15 y16 = some z2 := hF
         unfold scope_Names_R2 at hF
         refine rmk ?_
         refine sr <| pp oAssign <| nl <| rg <| ww oAlloc <| ww oStF <| nl <| rga <| bl <| sr <| pp oFA <| pp oLd <| pp oLd <| ?_
         refine bb hF fun x8 h8 hF => ?_
         refine pp (oIx h8) <| pp oFA <| pp oLd <| pp oMove <| ?_
         refine bb hF fun x9 h9 hF => ?_
         refine pp (oIx h9) <| pp oLd <| pp oAssign <| nl <| sq <| sr <| pp oFA <| pp oLd <| ?_
         refine bb hF fun x10 h10 hF => ?_
         refine pp (oCallZ (T_scope_helps h10)) <| nl <| ?_
         refine cd hF (fun hF => ?_) (fun hF => ?_)
         · refine sr <| pp oMove <| ?_
           refine bb hF fun x11 h11 hF => ?_
           refine pp (oCall (T_core_Fault h11)) <| ww oStR <| ww oStR <| nl <| rt <| qsR <| qbR <| ?_
           exact rgr hF cutR'
         · refine sk <| qs <| sr <| rr oLdR <| pp oMove <| ?_
           refine bb hF fun x12 h12 hF => ?_
           refine ww (oCallTZ (T_scope_finder_declare h12)) <| pp oAssign <| nl <| sr <| pp oMove <| pp oNeq <| nl <| ?_
           refine cd hF (fun hF => ?_) (fun hF => ?_)
           · refine sr <| pp oMove <| pp oMove <| ?_
             refine bb hF fun x13 h13 hF => ?_
             refine pp (oCall (T_core_Fault h13)) <| ww oStR <| ww oStR <| nl <| rt <| qbR <| ?_
             exact rgr hF cutR'
           · refine sk <| qb <| ?_
             exact rgo hF cutR'
       · intro s hF
         refine qmk ?_
         refine qb <| qs <| sq <| srD <| rr oLdR <| pp oFA <| pp oLd <| pp oLd <| ?_
         refine bb hF fun x14 h14 hF => ?_
         refine pp (oIx h14) <| pp oFA <| pp oLd <| ?_
         refine bb hF fun x15 h15 hF => ?_
         refine ww (oCallT (dnE (T_scope_finder_all (fu := fu) (nn := nn + 2) h15) (by omega))) <| ww oAlloc <| ww oStF <| nlD <| sr <| pp oLdA <| pp oBuild <| pp (oStq (eq27_neq ..)) <| nl <| ?_
         refine cd hF (fun hF => ?_) (fun hF => ?_)
         · refine srD <| pp oLdA <| ww oStR <| ww oStR <| nlD <| rt <| qsR <| ?_
           obtain rfl := inj hF
           exact finT
         · refine sk <| qs <| sr <| rr oLdR <| pp oNil <| pp oFAM <| ww oLdX <| pp oBuild <| ww oStR <| ww oStR <| nl <| rt <| ?_
           obtain rfl := inj hF
           exact finT
       · intro s hF
         refine qmk ?_
         refine qbR <| qsR <| ?_
         obtain rfl := inj hF
         exact finT
       · exact fun _ hF => by cases hF
noncomputable def ref1_in (a0 : Int) (a1 : Int) (a2 : Int) : Option Bool :=
 some (if (decide (a1 ≤ a0)) then (decide (a0 ≤ a2)) else false)
abbrev R_ref1_in (r : Bool) : AV := (B r)
set_option maxHeartbeats 4000000 in
theorem T_ref1_in {nn : Nat} {a0 : Int} {a1 : Int} {a2 : Int} {r : Bool} (hF : ref1_in a0 a1 a2 = some r) : den cx (nn + 1) 44 [(I a0), (I a1), (I a2)] = some (R_ref1_in r, []) := by
 unfold ref1_in at hF
 refine fnA Try.func44 Try.ntmps44 (by exact spine) (sl := [0, 1, 2]) ?_
 refine sr <| pp oAssign <| nl <| sr <| pp oMove <| pp oMove <| pp oGeq <| pp oMove <| pg ar oMove <| pg ar oMove <| pg ar oLeq <| pp oPick <| pp oAssign <| nl <| ?_
 refine rt <| ?_
 obtain rfl := inj hF
 exact fin1
noncomputable def ref1_fault (a0 : Int) (a1 : Int) : Option XApi_Fault :=
 some (XApi_Fault.mk a0 a1)
abbrev R_ref1_fault (r : XApi_Fault) : AV := (.agg (cXApi_Fault r))
set_option maxHeartbeats 4000000 in
theorem T_ref1_fault {nn : Nat} {a0 : Int} {a1 : Int} {r : XApi_Fault} (hF : ref1_fault a0 a1 = some r) : den cx (nn + 1) 26 [(I a0), (I a1)] = some (R_ref1_fault r, []) := by
 unfold ref1_fault at hF
 refine fnA Try.func26 Try.ntmps26 (by exact spine) (sl := [0, 1]) ?_
 refine sr <| ww oAlloc <| nl <| sr <| pp oMove <| pp oMove <| pp oBuild <| ww oStR <| nl <| rt <| ?_
 obtain rfl := inj hF
 exact fin1
noncomputable def ref1_Expression (a0 : Int) : Option Bool :=
 (ref1_in a0 31 40).bind fun x1 =>
 some x1
abbrev R_ref1_Expression (r : Bool) : AV := (B r)
set_option maxHeartbeats 4000000 in
theorem T_ref1_Expression {nn : Nat} {a0 : Int} {r : Bool} (hF : ref1_Expression a0 = some r) : den cx (nn + 2) 52 [(I a0)] = some (R_ref1_Expression r, []) := by
 unfold ref1_Expression at hF
 refine fnA Try.func52 Try.ntmps52 (by exact spine) (sl := [0]) ?_
 refine sr <| pp oAssign <| nl <| sr <| pp oMove <| ?_
 refine bb hF fun x1 h1 hF => ?_
 refine pp (oCall (T_ref1_in h1)) <| pp oAssign <| nl <| rt <| ?_
 obtain rfl := inj hF
 exact fin1
noncomputable def ref1_kids (a0 : Int) : Option (Int × Int) :=
 if (if (if (a0 == 1) then true else (a0 == 11)) then true else (a0 == 33)) then
 (some (0, 1099511627776))
 else
 (if (if (a0 == 3) then true else (a0 == 18)) then
 (some (1, 1099511627776))
 else
 (if (a0 == 2) then
 (some (0, 200))
 else
 (if (if (a0 == 12) then true else (a0 == 23)) then
 (some (0, 1))
 else
 (if (if (if (if (a0 == 13) then true else (a0 == 19)) then true else (a0 == 35)) then true else (a0 == 40)) then
 (some (1, 1))
 else
 (if (a0 == 14) then
 (some (2, 3))
 else
 (if (if (if (if (if (if (a0 == 15) then true else (a0 == 16)) then true else (a0 == 34)) then true else (a0 == 36)) then true else (a0 == 37)) then true else (a0 == 39)) then
 (some (2, 2))
 else
 (if (a0 == 38) then
 (some (3, 3))
 else
 (if (a0 == 17) then
 (some (4, 4))
 else
 (some (0, 0))))))))))
abbrev R_ref1_kids (r : (Int × Int)) : AV := (.tup [(I r.1), (I r.2)])
set_option maxHeartbeats 4000000 in
theorem T_ref1_kids {nn : Nat} {a0 : Int} {r : (Int × Int)} (hF : ref1_kids a0 = some r) : den cx (nn + 1) 69 [(I a0)] = some (R_ref1_kids r, []) := by
 unfold ref1_kids at hF
 refine fnA Try.func69 Try.ntmps69 (by exact spine) (sl := [0]) ?_
 refine sr <| pp oAssign <| pp oAssign <| nl <| sq <| sr <| pp oMove <| pp oEql <| pp oMove <| pg ar oMove <| pg ar oEql <| pp oPick <| pp oMove <| pg ar oMove <| ?_
 refine pg ar oEql <| pp oPick <| nl <| ?_
 refine cd hF (fun hF => ?_) (fun hF => ?_)
 · refine sr <| pp oAssign <| pp oAssign <| nl <| rt <| qsR <| ?_
   obtain rfl := inj hF
   exact finT
 · refine sk <| qs <| sq <| sr <| pp oMove <| pp oEql <| pp oMove <| pg ar oMove <| pg ar oEql <| pp oPick <| nl <| ?_
   refine cd hF (fun hF => ?_) (fun hF => ?_)
   · refine sr <| pp oAssign <| pp oAssign <| nl <| rt <| qsR <| ?_
     obtain rfl := inj hF
     exact finT
   · refine sk <| qs <| sq <| sr <| pp oMove <| pp oEql <| nl <| ?_
     refine cd hF (fun hF => ?_) (fun hF => ?_)
     · refine sr <| pp oAssign <| pp oAssign <| nl <| rt <| qsR <| ?_
       obtain rfl := inj hF
       exact finT
     · refine sk <| qs <| sq <| sr <| pp oMove <| pp oEql <| pp oMove <| pg ar oMove <| pg ar oEql <| pp oPick <| nl <| ?_
       refine cd hF (fun hF => ?_) (fun hF => ?_)
       · refine sr <| pp oAssign <| pp oAssign <| nl <| rt <| qsR <| ?_
         obtain rfl := inj hF
         exact finT
       · refine sk <| qs <| sq <| sr <| pp oMove <| pp oEql <| pp oMove <| pg ar oMove <| pg ar oEql <| pp oPick <| pp oMove <| pg ar oMove <| pg ar oEql <| pp oPick <| ?_
         refine pp oMove <| pg ar oMove <| pg ar oEql <| pp oPick <| nl <| ?_
         refine cd hF (fun hF => ?_) (fun hF => ?_)
         · refine sr <| pp oAssign <| pp oAssign <| nl <| rt <| qsR <| ?_
           obtain rfl := inj hF
           exact finT
         · refine sk <| qs <| sq <| sr <| pp oMove <| pp oEql <| nl <| ?_
           refine cd hF (fun hF => ?_) (fun hF => ?_)
           · refine sr <| pp oAssign <| pp oAssign <| nl <| rt <| qsR <| ?_
             obtain rfl := inj hF
             exact finT
           · refine sk <| qs <| sq <| sr <| pp oMove <| pp oEql <| pp oMove <| pg ar oMove <| pg ar oEql <| pp oPick <| pp oMove <| pg ar oMove <| pg ar oEql <| pp oPick <| ?_
             refine pp oMove <| pg ar oMove <| pg ar oEql <| pp oPick <| pp oMove <| pg ar oMove <| pg ar oEql <| pp oPick <| pp oMove <| pg ar oMove <| pg ar oEql <| pp oPick <| nl <| ?_
             refine cd hF (fun hF => ?_) (fun hF => ?_)
             · refine sr <| pp oAssign <| pp oAssign <| nl <| rt <| qsR <| ?_
               obtain rfl := inj hF
               exact finT
             · refine sk <| qs <| sq <| sr <| pp oMove <| pp oEql <| nl <| ?_
               refine cd hF (fun hF => ?_) (fun hF => ?_)
               · refine sr <| pp oAssign <| pp oAssign <| nl <| rt <| qsR <| ?_
                 obtain rfl := inj hF
                 exact finT
               · refine sk <| qs <| sq <| sr <| pp oMove <| pp oEql <| nl <| ?_
                 refine cd hF (fun hF => ?_) (fun hF => ?_)
                 · refine sr <| pp oAssign <| pp oAssign <| nl <| rt <| qsR <| ?_
                   obtain rfl := inj hF
                   exact finT
                 · refine sk <| qs <| sr <| pp oAssign <| pp oAssign <| nl <| rt <| ?_
                   obtain rfl := inj hF
                   exact finT
noncomputable def ref1_Statement (a0 : Int) : Option Bool :=
 ((ref1_in a0 11 18).bind fun x1 =>
 if x1 then
 (some true)
 else
 ((ref1_in a0 21 24).bind fun x2 =>
 some x2)).bind fun p1 =>
 some p1
abbrev R_ref1_Statement (r : Bool) : AV := (B r)
set_option maxHeartbeats 4000000 in
theorem T_ref1_Statement {nn : Nat} {a0 : Int} {r : Bool} (hF : ref1_Statement a0 = some r) : den cx (nn + 2) 95 [(I a0)] = some (R_ref1_Statement r, []) := by
 unfold ref1_Statement at hF
 refine fnA Try.func95 Try.ntmps95 (by exact spine) (sl := [0]) ?_
 refine sr <| pp oAssign <| nl <| ?_
 refine srC (fun (s : Bool) => mkSt 9 [2] [(B s)]) hF (fun z1 hF => ?_) (fun p1 hF => ?_)
 · refine pp oMove <| ?_
   refine bb hF fun x1 h1 hF => ?_
   refine pp (oCall (T_ref1_in h1)) <| pp oMove <| ?_
   refine spl (d := 5) hF (fun hF => ?_) (fun hF => ?_)
   · refine no fun u1 k1 hk1 => ?_
     refine no fun u2 k2 hk2 => ?_
     refine pp oPickT <| pp oAssign <| ?_
     obtain rfl := inj hF
     exact nlC cutR'
   · refine pt ar oMove <| ?_
     refine bb hF fun x2 h2 hF => ?_
     refine pt ar (oCall (T_ref1_in h2)) <| pp oPickF <| pp oAssign <| ?_
     obtain rfl := inj hF
     exact nlC cutR'
 · refine mk ?_
   refine rt <| ?_
   obtain rfl := inj hF
   exact fin1
noncomputable def ref1_goes (a0 : Int) (a1 : Int) (a2 : Int) (a3 : Int) : Option Bool :=
 if (a0 == 1) then
 (some (if (a3 == 2) then true else (a3 == 3)))
 else
 (if (a0 == 3) then
 (if (a1 == (w64 (a2 - 1))) then
 (some (a3 == 11))
 else
 (some (a3 == 4)))
 else
 (if (a0 == 11) then
 ((ref1_Statement a3).bind fun x1 =>
 some x1)
 else
 (if (if (a0 == 18) then (decide (0 < a1)) else false) then
 ((ref1_Statement a3).bind fun x2 =>
 some (if (if x2 then true else (a3 == 19)) then true else (a3 == 20)))
 else
 (if (if (if (if (if (a0 == 14) then true else (a0 == 15)) then (decide (0 < a1)) else false) then true else (if (a0 == 16) then (a1 == 0) else false)) then true else (if (a0 == 17) then (a1 == 3) else false)) then
 (some (a3 == 11))
 else
 (if (if (a0 == 17) then (a1 == 0) else false) then
 (some (if (if (a3 == 12) then true else (a3 == 13)) then true else (a3 == 24)))
 else
 (if (if (a0 == 17) then (a1 == 1) else false) then
 ((ref1_Expression a3).bind fun x3 =>
 some (if x3 then true else (a3 == 24)))
 else
 (if (if (a0 == 17) then (a1 == 2) else false) then
 (some (if (a3 == 13) then true else (a3 == 24)))
 else
 ((ref1_Expression a3).bind fun x4 =>
 some x4))))))))
abbrev R_ref1_goes (r : Bool) : AV := (B r)
set_option maxHeartbeats 4000000 in
theorem T_ref1_goes {nn : Nat} {a0 : Int} {a1 : Int} {a2 : Int} {a3 : Int} {r : Bool} (hF : ref1_goes a0 a1 a2 a3 = some r) : den cx (nn + 3) 70 [(I a0), (I a1), (I a2), (I a3)] = some (R_ref1_goes r, []) := by
 unfold ref1_goes at hF
 refine fnA Try.func70 Try.ntmps70 (by exact spine) (sl := [0, 1, 2, 3]) ?_
 refine sr <| pp oAssign <| nl <| sq <| sr <| pp oMove <| pp oEql <| nl <| ?_
 refine cd hF (fun hF => ?_) (fun hF => ?_)
 · refine sr <| pp oMove <| pp oEql <| pp oMove <| pg ar oMove <| pg ar oEql <| pp oPick <| pp oAssign <| nl <| rt <| qsR <| ?_
   obtain rfl := inj hF
   exact fin1
 · refine sk <| qs <| sq <| sr <| pp oMove <| pp oEql <| nl <| ?_
   refine cd hF (fun hF => ?_) (fun hF => ?_)
   · refine sq <| sr <| pp oMove <| pp oMove <| pp oSub <| pp oEql <| nl <| ?_
     refine cd hF (fun hF => ?_) (fun hF => ?_)
     · refine sr <| pp oMove <| pp oEql <| pp oAssign <| nl <| rt <| qsR <| qsR <| ?_
       obtain rfl := inj hF
       exact fin1
     · refine sk <| qs <| sr <| pp oMove <| pp oEql <| pp oAssign <| nl <| rt <| qsR <| ?_
       obtain rfl := inj hF
       exact fin1
   · refine sk <| qs <| sq <| sr <| pp oMove <| pp oEql <| nl <| ?_
     refine cd hF (fun hF => ?_) (fun hF => ?_)
     · refine sr <| pp oMove <| ?_
       refine bb hF fun x1 h1 hF => ?_
       refine pp (oCall (T_ref1_Statement h1)) <| pp oAssign <| nl <| rt <| qsR <| ?_
       obtain rfl := inj hF
       exact fin1
     · refine sk <| qs <| sq <| sr <| pp oMove <| pp oEql <| pp oMove <| pg ar oMove <| pg ar oGtr <| pp oPick <| nl <| ?_
       refine cd hF (fun hF => ?_) (fun hF => ?_)
       · refine sr <| pp oMove <| ?_
         refine bb hF fun x2 h2 hF => ?_
         refine pp (oCall (T_ref1_Statement h2)) <| pp oMove <| pg ar oMove <| pg ar oEql <| pp oPick <| pp oMove <| pg ar oMove <| pg ar oEql <| pp oPick <| pp oAssign <| nl <| rt <| qsR <| ?_
         obtain rfl := inj hF
         exact fin1
       · refine sk <| qs <| sq <| sr <| pp oMove <| pp oEql <| pp oMove <| pg ar oMove <| pg ar oEql <| pp oPick <| pp oMove <| pg ar oMove <| pg ar oGtr <| pp oPick <| ?_
         refine pp oMove <| pg ar oMove <| pg ar oEql <| pg ar oMove <| pg ar oMove <| pg ar oEql <| pg ar oPick <| pp oPick <| pp oMove <| pg ar oMove <| pg ar oEql <| pg ar oMove <| pg ar oMove <| pg ar oEql <| ?_
         refine pg ar oPick <| pp oPick <| nl <| ?_
         refine cd hF (fun hF => ?_) (fun hF => ?_)
         · refine sr <| pp oMove <| pp oEql <| pp oAssign <| nl <| rt <| qsR <| ?_
           obtain rfl := inj hF
           exact fin1
         · refine sk <| qs <| sq <| sr <| pp oMove <| pp oEql <| pp oMove <| pg ar oMove <| pg ar oEql <| pp oPick <| nl <| ?_
           refine cd hF (fun hF => ?_) (fun hF => ?_)
           · refine sr <| pp oMove <| pp oEql <| pp oMove <| pg ar oMove <| pg ar oEql <| pp oPick <| pp oMove <| pg ar oMove <| pg ar oEql <| pp oPick <| pp oAssign <| nl <| rt <| ?_
             refine qsR <| ?_
             obtain rfl := inj hF
             exact fin1
           · refine sk <| qs <| sq <| sr <| pp oMove <| pp oEql <| pp oMove <| pg ar oMove <| pg ar oEql <| pp oPick <| nl <| ?_
             refine cd hF (fun hF => ?_) (fun hF => ?_)
             · refine sr <| pp oMove <| ?_
               refine bb hF fun x3 h3 hF => ?_
               refine pp (oCall (T_ref1_Expression h3)) <| pp oMove <| pg ar oMove <| pg ar oEql <| pp oPick <| pp oAssign <| nl <| rt <| qsR <| ?_
               obtain rfl := inj hF
               exact fin1
             · refine sk <| qs <| sq <| sr <| pp oMove <| pp oEql <| pp oMove <| pg ar oMove <| pg ar oEql <| pp oPick <| nl <| ?_
               refine cd hF (fun hF => ?_) (fun hF => ?_)
               · refine sr <| pp oMove <| pp oEql <| pp oMove <| pg ar oMove <| pg ar oEql <| pp oPick <| pp oAssign <| nl <| rt <| qsR <| ?_
                 obtain rfl := inj hF
                 exact fin1
               · refine sk <| qs <| sr <| pp oMove <| ?_
                 refine bb hF fun x4 h4 hF => ?_
                 refine pp (oCall (T_ref1_Expression h4)) <| pp oAssign <| nl <| rt <| ?_
                 obtain rfl := inj hF
                 exact fin1
noncomputable def ref1_Many_L1 (rc : XApi_Tree → Int → Option Int) (a0 : XApi_Tree) (a1 : Int) (y5 : Int) (y6 : Int) : Option (Lp (Int × Int) Int) :=
 (idx a0.Nodes a1).bind fun x1 =>
 if (decide (y6 < (x1.Kids.length : Int))) then
 ((idx a0.Nodes a1).bind fun x2 =>
 (idx x2.Kids y6).bind fun x3 =>
 (rc a0 x3).bind fun x4 =>
 some (.next ((w64 (y5 + x4)), (w64 (y6 + 1)))))
 else
 (some (.out y5))
noncomputable def ref1_Many_B (rc : XApi_Tree → Int → Option Int) (a0 : XApi_Tree) (a1 : Int) : Option Int :=
 (Loop (fun (s : (Int × Int)) => ref1_Many_L1 rc a0 a1 s.1 s.2) (1, 0)).bind fun v1 =>
 some v1
noncomputable def ref1_Many : Nat → XApi_Tree → Int → Option Int
 | 0 => fun _ _ => none
 | m + 1 => ref1_Many_B (ref1_Many m)
abbrev R_ref1_Many (r : Int) : AV := (I r)
set_option maxHeartbeats 4000000 in
theorem T_ref1_Many_B {nn : Nat} {rc : XApi_Tree → Int → Option Int} (ih : ∀ {a0 : XApi_Tree} {a1 : Int} {r : Int}, rc a0 a1 = some r → den cx (nn + 0) 46 [(.agg (cXApi_Tree a0)), (I a1)] = some (R_ref1_Many r, [])) {a0 : XApi_Tree} {a1 : Int} {r : Int} (hF : ref1_Many_B rc a0 a1 = some r) : den cx (nn + 1) 46 [(.agg (cXApi_Tree a0)), (I a1)] = some (R_ref1_Many r, []) := by
 unfold ref1_Many_B at hF
 refine fnA Try.func46 Try.ntmps46 (by exact spine) (sl := [0, 1]) ?_
 refine sr <| pp oBoxF <| pp oAssign <| nl <| sr <| pp oAssign <| nl <| sq <| sr <| pp oAssign <| nl <| ?_
 refine lp (fun (s : (Int × Int)) => mkSt 32 [1, 2, 5, 6] [(I a1), (.vp (cXApi_Tree a0)), (I s.1), (I s.2)]) (fun (s : Int) => mkSt 32 [5] [(I s)]) hF cutR' ?_ ?_
 · rintro ⟨y5, y6⟩ z1 hF
   replace hF : ref1_Many_L1 rc a0 a1 y5 y6 = some z1 := hF
   unfold ref1_Many_L1 at hF
   refine mk ?_
   refine sq <| sr <| pp oMove <| pp oFA <| pp oLd <| pp oMove <| ?_
   refine bb hF fun x1 h1 hF => ?_
   refine pp (oIx h1) <| pp oFA <| pp oLd <| pp oLenSl <| pp oLss <| nl <| ?_
   refine cd hF (fun hF => ?_) (fun hF => ?_)
   · refine sk <| qs <| sq <| bl <| rgD <| pp oMove <| pp oLdA <| pp oFA <| pp oLd <| pp oMove <| ?_
     refine bb hF fun x2 h2 hF => ?_
     refine pp (oIx h2) <| pp oFA <| pp oLd <| pp oMove <| ?_
     refine bb hF fun x3 h3 hF => ?_
     refine pp (oIx h3) <| pp oLd <| ?_
     refine bb hF fun x4 h4 hF => ?_
     refine pp (oCallZ (ih h4)) <| pp oAdd <| pp oAssign <| nlD <| qb <| qs <| rg <| pp oMove <| pp oAdd <| pp oAssign <| nl <| ?_
     exact ln hF cutR'
   · refine ex <| qsE <| ?_
     exact lx hF cutR'
 · intro v1 hF
   refine qmk ?_
   refine qs <| sr <| pp oMove <| pp oAssign <| nl <| rt <| ?_
   obtain rfl := inj hF
   exact fin1
theorem T_ref1_Many : ∀ {fu nn : Nat} {a0 : XApi_Tree} {a1 : Int} {r : Int} (hF : ref1_Many fu a0 a1 = some r), den cx (fu + nn + 1) 46 [(.agg (cXApi_Tree a0)), (I a1)] = some (R_ref1_Many r, [])
 | 0, _, _, _, _, hF => by cases hF
 | m + 1, nn, _, _, _, hF => by
  rw [show m + 1 + nn + 1 = m + nn + 1 + 1 by omega]
  refine T_ref1_Many_B (nn := m + nn + 1) (rc := ref1_Many m) (fun h => ?_) hF
  have := T_ref1_Many (nn := nn) h
  rwa [show m + nn + 1 = m + nn + 1 + 0 by omega] at this
noncomputable def ref1_Named (a0 : Int) : Option Bool :=
 some (if (if (if (if (if (a0 == 2) then true else (a0 == 3)) then true else (a0 == 4)) then true else (a0 == 12)) then true else (a0 == 32)) then true else (a0 == 33))
abbrev R_ref1_Named (r : Bool) : AV := (B r)
set_option maxHeartbeats 4000000 in
theorem T_ref1_Named {nn : Nat} {a0 : Int} {r : Bool} (hF : ref1_Named a0 = some r) : den cx (nn + 1) 71 [(I a0)] = some (R_ref1_Named r, []) := by
 unfold ref1_Named at hF
 refine fnA Try.func71 Try.ntmps71 (by exact spine) (sl := [0]) ?_
 refine sr <| pp oAssign <| nl <| sr <| pp oMove <| pp oEql <| pp oMove <| pg ar oMove <| pg ar oEql <| pp oPick <| pp oMove <| pg ar oMove <| pg ar oEql <| pp oPick <| ?_
 refine pp oMove <| pg ar oMove <| pg ar oEql <| pp oPick <| pp oMove <| pg ar oMove <| pg ar oEql <| pp oPick <| pp oMove <| pg ar oMove <| pg ar oEql <| pp oPick <| pp oAssign <| nl <| ?_
 refine rt <| ?_
 obtain rfl := inj hF
 exact fin1
noncomputable def ref1_digit (a0 : Int) : Option Bool :=
 some (if (decide (48 ≤ a0)) then (decide (a0 ≤ 57)) else false)
abbrev R_ref1_digit (r : Bool) : AV := (B r)
set_option maxHeartbeats 4000000 in
theorem T_ref1_digit {nn : Nat} {a0 : Int} {r : Bool} (hF : ref1_digit a0 = some r) : den cx (nn + 1) 96 [(AV.val (.int .u8 a0))] = some (R_ref1_digit r, []) := by
 unfold ref1_digit at hF
 refine fnA Try.func96 Try.ntmps96 (by exact spine) (sl := [0]) ?_
 refine sr <| pp oAssign <| nl <| sr <| pp oMove <| pp oGeq <| pp oMove <| pg ar oMove <| pg ar oLeq <| pp oPick <| pp oAssign <| nl <| rt <| ?_
 obtain rfl := inj hF
 exact fin1
noncomputable def ref1_letter (a0 : Int) : Option Bool :=
 some (if (if (if (decide (97 ≤ a0)) then (decide (a0 ≤ 122)) else false) then true else (if (decide (65 ≤ a0)) then (decide (a0 ≤ 90)) else false)) then true else (a0 == 95))
abbrev R_ref1_letter (r : Bool) : AV := (B r)
set_option maxHeartbeats 4000000 in
theorem T_ref1_letter {nn : Nat} {a0 : Int} {r : Bool} (hF : ref1_letter a0 = some r) : den cx (nn + 1) 97 [(AV.val (.int .u8 a0))] = some (R_ref1_letter r, []) := by
 unfold ref1_letter at hF
 refine fnA Try.func97 Try.ntmps97 (by exact spine) (sl := [0]) ?_
 refine sr <| pp oAssign <| nl <| sr <| pp oMove <| pp oGeq <| pp oMove <| pg ar oMove <| pg ar oLeq <| pp oPick <| pp oMove <| pg ar oMove <| pg ar oGeq <| pg ar oMove <| ?_
 refine pg ar oMove <| pg ar oLeq <| pg ar oPick <| pp oPick <| pp oMove <| pg ar oMove <| pg ar oEql <| pp oPick <| pp oAssign <| nl <| rt <| ?_
 obtain rfl := inj hF
 exact fin1
noncomputable def ref1_Name_L1 (a0 : ByteArray) (y3 : Int) : Option (Lp Int (Br Unit Bool)) :=
 if (decide (y3 < (a0.size : Int))) then
 (((sidx a0 y3).bind fun x4 =>
 (ref1_letter (x4.toNat : Int)).bind fun x5 =>
 if (!x5) then
 ((sidx a0 y3).bind fun x6 =>
 (ref1_digit (x6.toNat : Int)).bind fun x7 =>
 some (!x7))
 else
 (some false)).bind fun p2 =>
 if p2 then
 (some (.out (.ret false)))
 else
 (some (.next (w64 (y3 + 1)))))
 else
 (some (.out (.brk ())))
noncomputable def ref1_Name (a0 : ByteArray) : Option Bool :=
 ((ref1_in (a0.size : Int) 1 12).bind fun x1 =>
 if (!x1) then
 (some true)
 else
 ((sidx a0 0).bind fun x2 =>
 (ref1_digit (x2.toNat : Int)).bind fun x3 =>
 some x3)).bind fun p1 =>
 if p1 then
 (some false)
 else
 ((Loop (fun (s : Int) => ref1_Name_L1 a0 s) 0).bind (Br.go (fun _ =>
 some true) (fun r1 => some r1)))
abbrev R_ref1_Name (r : Bool) : AV := (B r)
def RR_ref1_Name (r : Bool) (x : Exit × St) : Prop := x.1 = .ret ∧ Fin cx [.tmp 2] [] (R_ref1_Name r) [] x
set_option maxHeartbeats 4000000 in
theorem T_ref1_Name {nn : Nat} {a0 : ByteArray} {r : Bool} (hF : ref1_Name a0 = some r) : den cx (nn + 2) 72 [(AV.val (.string a0))] = some (R_ref1_Name r, []) := by
 unfold ref1_Name at hF
 refine fnA Try.func72 Try.ntmps72 (by exact spine) (sl := [0]) ?_
 refine sr <| pp oAssign <| nl <| sq <| ?_
 refine srC (fun (s : Bool) => mkSt 31 [0, 12] [(AV.val (.string a0)), (B s)]) hF (fun z3 hF => ?_) (fun p1 hF => ?_)
 · refine pp oMove <| pp oLenS <| ?_
   refine bb hF fun x1 h1 hF => ?_
   refine pp (oCallZ (T_ref1_in h1)) <| pp oNot <| pp oMove <| ?_
   refine spl (d := 8) hF (fun hF => ?_) (fun hF => ?_)
   · refine no fun u1 k1 hk1 => ?_
     refine no fun u2 k2 hk2 => ?_
     refine no fun u3 k3 hk3 => ?_
     refine pp oPickT <| ?_
     obtain rfl := inj hF
     exact nlC cutR'
   · refine pt ar oMove <| ?_
     refine bb hF fun x2 h2 hF => ?_
     refine pt ar (oIxS h2) <| ?_
     refine bb hF fun x3 h3 hF => ?_
     refine pt ar (oCallZ (T_ref1_digit h3)) <| pp oPickF <| ?_
     obtain rfl := inj hF
     exact nlC cutR'
 · refine mk ?_
   refine cd hF (fun hF => ?_) (fun hF => ?_)
   · refine sr <| pp oAssign <| nl <| rt <| qsR <| ?_
     obtain rfl := inj hF
     exact fin1
   · refine sk <| qs <| sq <| sr <| pp oAssign <| nl <| ?_
     refine lpR (fun (s : Int) => mkSt 31 [0, 3] [(AV.val (.string a0)), (I s)]) (fun (s : Unit) => mkSt 31 [] []) RR_ref1_Name hF cutR' ?_ ?_ ?_
     · rintro y3 z1 hF
       replace hF : ref1_Name_L1 a0 y3 = some z1 := hF
       unfold ref1_Name_L1 at hF
       refine mk ?_
       refine sq <| sr <| pp oMove <| pp oMove <| pp oLenS <| pp oLss <| nl <| ?_
       refine cd hF (fun hF => ?_) (fun hF => ?_)
       · refine sk <| qs <| sq <| bl <| ?_
         refine srC (fun (s : Bool) => mkSt 31 [0, 3, 30] [(AV.val (.string a0)), (I y3), (B s)]) hF (fun z2 hF => ?_) (fun p2 hF => ?_)
         · refine pp oMove <| pp oMove <| ?_
           refine bb hF fun x4 h4 hF => ?_
           refine pp (oIxS h4) <| ?_
           refine bb hF fun x5 h5 hF => ?_
           refine pp (oCallZ (T_ref1_letter h5)) <| pp oNot <| pp oMove <| ?_
           refine spl (d := 24) hF (fun hF => ?_) (fun hF => ?_)
           · refine pt ar oMove <| pt ar oMove <| ?_
             refine bb hF fun x6 h6 hF => ?_
             refine pt ar (oIxS h6) <| ?_
             refine bb hF fun x7 h7 hF => ?_
             refine pt ar (oCallZ (T_ref1_digit h7)) <| pt ar oNot <| pp oPickT <| ?_
             obtain rfl := inj hF
             exact nlC cutR'
           · refine no fun u4 k4 hk4 => ?_
             refine no fun u5 k5 hk5 => ?_
             refine no fun u6 k6 hk6 => ?_
             refine no fun u7 k7 hk7 => ?_
             refine no fun u8 k8 hk8 => ?_
             refine pp oPickF <| ?_
             obtain rfl := inj hF
             exact nlC cutR'
         · refine mk ?_
           refine cd hF (fun hF => ?_) (fun hF => ?_)
           · refine sr <| pp oAssign <| nl <| rt <| qbR <| qsR <| ?_
             exact lr hF ⟨rfl, fin1⟩
           · refine sk <| qb <| qs <| rg <| pp oMove <| pp oAdd <| pp oAssign <| nl <| ?_
             exact ln hF cutR'
       · refine ex <| qsE <| ?_
         exact lxR hF cutR'
     · intro _ hF
       refine qmk ?_
       refine qs <| sr <| pp oAssign <| nl <| rt <| ?_
       obtain rfl := inj hF
       exact fin1
     · rintro r1 hF ⟨xe, xs⟩ ⟨hxe, hfin⟩
       obtain rfl : xe = Exit.ret := hxe
       obtain rfl := inj hF
       refine qbR <| qsR <| ?_
       exact hfin
noncomputable def ref1_among_L1 (a0 : (List ByteArray)) (a1 : ByteArray) (y4 : Int) : Option (Lp Int (Br Unit Bool)) :=
 if (decide (y4 < (a0.length : Int))) then
 ((idx a0 y4).bind fun x1 =>
 if (x1.toList == a1.toList) then
 (some (.out (.ret true)))
 else
 (some (.next (w64 (y4 + 1)))))
 else
 (some (.out (.brk ())))
noncomputable def ref1_among (a0 : (List ByteArray)) (a1 : ByteArray) : Option Bool :=
 (Loop (fun (s : Int) => ref1_among_L1 a0 a1 s) 0).bind (Br.go (fun _ =>
 some false) (fun r1 => some r1))
abbrev R_ref1_among (r : Bool) : AV := (B r)
def RR_ref1_among (r : Bool) (x : Exit × St) : Prop := x.1 = .ret ∧ Fin cx [.tmp 4] [] (R_ref1_among r) [] x
set_option maxHeartbeats 4000000 in
theorem T_ref1_among {nn : Nat} {a0 : (List ByteArray)} {a1 : ByteArray} {r : Bool} (hF : ref1_among a0 a1 = some r) : den cx (nn + 1) 98 [(.sl ((a0).map cStr)), (AV.val (.string a1))] = some (R_ref1_among r, []) := by
 unfold ref1_among at hF
 refine fnA Try.func98 Try.ntmps98 (by exact spine) (sl := [0, 1]) ?_
 refine sr <| pp oAssign <| nl <| sq <| sr <| pp oAssign <| nl <| ?_
 refine lpR (fun (s : Int) => mkSt 18 [0, 1, 5] [(.sl ((a0).map cStr)), (AV.val (.string a1)), (I s)]) (fun (s : Unit) => mkSt 18 [] []) RR_ref1_among hF cutR' ?_ ?_ ?_
 · rintro y4 z1 hF
   replace hF : ref1_among_L1 a0 a1 y4 = some z1 := hF
   unfold ref1_among_L1 at hF
   refine mk ?_
   refine sq <| sr <| pp oMove <| pp oMove <| pp oLenSl <| pp oLss <| nl <| ?_
   refine cd hF (fun hF => ?_) (fun hF => ?_)
   · refine sk <| qs <| sq <| bl <| sr <| pp oMove <| pp oMove <| ?_
     refine bb hF fun x1 h1 hF => ?_
     refine pp (oIx h1) <| pp oLd <| pp oMove <| pp oEqlS <| nl <| ?_
     refine cd hF (fun hF => ?_) (fun hF => ?_)
     · refine sr <| pp oAssign <| nl <| rt <| qbR <| qsR <| ?_
       exact lr hF ⟨rfl, fin1⟩
     · refine sk <| qb <| qs <| rg <| pp oMove <| pp oAdd <| pp oAssign <| nl <| ?_
       exact ln hF cutR'
   · refine ex <| qsE <| ?_
     exact lxR hF cutR'
 · intro _ hF
   refine qmk ?_
   refine qs <| sr <| pp oAssign <| nl <| rt <| ?_
   obtain rfl := inj hF
   exact fin1
 · rintro r1 hF ⟨xe, xs⟩ ⟨hxe, hfin⟩
   obtain rfl : xe = Exit.ret := hxe
   obtain rfl := inj hF
   refine qbR <| qsR <| ?_
   exact hfin
noncomputable def ref1_texts (a0 : Int) (a1 : ByteArray) : Option Bool :=
 if (a0 == 35) then
 ((ref1_among ([(ByteArray.mk #[45]), (ByteArray.mk #[33]), (ByteArray.mk #[126]), (ByteArray.mk #[42]), (ByteArray.mk #[38])] : List ByteArray) a1).bind fun x1 =>
 some x1)
 else
 (if (a0 == 36) then
 (((ref1_among ([(ByteArray.mk #[43]), (ByteArray.mk #[45]), (ByteArray.mk #[42]), (ByteArray.mk #[47]), (ByteArray.mk #[37]), (ByteArray.mk #[38]), (ByteArray.mk #[124]), (ByteArray.mk #[94]), (ByteArray.mk #[60, 60]), (ByteArray.mk #[62, 62])] : List ByteArray) a1).bind fun x2 =>
 if x2 then
 (some true)
 else
 ((ref1_among ([(ByteArray.mk #[61, 61]), (ByteArray.mk #[33, 61]), (ByteArray.mk #[60]), (ByteArray.mk #[60, 61]), (ByteArray.mk #[62]), (ByteArray.mk #[62, 61])] : List ByteArray) a1).bind fun x3 =>
 some x3)).bind fun p1 =>
 some p1)
 else
 (if (a0 == 37) then
 (some (if (a1.toList == (ByteArray.mk #[38, 38]).toList) then true else (a1.toList == (ByteArray.mk #[124, 124]).toList)))
 else
 (if (a0 == 39) then
 ((if (a1.toList == (ByteArray.mk #[61]).toList) then
 (some true)
 else
 (if (decide (1 < (a1.size : Int))) then
 ((sidx a1 (w64 ((a1.size : Int) - 1))).bind fun x4 =>
 if ((x4.toNat : Int) == 61) then
 ((sslc a1 none (some (w64 ((a1.size : Int) - 1)))).bind fun x5 =>
 (ref1_among ([(ByteArray.mk #[43]), (ByteArray.mk #[45]), (ByteArray.mk #[42]), (ByteArray.mk #[47]), (ByteArray.mk #[37]), (ByteArray.mk #[38]), (ByteArray.mk #[124]), (ByteArray.mk #[94]), (ByteArray.mk #[60, 60]), (ByteArray.mk #[62, 62])] : List ByteArray) x5).bind fun x6 =>
 some x6)
 else
 (some false))
 else
 (some false))).bind fun p2 =>
 some p2)
 else
 (if (a0 == 40) then
 (some (if (a1.toList == (ByteArray.mk #[43, 43]).toList) then true else (a1.toList == (ByteArray.mk #[45, 45]).toList)))
 else
 (some (a1.toList == (ByteArray.mk #[]).toList))))))
abbrev R_ref1_texts (r : Bool) : AV := (B r)
set_option maxHeartbeats 4000000 in
theorem T_ref1_texts {nn : Nat} {a0 : Int} {a1 : ByteArray} {r : Bool} (hF : ref1_texts a0 a1 = some r) : den cx (nn + 2) 73 [(I a0), (AV.val (.string a1))] = some (R_ref1_texts r, []) := by
 unfold ref1_texts at hF
 refine fnA Try.func73 Try.ntmps73 (by exact spine) (sl := [0, 1]) ?_
 refine sr <| pp oAssign <| nl <| sr <| pp oBSF <| pp oAssign <| nl <| sq <| sr <| pp oMove <| pp oEql <| nl <| ?_
 refine cd hF (fun hF => ?_) (fun hF => ?_)
 · refine sr <| pp oBSF <| pp oMove <| ?_
   refine bb hF fun x1 h1 hF => ?_
   refine pp (oCall (T_ref1_among h1)) <| pp oAssign <| nl <| rt <| qsR <| ?_
   obtain rfl := inj hF
   exact fin1
 · refine sk <| qs <| sq <| sr <| pp oMove <| pp oEql <| nl <| ?_
   refine cd hF (fun hF => ?_) (fun hF => ?_)
   · refine srC (fun (s : Bool) => mkSt 66 [4] [(B s)]) hF (fun z1 hF => ?_) (fun p1 hF => ?_)
     · refine pp oMove <| pp oMove <| ?_
       refine bb hF fun x2 h2 hF => ?_
       refine pp (oCall (T_ref1_among h2)) <| pp oMove <| ?_
       refine spl (d := 17) hF (fun hF => ?_) (fun hF => ?_)
       · refine no fun u1 k1 hk1 => ?_
         refine no fun u2 k2 hk2 => ?_
         refine no fun u3 k3 hk3 => ?_
         refine pp oPickT <| pp oAssign <| ?_
         obtain rfl := inj hF
         exact nlC cutR'
       · refine pt ar oBSF <| pt ar oMove <| ?_
         refine bb hF fun x3 h3 hF => ?_
         refine pt ar (oCall (T_ref1_among h3)) <| pp oPickF <| pp oAssign <| ?_
         obtain rfl := inj hF
         exact nlC cutR'
     · refine mk ?_
       refine rt <| qsR <| ?_
       obtain rfl := inj hF
       exact fin1
   · refine sk <| qs <| sq <| sr <| pp oMove <| pp oEql <| nl <| ?_
     refine cd hF (fun hF => ?_) (fun hF => ?_)
     · refine sr <| pp oMove <| pp oEqlS <| pp oMove <| pg ar oMove <| pg ar oEqlS <| pp oPick <| pp oAssign <| nl <| rt <| qsR <| ?_
       obtain rfl := inj hF
       exact fin1
     · refine sk <| qs <| sq <| sr <| pp oMove <| pp oEql <| nl <| ?_
       refine cd hF (fun hF => ?_) (fun hF => ?_)
       · refine srC (fun (s : Bool) => mkSt 66 [4] [(B s)]) hF (fun z2 hF => ?_) (fun p2 hF => ?_)
         · refine pp oMove <| pp oEqlS <| pp oMove <| ?_
           refine spl (d := 34) hF (fun hF => ?_) (fun hF => ?_)
           · refine no fun u4 k4 hk4 => ?_
             refine no fun u5 k5 hk5 => ?_
             refine no fun u6 k6 hk6 => ?_
             refine no fun u7 k7 hk7 => ?_
             refine no fun u8 k8 hk8 => ?_
             refine no fun u9 k9 hk9 => ?_
             refine no fun u10 k10 hk10 => ?_
             refine no fun u11 k11 hk11 => ?_
             refine no fun u12 k12 hk12 => ?_
             refine no fun u13 k13 hk13 => ?_
             refine no fun u14 k14 hk14 => ?_
             refine no fun u15 k15 hk15 => ?_
             refine no fun u16 k16 hk16 => ?_
             refine no fun u17 k17 hk17 => ?_
             refine no fun u18 k18 hk18 => ?_
             refine no fun u19 k19 hk19 => ?_
             refine no fun u20 k20 hk20 => ?_
             refine no fun u21 k21 hk21 => ?_
             refine no fun u22 k22 hk22 => ?_
             refine no fun u23 k23 hk23 => ?_
             refine pp oPickT <| pp oAssign <| ?_
             obtain rfl := inj hF
             exact nlC cutR'
           · refine pt ar oMove <| pt ar oLenS <| pt ar oGtr <| pt ar oMove <| ?_
             refine splG (d := 38) hF (fun hF => ?_) (fun hF => ?_)
             · refine pt ar oMove <| pt ar oMove <| pt ar oLenS <| pt ar oSub <| ?_
               refine bb hF fun x4 h4 hF => ?_
               refine pt ar (oIxS h4) <| pt ar oEql <| pt ar oPickT <| pt ar oMove <| ?_
               refine splG (d := 46) hF (fun hF => ?_) (fun hF => ?_)
               · refine pt ar oMove <| pt ar oMove <| pt ar oMove <| pt ar oLenS <| pt ar oSub <| ?_
                 refine bb hF fun x5 h5 hF => ?_
                 refine pt ar (oSlcS h5) <| ?_
                 refine bb hF fun x6 h6 hF => ?_
                 refine pt ar (oCall (T_ref1_among h6)) <| pt ar oPickT <| pp oPickF <| pp oAssign <| ?_
                 obtain rfl := inj hF
                 exact nlC cutR'
               · refine no fun u24 k24 hk24 => ?_
                 refine no fun u25 k25 hk25 => ?_
                 refine no fun u26 k26 hk26 => ?_
                 refine no fun u27 k27 hk27 => ?_
                 refine no fun u28 k28 hk28 => ?_
                 refine no fun u29 k29 hk29 => ?_
                 refine no fun u30 k30 hk30 => ?_
                 refine pt ar oPickF <| pp oPickF <| pp oAssign <| ?_
                 obtain rfl := inj hF
                 exact nlC cutR'
             · refine no fun u31 k31 hk31 => ?_
               refine no fun u32 k32 hk32 => ?_
               refine no fun u33 k33 hk33 => ?_
               refine no fun u34 k34 hk34 => ?_
               refine no fun u35 k35 hk35 => ?_
               refine no fun u36 k36 hk36 => ?_
               refine pt ar oPickF <| pt ar oMove <| ?_
               refine no fun u37 k37 hk37 => ?_
               refine no fun u38 k38 hk38 => ?_
               refine no fun u39 k39 hk39 => ?_
               refine no fun u40 k40 hk40 => ?_
               refine no fun u41 k41 hk41 => ?_
               refine no fun u42 k42 hk42 => ?_
               refine no fun u43 k43 hk43 => ?_
               refine pt ar oPickF <| pp oPickF <| pp oAssign <| ?_
               obtain rfl := inj hF
               exact nlC cutR'
         · refine mk ?_
           refine rt <| qsR <| ?_
           obtain rfl := inj hF
           exact fin1
       · refine sk <| qs <| sq <| sr <| pp oMove <| pp oEql <| nl <| ?_
         refine cd hF (fun hF => ?_) (fun hF => ?_)
         · refine sr <| pp oMove <| pp oEqlS <| pp oMove <| pg ar oMove <| pg ar oEqlS <| pp oPick <| pp oAssign <| nl <| rt <| qsR <| ?_
           obtain rfl := inj hF
           exact fin1
         · refine sk <| qs <| sr <| pp oMove <| pp oEqlS <| pp oAssign <| nl <| rt <| ?_
           obtain rfl := inj hF
           exact fin1
noncomputable def ref1_numbers (a0 : XApi_Node) : Option Bool :=
 if (if (a0.Kind == 2) then (a0.N == 3) else false) then
 ((ref1_in a0.Size 1 200).bind fun x1 =>
 some (if x1 then (decide ((a0.Kids.length : Int) ≤ a0.Size)) else false))
 else
 (if (a0.Size != 0) then
 (some false)
 else
 (if (a0.Kind == 2) then
 ((ref1_in a0.N 1 2).bind fun x2 =>
 some (if x2 then (decide ((a0.Kids.length : Int) < 2)) else false))
 else
 (if (a0.Kind == 3) then
 ((ref1_in a0.N 0 2).bind fun x3 =>
 some x3)
 else
 (if (if (a0.Kind == 4) then true else (a0.Kind == 12)) then
 ((ref1_in a0.N 1 2).bind fun x4 =>
 some x4)
 else
 (if (a0.Kind == 31) then
 (some (decide (0 ≤ a0.N)))
 else
 (if (a0.Kind == 40) then
 ((ref1_in a0.N 0 1).bind fun x5 =>
 some x5)
 else
 (some (a0.N == 0))))))))
abbrev R_ref1_numbers (r : Bool) : AV := (B r)
set_option maxHeartbeats 4000000 in
theorem T_ref1_numbers {nn : Nat} {a0 : XApi_Node} {r : Bool} (hF : ref1_numbers a0 = some r) : den cx (nn + 2) 74 [(.agg (cXApi_Node a0))] = some (R_ref1_numbers r, []) := by
 unfold ref1_numbers at hF
 refine fnA Try.func74 Try.ntmps74 (by exact spine) (sl := [0]) ?_
 refine sr <| pp oBoxF <| pp oAssign <| nl <| sq <| sr <| pp oFA <| pp oLd <| pp oEql <| pp oMove <| pg ar oFA <| pg ar oLd <| pg ar oEql <| pp oPick <| ?_
 refine nl <| ?_
 refine cd hF (fun hF => ?_) (fun hF => ?_)
 · refine sr <| pp oFA <| pp oLd <| ?_
   refine bb hF fun x1 h1 hF => ?_
   refine pp (oCall (T_ref1_in h1)) <| pp oMove <| pg ar oFA <| pg ar oLd <| pg ar oLenSl <| pg ar oFA <| pg ar oLd <| pg ar oLeq <| pp oPick <| pp oAssign <| nl <| rt <| qsR <| ?_
   obtain rfl := inj hF
   exact fin1
 · refine sk <| qs <| sq <| sr <| pp oFA <| pp oLd <| pp oNeq <| nl <| ?_
   refine cd hF (fun hF => ?_) (fun hF => ?_)
   · refine sr <| pp oAssign <| nl <| rt <| qsR <| ?_
     obtain rfl := inj hF
     exact fin1
   · refine sk <| qs <| sq <| sr <| pp oFA <| pp oLd <| pp oEql <| nl <| ?_
     refine cd hF (fun hF => ?_) (fun hF => ?_)
     · refine sr <| pp oFA <| pp oLd <| ?_
       refine bb hF fun x2 h2 hF => ?_
       refine pp (oCall (T_ref1_in h2)) <| pp oMove <| pg ar oFA <| pg ar oLd <| pg ar oLenSl <| pg ar oLss <| pp oPick <| pp oAssign <| nl <| rt <| qsR <| ?_
       obtain rfl := inj hF
       exact fin1
     · refine sk <| qs <| sq <| sr <| pp oFA <| pp oLd <| pp oEql <| nl <| ?_
       refine cd hF (fun hF => ?_) (fun hF => ?_)
       · refine sr <| pp oFA <| pp oLd <| ?_
         refine bb hF fun x3 h3 hF => ?_
         refine pp (oCall (T_ref1_in h3)) <| pp oAssign <| nl <| rt <| qsR <| ?_
         obtain rfl := inj hF
         exact fin1
       · refine sk <| qs <| sq <| sr <| pp oFA <| pp oLd <| pp oEql <| pp oMove <| pg ar oFA <| pg ar oLd <| pg ar oEql <| pp oPick <| nl <| ?_
         refine cd hF (fun hF => ?_) (fun hF => ?_)
         · refine sr <| pp oFA <| pp oLd <| ?_
           refine bb hF fun x4 h4 hF => ?_
           refine pp (oCall (T_ref1_in h4)) <| pp oAssign <| nl <| rt <| qsR <| ?_
           obtain rfl := inj hF
           exact fin1
         · refine sk <| qs <| sq <| sr <| pp oFA <| pp oLd <| pp oEql <| nl <| ?_
           refine cd hF (fun hF => ?_) (fun hF => ?_)
           · refine sr <| pp oFA <| pp oLd <| pp oGeq <| pp oAssign <| nl <| rt <| qsR <| ?_
             obtain rfl := inj hF
             exact fin1
           · refine sk <| qs <| sq <| sr <| pp oFA <| pp oLd <| pp oEql <| nl <| ?_
             refine cd hF (fun hF => ?_) (fun hF => ?_)
             · refine sr <| pp oFA <| pp oLd <| ?_
               refine bb hF fun x5 h5 hF => ?_
               refine pp (oCall (T_ref1_in h5)) <| pp oAssign <| nl <| rt <| qsR <| ?_
               obtain rfl := inj hF
               exact fin1
             · refine sk <| qs <| sr <| pp oFA <| pp oLd <| pp oEql <| pp oAssign <| nl <| rt <| ?_
               obtain rfl := inj hF
               exact fin1
noncomputable def ref1_wrong_L1 (fu : Nat) (a0 : XApi_Tree) (x1 : XApi_Node) (y5 : Int) (y6 : Int) : Option (Lp (Int × Int) (Br Unit Int)) :=
 if (decide (0 ≤ y6)) then
 ((if (y5 == 0) then
 (some true)
 else
 ((idx x1.Kids y6).bind fun x7 =>
 if (x7 != (w64 (y5 - 1))) then
 (some true)
 else
 ((idx a0.Nodes (w64 (y5 - 1))).bind fun x8 =>
 (ref1_goes x1.Kind y6 (x1.Kids.length : Int) x8.Kind).bind fun x9 =>
 some (!x9)))).bind fun p2 =>
 if p2 then
 (some (.out (.ret 5)))
 else
 ((ref1_Many fu a0 (w64 (y5 - 1))).bind fun x10 =>
 some (.next ((w64 (y5 - x10)), (w64 (y6 - 1))))))
 else
 (some (.out (.brk ())))
noncomputable def ref1_wrong (fu : Nat) (a0 : XApi_Tree) (a1 : Int) : Option Int :=
 (idx a0.Nodes a1).bind fun x1 =>
 ((ref1_in x1.Kind 1 4).bind fun x2 =>
 if (!x2) then
 ((ref1_in x1.Kind 11 24).bind fun x3 =>
 if (!x3) then
 ((ref1_Expression x1.Kind).bind fun x4 =>
 some (!x4))
 else
 (some false))
 else
 (some false)).bind fun p1 =>
 if p1 then
 (some 4)
 else
 ((ref1_kids x1.Kind).bind fun x5 =>
 (ref1_in (x1.Kids.length : Int) x5.1 x5.2).bind fun x6 =>
 if (!x6) then
 (some 9)
 else
 ((Loop (fun (s : (Int × Int)) => ref1_wrong_L1 fu a0 x1 s.1 s.2) (a1, (w64 ((x1.Kids.length : Int) - 1)))).bind (Br.go (fun _ =>
 ((ref1_Named x1.Kind).bind fun x11 =>
 if x11 then
 ((ref1_Name x1.Text).bind fun x12 =>
 some (!x12))
 else
 (some false)).bind fun p3 =>
 if p3 then
 (some 12)
 else
 (((ref1_Named x1.Kind).bind fun x13 =>
 if (!x13) then
 ((ref1_texts x1.Kind x1.Text).bind fun x14 =>
 some (!x14))
 else
 (some false)).bind fun p4 =>
 if p4 then
 (some 1)
 else
 ((ref1_numbers x1).bind fun x15 =>
 if (if (!x15) then true else (decide (x1.At < 0))) then
 (some 3)
 else
 (some 0)))) (fun r1 => some r1))))
abbrev R_ref1_wrong (r : Int) : AV := (I r)
def RR_ref1_wrong (r : Int) (x : Exit × St) : Prop := x.1 = .ret ∧ Fin cx [.tmp 4] [] (R_ref1_wrong r) [] x
set_option maxHeartbeats 4000000 in
theorem T_ref1_wrong {fu nn : Nat} {a0 : XApi_Tree} {a1 : Int} {r : Int} (hF : ref1_wrong fu a0 a1 = some r) : den cx (fu + nn + 4) 45 [(.agg (cXApi_Tree a0)), (I a1)] = some (R_ref1_wrong r, []) := by
 unfold ref1_wrong at hF
 refine fnA Try.func45 Try.ntmps45 (by exact spine) (sl := [0, 1]) ?_
 refine sr <| pp oBoxF <| pp oAssign <| nl <| sr <| pp oFA <| pp oLd <| pp oMove <| ?_
 refine bb hF fun x1 h1 hF => ?_
 refine pp (oIx h1) <| pp oLdA <| ww oAlloc <| ww oStF <| nl <| sq <| ?_
 refine srC (fun (s : Bool) => mkSt 117 [1, 2, 5, 30] [(I a1), (.vp (cXApi_Tree a0)), (.vp (cXApi_Node x1)), (B s)]) hF (fun z5 hF => ?_) (fun p1 hF => ?_)
 · refine pp oFA <| pp oLd <| ?_
   refine bb hF fun x2 h2 hF => ?_
   refine pp (oCallZ (T_ref1_in h2)) <| pp oNot <| pp oMove <| ?_
   refine spl (d := 19) hF (fun hF => ?_) (fun hF => ?_)
   · refine pt ar oFA <| pt ar oLd <| ?_
     refine bb hF fun x3 h3 hF => ?_
     refine pt ar (oCallZ (T_ref1_in h3)) <| pt ar oNot <| pp oPickT <| pp oMove <| ?_
     refine spl (d := 25) hF (fun hF => ?_) (fun hF => ?_)
     · refine pt ar oFA <| pt ar oLd <| ?_
       refine bb hF fun x4 h4 hF => ?_
       refine pt ar (oCallZ (T_ref1_Expression h4)) <| pt ar oNot <| pp oPickT <| ?_
       obtain rfl := inj hF
       exact nlC cutR'
     · refine no fun u1 k1 hk1 => ?_
       refine no fun u2 k2 hk2 => ?_
       refine no fun u3 k3 hk3 => ?_
       refine no fun u4 k4 hk4 => ?_
       refine pp oPickF <| ?_
       obtain rfl := inj hF
       exact nlC cutR'
   · refine no fun u5 k5 hk5 => ?_
     refine no fun u6 k6 hk6 => ?_
     refine no fun u7 k7 hk7 => ?_
     refine no fun u8 k8 hk8 => ?_
     refine pp oPickF <| pp oMove <| ?_
     refine no fun u9 k9 hk9 => ?_
     refine no fun u10 k10 hk10 => ?_
     refine no fun u11 k11 hk11 => ?_
     refine no fun u12 k12 hk12 => ?_
     refine pp oPickF <| ?_
     obtain rfl := inj hF
     exact nlC cutR'
 · refine mk ?_
   refine cd hF (fun hF => ?_) (fun hF => ?_)
   · refine sr <| pp oAssign <| nl <| rt <| qsR <| ?_
     obtain rfl := inj hF
     exact fin1
   · refine sk <| qs <| sr <| pp oFA <| pp oLd <| ?_
     refine bb hF fun x5 h5 hF => ?_
     refine pp (oCallZ (T_ref1_kids h5)) <| pp oMove <| pp oExt <| pp oExt <| pp oAssign <| pp oAssign <| nl <| sq <| sr <| pp oFA <| pp oLd <| pp oLenSl <| pp oMove <| pp oMove <| ?_
     refine bb hF fun x6 h6 hF => ?_
     refine pp (oCallZ (T_ref1_in h6)) <| pp oNot <| nl <| ?_
     refine cd hF (fun hF => ?_) (fun hF => ?_)
     · refine sr <| pp oAssign <| nl <| rt <| qsR <| ?_
       obtain rfl := inj hF
       exact fin1
     · refine sk <| qs <| sr <| pp oMove <| pp oAssign <| nl <| sq <| sr <| pp oFA <| pp oLd <| pp oLenSl <| pp oSub <| pp oAssign <| nl <| ?_
       refine lpR (fun (s : (Int × Int)) => mkSt 117 [2, 5, 8, 9] [(.vp (cXApi_Tree a0)), (.vp (cXApi_Node x1)), (I s.1), (I s.2)]) (fun (s : Unit) => mkSt 117 [5] [(.vp (cXApi_Node x1))]) RR_ref1_wrong hF cutR' ?_ ?_ ?_
       · rintro ⟨y5, y6⟩ z1 hF
         replace hF : ref1_wrong_L1 fu a0 x1 y5 y6 = some z1 := hF
         unfold ref1_wrong_L1 at hF
         refine mk ?_
         refine sq <| sr <| pp oMove <| pp oGeq <| nl <| ?_
         refine cd hF (fun hF => ?_) (fun hF => ?_)
         · refine sk <| qs <| sq <| bl <| sq <| ?_
           refine srC (fun (s : Bool) => mkSt 117 [2, 5, 8, 9, 81] [(.vp (cXApi_Tree a0)), (.vp (cXApi_Node x1)), (I y5), (I y6), (B s)]) hF (fun z2 hF => ?_) (fun p2 hF => ?_)
           · refine pp oMove <| pp oEql <| pp oMove <| ?_
             refine spl (d := 55) hF (fun hF => ?_) (fun hF => ?_)
             · refine no fun u13 k13 hk13 => ?_
               refine no fun u14 k14 hk14 => ?_
               refine no fun u15 k15 hk15 => ?_
               refine no fun u16 k16 hk16 => ?_
               refine no fun u17 k17 hk17 => ?_
               refine no fun u18 k18 hk18 => ?_
               refine no fun u19 k19 hk19 => ?_
               refine no fun u20 k20 hk20 => ?_
               refine pp oPickT <| pp oMove <| ?_
               refine no fun u21 k21 hk21 => ?_
               refine no fun u22 k22 hk22 => ?_
               refine no fun u23 k23 hk23 => ?_
               refine no fun u24 k24 hk24 => ?_
               refine no fun u25 k25 hk25 => ?_
               refine no fun u26 k26 hk26 => ?_
               refine no fun u27 k27 hk27 => ?_
               refine no fun u28 k28 hk28 => ?_
               refine no fun u29 k29 hk29 => ?_
               refine no fun u30 k30 hk30 => ?_
               refine no fun u31 k31 hk31 => ?_
               refine no fun u32 k32 hk32 => ?_
               refine no fun u33 k33 hk33 => ?_
               refine no fun u34 k34 hk34 => ?_
               refine no fun u35 k35 hk35 => ?_
               refine pp oPickT <| ?_
               obtain rfl := inj hF
               exact nlCD (hf := rok) cutR'
             · refine pt ar oFA <| pt ar oLd <| pt ar oMove <| ?_
               refine bb hF fun x7 h7 hF => ?_
               refine pt ar (oIx h7) <| pt ar oLd <| pt ar oMove <| pt ar oSub <| pt ar oNeq <| pp oPickF <| pp oMove <| ?_
               refine spl (d := 65) hF (fun hF => ?_) (fun hF => ?_)
               · refine no fun u36 k36 hk36 => ?_
                 refine no fun u37 k37 hk37 => ?_
                 refine no fun u38 k38 hk38 => ?_
                 refine no fun u39 k39 hk39 => ?_
                 refine no fun u40 k40 hk40 => ?_
                 refine no fun u41 k41 hk41 => ?_
                 refine no fun u42 k42 hk42 => ?_
                 refine no fun u43 k43 hk43 => ?_
                 refine no fun u44 k44 hk44 => ?_
                 refine no fun u45 k45 hk45 => ?_
                 refine no fun u46 k46 hk46 => ?_
                 refine no fun u47 k47 hk47 => ?_
                 refine no fun u48 k48 hk48 => ?_
                 refine no fun u49 k49 hk49 => ?_
                 refine no fun u50 k50 hk50 => ?_
                 refine pp oPickT <| ?_
                 obtain rfl := inj hF
                 exact nlCD (hf := rok) cutR'
               · refine pt ar oFA <| pt ar oLd <| pt ar oMove <| pt ar oFA <| pt ar oLd <| pt ar oLenSl <| pt ar oFA <| pt ar oLd <| pt ar oMove <| pt ar oSub <| ?_
                 refine bb hF fun x8 h8 hF => ?_
                 refine pt ar (oIx h8) <| pt ar oFA <| pt ar oLd <| ?_
                 refine bb hF fun x9 h9 hF => ?_
                 refine pt ar (oCallZ (T_ref1_goes h9)) <| pt ar oNot <| pp oPickF <| ?_
                 obtain rfl := inj hF
                 exact nlCD cutR'
           · refine mk ?_
             refine cd hF (fun hF => ?_) (fun hF => ?_)
             · refine sr <| pp oAssign <| nl <| rt <| qsR <| qbR <| qsR <| ?_
               exact lr hF ⟨rfl, fin1⟩
             · refine sk <| qs <| rg <| pp oMove <| pp oLdA <| pp oMove <| pp oSub <| ?_
               refine bb hF fun x10 h10 hF => ?_
               refine pp (oCallZ (dnE (T_ref1_Many (fu := fu) (nn := nn + 2) h10) (by omega))) <| pp oSub <| pp oAssign <| nl <| qb <| qs <| rg <| pp oMove <| pp oSub <| pp oAssign <| nl <| ?_
               exact ln hF cutR'
         · refine ex <| qsE <| ?_
           exact lxR hF cutR'
       · intro _ hF
         refine qmk ?_
         refine qs <| sq <| ?_
         refine srC (fun (s : Bool) => mkSt 117 [5, 96] [(.vp (cXApi_Node x1)), (B s)]) hF (fun z4 hF => ?_) (fun p3 hF => ?_)
         · refine pp oFA <| pp oLd <| ?_
           refine bb hF fun x11 h11 hF => ?_
           refine pp (oCallZ (T_ref1_Named h11)) <| pp oMove <| ?_
           refine spl (d := 91) hF (fun hF => ?_) (fun hF => ?_)
           · refine pt ar oFA <| pt ar oLd <| ?_
             refine bb hF fun x12 h12 hF => ?_
             refine pt ar (oCallZ (T_ref1_Name h12)) <| pt ar oNot <| pp oPickT <| ?_
             obtain rfl := inj hF
             exact nlC cutR'
           · refine no fun u51 k51 hk51 => ?_
             refine no fun u52 k52 hk52 => ?_
             refine no fun u53 k53 hk53 => ?_
             refine no fun u54 k54 hk54 => ?_
             refine pp oPickF <| ?_
             obtain rfl := inj hF
             exact nlC cutR'
         · refine mk ?_
           refine cd hF (fun hF => ?_) (fun hF => ?_)
           · refine sr <| pp oAssign <| nl <| rt <| qsR <| ?_
             obtain rfl := inj hF
             exact fin1
           · refine sk <| qs <| sq <| ?_
             refine srC (fun (s : Bool) => mkSt 117 [5, 108] [(.vp (cXApi_Node x1)), (B s)]) hF (fun z3 hF => ?_) (fun p4 hF => ?_)
             · refine pp oFA <| pp oLd <| ?_
               refine bb hF fun x13 h13 hF => ?_
               refine pp (oCallZ (T_ref1_Named h13)) <| pp oNot <| pp oMove <| ?_
               refine spl (d := 101) hF (fun hF => ?_) (fun hF => ?_)
               · refine pt ar oFA <| pt ar oLd <| pt ar oFA <| pt ar oLd <| ?_
                 refine bb hF fun x14 h14 hF => ?_
                 refine pt ar (oCallZ (T_ref1_texts h14)) <| pt ar oNot <| pp oPickT <| ?_
                 obtain rfl := inj hF
                 exact nlC cutR'
               · refine no fun u55 k55 hk55 => ?_
                 refine no fun u56 k56 hk56 => ?_
                 refine no fun u57 k57 hk57 => ?_
                 refine no fun u58 k58 hk58 => ?_
                 refine no fun u59 k59 hk59 => ?_
                 refine no fun u60 k60 hk60 => ?_
                 refine pp oPickF <| ?_
                 obtain rfl := inj hF
                 exact nlC cutR'
             · refine mk ?_
               refine cd hF (fun hF => ?_) (fun hF => ?_)
               · refine sr <| pp oAssign <| nl <| rt <| qsR <| ?_
                 obtain rfl := inj hF
                 exact fin1
               · refine sk <| qs <| sq <| sr <| pp oLdA <| ?_
                 refine bb hF fun x15 h15 hF => ?_
                 refine pp (oCallZ (T_ref1_numbers h15)) <| pp oNot <| pp oMove <| pg ar oFA <| pg ar oLd <| pg ar oLss <| pp oPick <| nl <| ?_
                 refine cd hF (fun hF => ?_) (fun hF => ?_)
                 · refine sr <| pp oAssign <| nl <| rt <| qsR <| ?_
                   obtain rfl := inj hF
                   exact fin1
                 · refine sk <| qs <| sr <| pp oAssign <| nl <| rt <| ?_
                   obtain rfl := inj hF
                   exact fin1
       · rintro r1 hF ⟨xe, xs⟩ ⟨hxe, hfin⟩
         obtain rfl : xe = Exit.ret := hxe
         obtain rfl := inj hF
         refine qbR <| qsR <| ?_
         exact hfin
end Go.Ab
namespace Go.Ab
open Go Go.Proofs
noncomputable def ref1_Deep_J1 (y6 : Int) (y7 : Int) : Option (Lp (Int × Int) Int) :=
 some (.next (y7, (w64 (y6 + 1))))
noncomputable def ref1_Deep_L1 (rc : XApi_Tree → Int → Option Int) (a0 : XApi_Tree) (a1 : Int) (y5 : Int) (y6 : Int) : Option (Lp (Int × Int) Int) :=
 (idx a0.Nodes a1).bind fun x1 =>
 if (decide (y6 < (x1.Kids.length : Int))) then
 ((idx a0.Nodes a1).bind fun x2 =>
 (idx x2.Kids y6).bind fun x3 =>
 (rc a0 x3).bind fun x4 =>
 if (decide (y5 < x4)) then
 (ref1_Deep_J1 y6 x4)
 else
 (ref1_Deep_J1 y6 y5))
 else
 (some (.out y5))
noncomputable def ref1_Deep_B (rc : XApi_Tree → Int → Option Int) (a0 : XApi_Tree) (a1 : Int) : Option Int :=
 (Loop (fun (s : (Int × Int)) => ref1_Deep_L1 rc a0 a1 s.1 s.2) (0, 0)).bind fun v1 =>
 some (w64 (v1 + 1))
noncomputable def ref1_Deep : Nat → XApi_Tree → Int → Option Int
 | 0 => fun _ _ => none
 | m + 1 => ref1_Deep_B (ref1_Deep m)
abbrev R_ref1_Deep (r : Int) : AV := (I r)
set_option maxHeartbeats 4000000 in
theorem T_ref1_Deep_B {nn : Nat} {rc : XApi_Tree → Int → Option Int} (ih : ∀ {a0 : XApi_Tree} {a1 : Int} {r : Int}, rc a0 a1 = some r → den cx (nn + 0) 47 [(.agg (cXApi_Tree a0)), (I a1)] = some (R_ref1_Deep r, [])) {a0 : XApi_Tree} {a1 : Int} {r : Int} (hF : ref1_Deep_B rc a0 a1 = some r) : den cx (nn + 1) 47 [(.agg (cXApi_Tree a0)), (I a1)] = some (R_ref1_Deep r, []) := by
 unfold ref1_Deep_B at hF
 refine fnA Try.func47 Try.ntmps47 (by exact spine) (sl := [0, 1]) ?_
 refine sr <| pp oBoxF <| pp oAssign <| nl <| sr <| pp oAssign <| nl <| sq <| sr <| pp oAssign <| nl <| ?_
 refine lp (fun (s : (Int × Int)) => mkSt 36 [1, 2, 5, 6] [(I a1), (.vp (cXApi_Tree a0)), (I s.1), (I s.2)]) (fun (s : Int) => mkSt 36 [5] [(I s)]) hF cutR' ?_ ?_
 · rintro ⟨y5, y6⟩ z1 hF
   replace hF : ref1_Deep_L1 rc a0 a1 y5 y6 = some z1 := hF
   unfold ref1_Deep_L1 at hF
   refine mk ?_
   refine sq <| sr <| pp oMove <| pp oFA <| pp oLd <| pp oMove <| ?_
   refine bb hF fun x1 h1 hF => ?_
   refine pp (oIx h1) <| pp oFA <| pp oLd <| pp oLenSl <| pp oLss <| nl <| ?_
   refine cd hF (fun hF => ?_) (fun hF => ?_)
   · refine sk <| qs <| ?_
     refine sjn (r := z1) (fun (s : Int) => mkSt 36 [1, 2, 5, 6] [(I a1), (.vp (cXApi_Tree a0)), (I s), (I y6)]) (fun s => ref1_Deep_J1 y6 s) ?_ ?_
     · refine bl <| srD <| pp oLdA <| pp oFA <| pp oLd <| pp oMove <| ?_
       refine bb hF fun x2 h2 hF => ?_
       refine pp (oIx h2) <| pp oFA <| pp oLd <| pp oMove <| ?_
       refine bb hF fun x3 h3 hF => ?_
       refine pp (oIx h3) <| pp oLd <| ?_
       refine bb hF fun x4 h4 hF => ?_
       refine pp (oCallZ (ih h4)) <| pp oAssign <| nlD <| sr <| pp oMove <| pp oMove <| pp oGtr <| nl <| ?_
       refine cd hF (fun hF => ?_) (fun hF => ?_)
       · refine rg <| pp oMove <| pp oAssign <| nl <| qb <| ?_
         exact qj x4 hF cutR'
       · refine sk <| qb <| ?_
         exact qj y5 hF cutR'
     · rintro y7 hF
       replace hF : ref1_Deep_J1 y6 y7 = some z1 := hF
       unfold ref1_Deep_J1 at hF
       refine mk ?_
       refine rg <| pp oMove <| pp oAdd <| pp oAssign <| nl <| ?_
       exact ln hF cutR'
   · refine ex <| qsE <| ?_
     exact lx hF cutR'
 · intro v1 hF
   refine qmk ?_
   refine qs <| sr <| pp oMove <| pp oAdd <| pp oAssign <| nl <| rt <| ?_
   obtain rfl := inj hF
   exact fin1
theorem T_ref1_Deep : ∀ {fu nn : Nat} {a0 : XApi_Tree} {a1 : Int} {r : Int} (hF : ref1_Deep fu a0 a1 = some r), den cx (fu + nn + 1) 47 [(.agg (cXApi_Tree a0)), (I a1)] = some (R_ref1_Deep r, [])
 | 0, _, _, _, _, hF => by cases hF
 | m + 1, nn, _, _, _, hF => by
  rw [show m + 1 + nn + 1 = m + nn + 1 + 1 by omega]
  refine T_ref1_Deep_B (nn := m + nn + 1) (rc := ref1_Deep m) (fun h => ?_) hF
  have := T_ref1_Deep (nn := nn) h
  rwa [show m + nn + 1 = m + nn + 1 + 0 by omega] at this
noncomputable def ref1_Tree_L1 (fu : Nat) (a0 : XApi_Tree) (y4 : Int) : Option (Lp Int (Br Unit XApi_Fault)) :=
 if (decide (y4 < (a0.Nodes.length : Int))) then
 ((ref1_wrong fu a0 y4).bind fun x3 =>
 if (x3 != 0) then
 ((ref1_fault x3 y4).bind fun x4 =>
 some (.out (.ret x4)))
 else
 (some (.next (w64 (y4 + 1)))))
 else
 (some (.out (.brk ())))
noncomputable def ref1_Tree (fu : Nat) (a0 : XApi_Tree) : Option XApi_Fault :=
 (ref1_in (a0.Nodes.length : Int) 1 600).bind fun x1 =>
 if (!x1) then
 ((ref1_fault 2 0).bind fun x2 =>
 some x2)
 else
 ((Loop (fun (s : Int) => ref1_Tree_L1 fu a0 s) 0).bind (Br.go (fun _ =>
 (ref1_Many fu a0 (w64 ((a0.Nodes.length : Int) - 1))).bind fun x5 =>
 if (x5 != (a0.Nodes.length : Int)) then
 ((ref1_fault 5 (w64 ((a0.Nodes.length : Int) - 1))).bind fun x6 =>
 some x6)
 else
 ((ref1_Deep fu a0 (w64 ((a0.Nodes.length : Int) - 1))).bind fun x7 =>
 if (decide (40 < x7)) then
 ((ref1_fault 10 0).bind fun x8 =>
 some x8)
 else
 (some (XApi_Fault.mk 0 0)))) (fun r1 => some r1)))
abbrev R_ref1_Tree (r : XApi_Fault) : AV := (.agg (cXApi_Fault r))
def RR_ref1_Tree (r : XApi_Fault) (x : Exit × St) : Prop := x.1 = .ret ∧ Fin cx [.cell 2 27] [] (R_ref1_Tree r) [] x
set_option maxHeartbeats 4000000 in
theorem T_ref1_Tree {fu nn : Nat} {a0 : XApi_Tree} {r : XApi_Fault} (hF : ref1_Tree fu a0 = some r) : den cx (fu + nn + 5) 25 [(.agg (cXApi_Tree a0))] = some (R_ref1_Tree r, []) := by
 unfold ref1_Tree at hF
 refine fnA Try.func25 Try.ntmps25 (by exact spine) (sl := [0]) ?_
 refine sr <| pp oBoxF <| ww oAlloc <| nl <| sq <| sr <| pp oFA <| pp oLd <| pp oLenSl <| ?_
 refine bb hF fun x1 h1 hF => ?_
 refine pp (oCallZ (T_ref1_in h1)) <| pp oNot <| nl <| ?_
 refine cd hF (fun hF => ?_) (fun hF => ?_)
 · refine sr <| ?_
   refine bb hF fun x2 h2 hF => ?_
   refine pp (oCall (T_ref1_fault h2)) <| ww oStR <| nl <| rt <| qsR <| ?_
   obtain rfl := inj hF
   exact fin1
 · refine sk <| qs <| sq <| sr <| pp oAssign <| nl <| ?_
   refine lpR (fun (s : Int) => mkSt 46 [1, 2, 3] [(.vp (cXApi_Tree a0)), (.ownp (cXApi_Fault (XApi_Fault.mk 0 0))), (I s)]) (fun (s : Unit) => mkSt 46 [1, 2] [(.vp (cXApi_Tree a0)), (.ownp (cXApi_Fault (XApi_Fault.mk 0 0)))]) RR_ref1_Tree hF cutR' ?_ ?_ ?_
   · rintro y4 z1 hF
     replace hF : ref1_Tree_L1 fu a0 y4 = some z1 := hF
     unfold ref1_Tree_L1 at hF
     refine mk ?_
     refine sq <| sr <| pp oMove <| pp oFA <| pp oLd <| pp oLenSl <| pp oLss <| nl <| ?_
     refine cd hF (fun hF => ?_) (fun hF => ?_)
     · refine sk <| qs <| sq <| bl <| sr <| pp oLdA <| pp oMove <| ?_
       refine bb hF fun x3 h3 hF => ?_
       refine pp (oCallZ (dnE (T_ref1_wrong (fu := fu) (nn := nn + 0) h3) (by omega))) <| pp oAssign <| nl <| sr <| pp oMove <| pp oNeq <| nl <| ?_
       refine cd hF (fun hF => ?_) (fun hF => ?_)
       · refine sr <| pp oMove <| pp oMove <| ?_
         refine bb hF fun x4 h4 hF => ?_
         refine pp (oCall (T_ref1_fault h4)) <| ww oStR <| nl <| rt <| qbR <| qsR <| ?_
         exact lr hF ⟨rfl, fin1⟩
       · refine sk <| qb <| qs <| rg <| pp oMove <| pp oAdd <| pp oAssign <| nl <| ?_
         exact ln hF cutR'
     · refine ex <| qsE <| ?_
       exact lxR hF cutR'
   · intro _ hF
     refine qmk ?_
     refine qs <| sr <| pp oFA <| pp oLd <| pp oLenSl <| pp oSub <| pp oAssign <| nl <| sq <| srD <| pp oLdA <| pp oMove <| ?_
     refine bb hF fun x5 h5 hF => ?_
     refine pp (oCallZ (dnE (T_ref1_Many (fu := fu) (nn := nn + 3) h5) (by omega))) <| pp oFA <| pp oLd <| pp oLenSl <| pp oNeq <| nlD <| ?_
     refine cd hF (fun hF => ?_) (fun hF => ?_)
     · refine sr <| pp oMove <| ?_
       refine bb hF fun x6 h6 hF => ?_
       refine pp (oCall (T_ref1_fault h6)) <| ww oStR <| nl <| rt <| qsR <| ?_
       obtain rfl := inj hF
       exact fin1
     · refine sk <| qs <| sq <| sr <| pp oLdA <| pp oMove <| ?_
       refine bb hF fun x7 h7 hF => ?_
       refine pp (oCallZ (dnE (T_ref1_Deep (fu := fu) (nn := nn + 3) h7) (by omega))) <| pp oGtr <| nl <| ?_
       refine cd hF (fun hF => ?_) (fun hF => ?_)
       · refine sr <| ?_
         refine bb hF fun x8 h8 hF => ?_
         refine pp (oCall (T_ref1_fault h8)) <| ww oStR <| nl <| rt <| qsR <| ?_
         obtain rfl := inj hF
         exact fin1
       · refine sk <| qs <| sr <| pp oBuild <| ww oStR <| nl <| rt <| ?_
         obtain rfl := inj hF
         exact fin1
   · rintro r1 hF ⟨xe, xs⟩ ⟨hxe, hfin⟩
     obtain rfl : xe = Exit.ret := hxe
     obtain rfl := inj hF
     refine qbR <| qsR <| ?_
     exact hfin
noncomputable def ref1_Rooms_declare_L1 (a0 : XTurneryref1_Rooms) (a1 : XApi_Tree) (a2 : Int) (y6 : Int) : Option (Lp Int (Br Unit XTurneryref1_Rooms)) :=
 if (decide (y6 < (a0.Has.length : Int))) then
 (((idx a0.Room y6).bind fun x1 =>
 if (x1 == a0.Now) then
 ((idx a0.Has y6).bind fun x2 =>
 (idx a1.Nodes x2).bind fun x3 =>
 (idx a1.Nodes a2).bind fun x4 =>
 some (x3.Text.toList == x4.Text.toList))
 else
 (some false)).bind fun p1 =>
 if p1 then
 ((ref1_fault 7 a2).bind fun x5 =>
 some (.out (.ret (XTurneryref1_Rooms.mk a0.Has a0.Room a0.Now x5 a0.Of))))
 else
 (some (.next (w64 (y6 + 1)))))
 else
 (some (.out (.brk ())))
noncomputable def ref1_Rooms_declare (a0 : XTurneryref1_Rooms) (a1 : XApi_Tree) (a2 : Int) : Option XTurneryref1_Rooms :=
 (Loop (fun (s : Int) => ref1_Rooms_declare_L1 a0 a1 a2 s) 0).bind (Br.go (fun _ =>
 (app [] a0.Has).bind fun x6 =>
 (app [] a0.Room).bind fun x7 =>
 (app x6 ([a2] : List Int)).bind fun x8 =>
 (app x7 ([a0.Now] : List Int)).bind fun x9 =>
 (idx a0.Of a2).bind fun x10 =>
 some (XTurneryref1_Rooms.mk x8 x9 a0.Now a0.Bad (List.set a0.Of ((a2) : Int).toNat a2))) (fun r1 => some r1))
abbrev R_ref1_Rooms_declare (r : XTurneryref1_Rooms) : AV := (.agg (cXTurneryref1_Rooms_SIIIIOe r))
def RR_ref1_Rooms_declare (r : XTurneryref1_Rooms) (x : Exit × St) : Prop := x.1 = .ret ∧ Fin cx [.cell 6 57] [] (R_ref1_Rooms_declare r) [] x
set_option maxHeartbeats 4000000 in
theorem T_ref1_Rooms_declare {nn : Nat} {a0 : XTurneryref1_Rooms} {a1 : XApi_Tree} {a2 : Int} {r : XTurneryref1_Rooms} (hF : ref1_Rooms_declare a0 a1 a2 = some r) : den cx (nn + 2) 27 [(.agg (cXTurneryref1_Rooms_SIIIIOe a0)), (.agg (cXApi_Tree a1)), (I a2)] = some (R_ref1_Rooms_declare r, []) := by
 unfold ref1_Rooms_declare at hF
 refine fnA Try.func27 Try.ntmps27 (by exact spine) (sl := [0, 1, 2]) ?_
 refine sr <| ww oBoxM <| pp oBoxF <| ww oAlloc <| nl <| sq <| sr <| pp oAssign <| nl <| ?_
 refine lpR (fun (s : Int) => mkSt 73 [2, 3, 4, 6, 7] [(I a2), (.ownp (cXTurneryref1_Rooms_SIIIIOe a0)), (.vp (cXApi_Tree a1)), (.ownp (cXTurneryref1_Rooms_SOOIIOe (XTurneryref1_Rooms.mk [] [] 0 (XApi_Fault.mk 0 0) []))), (I s)]) (fun (s : Unit) => mkSt 73 [2, 3, 6] [(I a2), (.ownp (cXTurneryref1_Rooms_SIIIIOe a0)), (.ownp (cXTurneryref1_Rooms_SOOIIOe (XTurneryref1_Rooms.mk [] [] 0 (XApi_Fault.mk 0 0) [])))]) RR_ref1_Rooms_declare hF cutR' ?_ ?_ ?_
 · rintro y6 z1 hF
   replace hF : ref1_Rooms_declare_L1 a0 a1 a2 y6 = some z1 := hF
   unfold ref1_Rooms_declare_L1 at hF
   refine mk ?_
   refine sq <| sr <| pp oMove <| pp oFAM <| rr oLdR <| pp oLenSl <| pp oLss <| nl <| ?_
   refine cd hF (fun hF => ?_) (fun hF => ?_)
   · refine sk <| qs <| sq <| bl <| ?_
     refine srC (fun (s : Bool) => mkSt 73 [2, 3, 4, 6, 7, 43] [(I a2), (.ownp (cXTurneryref1_Rooms_SIIIIOe a0)), (.vp (cXApi_Tree a1)), (.ownp (cXTurneryref1_Rooms_SOOIIOe (XTurneryref1_Rooms.mk [] [] 0 (XApi_Fault.mk 0 0) []))), (I y6), (B s)]) hF (fun z2 hF => ?_) (fun p1 hF => ?_)
     · refine pp oFAM <| rr oLdR <| pp oMove <| ?_
       refine bb hF fun x1 h1 hF => ?_
       refine pp (oIx h1) <| pp oLd <| pp oFAM <| rr oLdR <| pp oEql <| pp oMove <| ?_
       refine spl (d := 25) hF (fun hF => ?_) (fun hF => ?_)
       · refine pt ar oFA <| pt ar oLd <| pt ar oFAM <| rt_ ar oLdR <| pt ar oMove <| ?_
         refine bb hF fun x2 h2 hF => ?_
         refine pt ar (oIx h2) <| pt ar oLd <| ?_
         refine bb hF fun x3 h3 hF => ?_
         refine pt ar (oIx h3) <| pt ar oFA <| pt ar oLd <| pt ar oFA <| pt ar oLd <| pt ar oMove <| ?_
         refine bb hF fun x4 h4 hF => ?_
         refine pt ar (oIx h4) <| pt ar oFA <| pt ar oLd <| pt ar oEqlS <| pp oPickT <| ?_
         obtain rfl := inj hF
         exact nlCD cutR'
       · refine no fun u1 k1 hk1 => ?_
         refine no fun u2 k2 hk2 => ?_
         refine no fun u3 k3 hk3 => ?_
         refine no fun u4 k4 hk4 => ?_
         refine no fun u5 k5 hk5 => ?_
         refine no fun u6 k6 hk6 => ?_
         refine no fun u7 k7 hk7 => ?_
         refine no fun u8 k8 hk8 => ?_
         refine no fun u9 k9 hk9 => ?_
         refine no fun u10 k10 hk10 => ?_
         refine no fun u11 k11 hk11 => ?_
         refine no fun u12 k12 hk12 => ?_
         refine no fun u13 k13 hk13 => ?_
         refine no fun u14 k14 hk14 => ?_
         refine no fun u15 k15 hk15 => ?_
         refine no fun u16 k16 hk16 => ?_
         refine no fun u17 k17 hk17 => ?_
         refine pp oPickF <| ?_
         obtain rfl := inj hF
         exact nlCD (hf := rok) cutR'
     · refine mk ?_
       refine cd hF (fun hF => ?_) (fun hF => ?_)
       · refine sr <| pp oMove <| ?_
         refine bb hF fun x5 h5 hF => ?_
         refine pp (oCall (T_ref1_fault h5)) <| pp oFAM <| ww oStR <| nl <| sr <| rr oLdRA <| ww oStR <| nl <| rt <| qbR <| qsR <| ?_
         exact lr hF ⟨rfl, fin1⟩
       · refine sk <| qb <| qs <| rg <| pp oMove <| pp oAdd <| pp oAssign <| nl <| ?_
         exact ln hF cutR'
   · refine ex <| qsE <| ?_
     exact lxR hF cutR'
 · intro _ hF
   refine qmk ?_
   refine qs <| sr <| pp oAssign <| pp oAssign <| nl <| sr <| pp oMove <| pp oFAM <| rr oLdR <| ?_
   refine bb hF fun x6 h6 hF => ?_
   refine ww (oAppN h6) <| pp oAssign <| nl <| sr <| pp oMove <| pp oFAM <| rr oLdR <| ?_
   refine bb hF fun x7 h7 hF => ?_
   refine ww (oAppN h7) <| pp oAssign <| nl <| sr <| pp oMove <| pp oMove <| pp oBSF <| ?_
   refine bb hF fun x8 h8 hF => ?_
   refine ww (oAppF h8) <| pp oFAM <| ww oStR <| nl <| sr <| pp oMove <| pp oFAM <| rr oLdR <| pp oBSF <| ?_
   refine bb hF fun x9 h9 hF => ?_
   refine ww (oAppF h9) <| pp oFAM <| ww oStR <| nl <| sr <| pp oFAM <| rr oLdR <| pp oMove <| pp oMove <| ?_
   refine bb hF fun x10 h10 hF => ?_
   refine rr (oIxM h10) <| ww (oStL (idx_nat h10) a2) <| nl <| sr <| rr oLdRA <| ww oStR <| nl <| rt <| ?_
   obtain rfl := inj hF
   exact fin1
 · rintro r1 hF ⟨xe, xs⟩ ⟨hxe, hfin⟩
   obtain rfl : xe = Exit.ret := hxe
   obtain rfl := inj hF
   refine qbR <| qsR <| ?_
   exact hfin
noncomputable def ref1_Rooms_find_J1 (y7 : Int) (y8 : Int) : Option (Lp (Int × Int) Int) :=
 some (.next (y8, (w64 (y7 + 1))))
noncomputable def ref1_Rooms_find_L1 (a0 : XTurneryref1_Rooms) (a1 : XApi_Tree) (a2 : ByteArray) (y6 : Int) (y7 : Int) : Option (Lp (Int × Int) Int) :=
 if (decide (y7 < (a0.Has.length : Int))) then
 (((idx a0.Has y7).bind fun x1 =>
 (idx a1.Nodes x1).bind fun x2 =>
 if (x2.Text.toList == a2.toList) then
 (if (decide (y6 < 0)) then
 (some true)
 else
 ((idx a0.Room y7).bind fun x3 =>
 (idx a0.Room y6).bind fun x4 =>
 some (decide (x4 < x3))))
 else
 (some false)).bind fun p1 =>
 if p1 then
 (ref1_Rooms_find_J1 y7 y7)
 else
 (ref1_Rooms_find_J1 y7 y6))
 else
 (some (.out y6))
noncomputable def ref1_Rooms_find (a0 : XTurneryref1_Rooms) (a1 : XApi_Tree) (a2 : ByteArray) : Option Int :=
 (Loop (fun (s : (Int × Int)) => ref1_Rooms_find_L1 a0 a1 a2 s.1 s.2) ((-1), 0)).bind fun v1 =>
 if (decide (v1 < 0)) then
 (some (-1))
 else
 ((idx a0.Has v1).bind fun x5 =>
 some x5)
abbrev R_ref1_Rooms_find (r : Int) : AV := (I r)
set_option maxHeartbeats 4000000 in
theorem T_ref1_Rooms_find {nn : Nat} {a0 : XTurneryref1_Rooms} {a1 : XApi_Tree} {a2 : ByteArray} {r : Int} (hF : ref1_Rooms_find a0 a1 a2 = some r) : den cx (nn + 1) 75 [(.agg (cXTurneryref1_Rooms a0)), (.agg (cXApi_Tree a1)), (AV.val (.string a2))] = some (R_ref1_Rooms_find r, []) := by
 unfold ref1_Rooms_find at hF
 refine fnA Try.func75 Try.ntmps75 (by exact spine) (sl := [0, 1, 2]) ?_
 refine sr <| pp oBoxF <| pp oBoxF <| pp oAssign <| nl <| sr <| pp oAssign <| nl <| sq <| sr <| pp oAssign <| nl <| ?_
 refine lp (fun (s : (Int × Int)) => mkSt 53 [2, 3, 4, 7, 8] [(AV.val (.string a2)), (.vp (cXTurneryref1_Rooms a0)), (.vp (cXApi_Tree a1)), (I s.1), (I s.2)]) (fun (s : Int) => mkSt 53 [3, 7] [(.vp (cXTurneryref1_Rooms a0)), (I s)]) hF cutR' ?_ ?_
 · rintro ⟨y6, y7⟩ z1 hF
   replace hF : ref1_Rooms_find_L1 a0 a1 a2 y6 y7 = some z1 := hF
   unfold ref1_Rooms_find_L1 at hF
   refine mk ?_
   refine sq <| sr <| pp oMove <| pp oFA <| pp oLd <| pp oLenSl <| pp oLss <| nl <| ?_
   refine cd hF (fun hF => ?_) (fun hF => ?_)
   · refine sk <| qs <| ?_
     refine sjn (r := z1) (fun (s : Int) => mkSt 53 [2, 3, 4, 7, 8] [(AV.val (.string a2)), (.vp (cXTurneryref1_Rooms a0)), (.vp (cXApi_Tree a1)), (I s), (I y7)]) (fun s => ref1_Rooms_find_J1 y7 s) ?_ ?_
     · refine bl <| ?_
       refine srC (fun (s : Bool) => mkSt 53 [2, 3, 4, 7, 8, 44] [(AV.val (.string a2)), (.vp (cXTurneryref1_Rooms a0)), (.vp (cXApi_Tree a1)), (I y6), (I y7), (B s)]) hF (fun z2 hF => ?_) (fun p1 hF => ?_)
       · refine pp oFA <| pp oLd <| pp oFA <| pp oLd <| pp oMove <| ?_
         refine bb hF fun x1 h1 hF => ?_
         refine pp (oIx h1) <| pp oLd <| ?_
         refine bb hF fun x2 h2 hF => ?_
         refine pp (oIx h2) <| pp oFA <| pp oLd <| pp oMove <| pp oEqlS <| pp oMove <| ?_
         refine spl (d := 28) hF (fun hF => ?_) (fun hF => ?_)
         · refine pt ar oMove <| pt ar oLss <| pt ar oMove <| ?_
           refine splG (d := 31) hF (fun hF => ?_) (fun hF => ?_)
           · refine no fun u1 k1 hk1 => ?_
             refine no fun u2 k2 hk2 => ?_
             refine no fun u3 k3 hk3 => ?_
             refine no fun u4 k4 hk4 => ?_
             refine no fun u5 k5 hk5 => ?_
             refine no fun u6 k6 hk6 => ?_
             refine no fun u7 k7 hk7 => ?_
             refine no fun u8 k8 hk8 => ?_
             refine no fun u9 k9 hk9 => ?_
             refine no fun u10 k10 hk10 => ?_
             refine no fun u11 k11 hk11 => ?_
             refine pt ar oPickT <| pp oPickT <| ?_
             obtain rfl := inj hF
             exact nlCD (hf := rok) cutR'
           · refine pt ar oFA <| pt ar oLd <| pt ar oMove <| ?_
             refine bb hF fun x3 h3 hF => ?_
             refine pt ar (oIx h3) <| pt ar oLd <| pt ar oFA <| pt ar oLd <| pt ar oMove <| ?_
             refine bb hF fun x4 h4 hF => ?_
             refine pt ar (oIx h4) <| pt ar oLd <| pt ar oGtr <| pt ar oPickF <| pp oPickT <| ?_
             obtain rfl := inj hF
             exact nlCD cutR'
         · refine no fun u12 k12 hk12 => ?_
           refine no fun u13 k13 hk13 => ?_
           refine no fun u14 k14 hk14 => ?_
           refine no fun u15 k15 hk15 => ?_
           refine no fun u16 k16 hk16 => ?_
           refine no fun u17 k17 hk17 => ?_
           refine no fun u18 k18 hk18 => ?_
           refine no fun u19 k19 hk19 => ?_
           refine no fun u20 k20 hk20 => ?_
           refine no fun u21 k21 hk21 => ?_
           refine no fun u22 k22 hk22 => ?_
           refine no fun u23 k23 hk23 => ?_
           refine no fun u24 k24 hk24 => ?_
           refine no fun u25 k25 hk25 => ?_
           refine no fun u26 k26 hk26 => ?_
           refine pp oPickF <| ?_
           obtain rfl := inj hF
           exact nlCD (hf := rok) cutR'
       · refine mk ?_
         refine cd hF (fun hF => ?_) (fun hF => ?_)
         · refine rg <| pp oMove <| pp oAssign <| nl <| qb <| ?_
           exact qj y7 hF cutR'
         · refine sk <| qb <| ?_
           exact qj y6 hF cutR'
     · rintro y8 hF
       replace hF : ref1_Rooms_find_J1 y7 y8 = some z1 := hF
       unfold ref1_Rooms_find_J1 at hF
       refine mk ?_
       refine rg <| pp oMove <| pp oAdd <| pp oAssign <| nl <| ?_
       exact ln hF cutR'
   · refine ex <| qsE <| ?_
     exact lx hF cutR'
 · intro v1 hF
   refine qmk ?_
   refine qs <| sq <| sr <| pp oMove <| pp oLss <| nl <| ?_
   refine cd hF (fun hF => ?_) (fun hF => ?_)
   · refine sr <| pp oAssign <| nl <| rt <| qsR <| ?_
     obtain rfl := inj hF
     exact fin1
   · refine sk <| qs <| sr <| pp oFA <| pp oLd <| pp oMove <| ?_
     refine bb hF fun x5 h5 hF => ?_
     refine pp (oIx h5) <| pp oLd <| pp oAssign <| nl <| rt <| ?_
     obtain rfl := inj hF
     exact fin1
noncomputable def ref1_Rooms_all_L1 (rc48 : XTurneryref1_Rooms → XApi_Tree → Int → Option XTurneryref1_Rooms) (a1 : XApi_Tree) (a2 : Int) (y6 : XTurneryref1_Rooms) (y7 : Int) : Option (Lp (XTurneryref1_Rooms × Int) XTurneryref1_Rooms) :=
 (idx a1.Nodes a2).bind fun x1 =>
 if (if (decide (y7 < (x1.Kids.length : Int))) then (y6.Bad.Code == 0) else false) then
 ((idx a1.Nodes a2).bind fun x2 =>
 (idx x2.Kids y7).bind fun x3 =>
 (rc48 y6 a1 x3).bind fun x4 =>
 some (.next (x4, (w64 (y7 + 1)))))
 else
 (some (.out y6))
noncomputable def ref1_Rooms_all_B (fu : Nat) (rc28 : XTurneryref1_Rooms → XApi_Tree → Int → Option XTurneryref1_Rooms) (rc48 : XTurneryref1_Rooms → XApi_Tree → Int → Option XTurneryref1_Rooms) (a0 : XTurneryref1_Rooms) (a1 : XApi_Tree) (a2 : Int) : Option XTurneryref1_Rooms :=
 (Loop (fun (s : (XTurneryref1_Rooms × Int)) => ref1_Rooms_all_L1 rc48 a1 a2 s.1 s.2) (a0, 0)).bind fun v1 =>
 some v1
noncomputable def ref1_Rooms_look_J1 (y1 : XTurneryref1_Rooms) : Option XTurneryref1_Rooms :=
 some y1
noncomputable def ref1_Rooms_look_J2 (rc28 : XTurneryref1_Rooms → XApi_Tree → Int → Option XTurneryref1_Rooms) (a1 : XApi_Tree) (a2 : Int) (y2 : XTurneryref1_Rooms) : Option XTurneryref1_Rooms :=
 (rc28 y2 a1 a2).bind fun x10 =>
 some x10
noncomputable def ref1_Rooms_look_J3 (y11 : Int) (y12 : Int) : Option (Lp (Int × Int) Int) :=
 some (.next (y12, (w64 (y11 + 1))))
noncomputable def ref1_Rooms_look_L1 (a0 : XTurneryref1_Rooms) (a1 : XApi_Tree) (x1 : XApi_Node) (y10 : Int) (y11 : Int) : Option (Lp (Int × Int) Int) :=
 if (decide (y11 < (a0.Has.length : Int))) then
 (((idx a0.Room y11).bind fun x11 =>
 if (x11 == 0) then
 ((idx a0.Has y11).bind fun x12 =>
 (idx a1.Nodes x12).bind fun x13 =>
 if (x13.Text.toList == x1.Text.toList) then
 ((idx a0.Has y11).bind fun x14 =>
 (idx a1.Nodes x14).bind fun x15 =>
 some (x15.Kind == 3))
 else
 (some false))
 else
 (some false)).bind fun p2 =>
 if p2 then
 ((idx a0.Has y11).bind fun x16 =>
 ref1_Rooms_look_J3 y11 x16)
 else
 (ref1_Rooms_look_J3 y11 y10))
 else
 (some (.out y10))
noncomputable def ref1_Rooms_look_B (fu : Nat) (rc28 : XTurneryref1_Rooms → XApi_Tree → Int → Option XTurneryref1_Rooms) (rc48 : XTurneryref1_Rooms → XApi_Tree → Int → Option XTurneryref1_Rooms) (a0 : XTurneryref1_Rooms) (a1 : XApi_Tree) (a2 : Int) : Option XTurneryref1_Rooms :=
 (idx a1.Nodes a2).bind fun x1 =>
 if (if (if (if (x1.Kind == 3) then true else (x1.Kind == 11)) then true else (x1.Kind == 17)) then true else (x1.Kind == 18)) then
 ((rc28 (XTurneryref1_Rooms.mk a0.Has a0.Room (w64 (a0.Now + 1)) a0.Bad a0.Of) a1 a2).bind fun x2 =>
 some (XTurneryref1_Rooms.mk a0.Has a0.Room (w64 (x2.Now - 1)) x2.Bad x2.Of))
 else
 (if (x1.Kind == 4) then
 ((ref1_Rooms_declare a0 a1 a2).bind fun x3 =>
 some x3)
 else
 (if (x1.Kind == 12) then
 ((rc28 a0 a1 a2).bind fun x4 =>
 if (x4.Bad.Code == 0) then
 ((ref1_Rooms_declare x4 a1 a2).bind fun x5 =>
 ref1_Rooms_look_J1 x5)
 else
 (ref1_Rooms_look_J1 x4))
 else
 (if (x1.Kind == 32) then
 ((ref1_Rooms_find a0 a1 x1.Text).bind fun x6 =>
 (if (decide (x6 < 0)) then
 (some true)
 else
 ((idx a1.Nodes x6).bind fun x7 =>
 some (x7.Kind == 3))).bind fun p1 =>
 if p1 then
 ((ref1_fault 6 a2).bind fun x8 =>
 some (XTurneryref1_Rooms.mk a0.Has a0.Room a0.Now x8 a0.Of))
 else
 ((idx a0.Of a2).bind fun x9 =>
 some (XTurneryref1_Rooms.mk a0.Has a0.Room a0.Now a0.Bad (List.set a0.Of ((a2) : Int).toNat x6))))
 else
 (if (x1.Kind == 33) then
 ((Loop (fun (s : (Int × Int)) => ref1_Rooms_look_L1 a0 a1 x1 s.1 s.2) ((-1), 0)).bind fun v1 =>
 if (if (if (decide (v1 < 0)) then (x1.Text.toList != (ByteArray.mk #[114, 101, 97, 100]).toList) else false) then (x1.Text.toList != (ByteArray.mk #[112, 114, 105, 110, 116]).toList) else false) then
 ((ref1_fault 6 a2).bind fun x17 =>
 some (XTurneryref1_Rooms.mk a0.Has a0.Room a0.Now x17 a0.Of))
 else
 ((idx a0.Of a2).bind fun x18 =>
 ref1_Rooms_look_J2 rc28 a1 a2 (XTurneryref1_Rooms.mk a0.Has a0.Room a0.Now a0.Bad (List.set a0.Of ((a2) : Int).toNat v1))))
 else
 (ref1_Rooms_look_J2 rc28 a1 a2 a0)))))
noncomputable def ref1_Rooms_all_grp : Nat → (XTurneryref1_Rooms → XApi_Tree → Int → Option XTurneryref1_Rooms) × (XTurneryref1_Rooms → XApi_Tree → Int → Option XTurneryref1_Rooms)
 | 0 => (fun _ _ _ => none, fun _ _ _ => none)
 | m + 1 => (ref1_Rooms_all_B m ((ref1_Rooms_all_grp m).1) ((ref1_Rooms_all_grp m).2), ref1_Rooms_look_B m ((ref1_Rooms_all_grp m).1) ((ref1_Rooms_all_grp m).2))
noncomputable def ref1_Rooms_all (fu : Nat) : XTurneryref1_Rooms → XApi_Tree → Int → Option XTurneryref1_Rooms := (ref1_Rooms_all_grp fu).1
abbrev R_ref1_Rooms_all (r : XTurneryref1_Rooms) : AV := (.agg (cXTurneryref1_Rooms_SIIIIOe r))
noncomputable def ref1_Rooms_look (fu : Nat) : XTurneryref1_Rooms → XApi_Tree → Int → Option XTurneryref1_Rooms := (ref1_Rooms_all_grp fu).2
abbrev R_ref1_Rooms_look (r : XTurneryref1_Rooms) : AV := (.agg (cXTurneryref1_Rooms_SIIIIOe r))
set_option maxHeartbeats 4000000 in
theorem T_ref1_Rooms_all_B {fu nn : Nat} {rc28 : XTurneryref1_Rooms → XApi_Tree → Int → Option XTurneryref1_Rooms} {rc48 : XTurneryref1_Rooms → XApi_Tree → Int → Option XTurneryref1_Rooms} (ih28 : ∀ {a0 : XTurneryref1_Rooms} {a1 : XApi_Tree} {a2 : Int} {r : XTurneryref1_Rooms}, rc28 a0 a1 a2 = some r → den cx (fu + nn + 2) 28 [(.agg (cXTurneryref1_Rooms_SIIIIOe a0)), (.agg (cXApi_Tree a1)), (I a2)] = some (R_ref1_Rooms_all r, [])) (ih48 : ∀ {a0 : XTurneryref1_Rooms} {a1 : XApi_Tree} {a2 : Int} {r : XTurneryref1_Rooms}, rc48 a0 a1 a2 = some r → den cx (fu + nn + 2) 48 [(.agg (cXTurneryref1_Rooms_SIIIIOe a0)), (.agg (cXApi_Tree a1)), (I a2)] = some (R_ref1_Rooms_look r, [])) {a0 : XTurneryref1_Rooms} {a1 : XApi_Tree} {a2 : Int} {r : XTurneryref1_Rooms} (hF : ref1_Rooms_all_B fu rc28 rc48 a0 a1 a2 = some r) : den cx (fu + nn + 3) 28 [(.agg (cXTurneryref1_Rooms_SIIIIOe a0)), (.agg (cXApi_Tree a1)), (I a2)] = some (R_ref1_Rooms_all r, []) := by
 unfold ref1_Rooms_all_B at hF
 refine fnA Try.func28 Try.ntmps28 (by exact spine) (sl := [0, 1, 2]) ?_
 refine sr <| ww oBoxM <| pp oBoxF <| ww oAlloc <| nl <| sq <| sr <| pp oAssign <| nl <| ?_
 refine lp (fun (s : (XTurneryref1_Rooms × Int)) => mkSt 38 [2, 3, 4, 6, 7] [(I a2), (.ownp (cXTurneryref1_Rooms_SIIIIOe s.1)), (.vp (cXApi_Tree a1)), (.ownp (cXTurneryref1_Rooms_SOOIIOe (XTurneryref1_Rooms.mk [] [] 0 (XApi_Fault.mk 0 0) []))), (I s.2)]) (fun (s : XTurneryref1_Rooms) => mkSt 38 [3, 6] [(.ownp (cXTurneryref1_Rooms_SIIIIOe s)), (.ownp (cXTurneryref1_Rooms_SOOIIOe (XTurneryref1_Rooms.mk [] [] 0 (XApi_Fault.mk 0 0) [])))]) hF cutR' ?_ ?_
 · rintro ⟨y6, y7⟩ z1 hF
   replace hF : ref1_Rooms_all_L1 rc48 a1 a2 y6 y7 = some z1 := hF
   unfold ref1_Rooms_all_L1 at hF
   refine mk ?_
   refine sq <| sr <| pp oMove <| pp oFA <| pp oLd <| pp oMove <| ?_
   refine bb hF fun x1 h1 hF => ?_
   refine pp (oIx h1) <| pp oFA <| pp oLd <| pp oLenSl <| pp oLss <| pp oMove <| pg ar oFAM <| pg ar oFAM <| rgd ar oLdR <| pg ar oEql <| pp oPick <| nl <| ?_
   refine cd hF (fun hF => ?_) (fun hF => ?_)
   · refine sk <| qs <| sq <| bl <| rgD <| rr oLdRA <| pp oLdA <| pp oFA <| pp oLd <| pp oMove <| ?_
     refine bb hF fun x2 h2 hF => ?_
     refine pp (oIx h2) <| pp oFA <| pp oLd <| pp oMove <| ?_
     refine bb hF fun x3 h3 hF => ?_
     refine pp (oIx h3) <| pp oLd <| ?_
     refine bb hF fun x4 h4 hF => ?_
     refine ww (oCallT (ih48 h4)) <| ww oStR <| nlD <| qb <| qs <| rg <| pp oMove <| pp oAdd <| pp oAssign <| nl <| ?_
     exact ln hF cutR'
   · refine ex <| qsE <| ?_
     exact lx hF cutR'
 · intro v1 hF
   refine qmk ?_
   refine qs <| sr <| rr oLdRA <| ww oStR <| nl <| rt <| ?_
   obtain rfl := inj hF
   exact fin1
set_option maxHeartbeats 4000000 in
theorem T_ref1_Rooms_look_B {fu nn : Nat} {rc28 : XTurneryref1_Rooms → XApi_Tree → Int → Option XTurneryref1_Rooms} {rc48 : XTurneryref1_Rooms → XApi_Tree → Int → Option XTurneryref1_Rooms} (ih28 : ∀ {a0 : XTurneryref1_Rooms} {a1 : XApi_Tree} {a2 : Int} {r : XTurneryref1_Rooms}, rc28 a0 a1 a2 = some r → den cx (fu + nn + 2) 28 [(.agg (cXTurneryref1_Rooms_SIIIIOe a0)), (.agg (cXApi_Tree a1)), (I a2)] = some (R_ref1_Rooms_all r, [])) (ih48 : ∀ {a0 : XTurneryref1_Rooms} {a1 : XApi_Tree} {a2 : Int} {r : XTurneryref1_Rooms}, rc48 a0 a1 a2 = some r → den cx (fu + nn + 2) 48 [(.agg (cXTurneryref1_Rooms_SIIIIOe a0)), (.agg (cXApi_Tree a1)), (I a2)] = some (R_ref1_Rooms_look r, [])) {a0 : XTurneryref1_Rooms} {a1 : XApi_Tree} {a2 : Int} {r : XTurneryref1_Rooms} (hF : ref1_Rooms_look_B fu rc28 rc48 a0 a1 a2 = some r) : den cx (fu + nn + 3) 48 [(.agg (cXTurneryref1_Rooms_SIIIIOe a0)), (.agg (cXApi_Tree a1)), (I a2)] = some (R_ref1_Rooms_look r, []) := by
 unfold ref1_Rooms_look_B at hF
 refine fnA Try.func48 Try.ntmps48 (by exact spine) (sl := [0, 1, 2]) ?_
 refine sr <| ww oBoxM <| pp oBoxF <| ww oAlloc <| nl <| sr <| pp oFA <| pp oLd <| pp oMove <| ?_
 refine bb hF fun x1 h1 hF => ?_
 refine pp (oIx h1) <| pp oLdA <| ww oAlloc <| ww oStF <| nl <| sq <| sr <| pp oFA <| pp oLd <| pp oEql <| pp oMove <| pg ar oFA <| pg ar oLd <| pg ar oEql <| ?_
 refine pp oPick <| pp oMove <| pg ar oFA <| pg ar oLd <| pg ar oEql <| pp oPick <| pp oMove <| pg ar oFA <| pg ar oLd <| pg ar oEql <| pp oPick <| nl <| ?_
 refine cd hF (fun hF => ?_) (fun hF => ?_)
 · refine sr <| pp oFAM <| rr oLdR <| pp oAssign <| nl <| sr <| pp oFAM <| rr oLdR <| pp oAssign <| nl <| sr <| pp oFAM <| rr oLdR <| pp oAdd <| ?_
   refine pp oFAM <| ww oStR <| nl <| sr <| rr oLdRA <| pp oLdA <| pp oMove <| ?_
   refine bb hF fun x2 h2 hF => ?_
   refine ww (oCallT (ih28 h2)) <| ww oStR <| nl <| sr <| pp oFAM <| rr oLdR <| pp oSub <| pp oFAM <| ww oStR <| nl <| sr <| pp oMove <| pp oFAM <| ww oStR <| ?_
   refine nl <| sr <| pp oMove <| pp oFAM <| ww oStR <| nl <| sr <| rr oLdRA <| ww oStR <| nl <| rt <| qsR <| ?_
   obtain rfl := inj hF
   exact fin1
 · refine sk <| qs <| sq <| sr <| pp oFA <| pp oLd <| pp oEql <| nl <| ?_
   refine cd hF (fun hF => ?_) (fun hF => ?_)
   · refine sr <| rr oLdRA <| pp oLdA <| pp oMove <| ?_
     refine bb hF fun x3 h3 hF => ?_
     refine ww (oCallT (T_ref1_Rooms_declare h3)) <| ww oStR <| nl <| rt <| qsR <| ?_
     obtain rfl := inj hF
     exact fin1
   · refine sk <| qs <| sq <| sr <| pp oFA <| pp oLd <| pp oEql <| nl <| ?_
     refine cd hF (fun hF => ?_) (fun hF => ?_)
     · refine sr <| rr oLdRA <| pp oLdA <| pp oMove <| ?_
       refine bb hF fun x4 h4 hF => ?_
       refine ww (oCallT (ih28 h4)) <| ww oStR <| nl <| ?_
       refine sjn (r := r) (fun (s : XTurneryref1_Rooms) => mkSt 183 [3, 6] [(.ownp (cXTurneryref1_Rooms_SIIIIOe s)), (.ownp (cXTurneryref1_Rooms_SOOIIOe (XTurneryref1_Rooms.mk [] [] 0 (XApi_Fault.mk 0 0) [])))]) (fun s => ref1_Rooms_look_J1 s) ?_ ?_
       · refine sr <| pp oFAM <| pp oFAM <| rr oLdR <| pp oEql <| nl <| ?_
         refine cd hF (fun hF => ?_) (fun hF => ?_)
         · refine rg <| rr oLdRA <| pp oLdA <| pp oMove <| ?_
           refine bb hF fun x5 h5 hF => ?_
           refine ww (oCallT (T_ref1_Rooms_declare h5)) <| ww oStR <| nl <| ?_
           exact qj x5 hF cutR'
         · refine sk <| ?_
           exact qj x4 hF cutR'
       · rintro y1 hF
         replace hF : ref1_Rooms_look_J1 y1 = some r := hF
         unfold ref1_Rooms_look_J1 at hF
         refine mk ?_
         refine sr <| rr oLdRA <| ww oStR <| nl <| rt <| qsR <| ?_
         obtain rfl := inj hF
         exact fin1
     · refine sk <| qs <| sq <| sr <| pp oFA <| pp oLd <| pp oEql <| nl <| ?_
       refine cd hF (fun hF => ?_) (fun hF => ?_)
       · refine sr <| rr oLdRA <| pp oLdA <| pp oFA <| pp oLd <| ?_
         refine bb hF fun x6 h6 hF => ?_
         refine rr (oCall (T_ref1_Rooms_find h6)) <| pp oAssign <| nl <| sq <| ?_
         refine srC (fun (s : Bool) => mkSt 183 [2, 3, 6, 10, 98] [(I a2), (.ownp (cXTurneryref1_Rooms_SIIIIOe a0)), (.ownp (cXTurneryref1_Rooms_SOOIIOe (XTurneryref1_Rooms.mk [] [] 0 (XApi_Fault.mk 0 0) []))), (I x6), (B s)]) hF (fun z1 hF => ?_) (fun p1 hF => ?_)
         · refine pp oMove <| pp oLss <| pp oMove <| ?_
           refine spl (d := 90) hF (fun hF => ?_) (fun hF => ?_)
           · refine no fun u1 k1 hk1 => ?_
             refine no fun u2 k2 hk2 => ?_
             refine no fun u3 k3 hk3 => ?_
             refine no fun u4 k4 hk4 => ?_
             refine no fun u5 k5 hk5 => ?_
             refine no fun u6 k6 hk6 => ?_
             refine no fun u7 k7 hk7 => ?_
             refine pp oPickT <| ?_
             obtain rfl := inj hF
             exact nlC cutR'
           · refine pt ar oFA <| pt ar oLd <| pt ar oMove <| ?_
             refine bb hF fun x7 h7 hF => ?_
             refine pt ar (oIx h7) <| pt ar oFA <| pt ar oLd <| pt ar oEql <| pp oPickF <| ?_
             obtain rfl := inj hF
             exact nlC cutR'
         · refine mk ?_
           refine cd hF (fun hF => ?_) (fun hF => ?_)
           · refine sr <| pp oMove <| ?_
             refine bb hF fun x8 h8 hF => ?_
             refine pp (oCall (T_ref1_fault h8)) <| pp oFAM <| ww oStR <| nl <| sr <| rr oLdRA <| ww oStR <| nl <| rt <| qsR <| qsR <| ?_
             obtain rfl := inj hF
             exact fin1
           · refine sk <| qs <| sr <| pp oFAM <| rr oLdR <| pp oMove <| pp oMove <| ?_
             refine bb hF fun x9 h9 hF => ?_
             refine rr (oIxM h9) <| ww (oStL (idx_nat h9) x6) <| nl <| sr <| rr oLdRA <| ww oStR <| nl <| rt <| qsR <| ?_
             obtain rfl := inj hF
             exact fin1
       · refine sk <| qs <| ?_
         refine sjn (r := r) (fun (s : XTurneryref1_Rooms) => mkSt 183 [2, 3, 4, 6] [(I a2), (.ownp (cXTurneryref1_Rooms_SIIIIOe s)), (.vp (cXApi_Tree a1)), (.ownp (cXTurneryref1_Rooms_SOOIIOe (XTurneryref1_Rooms.mk [] [] 0 (XApi_Fault.mk 0 0) [])))]) (fun s => ref1_Rooms_look_J2 rc28 a1 a2 s) ?_ ?_
         · refine sr <| pp oFA <| pp oLd <| pp oEql <| nl <| ?_
           refine cd hF (fun hF => ?_) (fun hF => ?_)
           · refine sr <| pp oAssign <| nl <| sq <| sr <| pp oAssign <| nl <| ?_
             refine lp (fun (s : (Int × Int)) => mkSt 183 [2, 3, 4, 6, 7, 11, 12] [(I a2), (.ownp (cXTurneryref1_Rooms_SIIIIOe a0)), (.vp (cXApi_Tree a1)), (.ownp (cXTurneryref1_Rooms_SOOIIOe (XTurneryref1_Rooms.mk [] [] 0 (XApi_Fault.mk 0 0) []))), (.vp (cXApi_Node x1)), (I s.1), (I s.2)]) (fun (s : Int) => mkSt 183 [2, 3, 4, 6, 7, 11] [(I a2), (.ownp (cXTurneryref1_Rooms_SIIIIOe a0)), (.vp (cXApi_Tree a1)), (.ownp (cXTurneryref1_Rooms_SOOIIOe (XTurneryref1_Rooms.mk [] [] 0 (XApi_Fault.mk 0 0) []))), (.vp (cXApi_Node x1)), (I s)]) hF cutR' ?_ ?_
             · rintro ⟨y10, y11⟩ z2 hF
               replace hF : ref1_Rooms_look_L1 a0 a1 x1 y10 y11 = some z2 := hF
               unfold ref1_Rooms_look_L1 at hF
               refine mk ?_
               refine sq <| sr <| pp oMove <| pp oFAM <| rr oLdR <| pp oLenSl <| pp oLss <| nl <| ?_
               refine cd hF (fun hF => ?_) (fun hF => ?_)
               · refine sk <| qs <| ?_
                 refine sjn (r := z2) (fun (s : Int) => mkSt 183 [2, 3, 4, 6, 7, 11, 12] [(I a2), (.ownp (cXTurneryref1_Rooms_SIIIIOe a0)), (.vp (cXApi_Tree a1)), (.ownp (cXTurneryref1_Rooms_SOOIIOe (XTurneryref1_Rooms.mk [] [] 0 (XApi_Fault.mk 0 0) []))), (.vp (cXApi_Node x1)), (I s), (I y11)]) (fun s => ref1_Rooms_look_J3 y11 s) ?_ ?_
                 · refine bl <| ?_
                   refine srC (fun (s : Bool) => mkSt 183 [2, 3, 4, 6, 7, 11, 12, 152] [(I a2), (.ownp (cXTurneryref1_Rooms_SIIIIOe a0)), (.vp (cXApi_Tree a1)), (.ownp (cXTurneryref1_Rooms_SOOIIOe (XTurneryref1_Rooms.mk [] [] 0 (XApi_Fault.mk 0 0) []))), (.vp (cXApi_Node x1)), (I y10), (I y11), (B s)]) hF (fun z3 hF => ?_) (fun p2 hF => ?_)
                   · refine pp oFAM <| rr oLdR <| pp oMove <| ?_
                     refine bb hF fun x11 h11 hF => ?_
                     refine pp (oIx h11) <| pp oLd <| pp oEql <| pp oMove <| ?_
                     refine spl (d := 125) hF (fun hF => ?_) (fun hF => ?_)
                     · refine pt ar oFA <| pt ar oLd <| pt ar oFAM <| rt_ ar oLdR <| pt ar oMove <| ?_
                       refine bb hF fun x12 h12 hF => ?_
                       refine pt ar (oIx h12) <| pt ar oLd <| ?_
                       refine bb hF fun x13 h13 hF => ?_
                       refine pt ar (oIx h13) <| pt ar oFA <| pt ar oLd <| pt ar oFA <| pt ar oLd <| pt ar oEqlS <| pp oPickT <| pp oMove <| ?_
                       refine spl (d := 140) hF (fun hF => ?_) (fun hF => ?_)
                       · refine pt ar oFA <| pt ar oLd <| pt ar oFAM <| rt_ ar oLdR <| pt ar oMove <| ?_
                         refine bb hF fun x14 h14 hF => ?_
                         refine pt ar (oIx h14) <| pt ar oLd <| ?_
                         refine bb hF fun x15 h15 hF => ?_
                         refine pt ar (oIx h15) <| pt ar oFA <| pt ar oLd <| pt ar oEql <| pp oPickT <| ?_
                         obtain rfl := inj hF
                         exact nlCD cutR'
                       · refine no fun u8 k8 hk8 => ?_
                         refine no fun u9 k9 hk9 => ?_
                         refine no fun u10 k10 hk10 => ?_
                         refine no fun u11 k11 hk11 => ?_
                         refine no fun u12 k12 hk12 => ?_
                         refine no fun u13 k13 hk13 => ?_
                         refine no fun u14 k14 hk14 => ?_
                         refine no fun u15 k15 hk15 => ?_
                         refine no fun u16 k16 hk16 => ?_
                         refine no fun u17 k17 hk17 => ?_
                         refine no fun u18 k18 hk18 => ?_
                         refine pp oPickF <| ?_
                         obtain rfl := inj hF
                         exact nlCD (hf := rok) cutR'
                     · refine no fun u19 k19 hk19 => ?_
                       refine no fun u20 k20 hk20 => ?_
                       refine no fun u21 k21 hk21 => ?_
                       refine no fun u22 k22 hk22 => ?_
                       refine no fun u23 k23 hk23 => ?_
                       refine no fun u24 k24 hk24 => ?_
                       refine no fun u25 k25 hk25 => ?_
                       refine no fun u26 k26 hk26 => ?_
                       refine no fun u27 k27 hk27 => ?_
                       refine no fun u28 k28 hk28 => ?_
                       refine no fun u29 k29 hk29 => ?_
                       refine no fun u30 k30 hk30 => ?_
                       refine no fun u31 k31 hk31 => ?_
                       refine pp oPickF <| pp oMove <| ?_
                       refine no fun u32 k32 hk32 => ?_
                       refine no fun u33 k33 hk33 => ?_
                       refine no fun u34 k34 hk34 => ?_
                       refine no fun u35 k35 hk35 => ?_
                       refine no fun u36 k36 hk36 => ?_
                       refine no fun u37 k37 hk37 => ?_
                       refine no fun u38 k38 hk38 => ?_
                       refine no fun u39 k39 hk39 => ?_
                       refine no fun u40 k40 hk40 => ?_
                       refine no fun u41 k41 hk41 => ?_
                       refine no fun u42 k42 hk42 => ?_
                       refine pp oPickF <| ?_
                       obtain rfl := inj hF
                       exact nlCD (hf := rok) cutR'
                   · refine mk ?_
                     refine cd hF (fun hF => ?_) (fun hF => ?_)
                     · refine rg <| pp oFAM <| rr oLdR <| pp oMove <| ?_
                       refine bb hF fun x16 h16 hF => ?_
                       refine pp (oIx h16) <| pp oLd <| pp oAssign <| nl <| qb <| ?_
                       exact qj x16 hF cutR'
                     · refine sk <| qb <| ?_
                       exact qj y10 hF cutR'
                 · rintro y12 hF
                   replace hF : ref1_Rooms_look_J3 y11 y12 = some z2 := hF
                   unfold ref1_Rooms_look_J3 at hF
                   refine mk ?_
                   refine rg <| pp oMove <| pp oAdd <| pp oAssign <| nl <| ?_
                   exact ln hF cutR'
               · refine ex <| qsE <| ?_
                 exact lx hF cutR'
             · intro v1 hF
               refine qmk ?_
               refine qs <| sq <| sr <| pp oMove <| pp oLss <| pp oMove <| pg ar oFA <| pg ar oLd <| pg ar oNeqS <| pp oPick <| pp oMove <| pg ar oFA <| pg ar oLd <| pg ar oNeqS <| ?_
               refine pp oPick <| nl <| ?_
               refine cd hF (fun hF => ?_) (fun hF => ?_)
               · refine sr <| pp oMove <| ?_
                 refine bb hF fun x17 h17 hF => ?_
                 refine pp (oCall (T_ref1_fault h17)) <| pp oFAM <| ww oStR <| nl <| sr <| rr oLdRA <| ww oStR <| nl <| rt <| qsR <| qjR <| ?_
                 obtain rfl := inj hF
                 exact fin1
               · refine sk <| qs <| rg <| pp oFAM <| rr oLdR <| pp oMove <| pp oMove <| ?_
                 refine bb hF fun x18 h18 hF => ?_
                 refine rr (oIxM h18) <| ww (oStL (idx_nat h18) v1) <| nl <| ?_
                 exact qj (XTurneryref1_Rooms.mk a0.Has a0.Room a0.Now a0.Bad (List.set a0.Of ((a2) : Int).toNat v1)) hF cutR'
           · refine sk <| ?_
             exact qj a0 hF cutR'
         · rintro y2 hF
           replace hF : ref1_Rooms_look_J2 rc28 a1 a2 y2 = some r := hF
           unfold ref1_Rooms_look_J2 at hF
           refine mk ?_
           refine sr <| rr oLdRA <| pp oLdA <| pp oMove <| ?_
           refine bb hF fun x10 h10 hF => ?_
           refine ww (oCallT (ih28 h10)) <| ww oStR <| nl <| rt <| ?_
           obtain rfl := inj hF
           exact fin1
theorem T_ref1_Rooms_all_grp : ∀ (fu nn : Nat), (∀ {a0 : XTurneryref1_Rooms} {a1 : XApi_Tree} {a2 : Int} {r : XTurneryref1_Rooms}, ref1_Rooms_all fu a0 a1 a2 = some r → den cx (fu + nn + 3) 28 [(.agg (cXTurneryref1_Rooms_SIIIIOe a0)), (.agg (cXApi_Tree a1)), (I a2)] = some (R_ref1_Rooms_all r, [])) ∧ (∀ {a0 : XTurneryref1_Rooms} {a1 : XApi_Tree} {a2 : Int} {r : XTurneryref1_Rooms}, ref1_Rooms_look fu a0 a1 a2 = some r → den cx (fu + nn + 3) 48 [(.agg (cXTurneryref1_Rooms_SIIIIOe a0)), (.agg (cXApi_Tree a1)), (I a2)] = some (R_ref1_Rooms_look r, []))
 | 0, _ => ⟨(fun h => by cases h), (fun h => by cases h)⟩
 | m + 1, nn => by
  have ih := T_ref1_Rooms_all_grp m (nn + 0)
  rw [show m + (nn + 0) + 3 = m + (nn + 1) + 2 by omega] at ih
  rw [show m + 1 + nn + 3 = m + (nn + 1) + 3 by omega]
  exact ⟨fun h => T_ref1_Rooms_all_B (fu := m) (nn := nn + 1) (rc28 := ref1_Rooms_all m) (rc48 := ref1_Rooms_look m) ih.1 ih.2 h, fun h => T_ref1_Rooms_look_B (fu := m) (nn := nn + 1) (rc28 := ref1_Rooms_all m) (rc48 := ref1_Rooms_look m) ih.1 ih.2 h⟩
theorem T_ref1_Rooms_all {fu nn : Nat} {a0 : XTurneryref1_Rooms} {a1 : XApi_Tree} {a2 : Int} {r : XTurneryref1_Rooms} (hF : ref1_Rooms_all fu a0 a1 a2 = some r) : den cx (fu + nn + 3) 28 [(.agg (cXTurneryref1_Rooms_SIIIIOe a0)), (.agg (cXApi_Tree a1)), (I a2)] = some (R_ref1_Rooms_all r, []) := (T_ref1_Rooms_all_grp fu nn).1 hF
noncomputable def ref1_Names_L1 (a0 : XApi_Tree) (y6 : XTurneryref1_Rooms) (y7 : Int) : Option (Lp (XTurneryref1_Rooms × Int) XTurneryref1_Rooms) :=
 if (decide (y7 < (a0.Nodes.length : Int))) then
 ((app y6.Of ([(-1)] : List Int)).bind fun x4 =>
 some (.next ((XTurneryref1_Rooms.mk y6.Has y6.Room y6.Now y6.Bad x4), (w64 (y7 + 1)))))
 else
 (some (.out y6))
noncomputable def ref1_Names_L2 (a0 : XApi_Tree) (x5 : XApi_Node) (y14 : XTurneryref1_Rooms) (y15 : Int) : Option (Lp (XTurneryref1_Rooms × Int) (Br XTurneryref1_Rooms ((List Int) × XApi_Fault))) :=
 if (decide (y15 < (x5.Kids.length : Int))) then
 ((idx x5.Kids y15).bind fun x6 =>
 (idx a0.Nodes x6).bind fun x7 =>
 if (if (x7.Text.toList == (ByteArray.mk #[114, 101, 97, 100]).toList) then true else (x7.Text.toList == (ByteArray.mk #[112, 114, 105, 110, 116]).toList)) then
 ((idx x5.Kids y15).bind fun x8 =>
 (ref1_fault 12 x8).bind fun x9 =>
 some (.out (.ret ([], x9))))
 else
 ((idx x5.Kids y15).bind fun x10 =>
 (ref1_Rooms_declare y14 a0 x10).bind fun x11 =>
 if (x11.Bad.Code != 0) then
 (some (.out (.ret ([], x11.Bad))))
 else
 (some (.next (x11, (w64 (y15 + 1)))))))
 else
 (some (.out (.brk y14)))
noncomputable def ref1_Names (fu : Nat) (a0 : XApi_Tree) : Option ((List Int) × XApi_Fault) :=
 (ref1_Tree fu a0).bind fun x1 =>
 if (x1.Code != 0) then
 (some ([], x1))
 else
 ((idx a0.Nodes (w64 ((a0.Nodes.length : Int) - 1))).bind fun x2 =>
 if (x2.Kind != 1) then
 ((ref1_fault 11 0).bind fun x3 =>
 some ([], x3))
 else
 ((Loop (fun (s : (XTurneryref1_Rooms × Int)) => ref1_Names_L1 a0 s.1 s.2) ((XTurneryref1_Rooms.mk [] [] 0 (XApi_Fault.mk 0 0) []), 0)).bind fun v1 =>
 (idx a0.Nodes (w64 ((a0.Nodes.length : Int) - 1))).bind fun x5 =>
 (Loop (fun (s : (XTurneryref1_Rooms × Int)) => ref1_Names_L2 a0 x5 s.1 s.2) (v1, 0)).bind (Br.go (fun v2 =>
 (ref1_Rooms_all fu v2 a0 (w64 ((a0.Nodes.length : Int) - 1))).bind fun x12 =>
 if (x12.Bad.Code != 0) then
 (some ([], x12.Bad))
 else
 (some (x12.Of, (XApi_Fault.mk 0 0)))) (fun r1 => some r1))))
abbrev R_ref1_Names (r : ((List Int) × XApi_Fault)) : AV := (.tup [(.own ((r.1).map cInt_i64) (r.1).length), (.agg (cXApi_Fault r.2))])
def RR_ref1_Names (r : ((List Int) × XApi_Fault)) (x : Exit × St) : Prop := x.1 = .ret ∧ Fin cx [.tmp 2, .cell 3 27] [] (R_ref1_Names r) [] x
set_option maxHeartbeats 4000000 in
theorem T_ref1_Names {fu nn : Nat} {a0 : XApi_Tree} {r : ((List Int) × XApi_Fault)} (hF : ref1_Names fu a0 = some r) : den cx (fu + nn + 6) 7 [(.agg (cXApi_Tree a0))] = some (R_ref1_Names r, []) := by
 unfold ref1_Names at hF
 refine fnA Try.func7 Try.ntmps7 (by exact spine) (sl := [0]) ?_
 refine sr <| pp oBoxF <| pp oAssign <| ww oAlloc <| nl <| sr <| pp oLdA <| ?_
 refine bb hF fun x1 h1 hF => ?_
 refine pp (oCall (dnE (T_ref1_Tree (fu := fu) (nn := nn + 0) h1) (by omega))) <| ww oAlloc <| ww oStF <| nl <| sq <| sr <| pp oFA <| pp oLd <| pp oNeq <| nl <| ?_
 refine cd hF (fun hF => ?_) (fun hF => ?_)
 · refine srD <| pp oLdA <| pp oAssign <| ww oStR <| nlD <| rt <| qsR <| ?_
   obtain rfl := inj hF
   exact finT
 · refine sk <| qs <| sr <| pp oFA <| pp oLd <| pp oLenSl <| pp oSub <| pp oAssign <| nl <| sq <| sr <| pp oFA <| pp oLd <| pp oMove <| ?_
   refine bb hF fun x2 h2 hF => ?_
   refine pp (oIx h2) <| pp oFA <| pp oLd <| pp oNeq <| nl <| ?_
   refine cd hF (fun hF => ?_) (fun hF => ?_)
   · refine sr <| ?_
     refine bb hF fun x3 h3 hF => ?_
     refine pp (oCall (T_ref1_fault h3)) <| pp oAssign <| ww oStR <| nl <| rt <| qsR <| ?_
     obtain rfl := inj hF
     exact finT
   · refine sk <| qs <| sr <| ww oAllocZ <| nl <| sq <| sr <| pp oAssign <| nl <| ?_
     refine lp (fun (s : (XTurneryref1_Rooms × Int)) => mkSt 99 [1, 3, 5, 6, 7] [(.vp (cXApi_Tree a0)), (.ownp (cXApi_Fault (XApi_Fault.mk 0 0))), (I (w64 ((a0.Nodes.length : Int) - 1))), (.ownp (cXTurneryref1_Rooms_SIIIIOe s.1)), (I s.2)]) (fun (s : XTurneryref1_Rooms) => mkSt 99 [1, 3, 5, 6] [(.vp (cXApi_Tree a0)), (.ownp (cXApi_Fault (XApi_Fault.mk 0 0))), (I (w64 ((a0.Nodes.length : Int) - 1))), (.ownp (cXTurneryref1_Rooms_SIIIIOe s))]) hF cutR' ?_ ?_
     · rintro ⟨y6, y7⟩ z1 hF
       replace hF : ref1_Names_L1 a0 y6 y7 = some z1 := hF
       unfold ref1_Names_L1 at hF
       refine mk ?_
       refine sq <| sr <| pp oMove <| pp oFA <| pp oLd <| pp oLenSl <| pp oLss <| nl <| ?_
       refine cd hF (fun hF => ?_) (fun hF => ?_)
       · refine sk <| qs <| sq <| bl <| rg <| pp oFAM <| rr oLdR <| pp oBSF <| ?_
         refine bb hF fun x4 h4 hF => ?_
         refine ww (oApp h4) <| pp oFAM <| ww oStR <| nl <| qb <| qs <| rg <| pp oMove <| pp oAdd <| pp oAssign <| nl <| ?_
         exact ln hF cutR'
       · refine ex <| qsE <| ?_
         exact lx hF cutR'
     · intro v1 hF
       refine qmk ?_
       refine qs <| sr <| pp oFA <| pp oLd <| pp oMove <| ?_
       refine bb hF fun x5 h5 hF => ?_
       refine pp (oIx h5) <| pp oFA <| pp oLd <| pp oAssign <| nl <| sq <| sr <| pp oAssign <| nl <| ?_
       refine lpR (fun (s : (XTurneryref1_Rooms × Int)) => mkSt 99 [1, 3, 5, 6, 8, 9] [(.vp (cXApi_Tree a0)), (.ownp (cXApi_Fault (XApi_Fault.mk 0 0))), (I (w64 ((a0.Nodes.length : Int) - 1))), (.ownp (cXTurneryref1_Rooms_SIIIIOe s.1)), (.sl ((x5.Kids).map cInt_i64)), (I s.2)]) (fun (s : XTurneryref1_Rooms) => mkSt 99 [1, 3, 5, 6] [(.vp (cXApi_Tree a0)), (.ownp (cXApi_Fault (XApi_Fault.mk 0 0))), (I (w64 ((a0.Nodes.length : Int) - 1))), (.ownp (cXTurneryref1_Rooms_SIIIIOe s))]) RR_ref1_Names hF cutR' ?_ ?_ ?_
       · rintro ⟨y14, y15⟩ z2 hF
         replace hF : ref1_Names_L2 a0 x5 y14 y15 = some z2 := hF
         unfold ref1_Names_L2 at hF
         refine mk ?_
         refine sq <| sr <| pp oMove <| pp oMove <| pp oLenSl <| pp oLss <| nl <| ?_
         refine cd hF (fun hF => ?_) (fun hF => ?_)
         · refine sk <| qs <| sq <| bl <| srD <| pp oFA <| pp oLd <| pp oMove <| pp oMove <| ?_
           refine bb hF fun x6 h6 hF => ?_
           refine pp (oIx h6) <| pp oLd <| ?_
           refine bb hF fun x7 h7 hF => ?_
           refine pp (oIx h7) <| pp oFA <| pp oLd <| pp oAssign <| nlD <| sq <| sr <| pp oMove <| pp oEqlS <| pp oMove <| pg ar oMove <| pg ar oEqlS <| pp oPick <| nl <| ?_
           refine cd hF (fun hF => ?_) (fun hF => ?_)
           · refine sr <| pp oMove <| pp oMove <| ?_
             refine bb hF fun x8 h8 hF => ?_
             refine pp (oIx h8) <| pp oLd <| ?_
             refine bb hF fun x9 h9 hF => ?_
             refine pp (oCall (T_ref1_fault h9)) <| pp oAssign <| ww oStR <| nl <| rt <| qsR <| qbR <| qsR <| ?_
             exact lr hF ⟨rfl, finT⟩
           · refine sk <| qs <| srD <| rr oLdRA <| pp oLdA <| pp oMove <| pp oMove <| ?_
             refine bb hF fun x10 h10 hF => ?_
             refine pp (oIx h10) <| pp oLd <| ?_
             refine bb hF fun x11 h11 hF => ?_
             refine ww (oCallT (T_ref1_Rooms_declare h11)) <| ww oStR <| nlD <| sr <| pp oFAM <| pp oFAM <| rr oLdR <| pp oNeq <| nl <| ?_
             refine cd hF (fun hF => ?_) (fun hF => ?_)
             · refine srD <| pp oFAM <| rr oLdRA <| pp oAssign <| ww oStR <| nlD <| rt <| qbR <| qsR <| ?_
               exact lr hF ⟨rfl, finT⟩
             · refine sk <| qb <| qs <| rg <| pp oMove <| pp oAdd <| pp oAssign <| nl <| ?_
               exact ln hF cutR'
         · refine ex <| qsE <| ?_
           exact lxR hF cutR'
       · intro v2 hF
         refine qmk ?_
         refine qs <| sr <| rr oLdRA <| pp oLdA <| pp oMove <| ?_
         refine bb hF fun x12 h12 hF => ?_
         refine ww (oCallT (dnE (T_ref1_Rooms_all (fu := fu) (nn := nn + 2) h12) (by omega))) <| ww oStR <| nl <| sq <| sr <| pp oFAM <| pp oFAM <| rr oLdR <| pp oNeq <| nl <| ?_
         refine cd hF (fun hF => ?_) (fun hF => ?_)
         · refine srD <| pp oFAM <| rr oLdRA <| pp oAssign <| ww oStR <| nlD <| rt <| qsR <| ?_
           obtain rfl := inj hF
           exact finT
         · refine sk <| qs <| sr <| pp oFAM <| rr oLdR <| pp oBuild <| pp oAssign <| ww oStR <| nl <| rt <| ?_
           obtain rfl := inj hF
           exact finT
       · rintro r1 hF ⟨xe, xs⟩ ⟨hxe, hfin⟩
         obtain rfl : xe = Exit.ret := hxe
         obtain rfl := inj hF
         refine qbR <| qsR <| ?_
         exact hfin
noncomputable def same_Ints_L1 (a0 : (List Int)) (a1 : (List Int)) (y4 : Int) : Option (Lp Int (Br Unit Bool)) :=
 if (decide (y4 < (a0.length : Int))) then
 ((idx a0 y4).bind fun x1 =>
 (idx a1 y4).bind fun x2 =>
 if (x1 != x2) then
 (some (.out (.ret false)))
 else
 (some (.next (w64 (y4 + 1)))))
 else
 (some (.out (.brk ())))
noncomputable def same_Ints (a0 : (List Int)) (a1 : (List Int)) : Option Bool :=
 if ((a0.length : Int) != (a1.length : Int)) then
 (some false)
 else
 ((Loop (fun (s : Int) => same_Ints_L1 a0 a1 s) 0).bind (Br.go (fun _ =>
 some true) (fun r1 => some r1)))
abbrev R_same_Ints (r : Bool) : AV := (B r)
def RR_same_Ints (r : Bool) (x : Exit × St) : Prop := x.1 = .ret ∧ Fin cx [.tmp 4] [] (R_same_Ints r) [] x
set_option maxHeartbeats 4000000 in
theorem T_same_Ints {nn : Nat} {a0 : (List Int)} {a1 : (List Int)} {r : Bool} (hF : same_Ints a0 a1 = some r) : den cx (nn + 1) 8 [(.sl ((a0).map cInt_i64)), (.sl ((a1).map cInt_i64))] = some (R_same_Ints r, []) := by
 unfold same_Ints at hF
 refine fnA Try.func8 Try.ntmps8 (by exact spine) (sl := [0, 1]) ?_
 refine sr <| pp oAssign <| nl <| sq <| sr <| pp oMove <| pp oLenSl <| pp oMove <| pp oLenSl <| pp oNeq <| nl <| ?_
 refine cd hF (fun hF => ?_) (fun hF => ?_)
 · refine sr <| pp oAssign <| nl <| rt <| qsR <| ?_
   obtain rfl := inj hF
   exact fin1
 · refine sk <| qs <| sq <| sr <| pp oAssign <| nl <| ?_
   refine lpR (fun (s : Int) => mkSt 26 [0, 1, 5] [(.sl ((a0).map cInt_i64)), (.sl ((a1).map cInt_i64)), (I s)]) (fun (s : Unit) => mkSt 26 [] []) RR_same_Ints hF cutR' ?_ ?_ ?_
   · rintro y4 z1 hF
     replace hF : same_Ints_L1 a0 a1 y4 = some z1 := hF
     unfold same_Ints_L1 at hF
     refine mk ?_
     refine sq <| sr <| pp oMove <| pp oMove <| pp oLenSl <| pp oLss <| nl <| ?_
     refine cd hF (fun hF => ?_) (fun hF => ?_)
     · refine sk <| qs <| sq <| bl <| srD <| pp oMove <| pp oMove <| ?_
       refine bb hF fun x1 h1 hF => ?_
       refine pp (oIx h1) <| pp oLd <| pp oMove <| pp oMove <| ?_
       refine bb hF fun x2 h2 hF => ?_
       refine pp (oIx h2) <| pp oLd <| pp oNeq <| nlD <| ?_
       refine cd hF (fun hF => ?_) (fun hF => ?_)
       · refine sr <| pp oAssign <| nl <| rt <| qbR <| qsR <| ?_
         exact lr hF ⟨rfl, fin1⟩
       · refine sk <| qb <| qs <| rg <| pp oMove <| pp oAdd <| pp oAssign <| nl <| ?_
         exact ln hF cutR'
     · refine ex <| qsE <| ?_
       exact lxR hF cutR'
   · intro _ hF
     refine qmk ?_
     refine qs <| sr <| pp oAssign <| nl <| rt <| ?_
     obtain rfl := inj hF
     exact fin1
   · rintro r1 hF ⟨xe, xs⟩ ⟨hxe, hfin⟩
     obtain rfl : xe = Exit.ret := hxe
     obtain rfl := inj hF
     refine qbR <| qsR <| ?_
     exact hfin
noncomputable def types_typer_kid (a0 : XTypes_typer) (a1 : Int) (a2 : Int) : Option Int :=
 (idx a0.t.Nodes a1).bind fun x1 =>
 (idx x1.Kids a2).bind fun x2 =>
 (idx a0.of_ x2).bind fun x3 =>
 some x3
abbrev R_types_typer_kid (r : Int) : AV := (I r)
set_option maxHeartbeats 4000000 in
theorem T_types_typer_kid {nn : Nat} {a0 : XTypes_typer} {a1 : Int} {a2 : Int} {r : Int} (hF : types_typer_kid a0 a1 a2 = some r) : den cx (nn + 1) 76 [(.vp (cXTypes_typer a0)), (I a1), (I a2)] = some (R_types_typer_kid r, []) := by
 unfold types_typer_kid at hF
 refine fnA Try.func76 Try.ntmps76 (by exact spine) (sl := [0, 1, 2]) ?_
 refine sr <| pp oAssign <| nl <| srD <| pp oMove <| pp oNil <| pp oFA <| pp oLd <| pp oMove <| pp oNil <| pp oFA <| pp oFA <| pp oLd <| pp oMove <| ?_
 refine bb hF fun x1 h1 hF => ?_
 refine pp (oIx h1) <| pp oFA <| pp oLd <| pp oMove <| ?_
 refine bb hF fun x2 h2 hF => ?_
 refine pp (oIx h2) <| pp oLd <| ?_
 refine bb hF fun x3 h3 hF => ?_
 refine pp (oIx h3) <| pp oLd <| pp oAssign <| nlD <| rt <| ?_
 obtain rfl := inj hF
 exact fin1
noncomputable def types_scalar (a0 : Int) : Option Bool :=
 some (if (a0 == 1) then true else (a0 == 2))
abbrev R_types_scalar (r : Bool) : AV := (B r)
set_option maxHeartbeats 4000000 in
theorem T_types_scalar {nn : Nat} {a0 : Int} {r : Bool} (hF : types_scalar a0 = some r) : den cx (nn + 1) 77 [(I a0)] = some (R_types_scalar r, []) := by
 unfold types_scalar at hF
 refine fnA Try.func77 Try.ntmps77 (by exact spine) (sl := [0]) ?_
 refine sr <| pp oAssign <| nl <| sr <| pp oMove <| pp oEql <| pp oMove <| pg ar oMove <| pg ar oEql <| pp oPick <| pp oAssign <| nl <| rt <| ?_
 obtain rfl := inj hF
 exact fin1
end Go.Ab
