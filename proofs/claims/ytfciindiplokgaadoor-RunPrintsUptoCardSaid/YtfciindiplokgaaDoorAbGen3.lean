/-
  Functions of the program as functions on plain data (written by gen3.py).
-/
import Derived.Test.YtfciindiplokgaaDoorAbGen2
namespace Go.Ab
open Go Go.Proofs
noncomputable def code_checker_ins_3_L1 (a1 : XApi_Ins) (a2 : XCode_checker) (y5 : Int) : Option (Lp Int (Br Unit Int)) :=
 if (decide (y5 < (a1.Args.length : Int))) then
 ((idx a1.Args y5).bind fun x3 =>
 (code_checker_val a2 x3).bind fun x4 =>
 if (x4 != 0) then
 (some (.out (.ret x4)))
 else
 (some (.next (w64 (y5 + 1)))))
 else
 (some (.out (.brk ())))
noncomputable def code_checker_ins_3 (a0 : Bool) (a1 : XApi_Ins) (a2 : XCode_checker) : Option Int :=
 if (!a0) then
 (some 0)
 else
 ((core_Within a1.Func 0 (w64 ((a2.u.Funcs.length : Int) - 1))).bind fun x1 =>
 if (!x1) then
 (some 3)
 else
 ((idx a2.u.Funcs a1.Func).bind fun x2 =>
 if ((a1.Args.length : Int) != x2.Params) then
 (some 9)
 else
 ((Loop (fun (s : Int) => code_checker_ins_3_L1 a1 a2 s) 0).bind (Br.go (fun _ =>
 some 0) (fun r1 => some r1)))))
abbrev R_code_checker_ins_3 (r : Int) : AV := (I r)
def RR_code_checker_ins_3 (r : Int) (x : Exit × St) : Prop := x.1 = .ret ∧ Fin cx [.tmp 3] [] (R_code_checker_ins_3 r) [] x
set_option maxHeartbeats 4000000 in
theorem T_code_checker_ins_3 {nn : Nat} {a0 : Bool} {a1 : XApi_Ins} {a2 : XCode_checker} {r : Int} (hF : code_checker_ins_3 a0 a1 a2 = some r) : den cx (nn + 3) 84 [(.vp (cBool a0)), (.vp (cXApi_Ins a1)), (.vp (cXCode_checker a2))] = some (R_code_checker_ins_3 r, []) := by
 unfold code_checker_ins_3 at hF
 refine fnA Tryd.func84 Tryd.ntmps84 (by exact spine) (sl := [0, 1, 2]) ?_
 refine sr <| pp oAssign <| nl <| sq <| bl <| sr <| pp oLd <| pp oNot <| pp oAssign <| nl <| ?_
 refine cd hF (fun hF => ?_) (fun hF => ?_)
 · refine sr <| pp oAssign <| nl <| rt <| qbR <| qsR <| ?_
   obtain rfl := inj hF
   exact fin1
 · refine sr <| pp oFA <| pp oLd <| pp oFA <| pp oFA <| pp oLd <| pp oLenSl <| pp oSub <| ?_
   refine bb hF fun x1 h1 hF => ?_
   refine pp (oCallZ (T_core_Within h1)) <| pp oNot <| pp oAssign <| nl <| ?_
   refine cd hF (fun hF => ?_) (fun hF => ?_)
   · refine sr <| pp oAssign <| nl <| rt <| qbR <| qsR <| ?_
     obtain rfl := inj hF
     exact fin1
   · refine srD <| pp oFA <| pp oLd <| pp oLenSl <| pp oFA <| pp oFA <| pp oLd <| pp oFA <| pp oLd <| ?_
     refine bb hF fun x2 h2 hF => ?_
     refine pp (oIx h2) <| pp oFA <| pp oLd <| pp oNeq <| pp oAssign <| nlD <| ?_
     refine cd hF (fun hF => ?_) (fun hF => ?_)
     · refine sr <| pp oAssign <| nl <| rt <| qbR <| qsR <| ?_
       obtain rfl := inj hF
       exact fin1
     · refine sk <| qb <| qs <| sq <| sr <| pp oFA <| pp oLd <| pp oLenSl <| pp oMove <| nl <| ?_
       refine lpR (fun (s : Int) => mkSt 47 [2, 34, 35, 36] [(.vp (cXCode_checker a2)), (.sl ((a1.Args).map cXApi_Val)), (I (a1.Args.length : Int)), (I s)]) (fun (s : Unit) => mkSt 47 [] []) RR_code_checker_ins_3 hF cutR' ?_ ?_ ?_
       · rintro y5 z1 hF
         replace hF : code_checker_ins_3_L1 a1 a2 y5 = some z1 := hF
         unfold code_checker_ins_3_L1 at hF
         refine mk ?_
         refine sr <| pp oLss <| nl <| sq <| ?_
         refine cd hF (fun hF => ?_) (fun hF => ?_)
         · refine sk <| qs <| sq <| bl <| sr <| ?_
           refine bb hF fun x3 h3 hF => ?_
           refine pp (oIx h3) <| pp oLdA <| ww oAlloc <| ww oStF <| nl <| sr <| pp oLdA <| pp oLdA <| ?_
           refine bb hF fun x4 h4 hF => ?_
           refine pp (oCall (T_code_checker_val h4)) <| pp oAssign <| nl <| sr <| pp oMove <| pp oNeq <| nl <| ?_
           refine cd hF (fun hF => ?_) (fun hF => ?_)
           · refine sr <| pp oMove <| pp oAssign <| nl <| rt <| qbR <| qsR <| ?_
             exact lr hF ⟨rfl, fin1⟩
           · refine sk <| qb <| qs <| rg <| pp oAdd <| pp oMove <| nl <| ?_
             exact ln hF cutR'
         · refine ex <| qsE <| ?_
           exact lxR hF cutR'
       · intro _ hF
         refine qmk ?_
         refine qs <| sr <| pp oAssign <| nl <| rt <| ?_
         obtain rfl := inj hF
         exact fin1
       · rintro r1 hF ⟨xe, xs⟩ ⟨hxe, hfin⟩
         obtain rfl : xe = Exit.ret := hxe
         obtain rfl := inj hF
         refine qbR <| qsR <| ?_
         exact hfin
noncomputable def code_checker_ins_2 (a0 : XCode_checker) (a1 : XApi_Ins) : Option Int :=
 (code_checker_val a0 a1.B).bind fun x1 =>
 some x1
abbrev R_code_checker_ins_2 (r : Int) : AV := (I r)
set_option maxHeartbeats 4000000 in
theorem T_code_checker_ins_2 {nn : Nat} {a0 : XCode_checker} {a1 : XApi_Ins} {r : Int} (hF : code_checker_ins_2 a0 a1 = some r) : den cx (nn + 3) 83 [(.vp (cXCode_checker a0)), (.vp (cXApi_Ins a1))] = some (R_code_checker_ins_2 r, []) := by
 unfold code_checker_ins_2 at hF
 refine fnA Tryd.func83 Tryd.ntmps83 (by exact spine) (sl := [0, 1]) ?_
 refine sr <| pp oAssign <| nl <| sr <| pp oLdA <| pp oFA <| pp oLdA <| ?_
 refine bb hF fun x1 h1 hF => ?_
 refine pp (oCall (T_code_checker_val h1)) <| pp oAssign <| nl <| rt <| ?_
 obtain rfl := inj hF
 exact fin1
noncomputable def code_checker_ins_1 (a0 : XCode_checker) (a1 : XApi_Ins) : Option Int :=
 (code_checker_val a0 a1.A).bind fun x1 =>
 some x1
abbrev R_code_checker_ins_1 (r : Int) : AV := (I r)
set_option maxHeartbeats 4000000 in
theorem T_code_checker_ins_1 {nn : Nat} {a0 : XCode_checker} {a1 : XApi_Ins} {r : Int} (hF : code_checker_ins_1 a0 a1 = some r) : den cx (nn + 3) 82 [(.vp (cXCode_checker a0)), (.vp (cXApi_Ins a1))] = some (R_code_checker_ins_1 r, []) := by
 unfold code_checker_ins_1 at hF
 refine fnA Tryd.func82 Tryd.ntmps82 (by exact spine) (sl := [0, 1]) ?_
 refine sr <| pp oAssign <| nl <| sr <| pp oLdA <| pp oFA <| pp oLdA <| ?_
 refine bb hF fun x1 h1 hF => ?_
 refine pp (oCall (T_code_checker_val h1)) <| pp oAssign <| nl <| rt <| ?_
 obtain rfl := inj hF
 exact fin1
noncomputable def code_first__f82_f83_f84_L1 (a0 : XCode_checker) (a1 : XApi_Ins) (a2 : XCode_checker) (a3 : XApi_Ins) (a4 : Bool) (a5 : XApi_Ins) (a6 : XCode_checker) (y3 : Int) : Option (Lp Int (Br Unit Int)) :=
 if (decide (y3 < (3 : Int))) then
 ((idxF 3 y3).bind fun x1 =>
 if (x1 == 0) then
 ((code_checker_ins_1 a0 a1).bind fun x4 =>
 if (x4 != 0) then
 (some (.out (.ret x4)))
 else
 (some (.next (w64 (y3 + 1)))))
 else
 (if (x1 == 1) then
 ((code_checker_ins_2 a2 a3).bind fun x3 =>
 if (x3 != 0) then
 (some (.out (.ret x3)))
 else
 (some (.next (w64 (y3 + 1)))))
 else
 (if (x1 == 2) then
 ((code_checker_ins_3 a4 a5 a6).bind fun x2 =>
 if (x2 != 0) then
 (some (.out (.ret x2)))
 else
 (some (.next (w64 (y3 + 1)))))
 else
 (none))))
 else
 (some (.out (.brk ())))
noncomputable def code_first__f82_f83_f84 (a0 : XCode_checker) (a1 : XApi_Ins) (a2 : XCode_checker) (a3 : XApi_Ins) (a4 : Bool) (a5 : XApi_Ins) (a6 : XCode_checker) : Option Int :=
 (Loop (fun (s : Int) => code_first__f82_f83_f84_L1 a0 a1 a2 a3 a4 a5 a6 s) 0).bind (Br.go (fun _ =>
 some 0) (fun r1 => some r1))
abbrev R_code_first__f82_f83_f84 (r : Int) : AV := (I r)
def RR_code_first__f82_f83_f84 (r : Int) (x : Exit × St) : Prop := x.1 = .ret ∧ Fin cx [.tmp 2] [] (R_code_first__f82_f83_f84 r) [] x
set_option maxHeartbeats 4000000 in
theorem T_code_first__f82_f83_f84 {nn : Nat} {a0 : XCode_checker} {a1 : XApi_Ins} {a2 : XCode_checker} {a3 : XApi_Ins} {a4 : Bool} {a5 : XApi_Ins} {a6 : XCode_checker} {r : Int} (hF : code_first__f82_f83_f84 a0 a1 a2 a3 a4 a5 a6 = some r) : den cx (nn + 4) 81 [(.sl [[(.fn (.func 82) [] [(.vp (cXCode_checker a0)), (.vp (cXApi_Ins a1))])], [(.fn (.func 83) [] [(.vp (cXCode_checker a2)), (.vp (cXApi_Ins a3))])], [(.fn (.func 84) [] [(.vp (cBool a4)), (.vp (cXApi_Ins a5)), (.vp (cXCode_checker a6))])]])] = some (R_code_first__f82_f83_f84 r, []) := by
 unfold code_first__f82_f83_f84 at hF
 refine fnA Tryd.func81 Tryd.ntmps81 (by exact spine) (sl := [0]) ?_
 refine sr <| pp oAssign <| nl <| sq <| sr <| pp oMove <| pp (oLenSl (c := fun x => [x]) (q := [(.fn (.func 82) [] [(.vp (cXCode_checker a0)), (.vp (cXApi_Ins a1))]), (.fn (.func 83) [] [(.vp (cXCode_checker a2)), (.vp (cXApi_Ins a3))]), (.fn (.func 84) [] [(.vp (cBool a4)), (.vp (cXApi_Ins a5)), (.vp (cXCode_checker a6))])])) <| pp oMove <| nl <| ?_
 refine lpR (fun (s : Int) => mkSt 18 [6, 7, 8] [(.sl [[(.fn (.func 82) [] [(.vp (cXCode_checker a0)), (.vp (cXApi_Ins a1))])], [(.fn (.func 83) [] [(.vp (cXCode_checker a2)), (.vp (cXApi_Ins a3))])], [(.fn (.func 84) [] [(.vp (cBool a4)), (.vp (cXApi_Ins a5)), (.vp (cXCode_checker a6))])]]), (I (3 : Int)), (I s)]) (fun (s : Unit) => mkSt 18 [] []) RR_code_first__f82_f83_f84 hF cutR' ?_ ?_ ?_
 · rintro y3 z1 hF
   replace hF : code_first__f82_f83_f84_L1 a0 a1 a2 a3 a4 a5 a6 y3 = some z1 := hF
   unfold code_first__f82_f83_f84_L1 at hF
   refine mk ?_
   refine sr <| pp oLss <| nl <| sq <| ?_
   refine cd hF (fun hF => ?_) (fun hF => ?_)
   · refine sk <| qs <| sq <| bl <| sr <| ?_
     refine bb hF fun x1 h1 hF => ?_
     refine ife hF (fun hb3 hF => ?_) (fun _ hF => ?_)
     · refine pp (oIxF h1 hb3) <| pp oLd <| pp oAssign <| nl <| sr <| pp oMove <| ?_
       refine bb hF fun x4 h4 hF => ?_
       refine pp (oCall (T_code_checker_ins_1 h4)) <| pp oAssign <| nl <| sr <| pp oMove <| pp oNeq <| nl <| ?_
       refine cd hF (fun hF => ?_) (fun hF => ?_)
       · refine sr <| pp oMove <| pp oAssign <| nl <| rt <| qbR <| qsR <| ?_
         exact lr hF ⟨rfl, fin1⟩
       · refine sk <| qb <| qs <| rg <| pp oAdd <| pp oMove <| nl <| ?_
         exact ln hF cutR'
     · refine ife hF (fun hb2 hF => ?_) (fun _ hF => ?_)
       · refine pp (oIxF h1 hb2) <| pp oLd <| pp oAssign <| nl <| sr <| pp oMove <| ?_
         refine bb hF fun x3 h3 hF => ?_
         refine pp (oCall (T_code_checker_ins_2 h3)) <| pp oAssign <| nl <| sr <| pp oMove <| pp oNeq <| nl <| ?_
         refine cd hF (fun hF => ?_) (fun hF => ?_)
         · refine sr <| pp oMove <| pp oAssign <| nl <| rt <| qbR <| qsR <| ?_
           exact lr hF ⟨rfl, fin1⟩
         · refine sk <| qb <| qs <| rg <| pp oAdd <| pp oMove <| nl <| ?_
           exact ln hF cutR'
       · refine ife hF (fun hb1 hF => ?_) (fun _ hF => ?_)
         · refine pp (oIxF h1 hb1) <| pp oLd <| pp oAssign <| nl <| sr <| pp oMove <| ?_
           refine bb hF fun x2 h2 hF => ?_
           refine pp (oCall (T_code_checker_ins_3 h2)) <| pp oAssign <| nl <| sr <| pp oMove <| pp oNeq <| nl <| ?_
           refine cd hF (fun hF => ?_) (fun hF => ?_)
           · refine sr <| pp oMove <| pp oAssign <| nl <| rt <| qbR <| qsR <| ?_
             exact lr hF ⟨rfl, fin1⟩
           · refine sk <| qb <| qs <| rg <| pp oAdd <| pp oMove <| nl <| ?_
             exact ln hF cutR'
         · cases hF
   · refine ex <| qsE <| ?_
     exact lxR hF cutR'
 · intro _ hF
   refine qmk ?_
   refine qs <| sr <| pp oAssign <| nl <| rt <| ?_
   obtain rfl := inj hF
   exact fin1
 · rintro r1 hF ⟨xe, xs⟩ ⟨hxe, hfin⟩
   obtain rfl : xe = Exit.ret := hxe
   obtain rfl := inj hF
   refine qbR <| qsR <| ?_
   exact hfin
noncomputable def code_checker_ins_J1 (a0 : XCode_checker) (a1 : XApi_Ins) : Option Int :=
 (code_first__f82_f83_f84 a0 a1 a0 a1 (a1.Op == 20) a1 a0).bind fun x3 =>
 some x3
noncomputable def code_checker_ins (a0 : XCode_checker) (a1 : XApi_Ins) : Option Int :=
 (core_Within a1.Op 1 22).bind fun x1 =>
 if (!x1) then
 (some 4)
 else
 ((core_Shapes a1.Op).bind fun x2 =>
 if (if (if (if (if (!x2.Dst) then (a1.Dst != (-1)) else false) then true else (if (!x2.A) then (!((a1.A.Reg == false) && ((a1.A.N == 0) && true))) else false)) then true else (if (!x2.B) then (!((a1.B.Reg == false) && ((a1.B.N == 0) && true))) else false)) then true else (if (!(a1.Op == 20)) then (if (a1.Func != 0) then true else (decide (0 < (a1.Args.length : Int)))) else false)) then
 (some 5)
 else
 (if (if x2.Dst then (!(if (a1.Op == 20) then (a1.Dst == (-1)) else false)) else false) then
 ((code_checker_dst a0 a1.Dst).bind fun x4 =>
 if (x4 != 0) then
 (some x4)
 else
 (code_checker_ins_J1 a0 a1))
 else
 (code_checker_ins_J1 a0 a1)))
abbrev R_code_checker_ins (r : Int) : AV := (I r)
set_option maxHeartbeats 4000000 in
theorem T_code_checker_ins {nn : Nat} {a0 : XCode_checker} {a1 : XApi_Ins} {r : Int} (hF : code_checker_ins a0 a1 = some r) : den cx (nn + 5) 70 [(.agg (cXCode_checker a0)), (.agg (cXApi_Ins a1))] = some (R_code_checker_ins r, []) := by
 unfold code_checker_ins at hF
 refine fnA Tryd.func70 Tryd.ntmps70 (by exact spine) (sl := [0, 1]) ?_
 refine sr <| pp oBoxF <| pp oBoxF <| pp oAssign <| nl <| sq <| sr <| pp oFA <| pp oLd <| ?_
 refine bb hF fun x1 h1 hF => ?_
 refine pp (oCallZ (T_core_Within h1)) <| pp oNot <| nl <| ?_
 refine cd hF (fun hF => ?_) (fun hF => ?_)
 · refine sr <| pp oAssign <| nl <| rt <| qsR <| ?_
   obtain rfl := inj hF
   exact fin1
 · refine sk <| qs <| sr <| pp oFA <| pp oLd <| ?_
   refine bb hF fun x2 h2 hF => ?_
   refine pp (oCallZ (T_core_Shapes h2)) <| ww oAlloc <| ww oStF <| nl <| sr <| pp oFA <| pp oLd <| pp oEql <| ww oAlloc <| ww oStF <| nl <| sq <| sr <| pp oFA <| ?_
   refine pp oLd <| pp oNot <| pp oMove <| pg ar oFA <| pg ar oLd <| pg ar oNeq <| pp oPick <| pp oMove <| pg ar oFA <| pg ar oLd <| pg ar oNot <| pg ar oMove <| pg ar oFA <| pg ar oLdA <| ?_
   refine pg ar oBuild <| pg ar (oStq (eq52_neq ..)) <| pg ar oPick <| pp oPick <| pp oMove <| pg ar oFA <| pg ar oLd <| pg ar oNot <| pg ar oMove <| pg ar oFA <| pg ar oLdA <| pg ar oBuild <| pg ar (oStq (eq52_neq ..)) <| pg ar oPick <| ?_
   refine pp oPick <| pp oMove <| pg ar oLd <| pg ar oNot <| pg ar oMove <| pg ar oFA <| pg ar oLd <| pg ar oNeq <| pg ar oMove <| pg ar oFA <| pg ar oLd <| pg ar oLenSl <| pg ar oGtr <| pg ar oPick <| ?_
   refine pg ar oPick <| pp oPick <| nl <| ?_
   refine cd hF (fun hF => ?_) (fun hF => ?_)
   · refine sr <| pp oAssign <| nl <| rt <| qsR <| ?_
     obtain rfl := inj hF
     exact fin1
   · refine sk <| qs <| ?_
     refine sjn (r := r) (fun (s : Unit) => mkSt 86 [2, 3, 6] [(.vp (cXCode_checker a0)), (.vp (cXApi_Ins a1)), (.vp (cBool (a1.Op == 20)))]) (fun _ => code_checker_ins_J1 a0 a1) ?_ ?_
     · refine sr <| pp oFA <| pp oLd <| pp oMove <| pg ar oLd <| pg ar oMove <| pg ar oFA <| pg ar oLd <| pg ar oEql <| pg ar oPick <| pg ar oNot <| pp oPick <| nl <| ?_
       refine cd hF (fun hF => ?_) (fun hF => ?_)
       · refine sr <| pp oLdA <| pp oFA <| pp oLd <| ?_
         refine bb hF fun x4 h4 hF => ?_
         refine pp (oCall (T_code_checker_dst h4)) <| pp oAssign <| nl <| sr <| pp oMove <| pp oNeq <| nl <| ?_
         refine cd hF (fun hF => ?_) (fun hF => ?_)
         · refine sr <| pp oMove <| pp oAssign <| nl <| rt <| qjR <| ?_
           obtain rfl := inj hF
           exact fin1
         · refine sk <| ?_
           exact qj () hF cutR'
       · refine sk <| ?_
         exact qj () hF cutR'
     · rintro _ hF
       replace hF : code_checker_ins_J1 a0 a1 = some r := hF
       unfold code_checker_ins_J1 at hF
       refine mk ?_
       refine sr <| pp oFunc <| pp oFunc <| pp oFunc <| pp oBSF <| ?_
       refine bb hF fun x3 h3 hF => ?_
       refine pp (oCall (T_code_first__f82_f83_f84 h3)) <| pp oAssign <| nl <| rt <| ?_
       obtain rfl := inj hF
       exact fin1
noncomputable def code_checker_body_L1 (a0 : XCode_checker) (y5 : Int) : Option (Lp Int (Br Unit Int)) :=
 if (decide (y5 < (a0.f.Blocks.length : Int))) then
 ((idx a0.f.Blocks y5).bind fun x1 =>
 (code_checker_end a0 x1.End).bind fun x2 =>
 if (x2 != 0) then
 (some (.out (.ret x2)))
 else
 (some (.next (w64 (y5 + 1)))))
 else
 (some (.out (.brk ())))
noncomputable def code_checker_body_L3 (a0 : XCode_checker) (x3 : (List (List Int))) (y10 : Int) (x4 : XApi_Block) (y20 : Int) : Option (Lp Int (Br Unit Int)) :=
 if (decide (y20 < (x4.Phis.length : Int))) then
 ((idx x4.Phis y20).bind fun x5 =>
 (code_checker_phi (XCode_checker.mk a0.u a0.f x3) y10 x5).bind fun x6 =>
 if (x6 != 0) then
 (some (.out (.ret x6)))
 else
 (some (.next (w64 (y20 + 1)))))
 else
 (some (.out (.brk ())))
noncomputable def code_checker_body_L4 (a0 : XCode_checker) (x3 : (List (List Int))) (x4 : XApi_Block) (y28 : Int) : Option (Lp Int (Br Unit Int)) :=
 if (decide (y28 < (x4.List.length : Int))) then
 ((idx x4.List y28).bind fun x7 =>
 (code_checker_ins (XCode_checker.mk a0.u a0.f x3) x7).bind fun x8 =>
 if (x8 != 0) then
 (some (.out (.ret x8)))
 else
 (some (.next (w64 (y28 + 1)))))
 else
 (some (.out (.brk ())))
noncomputable def code_checker_body_L2 (a0 : XCode_checker) (x3 : (List (List Int))) (y10 : Int) : Option (Lp Int (Br Unit Int)) :=
 if (decide (y10 < (a0.f.Blocks.length : Int))) then
 ((idx a0.f.Blocks y10).bind fun x4 =>
 (Loop (fun (s : Int) => code_checker_body_L3 a0 x3 y10 x4 s) 0).bind (Br.go (fun _ =>
 (Loop (fun (s : Int) => code_checker_body_L4 a0 x3 x4 s) 0).bind (Br.go (fun _ =>
 some (.next (w64 (y10 + 1)))) (fun r1 => some (.out (.ret r1))))) (fun r2 => some (.out (.ret r2)))))
 else
 (some (.out (.brk ())))
noncomputable def code_checker_body (a0 : XCode_checker) : Option Int :=
 (Loop (fun (s : Int) => code_checker_body_L1 a0 s) 0).bind (Br.go (fun _ =>
 (code_ahead a0.f).bind fun x3 =>
 (Loop (fun (s : Int) => code_checker_body_L2 a0 x3 s) 0).bind (Br.go (fun _ =>
 some 0) (fun r3 => some r3))) (fun r4 => some r4))
abbrev R_code_checker_body (r : Int) : AV := (I r)
def RR_code_checker_body (r : Int) (x : Exit × St) : Prop := x.1 = .ret ∧ Fin cx [.tmp 2] [] (R_code_checker_body r) [] x
set_option maxHeartbeats 4000000 in
theorem T_code_checker_body {nn : Nat} {a0 : XCode_checker} {r : Int} (hF : code_checker_body a0 = some r) : den cx (nn + 6) 49 [(.agg (cXCode_checker a0))] = some (R_code_checker_body r, []) := by
 unfold code_checker_body at hF
 refine fnA Tryd.func49 Tryd.ntmps49 (by exact spine) (sl := [0]) ?_
 refine sr <| ww oBoxM <| pp oAssign <| nl <| sq <| sr <| pp oFAM <| pp oFAM <| rr oLdR <| pp oLenSl <| pp oMove <| nl <| ?_
 refine lpR (fun (s : Int) => mkSt 73 [1, 16, 17, 18] [(.ownp (cXCode_checker a0)), (.sl ((a0.f.Blocks).map cXApi_Block)), (I (a0.f.Blocks.length : Int)), (I s)]) (fun (s : Unit) => mkSt 73 [1] [(.ownp (cXCode_checker a0))]) RR_code_checker_body hF cutR' ?_ ?_ ?_
 · rintro y5 z1 hF
   replace hF : code_checker_body_L1 a0 y5 = some z1 := hF
   unfold code_checker_body_L1 at hF
   refine mk ?_
   refine sr <| pp oLss <| nl <| sq <| ?_
   refine cd hF (fun hF => ?_) (fun hF => ?_)
   · refine sk <| qs <| sq <| bl <| sr <| ?_
     refine bb hF fun x1 h1 hF => ?_
     refine pp (oIx h1) <| pp oLdA <| ww oAlloc <| ww oStF <| nl <| sr <| rr oLdRA <| pp oFA <| pp oLdA <| ?_
     refine bb hF fun x2 h2 hF => ?_
     refine pp (oCall (T_code_checker_end h2)) <| pp oAssign <| nl <| sr <| pp oMove <| pp oNeq <| nl <| ?_
     refine cd hF (fun hF => ?_) (fun hF => ?_)
     · refine sr <| pp oMove <| pp oAssign <| nl <| rt <| qbR <| qsR <| ?_
       exact lr hF ⟨rfl, fin1⟩
     · refine sk <| qb <| qs <| rg <| pp oAdd <| pp oMove <| nl <| ?_
       exact ln hF cutR'
   · refine ex <| qsE <| ?_
     exact lxR hF cutR'
 · intro _ hF
   refine qmk ?_
   refine qs <| sr <| pp oFAM <| rr oLdRA <| ?_
   refine bb hF fun x3 h3 hF => ?_
   refine pp (oCallZ (T_code_ahead h3)) <| pp oFAM <| ww oStR <| nl <| sq <| sr <| pp oFAM <| pp oFAM <| rr oLdR <| pp oLenSl <| pp oMove <| nl <| ?_
   refine lpR (fun (s : Int) => mkSt 73 [1, 36, 37, 38] [(.ownp (cXCode_checker (XCode_checker.mk a0.u a0.f x3))), (.sl ((a0.f.Blocks).map cXApi_Block)), (I (a0.f.Blocks.length : Int)), (I s)]) (fun (s : Unit) => mkSt 73 [] []) RR_code_checker_body hF cutR' ?_ ?_ ?_
   · rintro y10 z2 hF
     replace hF : code_checker_body_L2 a0 x3 y10 = some z2 := hF
     unfold code_checker_body_L2 at hF
     refine mk ?_
     refine sr <| pp oLss <| nl <| sq <| ?_
     refine cd hF (fun hF => ?_) (fun hF => ?_)
     · refine sk <| qs <| sq <| bl <| sr <| pp oMove <| ?_
       refine bb hF fun x4 h4 hF => ?_
       refine pp (oIx h4) <| pp oLdA <| ww oAlloc <| pp oAssign <| ww oStF <| nl <| sq <| sr <| pp oFA <| pp oLd <| pp oLenSl <| pp oMove <| nl <| ?_
       refine lpR (fun (s : Int) => mkSt 73 [1, 6, 7, 36, 37, 38, 44, 45, 46] [(.ownp (cXCode_checker (XCode_checker.mk a0.u a0.f x3))), (I y10), (.vp (cXApi_Block x4)), (.sl ((a0.f.Blocks).map cXApi_Block)), (I (a0.f.Blocks.length : Int)), (I y10), (.sl ((x4.Phis).map cXApi_Phi)), (I (x4.Phis.length : Int)), (I s)]) (fun (s : Unit) => mkSt 73 [1, 7, 36, 37, 38] [(.ownp (cXCode_checker (XCode_checker.mk a0.u a0.f x3))), (.vp (cXApi_Block x4)), (.sl ((a0.f.Blocks).map cXApi_Block)), (I (a0.f.Blocks.length : Int)), (I y10)]) RR_code_checker_body hF cutR' ?_ ?_ ?_
       · rintro y20 z3 hF
         replace hF : code_checker_body_L3 a0 x3 y10 x4 y20 = some z3 := hF
         unfold code_checker_body_L3 at hF
         refine mk ?_
         refine sr <| pp oLss <| nl <| sq <| ?_
         refine cd hF (fun hF => ?_) (fun hF => ?_)
         · refine sk <| qs <| sq <| bl <| sr <| ?_
           refine bb hF fun x5 h5 hF => ?_
           refine pp (oIx h5) <| pp oLdA <| ww oAlloc <| ww oStF <| nl <| sr <| rr oLdRA <| pp oMove <| pp oLdA <| ?_
           refine bb hF fun x6 h6 hF => ?_
           refine pp (oCall (T_code_checker_phi h6)) <| pp oAssign <| nl <| sr <| pp oMove <| pp oNeq <| nl <| ?_
           refine cd hF (fun hF => ?_) (fun hF => ?_)
           · refine sr <| pp oMove <| pp oAssign <| nl <| rt <| qbR <| qsR <| ?_
             exact lr hF ⟨rfl, fin1⟩
           · refine sk <| qb <| qs <| rg <| pp oAdd <| pp oMove <| nl <| ?_
             exact ln hF cutR'
         · refine ex <| qsE <| ?_
           exact lxR hF cutR'
       · intro _ hF
         refine qmk ?_
         refine qs <| sr <| pp oFA <| pp oLd <| pp oLenSl <| pp oMove <| nl <| ?_
         refine lpR (fun (s : Int) => mkSt 73 [1, 36, 37, 38, 59, 60, 61] [(.ownp (cXCode_checker (XCode_checker.mk a0.u a0.f x3))), (.sl ((a0.f.Blocks).map cXApi_Block)), (I (a0.f.Blocks.length : Int)), (I y10), (.sl ((x4.List).map cXApi_Ins)), (I (x4.List.length : Int)), (I s)]) (fun (s : Unit) => mkSt 73 [1, 36, 37, 38] [(.ownp (cXCode_checker (XCode_checker.mk a0.u a0.f x3))), (.sl ((a0.f.Blocks).map cXApi_Block)), (I (a0.f.Blocks.length : Int)), (I y10)]) RR_code_checker_body hF cutR' ?_ ?_ ?_
         · rintro y28 z4 hF
           replace hF : code_checker_body_L4 a0 x3 x4 y28 = some z4 := hF
           unfold code_checker_body_L4 at hF
           refine mk ?_
           refine sr <| pp oLss <| nl <| sq <| ?_
           refine cd hF (fun hF => ?_) (fun hF => ?_)
           · refine sk <| qs <| sq <| bl <| sr <| ?_
             refine bb hF fun x7 h7 hF => ?_
             refine pp (oIx h7) <| pp oLdA <| ww oAlloc <| ww oStF <| nl <| sr <| rr oLdRA <| pp oLdA <| ?_
             refine bb hF fun x8 h8 hF => ?_
             refine pp (oCall (T_code_checker_ins h8)) <| pp oAssign <| nl <| sr <| pp oMove <| pp oNeq <| nl <| ?_
             refine cd hF (fun hF => ?_) (fun hF => ?_)
             · refine sr <| pp oMove <| pp oAssign <| nl <| rt <| qbR <| qsR <| ?_
               exact lr hF ⟨rfl, fin1⟩
             · refine sk <| qb <| qs <| rg <| pp oAdd <| pp oMove <| nl <| ?_
               exact ln hF cutR'
           · refine ex <| qsE <| ?_
             exact lxR hF cutR'
         · intro _ hF
           refine qmk ?_
           refine qb <| qs <| rg <| pp oAdd <| pp oMove <| nl <| ?_
           exact ln hF cutR'
         · rintro r1 hF ⟨xe, xs⟩ ⟨hxe, hfin⟩
           obtain rfl : xe = Exit.ret := hxe
           refine qbR <| qbR <| qsR <| ?_
           exact lrr hF (by simp) ⟨rfl, hfin⟩
       · rintro r2 hF ⟨xe, xs⟩ ⟨hxe, hfin⟩
         obtain rfl : xe = Exit.ret := hxe
         refine qbR <| qsR <| qbR <| qsR <| ?_
         exact lrr hF (by simp) ⟨rfl, hfin⟩
     · refine ex <| qsE <| ?_
       exact lxR hF cutR'
   · intro _ hF
     refine qmk ?_
     refine qs <| sr <| pp oAssign <| nl <| rt <| ?_
     obtain rfl := inj hF
     exact fin1
   · rintro r3 hF ⟨xe, xs⟩ ⟨hxe, hfin⟩
     obtain rfl : xe = Exit.ret := hxe
     obtain rfl := inj hF
     refine qbR <| qsR <| ?_
     exact hfin
 · rintro r4 hF ⟨xe, xs⟩ ⟨hxe, hfin⟩
   obtain rfl : xe = Exit.ret := hxe
   obtain rfl := inj hF
   refine qbR <| qsR <| ?_
   exact hfin
noncomputable def code_Check_1 (a0 : XApi_Func) : Option Bool :=
 some (a0.Name.toList == (ByteArray.mk #[109, 97, 105, 110]).toList)
abbrev R_code_Check_1 (r : Bool) : AV := (B r)
set_option maxHeartbeats 4000000 in
theorem T_code_Check_1 {nn : Nat} {a0 : XApi_Func} {r : Bool} (hF : code_Check_1 a0 = some r) : den cx (nn + 1) 50 [(.agg (cXApi_Func a0))] = some (R_code_Check_1 r, []) := by
 unfold code_Check_1 at hF
 refine fnA Tryd.func50 Tryd.ntmps50 (by exact spine) (sl := [0]) ?_
 refine sr <| pp oBoxF <| pp oAssign <| nl <| sr <| pp oFA <| pp oLd <| pp oEqlS <| pp oAssign <| nl <| rt <| ?_
 obtain rfl := inj hF
 exact fin1
noncomputable def slices_IndexFunc_api_Func_api_Func__f50_L1 (a0 : (List XApi_Func)) (y4 : Int) : Option (Lp Int (Br Unit Int)) :=
 if (decide (y4 < (a0.length : Int))) then
 ((idx a0 y4).bind fun x1 =>
 (code_Check_1 x1).bind fun x2 =>
 if x2 then
 (some (.out (.ret y4)))
 else
 (some (.next (w64 (y4 + 1)))))
 else
 (some (.out (.brk ())))
noncomputable def slices_IndexFunc_api_Func_api_Func__f50 (a0 : (List XApi_Func)) : Option Int :=
 (Loop (fun (s : Int) => slices_IndexFunc_api_Func_api_Func__f50_L1 a0 s) 0).bind (Br.go (fun _ =>
 some (-1)) (fun r1 => some r1))
abbrev R_slices_IndexFunc_api_Func_api_Func__f50 (r : Int) : AV := (I r)
def RR_slices_IndexFunc_api_Func_api_Func__f50 (r : Int) (x : Exit × St) : Prop := x.1 = .ret ∧ Fin cx [.tmp 4] [] (R_slices_IndexFunc_api_Func_api_Func__f50 r) [] x
set_option maxHeartbeats 4000000 in
theorem T_slices_IndexFunc_api_Func_api_Func__f50 {nn : Nat} {a0 : (List XApi_Func)} {r : Int} (hF : slices_IndexFunc_api_Func_api_Func__f50 a0 = some r) : den cx (nn + 2) 31 [(.sl ((a0).map cXApi_Func)), (.fn (.func 50) [] [])] = some (R_slices_IndexFunc_api_Func_api_Func__f50 r, []) := by
 unfold slices_IndexFunc_api_Func_api_Func__f50 at hF
 refine fnA Tryd.func31 Tryd.ntmps31 (by exact spine) (sl := [0, 1]) ?_
 refine sr <| pp oAssign <| nl <| sq <| sr <| pp oMove <| pp oLenSl <| pp oMove <| nl <| ?_
 refine lpR (fun (s : Int) => mkSt 19 [0, 1, 7, 8] [(.sl ((a0).map cXApi_Func)), (.fn (.func 50) [] []), (I (a0.length : Int)), (I s)]) (fun (s : Unit) => mkSt 19 [] []) RR_slices_IndexFunc_api_Func_api_Func__f50 hF cutR' ?_ ?_ ?_
 · rintro y4 z1 hF
   replace hF : slices_IndexFunc_api_Func_api_Func__f50_L1 a0 y4 = some z1 := hF
   unfold slices_IndexFunc_api_Func_api_Func__f50_L1 at hF
   refine mk ?_
   refine sr <| pp oLss <| nl <| sq <| ?_
   refine cd hF (fun hF => ?_) (fun hF => ?_)
   · refine sk <| qs <| sq <| bl <| sr <| pp oMove <| pp oAssign <| nl <| sr <| pp oMove <| pp oMove <| pp oMove <| ?_
     refine bb hF fun x1 h1 hF => ?_
     refine pp (oIx h1) <| pp oLdA <| ?_
     refine bb hF fun x2 h2 hF => ?_
     refine pp (oCallZ (T_code_Check_1 h2)) <| nl <| ?_
     refine cd hF (fun hF => ?_) (fun hF => ?_)
     · refine sr <| pp oMove <| pp oAssign <| nl <| rt <| qbR <| qsR <| ?_
       exact lr hF ⟨rfl, fin1⟩
     · refine sk <| qb <| qs <| rg <| pp oAdd <| pp oMove <| nl <| ?_
       exact ln hF cutR'
   · refine ex <| qsE <| ?_
     exact lxR hF cutR'
 · intro _ hF
   refine qmk ?_
   refine qs <| sr <| pp oAssign <| nl <| rt <| ?_
   obtain rfl := inj hF
   exact fin1
 · rintro r1 hF ⟨xe, xs⟩ ⟨hxe, hfin⟩
   obtain rfl : xe = Exit.ret := hxe
   obtain rfl := inj hF
   refine qbR <| qsR <| ?_
   exact hfin
noncomputable def code_Check_J1 (y8 : (List ByteArray)) (y9 : Int) (y10 : Int) (x2 : XApi_Global) (y11 : Int) : Option (Lp ((List ByteArray) × Int × Int) (Br (List ByteArray) XApi_Fault)) :=
 if (y11 != 0) then
 ((core_Fault y11 y10).bind fun x3 =>
 some (.out (.ret x3)))
 else
 ((app y8 ([x2.Name] : List ByteArray)).bind fun x4 =>
 some (.next (x4, (w64 (y9 + x2.Size)), (w64 (y10 + 1)))))
noncomputable def code_Check_L1 (a0 : XApi_Unit) (y8 : (List ByteArray)) (y9 : Int) (y10 : Int) : Option (Lp ((List ByteArray) × Int × Int) (Br (List ByteArray) XApi_Fault)) :=
 if (decide (y10 < (a0.Globals.length : Int))) then
 ((idx a0.Globals y10).bind fun x2 =>
 (core_Name x2.Name).bind fun x5 =>
 if (!x5) then
 (code_Check_J1 y8 y9 y10 x2 12)
 else
 ((slices_Contains_string_string y8 x2.Name).bind fun x6 =>
 if x6 then
 (code_Check_J1 y8 y9 y10 x2 7)
 else
 ((core_Within x2.Size 1 200).bind fun x7 =>
 if (!x7) then
 (code_Check_J1 y8 y9 y10 x2 3)
 else
 (if (decide (x2.Size < (x2.Init.length : Int))) then
 (code_Check_J1 y8 y9 y10 x2 9)
 else
 (if (decide (200 < (w64 (y9 + x2.Size)))) then
 (code_Check_J1 y8 y9 y10 x2 10)
 else
 (code_Check_J1 y8 y9 y10 x2 0))))))
 else
 (some (.out (.brk y8)))
noncomputable def code_Check_L2 (a0 : XApi_Unit) (y18 : (List ByteArray)) (y19 : Int) : Option (Lp ((List ByteArray) × Int) (Br Unit XApi_Fault)) :=
 if (decide (y19 < (a0.Funcs.length : Int))) then
 ((idx a0.Funcs y19).bind fun x8 =>
 (code_checker_head (XCode_checker.mk a0 x8 []) y18).bind fun x9 =>
 if (x9 != 0) then
 ((core_Fault x9 y19).bind fun x10 =>
 some (.out (.ret x10)))
 else
 ((app y18 ([x8.Name] : List ByteArray)).bind fun x11 =>
 some (.next (x11, (w64 (y19 + 1))))))
 else
 (some (.out (.brk ())))
noncomputable def code_Check_L3 (a0 : XApi_Unit) (y25 : Int) : Option (Lp Int (Br Unit XApi_Fault)) :=
 if (decide (y25 < (a0.Funcs.length : Int))) then
 ((idx a0.Funcs y25).bind fun x12 =>
 (code_checker_body (XCode_checker.mk a0 x12 [])).bind fun x13 =>
 if (x13 != 0) then
 ((core_Fault x13 y25).bind fun x14 =>
 some (.out (.ret x14)))
 else
 (some (.next (w64 (y25 + 1)))))
 else
 (some (.out (.brk ())))
noncomputable def code_Check (a0 : XApi_Unit) : Option XApi_Fault :=
 if (if (decide (10 < (a0.Globals.length : Int))) then true else (decide (10 < (a0.Funcs.length : Int)))) then
 ((core_Fault 2 0).bind fun x1 =>
 some x1)
 else
 ((Loop (fun (s : ((List ByteArray) × Int × Int)) => code_Check_L1 a0 s.1 s.2.1 s.2.2) ([], 0, 0)).bind (Br.go (fun v1 =>
 (Loop (fun (s : ((List ByteArray) × Int)) => code_Check_L2 a0 s.1 s.2) (v1, 0)).bind (Br.go (fun _ =>
 (Loop (fun (s : Int) => code_Check_L3 a0 s) 0).bind (Br.go (fun _ =>
 (slices_IndexFunc_api_Func_api_Func__f50 a0.Funcs).bind fun x15 =>
 if (decide (x15 < 0)) then
 ((core_Fault 6 0).bind fun x16 =>
 some x16)
 else
 ((idx a0.Funcs x15).bind fun x17 =>
 if (decide (0 < x17.Params)) then
 ((core_Fault 5 x15).bind fun x18 =>
 some x18)
 else
 (some (XApi_Fault.mk 0 0)))) (fun r1 => some r1))) (fun r2 => some r2))) (fun r3 => some r3)))
abbrev R_code_Check (r : XApi_Fault) : AV := (.agg (cXApi_Fault r))
def RR_code_Check (r : XApi_Fault) (x : Exit × St) : Prop := x.1 = .ret ∧ Fin cx [.cell 2 29] [] (R_code_Check r) [] x
set_option maxHeartbeats 4000000 in
theorem T_code_Check {nn : Nat} {a0 : XApi_Unit} {r : XApi_Fault} (hF : code_Check a0 = some r) : den cx (nn + 7) 26 [(.agg (cXApi_Unit a0))] = some (R_code_Check r, []) := by
 unfold code_Check at hF
 refine fnA Tryd.func26 Tryd.ntmps26 (by exact spine) (sl := [0]) ?_
 refine sr <| pp oBoxF <| ww oAlloc <| nl <| sq <| sr <| pp oFA <| pp oLd <| pp oLenSl <| pp oGtr <| pp oMove <| pg ar oFA <| pg ar oLd <| pg ar oLenSl <| ?_
 refine pg ar oGtr <| pp oPick <| nl <| ?_
 refine cd hF (fun hF => ?_) (fun hF => ?_)
 · refine sr <| ?_
   refine bb hF fun x1 h1 hF => ?_
   refine pp (oCall (T_core_Fault h1)) <| ww oStR <| nl <| rt <| qsR <| ?_
   obtain rfl := inj hF
   exact fin1
 · refine sk <| qs <| sr <| pp oAssign <| nl <| sr <| pp oAssign <| nl <| sq <| sr <| pp oFA <| pp oLd <| pp oLenSl <| pp oMove <| ?_
   refine nl <| ?_
   refine lpR (fun (s : ((List ByteArray) × Int × Int)) => mkSt 139 [1, 2, 3, 4, 29, 30, 31] [(.vp (cXApi_Unit a0)), (.ownp (cXApi_Fault (XApi_Fault.mk 0 0))), (.own ((s.1).map cStr) (s.1).length), (I s.2.1), (.sl ((a0.Globals).map cXApi_Global)), (I (a0.Globals.length : Int)), (I s.2.2)]) (fun (s : (List ByteArray)) => mkSt 139 [1, 2, 3] [(.vp (cXApi_Unit a0)), (.ownp (cXApi_Fault (XApi_Fault.mk 0 0))), (.own ((s).map cStr) (s).length)]) RR_code_Check hF cutR' ?_ ?_ ?_
   · rintro ⟨y8, y9, y10⟩ z1 hF
     replace hF : code_Check_L1 a0 y8 y9 y10 = some z1 := hF
     unfold code_Check_L1 at hF
     refine mk ?_
     refine sr <| pp oLss <| nl <| sq <| ?_
     refine cd hF (fun hF => ?_) (fun hF => ?_)
     · refine sk <| qs <| sq <| bl <| sr <| pp oMove <| ?_
       refine bb hF fun x2 h2 hF => ?_
       refine pp (oIx h2) <| pp oLdA <| ww oAlloc <| pp oAssign <| ww oStF <| nl <| sr <| pp oAssign <| nl <| ?_
       refine sjn (r := z1) (fun (s : Int) => mkSt 139 [1, 2, 3, 4, 5, 6, 7, 29, 30, 31] [(.vp (cXApi_Unit a0)), (.ownp (cXApi_Fault (XApi_Fault.mk 0 0))), (.own ((y8).map cStr) (y8).length), (I y9), (I y10), (.vp (cXApi_Global x2)), (I s), (.sl ((a0.Globals).map cXApi_Global)), (I (a0.Globals.length : Int)), (I y10)]) (fun s => code_Check_J1 y8 y9 y10 x2 s) ?_ ?_
       · refine bl <| sr <| pp oFA <| pp oLd <| ?_
         refine bb hF fun x5 h5 hF => ?_
         refine pp (oCallZ (T_core_Name h5)) <| pp oNot <| pp oAssign <| nl <| ?_
         refine cd hF (fun hF => ?_) (fun hF => ?_)
         · refine rg <| pp oAssign <| nl <| qb <| ?_
           exact qj 12 hF cutR'
         · refine sr <| pp oMove <| pp oFA <| pp oLd <| ?_
           refine bb hF fun x6 h6 hF => ?_
           refine rr (oCallZ (T_slices_Contains_string_string h6)) <| pp oAssign <| nl <| ?_
           refine cd hF (fun hF => ?_) (fun hF => ?_)
           · refine rg <| pp oAssign <| nl <| qb <| ?_
             exact qj 7 hF cutR'
           · refine sr <| pp oFA <| pp oLd <| ?_
             refine bb hF fun x7 h7 hF => ?_
             refine pp (oCallZ (T_core_Within h7)) <| pp oNot <| pp oAssign <| nl <| ?_
             refine cd hF (fun hF => ?_) (fun hF => ?_)
             · refine rg <| pp oAssign <| nl <| qb <| ?_
               exact qj 3 hF cutR'
             · refine sr <| pp oFA <| pp oLd <| pp oLenSl <| pp oFA <| pp oLd <| pp oGtr <| pp oAssign <| nl <| ?_
               refine cd hF (fun hF => ?_) (fun hF => ?_)
               · refine rg <| pp oAssign <| nl <| qb <| ?_
                 exact qj 9 hF cutR'
               · refine sr <| pp oMove <| pp oFA <| pp oLd <| pp oAdd <| pp oGtr <| pp oAssign <| nl <| ?_
                 refine cd hF (fun hF => ?_) (fun hF => ?_)
                 · refine rg <| pp oAssign <| nl <| qb <| ?_
                   exact qj 10 hF cutR'
                 · refine sk <| qb <| ?_
                   exact qj 0 hF cutR'
       · rintro y11 hF
         replace hF : code_Check_J1 y8 y9 y10 x2 y11 = some z1 := hF
         unfold code_Check_J1 at hF
         refine mk ?_
         refine sq <| sr <| pp oMove <| pp oNeq <| nl <| ?_
         refine cd hF (fun hF => ?_) (fun hF => ?_)
         · refine sr <| pp oMove <| pp oMove <| ?_
           refine bb hF fun x3 h3 hF => ?_
           refine pp (oCall (T_core_Fault h3)) <| ww oStR <| nl <| rt <| qsR <| qbR <| qsR <| ?_
           exact lr hF ⟨rfl, fin1⟩
         · refine sk <| qs <| sr <| pp oMove <| pp oFA <| pp oLd <| pp oBSF <| ?_
           refine bb hF fun x4 h4 hF => ?_
           refine ww (oApp h4) <| pp oAssign <| nl <| rg <| pp oMove <| pp oFA <| pp oLd <| pp oAdd <| pp oAssign <| nl <| qb <| qs <| rg <| pp oAdd <| ?_
           refine pp oMove <| nl <| ?_
           exact ln hF cutR'
     · refine ex <| qsE <| ?_
       exact lxR hF cutR'
   · intro v1 hF
     refine qmk ?_
     refine qs <| sq <| sr <| pp oFA <| pp oLd <| pp oLenSl <| pp oMove <| nl <| ?_
     refine lpR (fun (s : ((List ByteArray) × Int)) => mkSt 139 [1, 2, 3, 80, 81, 82] [(.vp (cXApi_Unit a0)), (.ownp (cXApi_Fault (XApi_Fault.mk 0 0))), (.own ((s.1).map cStr) (s.1).length), (.sl ((a0.Funcs).map cXApi_Func)), (I (a0.Funcs.length : Int)), (I s.2)]) (fun (s : Unit) => mkSt 139 [1, 2] [(.vp (cXApi_Unit a0)), (.ownp (cXApi_Fault (XApi_Fault.mk 0 0)))]) RR_code_Check hF cutR' ?_ ?_ ?_
     · rintro ⟨y18, y19⟩ z2 hF
       replace hF : code_Check_L2 a0 y18 y19 = some z2 := hF
       unfold code_Check_L2 at hF
       refine mk ?_
       refine sr <| pp oLss <| nl <| sq <| ?_
       refine cd hF (fun hF => ?_) (fun hF => ?_)
       · refine sk <| qs <| sq <| bl <| sr <| pp oMove <| ?_
         refine bb hF fun x8 h8 hF => ?_
         refine pp (oIx h8) <| pp oLdA <| ww oAlloc <| pp oAssign <| ww oStF <| nl <| sr <| pp oLdA <| pp oLdA <| pp oBuild <| ww oAlloc <| ww oStF <| nl <| sq <| ?_
         refine sr <| pp oLdA <| pp oMove <| ?_
         refine bb hF fun x9 h9 hF => ?_
         refine rr (oCallZ (T_code_checker_head h9)) <| pp oAssign <| nl <| sr <| pp oMove <| pp oNeq <| nl <| ?_
         refine cd hF (fun hF => ?_) (fun hF => ?_)
         · refine sr <| pp oMove <| pp oMove <| ?_
           refine bb hF fun x10 h10 hF => ?_
           refine pp (oCall (T_core_Fault h10)) <| ww oStR <| nl <| rt <| qsR <| qbR <| qsR <| ?_
           exact lr hF ⟨rfl, fin1⟩
         · refine sk <| qs <| rg <| pp oMove <| pp oFA <| pp oLd <| pp oBSF <| ?_
           refine bb hF fun x11 h11 hF => ?_
           refine ww (oApp h11) <| pp oAssign <| nl <| qb <| qs <| rg <| pp oAdd <| pp oMove <| nl <| ?_
           exact ln hF cutR'
       · refine ex <| qsE <| ?_
         exact lxR hF cutR'
     · intro _ hF
       refine qmk ?_
       refine qs <| sq <| sr <| pp oFA <| pp oLd <| pp oLenSl <| pp oMove <| nl <| ?_
       refine lpR (fun (s : Int) => mkSt 139 [1, 2, 105, 106, 107] [(.vp (cXApi_Unit a0)), (.ownp (cXApi_Fault (XApi_Fault.mk 0 0))), (.sl ((a0.Funcs).map cXApi_Func)), (I (a0.Funcs.length : Int)), (I s)]) (fun (s : Unit) => mkSt 139 [1, 2] [(.vp (cXApi_Unit a0)), (.ownp (cXApi_Fault (XApi_Fault.mk 0 0)))]) RR_code_Check hF cutR' ?_ ?_ ?_
       · rintro y25 z3 hF
         replace hF : code_Check_L3 a0 y25 = some z3 := hF
         unfold code_Check_L3 at hF
         refine mk ?_
         refine sr <| pp oLss <| nl <| sq <| ?_
         refine cd hF (fun hF => ?_) (fun hF => ?_)
         · refine sk <| qs <| sq <| bl <| sr <| pp oMove <| ?_
           refine bb hF fun x12 h12 hF => ?_
           refine pp (oIx h12) <| pp oLdA <| ww oAlloc <| pp oAssign <| ww oStF <| nl <| sr <| pp oLdA <| pp oLdA <| pp oBuild <| ww oAlloc <| ww oStF <| nl <| sr <| ?_
           refine pp oLdA <| ?_
           refine bb hF fun x13 h13 hF => ?_
           refine pp (oCallZ (T_code_checker_body h13)) <| pp oAssign <| nl <| sr <| pp oMove <| pp oNeq <| nl <| ?_
           refine cd hF (fun hF => ?_) (fun hF => ?_)
           · refine sr <| pp oMove <| pp oMove <| ?_
             refine bb hF fun x14 h14 hF => ?_
             refine pp (oCall (T_core_Fault h14)) <| ww oStR <| nl <| rt <| qbR <| qsR <| ?_
             exact lr hF ⟨rfl, fin1⟩
           · refine sk <| qb <| qs <| rg <| pp oAdd <| pp oMove <| nl <| ?_
             exact ln hF cutR'
         · refine ex <| qsE <| ?_
           exact lxR hF cutR'
       · intro _ hF
         refine qmk ?_
         refine qs <| sr <| pp oFA <| pp oLd <| ?_
         refine bb hF fun x15 h15 hF => ?_
         refine pp (oCallZ (T_slices_IndexFunc_api_Func_api_Func__f50 h15)) <| pp oAssign <| nl <| sq <| sr <| pp oMove <| pp oLss <| nl <| ?_
         refine cd hF (fun hF => ?_) (fun hF => ?_)
         · refine sr <| ?_
           refine bb hF fun x16 h16 hF => ?_
           refine pp (oCall (T_core_Fault h16)) <| ww oStR <| nl <| rt <| qsR <| ?_
           obtain rfl := inj hF
           exact fin1
         · refine sk <| qs <| sq <| sr <| pp oFA <| pp oLd <| pp oMove <| ?_
           refine bb hF fun x17 h17 hF => ?_
           refine pp (oIx h17) <| pp oFA <| pp oLd <| pp oGtr <| nl <| ?_
           refine cd hF (fun hF => ?_) (fun hF => ?_)
           · refine sr <| pp oMove <| ?_
             refine bb hF fun x18 h18 hF => ?_
             refine pp (oCall (T_core_Fault h18)) <| ww oStR <| nl <| rt <| qsR <| ?_
             obtain rfl := inj hF
             exact fin1
           · refine sk <| qs <| sr <| pp oBuild <| ww oStR <| nl <| rt <| ?_
             obtain rfl := inj hF
             exact fin1
       · rintro r1 hF ⟨xe, xs⟩ ⟨hxe, hfin⟩
         obtain rfl : xe = Exit.ret := hxe
         obtain rfl := inj hF
         refine qbR <| qsR <| ?_
         exact hfin
     · rintro r2 hF ⟨xe, xs⟩ ⟨hxe, hfin⟩
       obtain rfl : xe = Exit.ret := hxe
       obtain rfl := inj hF
       refine qbR <| qsR <| ?_
       exact hfin
   · rintro r3 hF ⟨xe, xs⟩ ⟨hxe, hfin⟩
     obtain rfl : xe = Exit.ret := hxe
     obtain rfl := inj hF
     refine qbR <| qsR <| ?_
     exact hfin
noncomputable def code_Ahead (a0 : XApi_Unit) (a1 : Int) : Option ((List (List Int)) × XApi_Fault) :=
 (code_Check a0).bind fun x1 =>
 if (!((x1.Code == 0) && ((x1.At == 0) && true))) then
 (some ([], x1))
 else
 ((core_Within a1 0 (w64 ((a0.Funcs.length : Int) - 1))).bind fun x2 =>
 if (!x2) then
 ((core_Fault 3 (-1)).bind fun x3 =>
 some ([], x3))
 else
 ((idx a0.Funcs a1).bind fun x4 =>
 (code_ahead x4).bind fun x5 =>
 some (x5, (XApi_Fault.mk 0 0))))
abbrev R_code_Ahead (r : ((List (List Int)) × XApi_Fault)) : AV := (.tup [(.own ((r.1).map co_cInt_i64) (r.1).length), (.agg (cXApi_Fault r.2))])
set_option maxHeartbeats 4000000 in
theorem T_code_Ahead {nn : Nat} {a0 : XApi_Unit} {a1 : Int} {r : ((List (List Int)) × XApi_Fault)} (hF : code_Ahead a0 a1 = some r) : den cx (nn + 8) 29 [(.agg (cXApi_Unit a0)), (I a1)] = some (R_code_Ahead r, []) := by
 unfold code_Ahead at hF
 refine fnA Tryd.func29 Tryd.ntmps29 (by exact spine) (sl := [0, 1]) ?_
 refine sr <| pp oBoxF <| pp oAssign <| ww oAlloc <| nl <| sq <| sr <| pp oLdA <| ?_
 refine bb hF fun x1 h1 hF => ?_
 refine pp (oCall (T_code_Check h1)) <| ww oAlloc <| ww oStF <| nl <| sr <| pp oLdA <| pp oBuild <| pp (oStq (eq29_neq ..)) <| nl <| ?_
 refine cd hF (fun hF => ?_) (fun hF => ?_)
 · refine srD <| pp oLdA <| pp oAssign <| ww oStR <| nlD <| rt <| qsR <| ?_
   obtain rfl := inj hF
   exact finT
 · refine sk <| qs <| sq <| sr <| pp oMove <| pp oFA <| pp oLd <| pp oLenSl <| pp oSub <| ?_
   refine bb hF fun x2 h2 hF => ?_
   refine pp (oCallZ (T_core_Within h2)) <| pp oNot <| nl <| ?_
   refine cd hF (fun hF => ?_) (fun hF => ?_)
   · refine sr <| ?_
     refine bb hF fun x3 h3 hF => ?_
     refine pp (oCall (T_core_Fault h3)) <| pp oAssign <| ww oStR <| nl <| rt <| qsR <| ?_
     obtain rfl := inj hF
     exact finT
   · refine sk <| qs <| sr <| pp oFA <| pp oLd <| pp oMove <| ?_
     refine bb hF fun x4 h4 hF => ?_
     refine pp (oIx h4) <| pp oLdA <| ?_
     refine bb hF fun x5 h5 hF => ?_
     refine ww (oCall (T_code_ahead h5)) <| pp oBuild <| pp oAssign <| ww oStR <| nl <| rt <| ?_
     obtain rfl := inj hF
     exact finT
noncomputable def run_Counts_1 (a0 : XApi_Func) : Option Bool :=
 some (a0.Name.toList == (ByteArray.mk #[109, 97, 105, 110]).toList)
abbrev R_run_Counts_1 (r : Bool) : AV := (B r)
set_option maxHeartbeats 4000000 in
theorem T_run_Counts_1 {nn : Nat} {a0 : XApi_Func} {r : Bool} (hF : run_Counts_1 a0 = some r) : den cx (nn + 1) 32 [(.agg (cXApi_Func a0))] = some (R_run_Counts_1 r, []) := by
 unfold run_Counts_1 at hF
 refine fnA Tryd.func32 Tryd.ntmps32 (by exact spine) (sl := [0]) ?_
 refine sr <| pp oBoxF <| pp oAssign <| nl <| sr <| pp oFA <| pp oLd <| pp oEqlS <| pp oAssign <| nl <| rt <| ?_
 obtain rfl := inj hF
 exact fin1
noncomputable def slices_IndexFunc_api_Func_api_Func__f32_L1 (a0 : (List XApi_Func)) (y4 : Int) : Option (Lp Int (Br Unit Int)) :=
 if (decide (y4 < (a0.length : Int))) then
 ((idx a0 y4).bind fun x1 =>
 (run_Counts_1 x1).bind fun x2 =>
 if x2 then
 (some (.out (.ret y4)))
 else
 (some (.next (w64 (y4 + 1)))))
 else
 (some (.out (.brk ())))
noncomputable def slices_IndexFunc_api_Func_api_Func__f32 (a0 : (List XApi_Func)) : Option Int :=
 (Loop (fun (s : Int) => slices_IndexFunc_api_Func_api_Func__f32_L1 a0 s) 0).bind (Br.go (fun _ =>
 some (-1)) (fun r1 => some r1))
abbrev R_slices_IndexFunc_api_Func_api_Func__f32 (r : Int) : AV := (I r)
def RR_slices_IndexFunc_api_Func_api_Func__f32 (r : Int) (x : Exit × St) : Prop := x.1 = .ret ∧ Fin cx [.tmp 4] [] (R_slices_IndexFunc_api_Func_api_Func__f32 r) [] x
set_option maxHeartbeats 4000000 in
theorem T_slices_IndexFunc_api_Func_api_Func__f32 {nn : Nat} {a0 : (List XApi_Func)} {r : Int} (hF : slices_IndexFunc_api_Func_api_Func__f32 a0 = some r) : den cx (nn + 2) 31 [(.sl ((a0).map cXApi_Func)), (.fn (.func 32) [] [])] = some (R_slices_IndexFunc_api_Func_api_Func__f32 r, []) := by
 unfold slices_IndexFunc_api_Func_api_Func__f32 at hF
 refine fnA Tryd.func31 Tryd.ntmps31 (by exact spine) (sl := [0, 1]) ?_
 refine sr <| pp oAssign <| nl <| sq <| sr <| pp oMove <| pp oLenSl <| pp oMove <| nl <| ?_
 refine lpR (fun (s : Int) => mkSt 19 [0, 1, 7, 8] [(.sl ((a0).map cXApi_Func)), (.fn (.func 32) [] []), (I (a0.length : Int)), (I s)]) (fun (s : Unit) => mkSt 19 [] []) RR_slices_IndexFunc_api_Func_api_Func__f32 hF cutR' ?_ ?_ ?_
 · rintro y4 z1 hF
   replace hF : slices_IndexFunc_api_Func_api_Func__f32_L1 a0 y4 = some z1 := hF
   unfold slices_IndexFunc_api_Func_api_Func__f32_L1 at hF
   refine mk ?_
   refine sr <| pp oLss <| nl <| sq <| ?_
   refine cd hF (fun hF => ?_) (fun hF => ?_)
   · refine sk <| qs <| sq <| bl <| sr <| pp oMove <| pp oAssign <| nl <| sr <| pp oMove <| pp oMove <| pp oMove <| ?_
     refine bb hF fun x1 h1 hF => ?_
     refine pp (oIx h1) <| pp oLdA <| ?_
     refine bb hF fun x2 h2 hF => ?_
     refine pp (oCallZ (T_run_Counts_1 h2)) <| nl <| ?_
     refine cd hF (fun hF => ?_) (fun hF => ?_)
     · refine sr <| pp oMove <| pp oAssign <| nl <| rt <| qbR <| qsR <| ?_
       exact lr hF ⟨rfl, fin1⟩
     · refine sk <| qb <| qs <| rg <| pp oAdd <| pp oMove <| nl <| ?_
       exact ln hF cutR'
   · refine ex <| qsE <| ?_
     exact lxR hF cutR'
 · intro _ hF
   refine qmk ?_
   refine qs <| sr <| pp oAssign <| nl <| rt <| ?_
   obtain rfl := inj hF
   exact fin1
 · rintro r1 hF ⟨xe, xs⟩ ⟨hxe, hfin⟩
   obtain rfl : xe = Exit.ret := hxe
   obtain rfl := inj hF
   refine qbR <| qsR <| ?_
   exact hfin
noncomputable def run_walker_enter (a0 : XRun_walker) (a1 : Int) (a2 : Int) (a3 : (List Int)) : Option XRun_walker :=
 (stk (a0.frames.1, a0.frames.2)).bind fun _ =>
 (idx a0.u.Funcs a1).bind fun x1 =>
 (mks x1.Regs (0 : Int)).bind fun x2 =>
 (app (List.take a0.frames.2 a0.frames.1) [(XRun_frame.mk a1 0 0 (cpy x2 a3) a2)]).bind fun x3 =>
 (idx a0.counts a1).bind fun x4 =>
 (idx x4 0).bind fun x5 =>
 (idx x4 0).bind fun x6 =>
 some (XRun_walker.mk a0.u a0.ahead a0.mem a0.input a0.out ((List.set x3 (((((((List.take a0.frames.2 a0.frames.1)).length : Nat) : Int)) : Int).toNat) (XRun_frame.mk a1 0 0 (cpy x2 a3) a2)), (List.set x3 (((((((List.take a0.frames.2 a0.frames.1)).length : Nat) : Int)) : Int).toNat) (XRun_frame.mk a1 0 0 (cpy x2 a3) a2)).length) (List.set a0.counts (((a1) : Int).toNat) (List.set x4 ((0) : Int).toNat (w64 (x5 + 1)))))
abbrev R_run_walker_enter (r : XRun_walker) : AV := (.tup [])
set_option maxHeartbeats 4000000 in
theorem T_run_walker_enter {nn : Nat} {a0 : XRun_walker} {a1 : Int} {a2 : Int} {a3 : (List Int)} {r : XRun_walker} (hF : run_walker_enter a0 a1 a2 a3 = some r) : den cx (nn + 1) 30 [(.ownp (cXRun_walker_SIOOISIIOIeLSIIIOIeOOe a0)), (I a1), (I a2), (.sl ((a3).map cInt_i64))] = some (R_run_walker_enter r, [(.ownp (cXRun_walker_SIOOISIIOIeLSIIIOIeOOe r))]) := by
 unfold run_walker_enter at hF
 refine fnA Tryd.func30 Tryd.ntmps30 (by exact spine) (sl := [0, 1, 2, 3]) ?_
 refine bb hF fun _ h1 hF => ?_
 have h1 : a0.frames.2 ≤ a0.frames.1.length := stk_le h1
 refine sr <| pp oMove <| pp oNil <| pp oFAM <| pp oFAM <| rr oLdR <| pp oMove <| ?_
 refine bb hF fun x1 h2 hF => ?_
 refine pp (oIx h2) <| pp oFA <| pp oLd <| ?_
 refine bb hF fun x2 h3 hF => ?_
 refine ww (oMake (c := cInt_i64) h3 rfl) <| pp oAssign <| nl <| sr <| pp oMove <| pp oMove <| ww (oCopy (q' := a3) (hr := rfl)) <| nl <| sr <| pp oMove <| pp oMove <| pp oNil <| pp oFAM <| rr oLdR <| ?_
 refine pp oMove <| pp oMove <| pp oMove <| pp oBuild <| ww oBSM <| ?_
 refine bb hF fun x3 h4 hF => ?_
 have hk1 := app_get h4
 refine ww (oAppO h4 lle) <| pp oNil <| pp oFAM <| ww oStR <| nl <| rg <| pp oMove <| pp oNil <| pp oFAM <| rr oLdR <| pp oMove <| ?_
 refine bb hF fun x4 h5 hF => ?_
 refine rr (oIxM h5) <| ?_
 have hk2 := (idx_nat h5)
 refine ww (oLdY (rowM (idx_nat h5)) setM) <| ?_
 refine bb hF fun x5 h6 hF => ?_
 refine rr (oIxM h6) <| rr (oLdM (idx_nat h6)) <| pp oAdd <| ?_
 refine bb hF fun x6 h7 hF => ?_
 refine rr (oIxM h7) <| ww (oStL (idx_nat h7) (w64 (x5 + 1))) <| nl <| ?_
 obtain rfl := inj hF
 exact fin0N
noncomputable def run_walker_stop (a0 : XRun_walker) (a1 : Int) : Option (Bool × XRun_walker) :=
 (stk (a0.frames.1, a0.frames.2)).bind fun _ =>
 some (false, (XRun_walker.mk a0.u a0.ahead a0.mem a0.input (XApi_Outcome.mk a1 a0.out.Value a0.out.Out a0.out.Steps) (a0.frames.1, a0.frames.2) a0.counts))
abbrev R_run_walker_stop (r : (Bool × XRun_walker)) : AV := (B r.1)
set_option maxHeartbeats 4000000 in
theorem T_run_walker_stop {nn : Nat} {a0 : XRun_walker} {a1 : Int} {r : (Bool × XRun_walker)} (hF : run_walker_stop a0 a1 = some r) : den cx (nn + 1) 33 [(.ownp (cXRun_walker_SIOOISIIOIeLSIIIOIeOOe a0)), (I a1)] = some (R_run_walker_stop r, [(.ownp (cXRun_walker_SIOOISIIOIeLSIIIOIeOOe r.2))]) := by
 unfold run_walker_stop at hF
 refine fnA Tryd.func33 Tryd.ntmps33 (by exact spine) (sl := [0, 1]) ?_
 refine bb hF fun _ h1 hF => ?_
 have h1 : a0.frames.2 ≤ a0.frames.1.length := stk_le h1
 refine sr <| pp oAssign <| nl <| sr <| pp oMove <| pp oMove <| pp oNil <| pp oFAM <| pp oFAM <| ww oStR <| nl <| sr <| pp oAssign <| nl <| ?_
 refine rt <| ?_
 obtain rfl := inj hF
 exact fin1
noncomputable def slices_Index_int_int_L1 (a0 : (List Int)) (a1 : Int) (y5 : Int) : Option (Lp Int (Br Unit Int)) :=
 if (decide (y5 < (a0.length : Int))) then
 ((idx a0 y5).bind fun x1 =>
 if (a1 == x1) then
 (some (.out (.ret y5)))
 else
 (some (.next (w64 (y5 + 1)))))
 else
 (some (.out (.brk ())))
noncomputable def slices_Index_int_int (a0 : (List Int)) (a1 : Int) : Option Int :=
 (Loop (fun (s : Int) => slices_Index_int_int_L1 a0 a1 s) 0).bind (Br.go (fun _ =>
 some (-1)) (fun r1 => some r1))
abbrev R_slices_Index_int_int (r : Int) : AV := (I r)
def RR_slices_Index_int_int (r : Int) (x : Exit × St) : Prop := x.1 = .ret ∧ Fin cx [.tmp 4] [] (R_slices_Index_int_int r) [] x
set_option maxHeartbeats 4000000 in
theorem T_slices_Index_int_int {nn : Nat} {a0 : (List Int)} {a1 : Int} {r : Int} (hF : slices_Index_int_int a0 a1 = some r) : den cx (nn + 1) 85 [(.sl ((a0).map cInt_i64)), (I a1)] = some (R_slices_Index_int_int r, []) := by
 unfold slices_Index_int_int at hF
 refine fnA Tryd.func85 Tryd.ntmps85 (by exact spine) (sl := [0, 1]) ?_
 refine sr <| pp oAssign <| nl <| sq <| sr <| pp oMove <| pp oLenSl <| pp oMove <| nl <| ?_
 refine lpR (fun (s : Int) => mkSt 19 [0, 1, 7, 8] [(.sl ((a0).map cInt_i64)), (I a1), (I (a0.length : Int)), (I s)]) (fun (s : Unit) => mkSt 19 [] []) RR_slices_Index_int_int hF cutR' ?_ ?_ ?_
 · rintro y5 z1 hF
   replace hF : slices_Index_int_int_L1 a0 a1 y5 = some z1 := hF
   unfold slices_Index_int_int_L1 at hF
   refine mk ?_
   refine sr <| pp oLss <| nl <| sq <| ?_
   refine cd hF (fun hF => ?_) (fun hF => ?_)
   · refine sk <| qs <| sq <| bl <| sr <| pp oMove <| pp oAssign <| nl <| sr <| pp oMove <| pp oMove <| pp oMove <| ?_
     refine bb hF fun x1 h1 hF => ?_
     refine pp (oIx h1) <| pp oLd <| pp oEql <| nl <| ?_
     refine cd hF (fun hF => ?_) (fun hF => ?_)
     · refine sr <| pp oMove <| pp oAssign <| nl <| rt <| qbR <| qsR <| ?_
       exact lr hF ⟨rfl, fin1⟩
     · refine sk <| qb <| qs <| rg <| pp oAdd <| pp oMove <| nl <| ?_
       exact ln hF cutR'
   · refine ex <| qsE <| ?_
     exact lxR hF cutR'
 · intro _ hF
   refine qmk ?_
   refine qs <| sr <| pp oAssign <| nl <| rt <| ?_
   obtain rfl := inj hF
   exact fin1
 · rintro r1 hF ⟨xe, xs⟩ ⟨hxe, hfin⟩
   obtain rfl : xe = Exit.ret := hxe
   obtain rfl := inj hF
   refine qbR <| qsR <| ?_
   exact hfin
noncomputable def run_walker_val (a0 : XRun_walker) (a1 : XApi_Val) : Option Int :=
 if a1.Reg then
 ((lastx (List.take a0.frames.2 a0.frames.1) (((List.take a0.frames.2 a0.frames.1).length : Int) - 1)).bind fun x1 =>
 (idx x1.regs a1.N).bind fun x2 =>
 some x2)
 else
 (some a1.N)
abbrev R_run_walker_val (r : Int) : AV := (I r)
set_option maxHeartbeats 4000000 in
theorem T_run_walker_val {nn : Nat} {a0 : XRun_walker} {a1 : XApi_Val} {r : Int} (hF : run_walker_val a0 a1 = some r) : den cx (nn + 1) 72 [(.vp (cXRun_walker a0)), (.agg (cXApi_Val a1))] = some (R_run_walker_val r, []) := by
 unfold run_walker_val at hF
 refine fnA Tryd.func72 Tryd.ntmps72 (by exact spine) (sl := [0, 1]) ?_
 refine sr <| pp oBoxF <| pp oAssign <| nl <| sq <| sr <| pp oFA <| pp oLd <| nl <| ?_
 refine cd hF (fun hF => ?_) (fun hF => ?_)
 · refine srD <| pp oMove <| ?_
   refine bb hF fun x1 h1 hF => ?_
   refine pp (oLastV h1) <| pp oNil <| pp oFA <| pp oLd <| pp oFA <| pp oLd <| ?_
   refine bb hF fun x2 h2 hF => ?_
   refine pp (oIx h2) <| pp oLd <| pp oAssign <| nlD <| rt <| qsR <| ?_
   obtain rfl := inj hF
   exact fin1
 · refine sk <| qs <| sr <| pp oFA <| pp oLd <| pp oAssign <| nl <| rt <| ?_
   obtain rfl := inj hF
   exact fin1
end Go.Ab
