/-
  Functions of the program as functions on plain data (written by gen3.py).
-/
import Derived.Test.YtfciindiplokgaaDoorAbGen1
namespace Go.Ab
open Go Go.Proofs
noncomputable def ref2_body_L1 (a1 : XApi_Func) (y4 : Int) : Option (Lp Int (Br Unit Int)) :=
 if (decide (y4 < (a1.Blocks.length : Int))) then
 ((idx a1.Blocks y4).bind fun x1 =>
 (ref2_end a1 x1.End).bind fun x2 =>
 if (x2 != 0) then
 (some (.out (.ret x2)))
 else
 (some (.next (w64 (y4 + 1)))))
 else
 (some (.out (.brk ())))
noncomputable def ref2_body_L3 (a1 : XApi_Func) (y8 : Int) (x3 : XApi_Block) (y14 : Int) : Option (Lp Int (Br Unit Int)) :=
 if (decide (y14 < (x3.Phis.length : Int))) then
 ((idx x3.Phis y14).bind fun x4 =>
 (ref2_phi a1 y8 x4).bind fun x5 =>
 if (x5 != 0) then
 (some (.out (.ret x5)))
 else
 (some (.next (w64 (y14 + 1)))))
 else
 (some (.out (.brk ())))
noncomputable def ref2_body_L4 (a0 : XApi_Unit) (a1 : XApi_Func) (x3 : XApi_Block) (y20 : Int) : Option (Lp Int (Br Unit Int)) :=
 if (decide (y20 < (x3.List.length : Int))) then
 ((idx x3.List y20).bind fun x6 =>
 (ref2_ins a0 a1 x6).bind fun x7 =>
 if (x7 != 0) then
 (some (.out (.ret x7)))
 else
 (some (.next (w64 (y20 + 1)))))
 else
 (some (.out (.brk ())))
noncomputable def ref2_body_L2 (a0 : XApi_Unit) (a1 : XApi_Func) (y8 : Int) : Option (Lp Int (Br Unit Int)) :=
 if (decide (y8 < (a1.Blocks.length : Int))) then
 ((idx a1.Blocks y8).bind fun x3 =>
 (Loop (fun (s : Int) => ref2_body_L3 a1 y8 x3 s) 0).bind (Br.go (fun _ =>
 (Loop (fun (s : Int) => ref2_body_L4 a0 a1 x3 s) 0).bind (Br.go (fun _ =>
 some (.next (w64 (y8 + 1)))) (fun r1 => some (.out (.ret r1))))) (fun r2 => some (.out (.ret r2)))))
 else
 (some (.out (.brk ())))
noncomputable def ref2_body (a0 : XApi_Unit) (a1 : XApi_Func) : Option Int :=
 (Loop (fun (s : Int) => ref2_body_L1 a1 s) 0).bind (Br.go (fun _ =>
 (Loop (fun (s : Int) => ref2_body_L2 a0 a1 s) 0).bind (Br.go (fun _ =>
 some 0) (fun r3 => some r3))) (fun r4 => some r4))
abbrev R_ref2_body (r : Int) : AV := (I r)
def RR_ref2_body (r : Int) (x : Exit × St) : Prop := x.1 = .ret ∧ Fin cx [.tmp 4] [] (R_ref2_body r) [] x
set_option maxHeartbeats 4000000 in
theorem T_ref2_body {nn : Nat} {a0 : XApi_Unit} {a1 : XApi_Func} {r : Int} (hF : ref2_body a0 a1 = some r) : den cx (nn + 5) 24 [(.agg (cXApi_Unit a0)), (.agg (cXApi_Func a1))] = some (R_ref2_body r, []) := by
 unfold ref2_body at hF
 refine fnA Tryd.func24 Tryd.ntmps24 (by exact spine) (sl := [0, 1]) ?_
 refine sr <| pp oBoxF <| pp oBoxF <| pp oAssign <| nl <| sq <| sr <| pp oAssign <| nl <| ?_
 refine lpR (fun (s : Int) => mkSt 79 [2, 3, 5] [(.vp (cXApi_Unit a0)), (.vp (cXApi_Func a1)), (I s)]) (fun (s : Unit) => mkSt 79 [2, 3] [(.vp (cXApi_Unit a0)), (.vp (cXApi_Func a1))]) RR_ref2_body hF cutR' ?_ ?_ ?_
 · rintro y4 z1 hF
   replace hF : ref2_body_L1 a1 y4 = some z1 := hF
   unfold ref2_body_L1 at hF
   refine mk ?_
   refine sq <| sr <| pp oMove <| pp oFA <| pp oLd <| pp oLenSl <| pp oLss <| nl <| ?_
   refine cd hF (fun hF => ?_) (fun hF => ?_)
   · refine sk <| qs <| sq <| bl <| srD <| pp oLdA <| pp oFA <| pp oLd <| pp oMove <| ?_
     refine bb hF fun x1 h1 hF => ?_
     refine pp (oIx h1) <| pp oFA <| pp oLdA <| ?_
     refine bb hF fun x2 h2 hF => ?_
     refine pp (oCall (T_ref2_end h2)) <| pp oAssign <| nlD <| sr <| pp oMove <| pp oNeq <| nl <| ?_
     refine cd hF (fun hF => ?_) (fun hF => ?_)
     · refine sr <| pp oMove <| pp oAssign <| nl <| rt <| qbR <| qsR <| ?_
       exact lr hF ⟨rfl, fin1⟩
     · refine sk <| qb <| qs <| rg <| pp oMove <| pp oAdd <| pp oAssign <| nl <| ?_
       exact ln hF cutR'
   · refine ex <| qsE <| ?_
     exact lxR hF cutR'
 · intro _ hF
   refine qmk ?_
   refine qs <| sq <| sr <| pp oAssign <| nl <| ?_
   refine lpR (fun (s : Int) => mkSt 79 [2, 3, 7] [(.vp (cXApi_Unit a0)), (.vp (cXApi_Func a1)), (I s)]) (fun (s : Unit) => mkSt 79 [] []) RR_ref2_body hF cutR' ?_ ?_ ?_
   · rintro y8 z2 hF
     replace hF : ref2_body_L2 a0 a1 y8 = some z2 := hF
     unfold ref2_body_L2 at hF
     refine mk ?_
     refine sq <| sr <| pp oMove <| pp oFA <| pp oLd <| pp oLenSl <| pp oLss <| nl <| ?_
     refine cd hF (fun hF => ?_) (fun hF => ?_)
     · refine sk <| qs <| sq <| bl <| sr <| pp oFA <| pp oLd <| pp oMove <| ?_
       refine bb hF fun x3 h3 hF => ?_
       refine pp (oIx h3) <| pp oLdA <| ww oAlloc <| ww oStF <| nl <| sq <| sr <| pp oAssign <| nl <| ?_
       refine lpR (fun (s : Int) => mkSt 79 [2, 3, 7, 8, 9] [(.vp (cXApi_Unit a0)), (.vp (cXApi_Func a1)), (I y8), (.vp (cXApi_Block x3)), (I s)]) (fun (s : Unit) => mkSt 79 [2, 3, 7, 8] [(.vp (cXApi_Unit a0)), (.vp (cXApi_Func a1)), (I y8), (.vp (cXApi_Block x3))]) RR_ref2_body hF cutR' ?_ ?_ ?_
       · rintro y14 z3 hF
         replace hF : ref2_body_L3 a1 y8 x3 y14 = some z3 := hF
         unfold ref2_body_L3 at hF
         refine mk ?_
         refine sq <| sr <| pp oMove <| pp oFA <| pp oLd <| pp oLenSl <| pp oLss <| nl <| ?_
         refine cd hF (fun hF => ?_) (fun hF => ?_)
         · refine sk <| qs <| sq <| bl <| srD <| pp oLdA <| pp oMove <| pp oFA <| pp oLd <| pp oMove <| ?_
           refine bb hF fun x4 h4 hF => ?_
           refine pp (oIx h4) <| pp oLdA <| ?_
           refine bb hF fun x5 h5 hF => ?_
           refine pp (oCall (T_ref2_phi h5)) <| pp oAssign <| nlD <| sr <| pp oMove <| pp oNeq <| nl <| ?_
           refine cd hF (fun hF => ?_) (fun hF => ?_)
           · refine sr <| pp oMove <| pp oAssign <| nl <| rt <| qbR <| qsR <| ?_
             exact lr hF ⟨rfl, fin1⟩
           · refine sk <| qb <| qs <| rg <| pp oMove <| pp oAdd <| pp oAssign <| nl <| ?_
             exact ln hF cutR'
         · refine ex <| qsE <| ?_
           exact lxR hF cutR'
       · intro _ hF
         refine qmk ?_
         refine qs <| sr <| pp oAssign <| nl <| ?_
         refine lpR (fun (s : Int) => mkSt 79 [2, 3, 7, 8, 11] [(.vp (cXApi_Unit a0)), (.vp (cXApi_Func a1)), (I y8), (.vp (cXApi_Block x3)), (I s)]) (fun (s : Unit) => mkSt 79 [2, 3, 7] [(.vp (cXApi_Unit a0)), (.vp (cXApi_Func a1)), (I y8)]) RR_ref2_body hF cutR' ?_ ?_ ?_
         · rintro y20 z4 hF
           replace hF : ref2_body_L4 a0 a1 x3 y20 = some z4 := hF
           unfold ref2_body_L4 at hF
           refine mk ?_
           refine sq <| sr <| pp oMove <| pp oFA <| pp oLd <| pp oLenSl <| pp oLss <| nl <| ?_
           refine cd hF (fun hF => ?_) (fun hF => ?_)
           · refine sk <| qs <| sq <| bl <| srD <| pp oLdA <| pp oLdA <| pp oFA <| pp oLd <| pp oMove <| ?_
             refine bb hF fun x6 h6 hF => ?_
             refine pp (oIx h6) <| pp oLdA <| ?_
             refine bb hF fun x7 h7 hF => ?_
             refine pp (oCall (T_ref2_ins h7)) <| pp oAssign <| nlD <| sr <| pp oMove <| pp oNeq <| nl <| ?_
             refine cd hF (fun hF => ?_) (fun hF => ?_)
             · refine sr <| pp oMove <| pp oAssign <| nl <| rt <| qbR <| qsR <| ?_
               exact lr hF ⟨rfl, fin1⟩
             · refine sk <| qb <| qs <| rg <| pp oMove <| pp oAdd <| pp oAssign <| nl <| ?_
               exact ln hF cutR'
           · refine ex <| qsE <| ?_
             exact lxR hF cutR'
         · intro _ hF
           refine qmk ?_
           refine qb <| qs <| rg <| pp oMove <| pp oAdd <| pp oAssign <| nl <| ?_
           exact ln hF cutR'
         · rintro r1 hF ⟨xe, xs⟩ ⟨hxe, hfin⟩
           obtain rfl : xe = Exit.ret := hxe
           refine qbR <| qbR <| qsR <| ?_
           exact lrr hF (by simp) ⟨rfl, hfin⟩
       · rintro r2 hF ⟨xe, xs⟩ ⟨hxe, hfin⟩
         obtain rfl : xe = Exit.ret := hxe
         refine qbR <| qsR <| qbR <| qsR <| ?_
         exact lrr hF (by simp) ⟨rfl, hfin⟩
     · refine ex <| qsE <| ?_
       exact lxR hF cutR'
   · intro _ hF
     refine qmk ?_
     refine qs <| sr <| pp oAssign <| nl <| rt <| ?_
     obtain rfl := inj hF
     exact fin1
   · rintro r3 hF ⟨xe, xs⟩ ⟨hxe, hfin⟩
     obtain rfl : xe = Exit.ret := hxe
     obtain rfl := inj hF
     refine qbR <| qsR <| ?_
     exact hfin
 · rintro r4 hF ⟨xe, xs⟩ ⟨hxe, hfin⟩
   obtain rfl : xe = Exit.ret := hxe
   obtain rfl := inj hF
   refine qbR <| qsR <| ?_
   exact hfin
noncomputable def ref2_Main_L1 (a0 : XApi_Unit) (y3 : Int) : Option (Lp Int (Br Unit Int)) :=
 if (decide (y3 < (a0.Funcs.length : Int))) then
 ((idx a0.Funcs y3).bind fun x1 =>
 if (x1.Name.toList == (ByteArray.mk #[109, 97, 105, 110]).toList) then
 (some (.out (.ret y3)))
 else
 (some (.next (w64 (y3 + 1)))))
 else
 (some (.out (.brk ())))
noncomputable def ref2_Main (a0 : XApi_Unit) : Option Int :=
 (Loop (fun (s : Int) => ref2_Main_L1 a0 s) 0).bind (Br.go (fun _ =>
 some (-1)) (fun r1 => some r1))
abbrev R_ref2_Main (r : Int) : AV := (I r)
def RR_ref2_Main (r : Int) (x : Exit × St) : Prop := x.1 = .ret ∧ Fin cx [.tmp 2] [] (R_ref2_Main r) [] x
set_option maxHeartbeats 4000000 in
theorem T_ref2_Main {nn : Nat} {a0 : XApi_Unit} {r : Int} (hF : ref2_Main a0 = some r) : den cx (nn + 1) 25 [(.agg (cXApi_Unit a0))] = some (R_ref2_Main r, []) := by
 unfold ref2_Main at hF
 refine fnA Tryd.func25 Tryd.ntmps25 (by exact spine) (sl := [0]) ?_
 refine sr <| pp oBoxF <| pp oAssign <| nl <| sq <| sr <| pp oAssign <| nl <| ?_
 refine lpR (fun (s : Int) => mkSt 19 [1, 3] [(.vp (cXApi_Unit a0)), (I s)]) (fun (s : Unit) => mkSt 19 [] []) RR_ref2_Main hF cutR' ?_ ?_ ?_
 · rintro y3 z1 hF
   replace hF : ref2_Main_L1 a0 y3 = some z1 := hF
   unfold ref2_Main_L1 at hF
   refine mk ?_
   refine sq <| sr <| pp oMove <| pp oFA <| pp oLd <| pp oLenSl <| pp oLss <| nl <| ?_
   refine cd hF (fun hF => ?_) (fun hF => ?_)
   · refine sk <| qs <| sq <| bl <| sr <| pp oFA <| pp oLd <| pp oMove <| ?_
     refine bb hF fun x1 h1 hF => ?_
     refine pp (oIx h1) <| pp oFA <| pp oLd <| pp oEqlS <| nl <| ?_
     refine cd hF (fun hF => ?_) (fun hF => ?_)
     · refine sr <| pp oMove <| pp oAssign <| nl <| rt <| qbR <| qsR <| ?_
       exact lr hF ⟨rfl, fin1⟩
     · refine sk <| qb <| qs <| rg <| pp oMove <| pp oAdd <| pp oAssign <| nl <| ?_
       exact ln hF cutR'
   · refine ex <| qsE <| ?_
     exact lxR hF cutR'
 · intro _ hF
   refine qmk ?_
   refine qs <| sr <| pp oAssign <| nl <| rt <| ?_
   obtain rfl := inj hF
   exact fin1
 · rintro r1 hF ⟨xe, xs⟩ ⟨hxe, hfin⟩
   obtain rfl : xe = Exit.ret := hxe
   obtain rfl := inj hF
   refine qbR <| qsR <| ?_
   exact hfin
noncomputable def ref2_Unit_L1 (a0 : XApi_Unit) (y5 : Int) (y6 : Int) : Option (Lp (Int × Int) (Br Unit XApi_Fault)) :=
 if (decide (y6 < (a0.Globals.length : Int))) then
 ((ref2_global a0 y6 y5).bind fun x2 =>
 if (x2 != 0) then
 ((ref2_fault x2 y6).bind fun x3 =>
 some (.out (.ret x3)))
 else
 ((idx a0.Globals y6).bind fun x4 =>
 some (.next ((w64 (y5 + x4.Size)), (w64 (y6 + 1))))))
 else
 (some (.out (.brk ())))
noncomputable def ref2_Unit_L2 (a0 : XApi_Unit) (y10 : Int) : Option (Lp Int (Br Unit XApi_Fault)) :=
 if (decide (y10 < (a0.Funcs.length : Int))) then
 ((ref2_head a0 y10).bind fun x5 =>
 if (x5 != 0) then
 ((ref2_fault x5 y10).bind fun x6 =>
 some (.out (.ret x6)))
 else
 (some (.next (w64 (y10 + 1)))))
 else
 (some (.out (.brk ())))
noncomputable def ref2_Unit_L3 (a0 : XApi_Unit) (y14 : Int) : Option (Lp Int (Br Unit XApi_Fault)) :=
 if (decide (y14 < (a0.Funcs.length : Int))) then
 ((idx a0.Funcs y14).bind fun x7 =>
 (ref2_body a0 x7).bind fun x8 =>
 if (x8 != 0) then
 ((ref2_fault x8 y14).bind fun x9 =>
 some (.out (.ret x9)))
 else
 (some (.next (w64 (y14 + 1)))))
 else
 (some (.out (.brk ())))
noncomputable def ref2_Unit (a0 : XApi_Unit) : Option XApi_Fault :=
 if (if (decide (10 < (a0.Globals.length : Int))) then true else (decide (10 < (a0.Funcs.length : Int)))) then
 ((ref2_fault 2 0).bind fun x1 =>
 some x1)
 else
 ((Loop (fun (s : (Int × Int)) => ref2_Unit_L1 a0 s.1 s.2) (0, 0)).bind (Br.go (fun _ =>
 (Loop (fun (s : Int) => ref2_Unit_L2 a0 s) 0).bind (Br.go (fun _ =>
 (Loop (fun (s : Int) => ref2_Unit_L3 a0 s) 0).bind (Br.go (fun _ =>
 (ref2_Main a0).bind fun x10 =>
 if (decide (x10 < 0)) then
 ((ref2_fault 6 0).bind fun x11 =>
 some x11)
 else
 ((idx a0.Funcs x10).bind fun x12 =>
 if (decide (0 < x12.Params)) then
 ((ref2_fault 5 x10).bind fun x13 =>
 some x13)
 else
 (some (XApi_Fault.mk 0 0)))) (fun r1 => some r1))) (fun r2 => some r2))) (fun r3 => some r3)))
abbrev R_ref2_Unit (r : XApi_Fault) : AV := (.agg (cXApi_Fault r))
def RR_ref2_Unit (r : XApi_Fault) (x : Exit × St) : Prop := x.1 = .ret ∧ Fin cx [.cell 2 29] [] (R_ref2_Unit r) [] x
set_option maxHeartbeats 4000000 in
theorem T_ref2_Unit {nn : Nat} {a0 : XApi_Unit} {r : XApi_Fault} (hF : ref2_Unit a0 = some r) : den cx (nn + 6) 9 [(.agg (cXApi_Unit a0))] = some (R_ref2_Unit r, []) := by
 unfold ref2_Unit at hF
 refine fnA Tryd.func9 Tryd.ntmps9 (by exact spine) (sl := [0]) ?_
 refine sr <| pp oBoxF <| ww oAlloc <| nl <| sq <| sr <| pp oFA <| pp oLd <| pp oLenSl <| pp oGtr <| pp oMove <| pg ar oFA <| pg ar oLd <| pg ar oLenSl <| ?_
 refine pg ar oGtr <| pp oPick <| nl <| ?_
 refine cd hF (fun hF => ?_) (fun hF => ?_)
 · refine sr <| ?_
   refine bb hF fun x1 h1 hF => ?_
   refine pp (oCall (T_ref2_fault h1)) <| ww oStR <| nl <| rt <| qsR <| ?_
   obtain rfl := inj hF
   exact fin1
 · refine sk <| qs <| sr <| pp oAssign <| nl <| sq <| sr <| pp oAssign <| nl <| ?_
   refine lpR (fun (s : (Int × Int)) => mkSt 95 [1, 2, 3, 4] [(.vp (cXApi_Unit a0)), (.ownp (cXApi_Fault (XApi_Fault.mk 0 0))), (I s.1), (I s.2)]) (fun (s : Unit) => mkSt 95 [1, 2] [(.vp (cXApi_Unit a0)), (.ownp (cXApi_Fault (XApi_Fault.mk 0 0)))]) RR_ref2_Unit hF cutR' ?_ ?_ ?_
   · rintro ⟨y5, y6⟩ z1 hF
     replace hF : ref2_Unit_L1 a0 y5 y6 = some z1 := hF
     unfold ref2_Unit_L1 at hF
     refine mk ?_
     refine sq <| sr <| pp oMove <| pp oFA <| pp oLd <| pp oLenSl <| pp oLss <| nl <| ?_
     refine cd hF (fun hF => ?_) (fun hF => ?_)
     · refine sk <| qs <| sq <| bl <| sr <| pp oLdA <| pp oMove <| pp oMove <| ?_
       refine bb hF fun x2 h2 hF => ?_
       refine pp (oCallZ (T_ref2_global h2)) <| pp oAssign <| nl <| sq <| sr <| pp oMove <| pp oNeq <| nl <| ?_
       refine cd hF (fun hF => ?_) (fun hF => ?_)
       · refine sr <| pp oMove <| pp oMove <| ?_
         refine bb hF fun x3 h3 hF => ?_
         refine pp (oCall (T_ref2_fault h3)) <| ww oStR <| nl <| rt <| qsR <| qbR <| qsR <| ?_
         exact lr hF ⟨rfl, fin1⟩
       · refine sk <| qs <| rg <| pp oMove <| pp oFA <| pp oLd <| pp oMove <| ?_
         refine bb hF fun x4 h4 hF => ?_
         refine pp (oIx h4) <| pp oFA <| pp oLd <| pp oAdd <| pp oAssign <| nl <| qb <| qs <| rg <| pp oMove <| pp oAdd <| pp oAssign <| nl <| ?_
         exact ln hF cutR'
     · refine ex <| qsE <| ?_
       exact lxR hF cutR'
   · intro _ hF
     refine qmk ?_
     refine qs <| sq <| sr <| pp oAssign <| nl <| ?_
     refine lpR (fun (s : Int) => mkSt 95 [1, 2, 6] [(.vp (cXApi_Unit a0)), (.ownp (cXApi_Fault (XApi_Fault.mk 0 0))), (I s)]) (fun (s : Unit) => mkSt 95 [1, 2] [(.vp (cXApi_Unit a0)), (.ownp (cXApi_Fault (XApi_Fault.mk 0 0)))]) RR_ref2_Unit hF cutR' ?_ ?_ ?_
     · rintro y10 z2 hF
       replace hF : ref2_Unit_L2 a0 y10 = some z2 := hF
       unfold ref2_Unit_L2 at hF
       refine mk ?_
       refine sq <| sr <| pp oMove <| pp oFA <| pp oLd <| pp oLenSl <| pp oLss <| nl <| ?_
       refine cd hF (fun hF => ?_) (fun hF => ?_)
       · refine sk <| qs <| sq <| bl <| sr <| pp oLdA <| pp oMove <| ?_
         refine bb hF fun x5 h5 hF => ?_
         refine pp (oCallZ (T_ref2_head h5)) <| pp oAssign <| nl <| sr <| pp oMove <| pp oNeq <| nl <| ?_
         refine cd hF (fun hF => ?_) (fun hF => ?_)
         · refine sr <| pp oMove <| pp oMove <| ?_
           refine bb hF fun x6 h6 hF => ?_
           refine pp (oCall (T_ref2_fault h6)) <| ww oStR <| nl <| rt <| qbR <| qsR <| ?_
           exact lr hF ⟨rfl, fin1⟩
         · refine sk <| qb <| qs <| rg <| pp oMove <| pp oAdd <| pp oAssign <| nl <| ?_
           exact ln hF cutR'
       · refine ex <| qsE <| ?_
         exact lxR hF cutR'
     · intro _ hF
       refine qmk ?_
       refine qs <| sq <| sr <| pp oAssign <| nl <| ?_
       refine lpR (fun (s : Int) => mkSt 95 [1, 2, 8] [(.vp (cXApi_Unit a0)), (.ownp (cXApi_Fault (XApi_Fault.mk 0 0))), (I s)]) (fun (s : Unit) => mkSt 95 [1, 2] [(.vp (cXApi_Unit a0)), (.ownp (cXApi_Fault (XApi_Fault.mk 0 0)))]) RR_ref2_Unit hF cutR' ?_ ?_ ?_
       · rintro y14 z3 hF
         replace hF : ref2_Unit_L3 a0 y14 = some z3 := hF
         unfold ref2_Unit_L3 at hF
         refine mk ?_
         refine sq <| sr <| pp oMove <| pp oFA <| pp oLd <| pp oLenSl <| pp oLss <| nl <| ?_
         refine cd hF (fun hF => ?_) (fun hF => ?_)
         · refine sk <| qs <| sq <| bl <| srD <| pp oLdA <| pp oFA <| pp oLd <| pp oMove <| ?_
           refine bb hF fun x7 h7 hF => ?_
           refine pp (oIx h7) <| pp oLdA <| ?_
           refine bb hF fun x8 h8 hF => ?_
           refine pp (oCallZ (T_ref2_body h8)) <| pp oAssign <| nlD <| sr <| pp oMove <| pp oNeq <| nl <| ?_
           refine cd hF (fun hF => ?_) (fun hF => ?_)
           · refine sr <| pp oMove <| pp oMove <| ?_
             refine bb hF fun x9 h9 hF => ?_
             refine pp (oCall (T_ref2_fault h9)) <| ww oStR <| nl <| rt <| qbR <| qsR <| ?_
             exact lr hF ⟨rfl, fin1⟩
           · refine sk <| qb <| qs <| rg <| pp oMove <| pp oAdd <| pp oAssign <| nl <| ?_
             exact ln hF cutR'
         · refine ex <| qsE <| ?_
           exact lxR hF cutR'
       · intro _ hF
         refine qmk ?_
         refine qs <| sr <| pp oLdA <| ?_
         refine bb hF fun x10 h10 hF => ?_
         refine pp (oCallZ (T_ref2_Main h10)) <| pp oAssign <| nl <| sq <| sr <| pp oMove <| pp oLss <| nl <| ?_
         refine cd hF (fun hF => ?_) (fun hF => ?_)
         · refine sr <| ?_
           refine bb hF fun x11 h11 hF => ?_
           refine pp (oCall (T_ref2_fault h11)) <| ww oStR <| nl <| rt <| qsR <| ?_
           obtain rfl := inj hF
           exact fin1
         · refine sk <| qs <| sq <| sr <| pp oFA <| pp oLd <| pp oMove <| ?_
           refine bb hF fun x12 h12 hF => ?_
           refine pp (oIx h12) <| pp oFA <| pp oLd <| pp oGtr <| nl <| ?_
           refine cd hF (fun hF => ?_) (fun hF => ?_)
           · refine sr <| pp oMove <| ?_
             refine bb hF fun x13 h13 hF => ?_
             refine pp (oCall (T_ref2_fault h13)) <| ww oStR <| nl <| rt <| qsR <| ?_
             obtain rfl := inj hF
             exact fin1
           · refine sk <| qs <| sr <| pp oBuild <| ww oStR <| nl <| rt <| ?_
             obtain rfl := inj hF
             exact fin1
       · rintro r1 hF ⟨xe, xs⟩ ⟨hxe, hfin⟩
         obtain rfl : xe = Exit.ret := hxe
         obtain rfl := inj hF
         refine qbR <| qsR <| ?_
         exact hfin
     · rintro r2 hF ⟨xe, xs⟩ ⟨hxe, hfin⟩
       obtain rfl : xe = Exit.ret := hxe
       obtain rfl := inj hF
       refine qbR <| qsR <| ?_
       exact hfin
   · rintro r3 hF ⟨xe, xs⟩ ⟨hxe, hfin⟩
     obtain rfl : xe = Exit.ret := hxe
     obtain rfl := inj hF
     refine qbR <| qsR <| ?_
     exact hfin
noncomputable def same_Fault (a0 : Int) (a1 : Int) : Option XApi_Fault :=
 some (XApi_Fault.mk a0 a1)
abbrev R_same_Fault (r : XApi_Fault) : AV := (.agg (cXApi_Fault r))
set_option maxHeartbeats 4000000 in
theorem T_same_Fault {nn : Nat} {a0 : Int} {a1 : Int} {r : XApi_Fault} (hF : same_Fault a0 a1 = some r) : den cx (nn + 1) 10 [(I a0), (I a1)] = some (R_same_Fault r, []) := by
 unfold same_Fault at hF
 refine fnA Tryd.func10 Tryd.ntmps10 (by exact spine) (sl := [0, 1]) ?_
 refine sr <| ww oAlloc <| nl <| sr <| pp oMove <| pp oMove <| pp oBuild <| ww oStR <| nl <| rt <| ?_
 obtain rfl := inj hF
 exact fin1
noncomputable def law2_in (a0 : Int) (a1 : Int) (a2 : Int) : Option Bool :=
 some (if (decide (a1 ≤ a0)) then (decide (a0 ≤ a2)) else false)
abbrev R_law2_in (r : Bool) : AV := (B r)
set_option maxHeartbeats 4000000 in
theorem T_law2_in {nn : Nat} {a0 : Int} {a1 : Int} {a2 : Int} {r : Bool} (hF : law2_in a0 a1 a2 = some r) : den cx (nn + 1) 11 [(I a0), (I a1), (I a2)] = some (R_law2_in r, []) := by
 unfold law2_in at hF
 refine fnA Tryd.func11 Tryd.ntmps11 (by exact spine) (sl := [0, 1, 2]) ?_
 refine sr <| pp oAssign <| nl <| sr <| pp oMove <| pp oMove <| pp oGeq <| pp oMove <| pg ar oMove <| pg ar oMove <| pg ar oLeq <| pp oPick <| pp oAssign <| nl <| ?_
 refine rt <| ?_
 obtain rfl := inj hF
 exact fin1
noncomputable def core_Fault (a0 : Int) (a1 : Int) : Option XApi_Fault :=
 some (XApi_Fault.mk a0 a1)
abbrev R_core_Fault (r : XApi_Fault) : AV := (.agg (cXApi_Fault r))
set_option maxHeartbeats 4000000 in
theorem T_core_Fault {nn : Nat} {a0 : Int} {a1 : Int} {r : XApi_Fault} (hF : core_Fault a0 a1 = some r) : den cx (nn + 1) 27 [(I a0), (I a1)] = some (R_core_Fault r, []) := by
 unfold core_Fault at hF
 refine fnA Tryd.func27 Tryd.ntmps27 (by exact spine) (sl := [0, 1]) ?_
 refine sr <| ww oAlloc <| nl <| sr <| pp oMove <| pp oMove <| pp oBuild <| ww oStR <| nl <| rt <| ?_
 obtain rfl := inj hF
 exact fin1
noncomputable def core_Name_L1 (a0 : ByteArray) (y4 : Int) : Option (Lp Int (Br Unit Bool)) :=
 if (decide (y4 < (a0.size : Int))) then
 ((sidx a0 y4).bind fun x1 =>
 if (!(if (if (if (if (decide (97 ≤ (x1.toNat : Int))) then (decide ((x1.toNat : Int) ≤ 122)) else false) then true else (if (decide (65 ≤ (x1.toNat : Int))) then (decide ((x1.toNat : Int) ≤ 90)) else false)) then true else ((x1.toNat : Int) == 95)) then true else (if (if (decide (0 < y4)) then (decide (48 ≤ (x1.toNat : Int))) else false) then (decide ((x1.toNat : Int) ≤ 57)) else false))) then
 (some (.out (.ret false)))
 else
 (some (.next (w64 (y4 + 1)))))
 else
 (some (.out (.brk ())))
noncomputable def core_Name (a0 : ByteArray) : Option Bool :=
 if (if (decide ((a0.size : Int) < 1)) then true else (decide (12 < (a0.size : Int)))) then
 (some false)
 else
 ((Loop (fun (s : Int) => core_Name_L1 a0 s) 0).bind (Br.go (fun _ =>
 some true) (fun r1 => some r1)))
abbrev R_core_Name (r : Bool) : AV := (B r)
def RR_core_Name (r : Bool) (x : Exit × St) : Prop := x.1 = .ret ∧ Fin cx [.tmp 2] [] (R_core_Name r) [] x
set_option maxHeartbeats 4000000 in
theorem T_core_Name {nn : Nat} {a0 : ByteArray} {r : Bool} (hF : core_Name a0 = some r) : den cx (nn + 1) 46 [(AV.val (.string a0))] = some (R_core_Name r, []) := by
 unfold core_Name at hF
 refine fnA Tryd.func46 Tryd.ntmps46 (by exact spine) (sl := [0]) ?_
 refine sr <| pp oAssign <| nl <| sq <| sr <| pp oMove <| pp oLenS <| pp oLss <| pp oMove <| pg ar oMove <| pg ar oLenS <| pg ar oGtr <| pp oPick <| nl <| ?_
 refine cd hF (fun hF => ?_) (fun hF => ?_)
 · refine sr <| pp oAssign <| nl <| rt <| qsR <| ?_
   obtain rfl := inj hF
   exact fin1
 · refine sk <| qs <| sq <| sr <| pp oMove <| pp oLenS <| pp oMove <| nl <| ?_
   refine lpR (fun (s : Int) => mkSt 53 [0, 14, 15] [(AV.val (.string a0)), (I (a0.size : Int)), (I s)]) (fun (s : Unit) => mkSt 53 [] []) RR_core_Name hF cutR' ?_ ?_ ?_
   · rintro y4 z1 hF
     replace hF : core_Name_L1 a0 y4 = some z1 := hF
     unfold core_Name_L1 at hF
     refine mk ?_
     refine sr <| pp oLss <| nl <| sq <| ?_
     refine cd hF (fun hF => ?_) (fun hF => ?_)
     · refine sk <| qs <| sq <| bl <| sr <| pp oMove <| pp oAssign <| nl <| sr <| pp oMove <| pp oMove <| ?_
       refine bb hF fun x1 h1 hF => ?_
       refine pp (oIxS h1) <| pp oAssign <| nl <| sr <| pp oMove <| pp oGeq <| pp oMove <| pg ar oMove <| pg ar oLeq <| pp oPick <| pp oMove <| pg ar oMove <| pg ar oGeq <| pg ar oMove <| ?_
       refine pg ar oMove <| pg ar oLeq <| pg ar oPick <| pp oPick <| pp oMove <| pg ar oMove <| pg ar oEql <| pp oPick <| pp oMove <| pg ar oMove <| pg ar oGtr <| pg ar oMove <| pg ar oMove <| pg ar oGeq <| ?_
       refine pg ar oPick <| pg ar oMove <| pg ar oMove <| pg ar oLeq <| pg ar oPick <| pp oPick <| pp oNot <| nl <| ?_
       refine cd hF (fun hF => ?_) (fun hF => ?_)
       · refine sr <| pp oAssign <| nl <| rt <| qbR <| qsR <| ?_
         exact lr hF ⟨rfl, fin1⟩
       · refine sk <| qb <| qs <| rg <| pp oAdd <| pp oMove <| nl <| ?_
         exact ln hF cutR'
     · refine ex <| qsE <| ?_
       exact lxR hF cutR'
   · intro _ hF
     refine qmk ?_
     refine qs <| sr <| pp oAssign <| nl <| rt <| ?_
     obtain rfl := inj hF
     exact fin1
   · rintro r1 hF ⟨xe, xs⟩ ⟨hxe, hfin⟩
     obtain rfl : xe = Exit.ret := hxe
     obtain rfl := inj hF
     refine qbR <| qsR <| ?_
     exact hfin
noncomputable def slices_Index_string_string_L1 (a0 : (List ByteArray)) (a1 : ByteArray) (y5 : Int) : Option (Lp Int (Br Unit Int)) :=
 if (decide (y5 < (a0.length : Int))) then
 ((idx a0 y5).bind fun x1 =>
 if (a1.toList == x1.toList) then
 (some (.out (.ret y5)))
 else
 (some (.next (w64 (y5 + 1)))))
 else
 (some (.out (.brk ())))
noncomputable def slices_Index_string_string (a0 : (List ByteArray)) (a1 : ByteArray) : Option Int :=
 (Loop (fun (s : Int) => slices_Index_string_string_L1 a0 a1 s) 0).bind (Br.go (fun _ =>
 some (-1)) (fun r1 => some r1))
abbrev R_slices_Index_string_string (r : Int) : AV := (I r)
def RR_slices_Index_string_string (r : Int) (x : Exit × St) : Prop := x.1 = .ret ∧ Fin cx [.tmp 4] [] (R_slices_Index_string_string r) [] x
set_option maxHeartbeats 4000000 in
theorem T_slices_Index_string_string {nn : Nat} {a0 : (List ByteArray)} {a1 : ByteArray} {r : Int} (hF : slices_Index_string_string a0 a1 = some r) : den cx (nn + 1) 67 [(.sl ((a0).map cStr)), (AV.val (.string a1))] = some (R_slices_Index_string_string r, []) := by
 unfold slices_Index_string_string at hF
 refine fnA Tryd.func67 Tryd.ntmps67 (by exact spine) (sl := [0, 1]) ?_
 refine sr <| pp oAssign <| nl <| sq <| sr <| pp oMove <| pp oLenSl <| pp oMove <| nl <| ?_
 refine lpR (fun (s : Int) => mkSt 19 [0, 1, 7, 8] [(.sl ((a0).map cStr)), (AV.val (.string a1)), (I (a0.length : Int)), (I s)]) (fun (s : Unit) => mkSt 19 [] []) RR_slices_Index_string_string hF cutR' ?_ ?_ ?_
 · rintro y5 z1 hF
   replace hF : slices_Index_string_string_L1 a0 a1 y5 = some z1 := hF
   unfold slices_Index_string_string_L1 at hF
   refine mk ?_
   refine sr <| pp oLss <| nl <| sq <| ?_
   refine cd hF (fun hF => ?_) (fun hF => ?_)
   · refine sk <| qs <| sq <| bl <| sr <| pp oMove <| pp oAssign <| nl <| sr <| pp oMove <| pp oMove <| pp oMove <| ?_
     refine bb hF fun x1 h1 hF => ?_
     refine pp (oIx h1) <| pp oLd <| pp oEqlS <| nl <| ?_
     refine cd hF (fun hF => ?_) (fun hF => ?_)
     · refine sr <| pp oMove <| pp oAssign <| nl <| rt <| qbR <| qsR <| ?_
       exact lr hF ⟨rfl, fin1⟩
     · refine sk <| qb <| qs <| rg <| pp oAdd <| pp oMove <| nl <| ?_
       exact ln hF cutR'
   · refine ex <| qsE <| ?_
     exact lxR hF cutR'
 · intro _ hF
   refine qmk ?_
   refine qs <| sr <| pp oAssign <| nl <| rt <| ?_
   obtain rfl := inj hF
   exact fin1
 · rintro r1 hF ⟨xe, xs⟩ ⟨hxe, hfin⟩
   obtain rfl : xe = Exit.ret := hxe
   obtain rfl := inj hF
   refine qbR <| qsR <| ?_
   exact hfin
noncomputable def slices_Contains_string_string (a0 : (List ByteArray)) (a1 : ByteArray) : Option Bool :=
 (slices_Index_string_string a0 a1).bind fun x1 =>
 some (decide (0 ≤ x1))
abbrev R_slices_Contains_string_string (r : Bool) : AV := (B r)
set_option maxHeartbeats 4000000 in
theorem T_slices_Contains_string_string {nn : Nat} {a0 : (List ByteArray)} {a1 : ByteArray} {r : Bool} (hF : slices_Contains_string_string a0 a1 = some r) : den cx (nn + 2) 47 [(.sl ((a0).map cStr)), (AV.val (.string a1))] = some (R_slices_Contains_string_string r, []) := by
 unfold slices_Contains_string_string at hF
 refine fnA Tryd.func47 Tryd.ntmps47 (by exact spine) (sl := [0, 1]) ?_
 refine sr <| pp oAssign <| nl <| sr <| pp oMove <| pp oMove <| ?_
 refine bb hF fun x1 h1 hF => ?_
 refine pp (oCallZ (T_slices_Index_string_string h1)) <| pp oGeq <| pp oAssign <| nl <| rt <| ?_
 obtain rfl := inj hF
 exact fin1
noncomputable def core_Within (a0 : Int) (a1 : Int) (a2 : Int) : Option Bool :=
 some (if (decide (a1 ≤ a0)) then (decide (a0 ≤ a2)) else false)
abbrev R_core_Within (r : Bool) : AV := (B r)
set_option maxHeartbeats 4000000 in
theorem T_core_Within {nn : Nat} {a0 : Int} {a1 : Int} {a2 : Int} {r : Bool} (hF : core_Within a0 a1 a2 = some r) : den cx (nn + 1) 28 [(I a0), (I a1), (I a2)] = some (R_core_Within r, []) := by
 unfold core_Within at hF
 refine fnA Tryd.func28 Tryd.ntmps28 (by exact spine) (sl := [0, 1, 2]) ?_
 refine sr <| pp oAssign <| nl <| sr <| pp oMove <| pp oMove <| pp oGeq <| pp oMove <| pg ar oMove <| pg ar oMove <| pg ar oLeq <| pp oPick <| pp oAssign <| nl <| ?_
 refine rt <| ?_
 obtain rfl := inj hF
 exact fin1
noncomputable def code_checker_head_L1 (a0 : XCode_checker) (y7 : Int) (y8 : Int) : Option (Lp (Int × Int) Int) :=
 if (decide (y8 < (a0.f.Blocks.length : Int))) then
 ((idx a0.f.Blocks y8).bind fun x1 =>
 some (.next ((w64 (y7 + (w64 ((x1.Phis.length : Int) + (x1.List.length : Int))))), (w64 (y8 + 1)))))
 else
 (some (.out y7))
noncomputable def code_checker_head (a0 : XCode_checker) (a1 : (List ByteArray)) : Option Int :=
 (Loop (fun (s : (Int × Int)) => code_checker_head_L1 a0 s.1 s.2) (0, 0)).bind fun v1 =>
 (core_Name a0.f.Name).bind fun x2 =>
 if (!x2) then
 (some 12)
 else
 ((slices_Contains_string_string a1 a0.f.Name).bind fun x3 =>
 if x3 then
 (some 7)
 else
 (((core_Within a0.f.Params 0 6).bind fun x4 =>
 if (!x4) then
 (some true)
 else
 ((core_Within a0.f.Regs a0.f.Params 100).bind fun x5 =>
 some (!x5))).bind fun p1 =>
 if p1 then
 (some 3)
 else
 ((core_Within (a0.f.Blocks.length : Int) 1 40).bind fun x6 =>
 if (if (!x6) then true else (decide (300 < v1))) then
 (some 2)
 else
 (some 0))))
abbrev R_code_checker_head (r : Int) : AV := (I r)
set_option maxHeartbeats 4000000 in
theorem T_code_checker_head {nn : Nat} {a0 : XCode_checker} {a1 : (List ByteArray)} {r : Int} (hF : code_checker_head a0 a1 = some r) : den cx (nn + 3) 48 [(.agg (cXCode_checker a0)), (.sl ((a1).map cStr))] = some (R_code_checker_head r, []) := by
 unfold code_checker_head at hF
 refine fnA Tryd.func48 Tryd.ntmps48 (by exact spine) (sl := [0, 1]) ?_
 refine sr <| pp oBoxF <| pp oAssign <| nl <| sr <| pp oAssign <| nl <| sq <| sr <| pp oFA <| pp oFA <| pp oLd <| pp oLenSl <| pp oMove <| ?_
 refine nl <| ?_
 refine lp (fun (s : (Int × Int)) => mkSt 65 [1, 2, 5, 10, 11, 12] [(.sl ((a1).map cStr)), (.vp (cXCode_checker a0)), (I s.1), (.sl ((a0.f.Blocks).map cXApi_Block)), (I (a0.f.Blocks.length : Int)), (I s.2)]) (fun (s : Int) => mkSt 65 [1, 2, 5] [(.sl ((a1).map cStr)), (.vp (cXCode_checker a0)), (I s)]) hF cutR' ?_ ?_
 · rintro ⟨y7, y8⟩ z1 hF
   replace hF : code_checker_head_L1 a0 y7 y8 = some z1 := hF
   unfold code_checker_head_L1 at hF
   refine mk ?_
   refine sr <| pp oLss <| nl <| sq <| ?_
   refine cd hF (fun hF => ?_) (fun hF => ?_)
   · refine sk <| qs <| sq <| bl <| sr <| ?_
     refine bb hF fun x1 h1 hF => ?_
     refine pp (oIx h1) <| pp oLdA <| ww oAlloc <| ww oStF <| nl <| rg <| pp oMove <| pp oFA <| pp oLd <| pp oLenSl <| pp oFA <| pp oLd <| pp oLenSl <| pp oAdd <| ?_
     refine pp oAdd <| pp oAssign <| nl <| qb <| qs <| rg <| pp oAdd <| pp oMove <| nl <| ?_
     exact ln hF cutR'
   · refine ex <| qsE <| ?_
     exact lx hF cutR'
 · intro v1 hF
   refine qmk ?_
   refine qs <| sq <| bl <| sr <| pp oFA <| pp oFA <| pp oLd <| ?_
   refine bb hF fun x2 h2 hF => ?_
   refine pp (oCallZ (T_core_Name h2)) <| pp oNot <| pp oAssign <| nl <| ?_
   refine cd hF (fun hF => ?_) (fun hF => ?_)
   · refine sr <| pp oAssign <| nl <| rt <| qbR <| qsR <| ?_
     obtain rfl := inj hF
     exact fin1
   · refine sr <| pp oMove <| pp oFA <| pp oFA <| pp oLd <| ?_
     refine bb hF fun x3 h3 hF => ?_
     refine pp (oCallZ (T_slices_Contains_string_string h3)) <| pp oAssign <| nl <| ?_
     refine cd hF (fun hF => ?_) (fun hF => ?_)
     · refine sr <| pp oAssign <| nl <| rt <| qbR <| qsR <| ?_
       obtain rfl := inj hF
       exact fin1
     · refine srC (fun (s : Bool) => mkSt 65 [2, 5, 38] [(.vp (cXCode_checker a0)), (I v1), (B s)]) hF (fun z2 hF => ?_) (fun p1 hF => ?_)
       · refine pp oFA <| pp oFA <| pp oLd <| ?_
         refine bb hF fun x4 h4 hF => ?_
         refine pp (oCallZ (T_core_Within h4)) <| pp oNot <| pp oMove <| ?_
         refine spl (d := 44) hF (fun hF => ?_) (fun hF => ?_)
         · refine no fun u1 k1 hk1 => ?_
           refine no fun u2 k2 hk2 => ?_
           refine no fun u3 k3 hk3 => ?_
           refine no fun u4 k4 hk4 => ?_
           refine no fun u5 k5 hk5 => ?_
           refine no fun u6 k6 hk6 => ?_
           refine no fun u7 k7 hk7 => ?_
           refine no fun u8 k8 hk8 => ?_
           refine pp oPickT <| pp oAssign <| ?_
           obtain rfl := inj hF
           exact nlC cutR'
         · refine pt ar oFA <| pt ar oFA <| pt ar oLd <| pt ar oFA <| pt ar oFA <| pt ar oLd <| ?_
           refine bb hF fun x5 h5 hF => ?_
           refine pt ar (oCallZ (T_core_Within h5)) <| pt ar oNot <| pp oPickF <| pp oAssign <| ?_
           obtain rfl := inj hF
           exact nlC cutR'
       · refine mk ?_
         refine cd hF (fun hF => ?_) (fun hF => ?_)
         · refine sr <| pp oAssign <| nl <| rt <| qbR <| qsR <| ?_
           obtain rfl := inj hF
           exact fin1
         · refine sr <| pp oFA <| pp oFA <| pp oLd <| pp oLenSl <| ?_
           refine bb hF fun x6 h6 hF => ?_
           refine pp (oCallZ (T_core_Within h6)) <| pp oNot <| pp oMove <| pg ar oMove <| pg ar oGtr <| pp oPick <| pp oAssign <| nl <| ?_
           refine cd hF (fun hF => ?_) (fun hF => ?_)
           · refine sr <| pp oAssign <| nl <| rt <| qbR <| qsR <| ?_
             obtain rfl := inj hF
             exact fin1
           · refine sk <| qb <| qs <| sr <| pp oAssign <| nl <| rt <| ?_
             obtain rfl := inj hF
             exact fin1
noncomputable def code_checker_end_1 (a0 : Int) (a1 : XCode_checker) : Option Bool :=
 (core_Within a0 1 (w64 ((a1.f.Blocks.length : Int) - 1))).bind fun x1 =>
 some (!x1)
abbrev R_code_checker_end_1 (r : Bool) : AV := (B r)
set_option maxHeartbeats 4000000 in
theorem T_code_checker_end_1 {nn : Nat} {a0 : Int} {a1 : XCode_checker} {r : Bool} (hF : code_checker_end_1 a0 a1 = some r) : den cx (nn + 2) 77 [(I a0), (.vp (cXCode_checker a1))] = some (R_code_checker_end_1 r, []) := by
 unfold code_checker_end_1 at hF
 refine fnA Tryd.func77 Tryd.ntmps77 (by exact spine) (sl := [0, 1]) ?_
 refine sr <| pp oAssign <| nl <| sr <| pp oMove <| pp oFA <| pp oFA <| pp oLd <| pp oLenSl <| pp oSub <| ?_
 refine bb hF fun x1 h1 hF => ?_
 refine pp (oCallZ (T_core_Within h1)) <| pp oNot <| pp oAssign <| nl <| rt <| ?_
 obtain rfl := inj hF
 exact fin1
noncomputable def slices_IndexFunc_int_int__f77_L1 (a0 : (List Int)) (a1 : XCode_checker) (y4 : Int) : Option (Lp Int (Br Unit Int)) :=
 if (decide (y4 < (a0.length : Int))) then
 ((idx a0 y4).bind fun x1 =>
 (code_checker_end_1 x1 a1).bind fun x2 =>
 if x2 then
 (some (.out (.ret y4)))
 else
 (some (.next (w64 (y4 + 1)))))
 else
 (some (.out (.brk ())))
noncomputable def slices_IndexFunc_int_int__f77 (a0 : (List Int)) (a1 : XCode_checker) : Option Int :=
 (Loop (fun (s : Int) => slices_IndexFunc_int_int__f77_L1 a0 a1 s) 0).bind (Br.go (fun _ =>
 some (-1)) (fun r1 => some r1))
abbrev R_slices_IndexFunc_int_int__f77 (r : Int) : AV := (I r)
def RR_slices_IndexFunc_int_int__f77 (r : Int) (x : Exit × St) : Prop := x.1 = .ret ∧ Fin cx [.tmp 4] [] (R_slices_IndexFunc_int_int__f77 r) [] x
set_option maxHeartbeats 4000000 in
theorem T_slices_IndexFunc_int_int__f77 {nn : Nat} {a0 : (List Int)} {a1 : XCode_checker} {r : Int} (hF : slices_IndexFunc_int_int__f77 a0 a1 = some r) : den cx (nn + 3) 88 [(.sl ((a0).map cInt_i64)), (.fn (.func 77) [] [(.vp (cXCode_checker a1))])] = some (R_slices_IndexFunc_int_int__f77 r, []) := by
 unfold slices_IndexFunc_int_int__f77 at hF
 refine fnA Tryd.func88 Tryd.ntmps88 (by exact spine) (sl := [0, 1]) ?_
 refine sr <| pp oAssign <| nl <| sq <| sr <| pp oMove <| pp oLenSl <| pp oMove <| nl <| ?_
 refine lpR (fun (s : Int) => mkSt 19 [0, 1, 7, 8] [(.sl ((a0).map cInt_i64)), (.fn (.func 77) [] [(.vp (cXCode_checker a1))]), (I (a0.length : Int)), (I s)]) (fun (s : Unit) => mkSt 19 [] []) RR_slices_IndexFunc_int_int__f77 hF cutR' ?_ ?_ ?_
 · rintro y4 z1 hF
   replace hF : slices_IndexFunc_int_int__f77_L1 a0 a1 y4 = some z1 := hF
   unfold slices_IndexFunc_int_int__f77_L1 at hF
   refine mk ?_
   refine sr <| pp oLss <| nl <| sq <| ?_
   refine cd hF (fun hF => ?_) (fun hF => ?_)
   · refine sk <| qs <| sq <| bl <| sr <| pp oMove <| pp oAssign <| nl <| sr <| pp oMove <| pp oMove <| pp oMove <| ?_
     refine bb hF fun x1 h1 hF => ?_
     refine pp (oIx h1) <| pp oLd <| ?_
     refine bb hF fun x2 h2 hF => ?_
     refine pp (oCallZ (T_code_checker_end_1 h2)) <| nl <| ?_
     refine cd hF (fun hF => ?_) (fun hF => ?_)
     · refine sr <| pp oMove <| pp oAssign <| nl <| rt <| qbR <| qsR <| ?_
       exact lr hF ⟨rfl, fin1⟩
     · refine sk <| qb <| qs <| rg <| pp oAdd <| pp oMove <| nl <| ?_
       exact ln hF cutR'
   · refine ex <| qsE <| ?_
     exact lxR hF cutR'
 · intro _ hF
   refine qmk ?_
   refine qs <| sr <| pp oAssign <| nl <| rt <| ?_
   obtain rfl := inj hF
   exact fin1
 · rintro r1 hF ⟨xe, xs⟩ ⟨hxe, hfin⟩
   obtain rfl : xe = Exit.ret := hxe
   obtain rfl := inj hF
   refine qbR <| qsR <| ?_
   exact hfin
noncomputable def slices_ContainsFunc_int_int__f77 (a0 : (List Int)) (a1 : XCode_checker) : Option Bool :=
 (slices_IndexFunc_int_int__f77 a0 a1).bind fun x1 =>
 some (decide (0 ≤ x1))
abbrev R_slices_ContainsFunc_int_int__f77 (r : Bool) : AV := (B r)
set_option maxHeartbeats 4000000 in
theorem T_slices_ContainsFunc_int_int__f77 {nn : Nat} {a0 : (List Int)} {a1 : XCode_checker} {r : Bool} (hF : slices_ContainsFunc_int_int__f77 a0 a1 = some r) : den cx (nn + 4) 76 [(.sl ((a0).map cInt_i64)), (.fn (.func 77) [] [(.vp (cXCode_checker a1))])] = some (R_slices_ContainsFunc_int_int__f77 r, []) := by
 unfold slices_ContainsFunc_int_int__f77 at hF
 refine fnA Tryd.func76 Tryd.ntmps76 (by exact spine) (sl := [0, 1]) ?_
 refine sr <| pp oAssign <| nl <| sr <| pp oMove <| pp oMove <| ?_
 refine bb hF fun x1 h1 hF => ?_
 refine pp (oCallZ (T_slices_IndexFunc_int_int__f77 h1)) <| pp oGeq <| pp oAssign <| nl <| rt <| ?_
 obtain rfl := inj hF
 exact fin1
noncomputable def code_checker_val (a0 : XCode_checker) (a1 : XApi_Val) : Option Int :=
 (if a1.Reg then
 ((core_Within a1.N 0 (w64 (a0.f.Regs - 1))).bind fun x1 =>
 some (!x1))
 else
 (some false)).bind fun p1 =>
 if p1 then
 (some 3)
 else
 (some 0)
abbrev R_code_checker_val (r : Int) : AV := (I r)
set_option maxHeartbeats 4000000 in
theorem T_code_checker_val {nn : Nat} {a0 : XCode_checker} {a1 : XApi_Val} {r : Int} (hF : code_checker_val a0 a1 = some r) : den cx (nn + 2) 78 [(.agg (cXCode_checker a0)), (.agg (cXApi_Val a1))] = some (R_code_checker_val r, []) := by
 unfold code_checker_val at hF
 refine fnA Tryd.func78 Tryd.ntmps78 (by exact spine) (sl := [0, 1]) ?_
 refine sr <| pp oBoxF <| pp oBoxF <| pp oAssign <| nl <| sq <| ?_
 refine srC (fun (s : Bool) => mkSt 17 [16] [(B s)]) hF (fun z1 hF => ?_) (fun p1 hF => ?_)
 · refine pp oFA <| pp oLd <| pp oMove <| ?_
   refine spl (d := 7) hF (fun hF => ?_) (fun hF => ?_)
   · refine pt ar oFA <| pt ar oLd <| pt ar oFA <| pt ar oFA <| pt ar oLd <| pt ar oSub <| ?_
     refine bb hF fun x1 h1 hF => ?_
     refine pt ar (oCallZ (T_core_Within h1)) <| pt ar oNot <| pp oPickT <| ?_
     obtain rfl := inj hF
     exact nlC cutR'
   · refine no fun u1 k1 hk1 => ?_
     refine no fun u2 k2 hk2 => ?_
     refine no fun u3 k3 hk3 => ?_
     refine no fun u4 k4 hk4 => ?_
     refine no fun u5 k5 hk5 => ?_
     refine no fun u6 k6 hk6 => ?_
     refine no fun u7 k7 hk7 => ?_
     refine no fun u8 k8 hk8 => ?_
     refine pp oPickF <| ?_
     obtain rfl := inj hF
     exact nlC cutR'
 · refine mk ?_
   refine cd hF (fun hF => ?_) (fun hF => ?_)
   · refine sr <| pp oAssign <| nl <| rt <| qsR <| ?_
     obtain rfl := inj hF
     exact fin1
   · refine sk <| qs <| sr <| pp oAssign <| nl <| rt <| ?_
     obtain rfl := inj hF
     exact fin1
noncomputable def code_checker_end (a0 : XCode_checker) (a1 : XApi_End) : Option Int :=
 (core_Within a1.Kind 1 3).bind fun x1 =>
 if (!x1) then
 (some 4)
 else
 ((idx ([0, 0, 1, 2] : List Int) a1.Kind).bind fun x2 =>
 if ((a1.To.length : Int) != x2) then
 (some 9)
 else
 ((slices_ContainsFunc_int_int__f77 a1.To a0).bind fun x3 =>
 if x3 then
 (some 3)
 else
 ((if (a1.Kind == 3) then
 ((idx a1.To 0).bind fun x4 =>
 (idx a1.To 1).bind fun x5 =>
 some (if (x4 == x5) then true else (if (a1.Kind == 2) then (!((a1.On.Reg == false) && ((a1.On.N == 0) && true))) else false)))
 else
 (some (if (a1.Kind == 2) then (!((a1.On.Reg == false) && ((a1.On.N == 0) && true))) else false))).bind fun p1 =>
 if p1 then
 (some 5)
 else
 ((code_checker_val a0 a1.On).bind fun x6 =>
 some x6))))
abbrev R_code_checker_end (r : Int) : AV := (I r)
set_option maxHeartbeats 4000000 in
theorem T_code_checker_end {nn : Nat} {a0 : XCode_checker} {a1 : XApi_End} {r : Int} (hF : code_checker_end a0 a1 = some r) : den cx (nn + 5) 68 [(.agg (cXCode_checker a0)), (.agg (cXApi_End a1))] = some (R_code_checker_end r, []) := by
 unfold code_checker_end at hF
 refine fnA Tryd.func68 Tryd.ntmps68 (by exact spine) (sl := [0, 1]) ?_
 refine sr <| pp oBoxF <| pp oBoxF <| pp oAssign <| nl <| sq <| bl <| sr <| pp oFA <| pp oLd <| ?_
 refine bb hF fun x1 h1 hF => ?_
 refine pp (oCallZ (T_core_Within h1)) <| pp oNot <| pp oAssign <| nl <| ?_
 refine cd hF (fun hF => ?_) (fun hF => ?_)
 · refine sr <| pp oAssign <| nl <| rt <| qbR <| qsR <| ?_
   obtain rfl := inj hF
   exact fin1
 · refine srD <| pp oFA <| pp oLd <| pp oLenSl <| pp oFA <| pp oLd <| ?_
   refine bb hF fun x2 h2 hF => ?_
   refine pp (oIxA h2) <| pp oLd <| pp oNeq <| pp oAssign <| nlD <| ?_
   refine cd hF (fun hF => ?_) (fun hF => ?_)
   · refine sr <| pp oAssign <| nl <| rt <| qbR <| qsR <| ?_
     obtain rfl := inj hF
     exact fin1
   · refine sr <| pp oFA <| pp oLd <| pp oFunc <| ?_
     refine bb hF fun x3 h3 hF => ?_
     refine pp (oCallZ (T_slices_ContainsFunc_int_int__f77 h3)) <| pp oAssign <| nl <| ?_
     refine cd hF (fun hF => ?_) (fun hF => ?_)
     · refine sr <| pp oAssign <| nl <| rt <| qbR <| qsR <| ?_
       obtain rfl := inj hF
       exact fin1
     · refine srC (fun (s : Bool) => mkSt 54 [2, 3, 24] [(.vp (cXCode_checker a0)), (.vp (cXApi_End a1)), (B s)]) hF (fun z1 hF => ?_) (fun p1 hF => ?_)
       · refine pp oFA <| pp oLd <| pp oEql <| pp oMove <| ?_
         refine spl (d := 28) hF (fun hF => ?_) (fun hF => ?_)
         · refine pt ar oFA <| pt ar oLd <| ?_
           refine bb hF fun x4 h4 hF => ?_
           refine pt ar (oIx h4) <| pt ar oLd <| pt ar oFA <| pt ar oLd <| ?_
           refine bb hF fun x5 h5 hF => ?_
           refine pt ar (oIx h5) <| pt ar oLd <| pt ar oEql <| pp oPickT <| pp oMove <| pg ar oFA <| pg ar oLd <| pg ar oEql <| pg ar oMove <| pg ar oFA <| pg ar oLdA <| pg ar oBuild <| pg ar (oStq (eq52_neq ..)) <| pg ar oPick <| ?_
           refine pp oPick <| pp oAssign <| ?_
           obtain rfl := inj hF
           exact nlCD cutR'
         · refine no fun u1 k1 hk1 => ?_
           refine no fun u2 k2 hk2 => ?_
           refine no fun u3 k3 hk3 => ?_
           refine no fun u4 k4 hk4 => ?_
           refine no fun u5 k5 hk5 => ?_
           refine no fun u6 k6 hk6 => ?_
           refine no fun u7 k7 hk7 => ?_
           refine no fun u8 k8 hk8 => ?_
           refine no fun u9 k9 hk9 => ?_
           refine pp oPickF <| pp oMove <| pt ar oFA <| pt ar oLd <| pt ar oEql <| pt ar oMove <| pg ar oFA <| pg ar oLdA <| pg ar oBuild <| pg ar (oStq (eq52_neq ..)) <| pt ar oPick <| pp oPickF <| pp oAssign <| ?_
           obtain rfl := inj hF
           exact nlCD (hf := rok) cutR'
       · refine mk ?_
         refine cd hF (fun hF => ?_) (fun hF => ?_)
         · refine sr <| pp oAssign <| nl <| rt <| qbR <| qsR <| ?_
           obtain rfl := inj hF
           exact fin1
         · refine sk <| qb <| qs <| sr <| pp oLdA <| pp oFA <| pp oLdA <| ?_
           refine bb hF fun x6 h6 hF => ?_
           refine pp (oCall (T_code_checker_val h6)) <| pp oAssign <| nl <| rt <| ?_
           obtain rfl := inj hF
           exact fin1
noncomputable def code_ahead_L2 (y6 : Int) (x2 : XApi_Block) (y15 : (List (List Int))) (y16 : Int) : Option (Lp ((List (List Int)) × Int) (List (List Int))) :=
 if (decide (y16 < (x2.End.To.length : Int))) then
 ((idx x2.End.To y16).bind fun x3 =>
 (idx y15 x3).bind fun x4 =>
 (app x4 ([y6] : List Int)).bind fun x5 =>
 (idx y15 x3).bind fun x6 =>
 some (.next ((List.set y15 (((x3) : Int).toNat) x5), (w64 (y16 + 1)))))
 else
 (some (.out y15))
noncomputable def code_ahead_L1 (a0 : XApi_Func) (y5 : (List (List Int))) (y6 : Int) : Option (Lp ((List (List Int)) × Int) (List (List Int))) :=
 if (decide (y6 < (a0.Blocks.length : Int))) then
 ((idx a0.Blocks y6).bind fun x2 =>
 (Loop (fun (s : ((List (List Int)) × Int)) => code_ahead_L2 y6 x2 s.1 s.2) (y5, 0)).bind fun v1 =>
 some (.next (v1, (w64 (y6 + 1)))))
 else
 (some (.out y5))
noncomputable def code_ahead (a0 : XApi_Func) : Option (List (List Int)) :=
 (mks (a0.Blocks.length : Int) ([] : (List Int))).bind fun x1 =>
 (Loop (fun (s : ((List (List Int)) × Int)) => code_ahead_L1 a0 s.1 s.2) (x1, 0)).bind fun v2 =>
 some v2
abbrev R_code_ahead (r : (List (List Int))) : AV := (.own ((r).map co_cInt_i64) (r).length)
set_option maxHeartbeats 4000000 in
theorem T_code_ahead {nn : Nat} {a0 : XApi_Func} {r : (List (List Int))} (hF : code_ahead a0 = some r) : den cx (nn + 1) 51 [(.agg (cXApi_Func a0))] = some (R_code_ahead r, []) := by
 unfold code_ahead at hF
 refine fnA Tryd.func51 Tryd.ntmps51 (by exact spine) (sl := [0]) ?_
 refine sr <| pp oBoxF <| pp oAssign <| nl <| sr <| pp oFA <| pp oLd <| pp oLenSl <| ?_
 refine bb hF fun x1 h1 hF => ?_
 refine ww (oMake (c := co_cInt_i64) h1 rfl) <| pp oAssign <| nl <| sq <| sr <| pp oFA <| pp oLd <| pp oLenSl <| pp oMove <| nl <| ?_
 refine lp (fun (s : ((List (List Int)) × Int)) => mkSt 41 [3, 13, 14, 15] [(.own ((s.1).map co_cInt_i64) (s.1).length), (.sl ((a0.Blocks).map cXApi_Block)), (I (a0.Blocks.length : Int)), (I s.2)]) (fun (s : (List (List Int))) => mkSt 41 [3] [(.own ((s).map co_cInt_i64) (s).length)]) hF cutR' ?_ ?_
 · rintro ⟨y5, y6⟩ z1 hF
   replace hF : code_ahead_L1 a0 y5 y6 = some z1 := hF
   unfold code_ahead_L1 at hF
   refine mk ?_
   refine sr <| pp oLss <| nl <| sq <| ?_
   refine cd hF (fun hF => ?_) (fun hF => ?_)
   · refine sk <| qs <| sq <| bl <| sr <| pp oMove <| ?_
     refine bb hF fun x2 h2 hF => ?_
     refine pp (oIx h2) <| pp oLdA <| ww oAlloc <| pp oAssign <| ww oStF <| nl <| sr <| pp oFA <| pp oFA <| pp oLd <| pp oLenSl <| pp oMove <| nl <| ?_
     refine lp (fun (s : ((List (List Int)) × Int)) => mkSt 41 [3, 4, 13, 14, 15, 22, 23, 24] [(.own ((s.1).map co_cInt_i64) (s.1).length), (I y6), (.sl ((a0.Blocks).map cXApi_Block)), (I (a0.Blocks.length : Int)), (I y6), (.sl ((x2.End.To).map cInt_i64)), (I (x2.End.To.length : Int)), (I s.2)]) (fun (s : (List (List Int))) => mkSt 41 [3, 13, 14, 15] [(.own ((s).map co_cInt_i64) (s).length), (.sl ((a0.Blocks).map cXApi_Block)), (I (a0.Blocks.length : Int)), (I y6)]) hF cutR' ?_ ?_
     · rintro ⟨y15, y16⟩ z2 hF
       replace hF : code_ahead_L2 y6 x2 y15 y16 = some z2 := hF
       unfold code_ahead_L2 at hF
       refine mk ?_
       refine sr <| pp oLss <| nl <| sq <| ?_
       refine cd hF (fun hF => ?_) (fun hF => ?_)
       · refine sk <| qs <| sq <| bl <| sr <| ?_
         refine bb hF fun x3 h3 hF => ?_
         refine pp (oIx h3) <| pp oLd <| pp oAssign <| nl <| rg <| pp oMove <| pp oMove <| pp oMove <| pp oMove <| ?_
         refine bb hF fun x4 h4 hF => ?_
         refine rr (oIxM h4) <| ?_
         have hk1 := (idx_nat h4)
         refine ww (oLdY (rowM (idx_nat h4)) setM) <| pp oMove <| pp oBSF <| ?_
         refine bb hF fun x5 h5 hF => ?_
         refine ww (oApp h5) <| ?_
         refine bb hF fun x6 h6 hF => ?_
         refine rr (oIxQ (idx_b h6) (rowO hk1)) <| ww (oStQ (rowO hk1) setO) <| nl <| qb <| qs <| rg <| pp oAdd <| pp oMove <| nl <| ?_
         exact ln hF cutR'
       · refine ex <| qsE <| ?_
         exact lx hF cutR'
     · intro v1 hF
       refine qmk ?_
       refine qb <| qs <| rg <| pp oAdd <| pp oMove <| nl <| ?_
       exact ln hF cutR'
   · refine ex <| qsE <| ?_
     exact lx hF cutR'
 · intro v2 hF
   refine qmk ?_
   refine qs <| sr <| pp oMove <| pp oAssign <| nl <| rt <| ?_
   obtain rfl := inj hF
   exact fin1
noncomputable def code_checker_dst (a0 : XCode_checker) (a1 : Int) : Option Int :=
 (core_Within a1 0 (w64 (a0.f.Regs - 1))).bind fun x1 =>
 if (!x1) then
 (some 3)
 else
 (some 0)
abbrev R_code_checker_dst (r : Int) : AV := (I r)
set_option maxHeartbeats 4000000 in
theorem T_code_checker_dst {nn : Nat} {a0 : XCode_checker} {a1 : Int} {r : Int} (hF : code_checker_dst a0 a1 = some r) : den cx (nn + 2) 79 [(.agg (cXCode_checker a0)), (I a1)] = some (R_code_checker_dst r, []) := by
 unfold code_checker_dst at hF
 refine fnA Tryd.func79 Tryd.ntmps79 (by exact spine) (sl := [0, 1]) ?_
 refine sr <| pp oBoxF <| pp oAssign <| nl <| sq <| sr <| pp oMove <| pp oFA <| pp oFA <| pp oLd <| pp oSub <| ?_
 refine bb hF fun x1 h1 hF => ?_
 refine pp (oCallZ (T_core_Within h1)) <| pp oNot <| nl <| ?_
 refine cd hF (fun hF => ?_) (fun hF => ?_)
 · refine sr <| pp oAssign <| nl <| rt <| qsR <| ?_
   obtain rfl := inj hF
   exact fin1
 · refine sk <| qs <| sr <| pp oAssign <| nl <| rt <| ?_
   obtain rfl := inj hF
   exact fin1
noncomputable def code_checker_phi_L1 (a0 : XCode_checker) (a2 : XApi_Phi) (y5 : Int) : Option (Lp Int (Br Unit Int)) :=
 if (decide (y5 < (a2.From.length : Int))) then
 ((idx a2.From y5).bind fun x3 =>
 (code_checker_val a0 x3).bind fun x4 =>
 if (x4 != 0) then
 (some (.out (.ret x4)))
 else
 (some (.next (w64 (y5 + 1)))))
 else
 (some (.out (.brk ())))
noncomputable def code_checker_phi (a0 : XCode_checker) (a1 : Int) (a2 : XApi_Phi) : Option Int :=
 if (a1 == 0) then
 (some 5)
 else
 ((code_checker_dst a0 a2.Dst).bind fun x1 =>
 if (x1 != 0) then
 (some x1)
 else
 ((idx a0.ahead a1).bind fun x2 =>
 if ((a2.From.length : Int) != (x2.length : Int)) then
 (some 9)
 else
 ((Loop (fun (s : Int) => code_checker_phi_L1 a0 a2 s) 0).bind (Br.go (fun _ =>
 some 0) (fun r1 => some r1)))))
abbrev R_code_checker_phi (r : Int) : AV := (I r)
def RR_code_checker_phi (r : Int) (x : Exit × St) : Prop := x.1 = .ret ∧ Fin cx [.tmp 6] [] (R_code_checker_phi r) [] x
set_option maxHeartbeats 4000000 in
theorem T_code_checker_phi {nn : Nat} {a0 : XCode_checker} {a1 : Int} {a2 : XApi_Phi} {r : Int} (hF : code_checker_phi a0 a1 a2 = some r) : den cx (nn + 3) 69 [(.agg (cXCode_checker a0)), (I a1), (.agg (cXApi_Phi a2))] = some (R_code_checker_phi r, []) := by
 unfold code_checker_phi at hF
 refine fnA Tryd.func69 Tryd.ntmps69 (by exact spine) (sl := [0, 1, 2]) ?_
 refine sr <| pp oBoxF <| pp oBoxF <| pp oAssign <| nl <| sq <| sr <| pp oMove <| pp oEql <| nl <| ?_
 refine cd hF (fun hF => ?_) (fun hF => ?_)
 · refine sr <| pp oAssign <| nl <| rt <| qsR <| ?_
   obtain rfl := inj hF
   exact fin1
 · refine sk <| qs <| sq <| sr <| pp oLdA <| pp oFA <| pp oLd <| ?_
   refine bb hF fun x1 h1 hF => ?_
   refine pp (oCall (T_code_checker_dst h1)) <| pp oAssign <| nl <| sr <| pp oMove <| pp oNeq <| nl <| ?_
   refine cd hF (fun hF => ?_) (fun hF => ?_)
   · refine sr <| pp oMove <| pp oAssign <| nl <| rt <| qsR <| ?_
     obtain rfl := inj hF
     exact fin1
   · refine sk <| qs <| sq <| srD <| pp oFA <| pp oLd <| pp oLenSl <| pp oFA <| pp oLd <| pp oMove <| ?_
     refine bb hF fun x2 h2 hF => ?_
     refine pp (oIx h2) <| pp oLd <| pp oLenSl <| pp oNeq <| nlD <| ?_
     refine cd hF (fun hF => ?_) (fun hF => ?_)
     · refine sr <| pp oAssign <| nl <| rt <| qsR <| ?_
       obtain rfl := inj hF
       exact fin1
     · refine sk <| qs <| sq <| sr <| pp oFA <| pp oLd <| pp oLenSl <| pp oMove <| nl <| ?_
       refine lpR (fun (s : Int) => mkSt 44 [3, 31, 32, 33] [(.vp (cXCode_checker a0)), (.sl ((a2.From).map cXApi_Val)), (I (a2.From.length : Int)), (I s)]) (fun (s : Unit) => mkSt 44 [] []) RR_code_checker_phi hF cutR' ?_ ?_ ?_
       · rintro y5 z1 hF
         replace hF : code_checker_phi_L1 a0 a2 y5 = some z1 := hF
         unfold code_checker_phi_L1 at hF
         refine mk ?_
         refine sr <| pp oLss <| nl <| sq <| ?_
         refine cd hF (fun hF => ?_) (fun hF => ?_)
         · refine sk <| qs <| sq <| bl <| sr <| ?_
           refine bb hF fun x3 h3 hF => ?_
           refine pp (oIx h3) <| pp oLdA <| ww oAlloc <| ww oStF <| nl <| sr <| pp oLdA <| pp oLdA <| ?_
           refine bb hF fun x4 h4 hF => ?_
           refine pp (oCall (T_code_checker_val h4)) <| pp oAssign <| nl <| sr <| pp oMove <| pp oNeq <| nl <| ?_
           refine cd hF (fun hF => ?_) (fun hF => ?_)
           · refine sr <| pp oMove <| pp oAssign <| nl <| rt <| qbR <| qsR <| ?_
             exact lr hF ⟨rfl, fin1⟩
           · refine sk <| qb <| qs <| rg <| pp oAdd <| pp oMove <| nl <| ?_
             exact ln hF cutR'
         · refine ex <| qsE <| ?_
           exact lxR hF cutR'
       · intro _ hF
         refine qmk ?_
         refine qs <| sr <| pp oAssign <| nl <| rt <| ?_
         obtain rfl := inj hF
         exact fin1
       · rintro r1 hF ⟨xe, xs⟩ ⟨hxe, hfin⟩
         obtain rfl : xe = Exit.ret := hxe
         obtain rfl := inj hF
         refine qbR <| qsR <| ?_
         exact hfin
noncomputable def core_Shapes (a0 : Int) : Option XCore_Shape :=
 if (if (if (if (a0 == 1) then true else (a0 == 16)) then true else (a0 == 17)) then true else (a0 == 18)) then
 (some (XCore_Shape.mk true true false))
 else
 (if (if (decide (2 ≤ a0)) then (decide (a0 ≤ 15)) else false) then
 (some (XCore_Shape.mk true true true))
 else
 (if (a0 == 19) then
 (some (XCore_Shape.mk false true true))
 else
 (if (if (a0 == 20) then true else (a0 == 21)) then
 (some (XCore_Shape.mk true false false))
 else
 (if (a0 == 22) then
 (some (XCore_Shape.mk false true false))
 else
 (some (XCore_Shape.mk false false false))))))
abbrev R_core_Shapes (r : XCore_Shape) : AV := (.agg (cXCore_Shape r))
set_option maxHeartbeats 4000000 in
theorem T_core_Shapes {nn : Nat} {a0 : Int} {r : XCore_Shape} (hF : core_Shapes a0 = some r) : den cx (nn + 1) 80 [(I a0)] = some (R_core_Shapes r, []) := by
 unfold core_Shapes at hF
 refine fnA Tryd.func80 Tryd.ntmps80 (by exact spine) (sl := [0]) ?_
 refine sr <| ww oAlloc <| nl <| sq <| bl <| sr <| pp oMove <| pp oEql <| pp oMove <| pg ar oMove <| pg ar oEql <| pp oPick <| pp oMove <| pg ar oMove <| ?_
 refine pg ar oEql <| pp oPick <| pp oMove <| pg ar oMove <| pg ar oEql <| pp oPick <| pp oAssign <| nl <| ?_
 refine cd hF (fun hF => ?_) (fun hF => ?_)
 · refine sr <| pp oBuild <| ww oStR <| nl <| rt <| qbR <| qsR <| ?_
   obtain rfl := inj hF
   exact fin1
 · refine sr <| pp oMove <| pp oGeq <| pp oMove <| pg ar oMove <| pg ar oLeq <| pp oPick <| pp oAssign <| nl <| ?_
   refine cd hF (fun hF => ?_) (fun hF => ?_)
   · refine sr <| pp oBuild <| ww oStR <| nl <| rt <| qbR <| qsR <| ?_
     obtain rfl := inj hF
     exact fin1
   · refine sr <| pp oMove <| pp oEql <| pp oAssign <| nl <| ?_
     refine cd hF (fun hF => ?_) (fun hF => ?_)
     · refine sr <| pp oBuild <| ww oStR <| nl <| rt <| qbR <| qsR <| ?_
       obtain rfl := inj hF
       exact fin1
     · refine sr <| pp oMove <| pp oEql <| pp oMove <| pg ar oMove <| pg ar oEql <| pp oPick <| pp oAssign <| nl <| ?_
       refine cd hF (fun hF => ?_) (fun hF => ?_)
       · refine sr <| pp oBuild <| ww oStR <| nl <| rt <| qbR <| qsR <| ?_
         obtain rfl := inj hF
         exact fin1
       · refine sr <| pp oMove <| pp oEql <| pp oAssign <| nl <| ?_
         refine cd hF (fun hF => ?_) (fun hF => ?_)
         · refine sr <| pp oBuild <| ww oStR <| nl <| rt <| qbR <| qsR <| ?_
           obtain rfl := inj hF
           exact fin1
         · refine sk <| qb <| qs <| sr <| pp oBuild <| ww oStR <| nl <| rt <| ?_
           obtain rfl := inj hF
           exact fin1
end Go.Ab
