/-
  Functions of the program as functions on plain data (written by gen3.py).
-/
import Derived.Test.YtfciindiplokgaaDoorAbGenTy
namespace Go.Ab
open Go Go.Proofs
noncomputable def ref2_Ins_L1 (a0 : XApi_Func) (y4 : Int) (y5 : Int) : Option (Lp (Int × Int) Int) :=
 if (decide (y5 < (a0.Blocks.length : Int))) then
 ((idx a0.Blocks y5).bind fun x1 =>
 (idx a0.Blocks y5).bind fun x2 =>
 some (.next ((w64 ((w64 (y4 + (x1.Phis.length : Int))) + (x2.List.length : Int))), (w64 (y5 + 1)))))
 else
 (some (.out y4))
noncomputable def ref2_Ins (a0 : XApi_Func) : Option Int :=
 (Loop (fun (s : (Int × Int)) => ref2_Ins_L1 a0 s.1 s.2) (0, 0)).bind fun v1 =>
 some v1
abbrev R_ref2_Ins (r : Int) : AV := (I r)
set_option maxHeartbeats 4000000 in
theorem T_ref2_Ins {nn : Nat} {a0 : XApi_Func} {r : Int} (hF : ref2_Ins a0 = some r) : den cx (nn + 1) 20 [(.agg (cXApi_Func a0))] = some (R_ref2_Ins r, []) := by
 unfold ref2_Ins at hF
 refine fnA Tryd.func20 Tryd.ntmps20 (by exact spine) (sl := [0]) ?_
 refine sr <| pp oBoxF <| pp oAssign <| nl <| sr <| pp oAssign <| nl <| sq <| sr <| pp oAssign <| nl <| ?_
 refine lp (fun (s : (Int × Int)) => mkSt 30 [1, 3, 4] [(.vp (cXApi_Func a0)), (I s.1), (I s.2)]) (fun (s : Int) => mkSt 30 [3] [(I s)]) hF cutR' ?_ ?_
 · rintro ⟨y4, y5⟩ z1 hF
   replace hF : ref2_Ins_L1 a0 y4 y5 = some z1 := hF
   unfold ref2_Ins_L1 at hF
   refine mk ?_
   refine sq <| sr <| pp oMove <| pp oFA <| pp oLd <| pp oLenSl <| pp oLss <| nl <| ?_
   refine cd hF (fun hF => ?_) (fun hF => ?_)
   · refine sk <| qs <| sq <| bl <| rgD <| pp oMove <| pp oFA <| pp oLd <| pp oMove <| ?_
     refine bb hF fun x1 h1 hF => ?_
     refine pp (oIx h1) <| pp oFA <| pp oLd <| pp oLenSl <| pp oAdd <| pp oFA <| pp oLd <| pp oMove <| ?_
     refine bb hF fun x2 h2 hF => ?_
     refine pp (oIx h2) <| pp oFA <| pp oLd <| pp oLenSl <| pp oAdd <| pp oAssign <| nlD <| qb <| qs <| rg <| pp oMove <| pp oAdd <| pp oAssign <| nl <| ?_
     exact ln hF cutR'
   · refine ex <| qsE <| ?_
     exact lx hF cutR'
 · intro v1 hF
   refine qmk ?_
   refine qs <| sr <| pp oMove <| pp oAssign <| nl <| rt <| ?_
   obtain rfl := inj hF
   exact fin1
noncomputable def law2_vast_L1 (a0 : XApi_Unit) (y3 : Int) : Option (Lp Int (Br Unit Bool)) :=
 if (decide (y3 < (a0.Funcs.length : Int))) then
 (((idx a0.Funcs y3).bind fun x1 =>
 if (decide (100 < (x1.Blocks.length : Int))) then
 (some true)
 else
 ((idx a0.Funcs y3).bind fun x2 =>
 (ref2_Ins x2).bind fun x3 =>
 some (decide (700 < x3)))).bind fun p1 =>
 if p1 then
 (some (.out (.ret true)))
 else
 (some (.next (w64 (y3 + 1)))))
 else
 (some (.out (.brk ())))
noncomputable def law2_vast (a0 : XApi_Unit) : Option Bool :=
 (Loop (fun (s : Int) => law2_vast_L1 a0 s) 0).bind (Br.go (fun _ =>
 some (if (decide (30 < (a0.Funcs.length : Int))) then true else (decide (30 < (a0.Globals.length : Int))))) (fun r1 => some r1))
abbrev R_law2_vast (r : Bool) : AV := (B r)
def RR_law2_vast (r : Bool) (x : Exit × St) : Prop := x.1 = .ret ∧ Fin cx [.tmp 2] [] (R_law2_vast r) [] x
set_option maxHeartbeats 4000000 in
theorem T_law2_vast {nn : Nat} {a0 : XApi_Unit} {r : Bool} (hF : law2_vast a0 = some r) : den cx (nn + 2) 8 [(.agg (cXApi_Unit a0))] = some (R_law2_vast r, []) := by
 unfold law2_vast at hF
 refine fnA Tryd.func8 Tryd.ntmps8 (by exact spine) (sl := [0]) ?_
 refine sr <| pp oBoxF <| pp oAssign <| nl <| sq <| sr <| pp oAssign <| nl <| ?_
 refine lpR (fun (s : Int) => mkSt 38 [1, 3] [(.vp (cXApi_Unit a0)), (I s)]) (fun (s : Unit) => mkSt 38 [1] [(.vp (cXApi_Unit a0))]) RR_law2_vast hF cutR' ?_ ?_ ?_
 · rintro y3 z1 hF
   replace hF : law2_vast_L1 a0 y3 = some z1 := hF
   unfold law2_vast_L1 at hF
   refine mk ?_
   refine sq <| sr <| pp oMove <| pp oFA <| pp oLd <| pp oLenSl <| pp oLss <| nl <| ?_
   refine cd hF (fun hF => ?_) (fun hF => ?_)
   · refine sk <| qs <| sq <| bl <| ?_
     refine srC (fun (s : Bool) => mkSt 38 [1, 3, 27] [(.vp (cXApi_Unit a0)), (I y3), (B s)]) hF (fun z2 hF => ?_) (fun p1 hF => ?_)
     · refine pp oFA <| pp oLd <| pp oMove <| ?_
       refine bb hF fun x1 h1 hF => ?_
       refine pp (oIx h1) <| pp oFA <| pp oLd <| pp oLenSl <| pp oGtr <| pp oMove <| ?_
       refine spl (d := 19) hF (fun hF => ?_) (fun hF => ?_)
       · refine no fun u1 k1 hk1 => ?_
         refine no fun u2 k2 hk2 => ?_
         refine no fun u3 k3 hk3 => ?_
         refine no fun u4 k4 hk4 => ?_
         refine no fun u5 k5 hk5 => ?_
         refine no fun u6 k6 hk6 => ?_
         refine no fun u7 k7 hk7 => ?_
         refine pp oPickT <| ?_
         obtain rfl := inj hF
         exact nlC cutR'
       · refine pt ar oFA <| pt ar oLd <| pt ar oMove <| ?_
         refine bb hF fun x2 h2 hF => ?_
         refine pt ar (oIx h2) <| pt ar oLdA <| ?_
         refine bb hF fun x3 h3 hF => ?_
         refine pt ar (oCallZ (T_ref2_Ins h3)) <| pt ar oGtr <| pp oPickF <| ?_
         obtain rfl := inj hF
         exact nlC cutR'
     · refine mk ?_
       refine cd hF (fun hF => ?_) (fun hF => ?_)
       · refine sr <| pp oAssign <| nl <| rt <| qbR <| qsR <| ?_
         exact lr hF ⟨rfl, fin1⟩
       · refine sk <| qb <| qs <| rg <| pp oMove <| pp oAdd <| pp oAssign <| nl <| ?_
         exact ln hF cutR'
   · refine ex <| qsE <| ?_
     exact lxR hF cutR'
 · intro _ hF
   refine qmk ?_
   refine qs <| sr <| pp oFA <| pp oLd <| pp oLenSl <| pp oGtr <| pp oMove <| pg ar oFA <| pg ar oLd <| pg ar oLenSl <| pg ar oGtr <| pp oPick <| pp oAssign <| nl <| ?_
   refine rt <| ?_
   obtain rfl := inj hF
   exact fin1
 · rintro r1 hF ⟨xe, xs⟩ ⟨hxe, hfin⟩
   obtain rfl : xe = Exit.ret := hxe
   obtain rfl := inj hF
   refine qbR <| qsR <| ?_
   exact hfin
noncomputable def ref2_fault (a0 : Int) (a1 : Int) : Option XApi_Fault :=
 some (XApi_Fault.mk a0 a1)
abbrev R_ref2_fault (r : XApi_Fault) : AV := (.agg (cXApi_Fault r))
set_option maxHeartbeats 4000000 in
theorem T_ref2_fault {nn : Nat} {a0 : Int} {a1 : Int} {r : XApi_Fault} (hF : ref2_fault a0 a1 = some r) : den cx (nn + 1) 21 [(I a0), (I a1)] = some (R_ref2_fault r, []) := by
 unfold ref2_fault at hF
 refine fnA Tryd.func21 Tryd.ntmps21 (by exact spine) (sl := [0, 1]) ?_
 refine sr <| ww oAlloc <| nl <| sr <| pp oMove <| pp oMove <| pp oBuild <| ww oStR <| nl <| rt <| ?_
 obtain rfl := inj hF
 exact fin1
noncomputable def ref1_in (a0 : Int) (a1 : Int) (a2 : Int) : Option Bool :=
 some (if (decide (a1 ≤ a0)) then (decide (a0 ≤ a2)) else false)
abbrev R_ref1_in (r : Bool) : AV := (B r)
set_option maxHeartbeats 4000000 in
theorem T_ref1_in {nn : Nat} {a0 : Int} {a1 : Int} {a2 : Int} {r : Bool} (hF : ref1_in a0 a1 a2 = some r) : den cx (nn + 1) 59 [(I a0), (I a1), (I a2)] = some (R_ref1_in r, []) := by
 unfold ref1_in at hF
 refine fnA Tryd.func59 Tryd.ntmps59 (by exact spine) (sl := [0, 1, 2]) ?_
 refine sr <| pp oAssign <| nl <| sr <| pp oMove <| pp oMove <| pp oGeq <| pp oMove <| pg ar oMove <| pg ar oMove <| pg ar oLeq <| pp oPick <| pp oAssign <| nl <| ?_
 refine rt <| ?_
 obtain rfl := inj hF
 exact fin1
noncomputable def ref1_digit (a0 : Int) : Option Bool :=
 some (if (decide (48 ≤ a0)) then (decide (a0 ≤ 57)) else false)
abbrev R_ref1_digit (r : Bool) : AV := (B r)
set_option maxHeartbeats 4000000 in
theorem T_ref1_digit {nn : Nat} {a0 : Int} {r : Bool} (hF : ref1_digit a0 = some r) : den cx (nn + 1) 60 [(AV.val (.int .u8 a0))] = some (R_ref1_digit r, []) := by
 unfold ref1_digit at hF
 refine fnA Tryd.func60 Tryd.ntmps60 (by exact spine) (sl := [0]) ?_
 refine sr <| pp oAssign <| nl <| sr <| pp oMove <| pp oGeq <| pp oMove <| pg ar oMove <| pg ar oLeq <| pp oPick <| pp oAssign <| nl <| rt <| ?_
 obtain rfl := inj hF
 exact fin1
noncomputable def ref1_letter (a0 : Int) : Option Bool :=
 some (if (if (if (decide (97 ≤ a0)) then (decide (a0 ≤ 122)) else false) then true else (if (decide (65 ≤ a0)) then (decide (a0 ≤ 90)) else false)) then true else (a0 == 95))
abbrev R_ref1_letter (r : Bool) : AV := (B r)
set_option maxHeartbeats 4000000 in
theorem T_ref1_letter {nn : Nat} {a0 : Int} {r : Bool} (hF : ref1_letter a0 = some r) : den cx (nn + 1) 61 [(AV.val (.int .u8 a0))] = some (R_ref1_letter r, []) := by
 unfold ref1_letter at hF
 refine fnA Tryd.func61 Tryd.ntmps61 (by exact spine) (sl := [0]) ?_
 refine sr <| pp oAssign <| nl <| sr <| pp oMove <| pp oGeq <| pp oMove <| pg ar oMove <| pg ar oLeq <| pp oPick <| pp oMove <| pg ar oMove <| pg ar oGeq <| pg ar oMove <| ?_
 refine pg ar oMove <| pg ar oLeq <| pg ar oPick <| pp oPick <| pp oMove <| pg ar oMove <| pg ar oEql <| pp oPick <| pp oAssign <| nl <| rt <| ?_
 obtain rfl := inj hF
 exact fin1
noncomputable def ref1_Name_L1 (a0 : ByteArray) (y3 : Int) : Option (Lp Int (Br Unit Bool)) :=
 if (decide (y3 < (a0.size : Int))) then
 (((sidx a0 y3).bind fun x4 =>
 (ref1_letter (x4.toNat : Int)).bind fun x5 =>
 if (!x5) then
 ((sidx a0 y3).bind fun x6 =>
 (ref1_digit (x6.toNat : Int)).bind fun x7 =>
 some (!x7))
 else
 (some false)).bind fun p2 =>
 if p2 then
 (some (.out (.ret false)))
 else
 (some (.next (w64 (y3 + 1)))))
 else
 (some (.out (.brk ())))
noncomputable def ref1_Name (a0 : ByteArray) : Option Bool :=
 ((ref1_in (a0.size : Int) 1 12).bind fun x1 =>
 if (!x1) then
 (some true)
 else
 ((sidx a0 0).bind fun x2 =>
 (ref1_digit (x2.toNat : Int)).bind fun x3 =>
 some x3)).bind fun p1 =>
 if p1 then
 (some false)
 else
 ((Loop (fun (s : Int) => ref1_Name_L1 a0 s) 0).bind (Br.go (fun _ =>
 some true) (fun r1 => some r1)))
abbrev R_ref1_Name (r : Bool) : AV := (B r)
def RR_ref1_Name (r : Bool) (x : Exit × St) : Prop := x.1 = .ret ∧ Fin cx [.tmp 2] [] (R_ref1_Name r) [] x
set_option maxHeartbeats 4000000 in
theorem T_ref1_Name {nn : Nat} {a0 : ByteArray} {r : Bool} (hF : ref1_Name a0 = some r) : den cx (nn + 2) 40 [(AV.val (.string a0))] = some (R_ref1_Name r, []) := by
 unfold ref1_Name at hF
 refine fnA Tryd.func40 Tryd.ntmps40 (by exact spine) (sl := [0]) ?_
 refine sr <| pp oAssign <| nl <| sq <| ?_
 refine srC (fun (s : Bool) => mkSt 31 [0, 12] [(AV.val (.string a0)), (B s)]) hF (fun z3 hF => ?_) (fun p1 hF => ?_)
 · refine pp oMove <| pp oLenS <| ?_
   refine bb hF fun x1 h1 hF => ?_
   refine pp (oCallZ (T_ref1_in h1)) <| pp oNot <| pp oMove <| ?_
   refine spl (d := 8) hF (fun hF => ?_) (fun hF => ?_)
   · refine no fun u1 k1 hk1 => ?_
     refine no fun u2 k2 hk2 => ?_
     refine no fun u3 k3 hk3 => ?_
     refine pp oPickT <| ?_
     obtain rfl := inj hF
     exact nlC cutR'
   · refine pt ar oMove <| ?_
     refine bb hF fun x2 h2 hF => ?_
     refine pt ar (oIxS h2) <| ?_
     refine bb hF fun x3 h3 hF => ?_
     refine pt ar (oCallZ (T_ref1_digit h3)) <| pp oPickF <| ?_
     obtain rfl := inj hF
     exact nlC cutR'
 · refine mk ?_
   refine cd hF (fun hF => ?_) (fun hF => ?_)
   · refine sr <| pp oAssign <| nl <| rt <| qsR <| ?_
     obtain rfl := inj hF
     exact fin1
   · refine sk <| qs <| sq <| sr <| pp oAssign <| nl <| ?_
     refine lpR (fun (s : Int) => mkSt 31 [0, 3] [(AV.val (.string a0)), (I s)]) (fun (s : Unit) => mkSt 31 [] []) RR_ref1_Name hF cutR' ?_ ?_ ?_
     · rintro y3 z1 hF
       replace hF : ref1_Name_L1 a0 y3 = some z1 := hF
       unfold ref1_Name_L1 at hF
       refine mk ?_
       refine sq <| sr <| pp oMove <| pp oMove <| pp oLenS <| pp oLss <| nl <| ?_
       refine cd hF (fun hF => ?_) (fun hF => ?_)
       · refine sk <| qs <| sq <| bl <| ?_
         refine srC (fun (s : Bool) => mkSt 31 [0, 3, 30] [(AV.val (.string a0)), (I y3), (B s)]) hF (fun z2 hF => ?_) (fun p2 hF => ?_)
         · refine pp oMove <| pp oMove <| ?_
           refine bb hF fun x4 h4 hF => ?_
           refine pp (oIxS h4) <| ?_
           refine bb hF fun x5 h5 hF => ?_
           refine pp (oCallZ (T_ref1_letter h5)) <| pp oNot <| pp oMove <| ?_
           refine spl (d := 24) hF (fun hF => ?_) (fun hF => ?_)
           · refine pt ar oMove <| pt ar oMove <| ?_
             refine bb hF fun x6 h6 hF => ?_
             refine pt ar (oIxS h6) <| ?_
             refine bb hF fun x7 h7 hF => ?_
             refine pt ar (oCallZ (T_ref1_digit h7)) <| pt ar oNot <| pp oPickT <| ?_
             obtain rfl := inj hF
             exact nlC cutR'
           · refine no fun u4 k4 hk4 => ?_
             refine no fun u5 k5 hk5 => ?_
             refine no fun u6 k6 hk6 => ?_
             refine no fun u7 k7 hk7 => ?_
             refine no fun u8 k8 hk8 => ?_
             refine pp oPickF <| ?_
             obtain rfl := inj hF
             exact nlC cutR'
         · refine mk ?_
           refine cd hF (fun hF => ?_) (fun hF => ?_)
           · refine sr <| pp oAssign <| nl <| rt <| qbR <| qsR <| ?_
             exact lr hF ⟨rfl, fin1⟩
           · refine sk <| qb <| qs <| rg <| pp oMove <| pp oAdd <| pp oAssign <| nl <| ?_
             exact ln hF cutR'
       · refine ex <| qsE <| ?_
         exact lxR hF cutR'
     · intro _ hF
       refine qmk ?_
       refine qs <| sr <| pp oAssign <| nl <| rt <| ?_
       obtain rfl := inj hF
       exact fin1
     · rintro r1 hF ⟨xe, xs⟩ ⟨hxe, hfin⟩
       obtain rfl : xe = Exit.ret := hxe
       obtain rfl := inj hF
       refine qbR <| qsR <| ?_
       exact hfin
noncomputable def ref2_taken_L1 (a0 : XApi_Unit) (a1 : Int) (a3 : ByteArray) (y6 : Int) : Option (Lp Int (Br Unit Bool)) :=
 if (decide (y6 < a1)) then
 ((idx a0.Globals y6).bind fun x1 =>
 if (x1.Name.toList == a3.toList) then
 (some (.out (.ret true)))
 else
 (some (.next (w64 (y6 + 1)))))
 else
 (some (.out (.brk ())))
noncomputable def ref2_taken_L2 (a0 : XApi_Unit) (a2 : Int) (a3 : ByteArray) (y11 : Int) : Option (Lp Int (Br Unit Bool)) :=
 if (decide (y11 < a2)) then
 ((idx a0.Funcs y11).bind fun x2 =>
 if (x2.Name.toList == a3.toList) then
 (some (.out (.ret true)))
 else
 (some (.next (w64 (y11 + 1)))))
 else
 (some (.out (.brk ())))
noncomputable def ref2_taken (a0 : XApi_Unit) (a1 : Int) (a2 : Int) (a3 : ByteArray) : Option Bool :=
 (Loop (fun (s : Int) => ref2_taken_L1 a0 a1 a3 s) 0).bind (Br.go (fun _ =>
 (Loop (fun (s : Int) => ref2_taken_L2 a0 a2 a3 s) 0).bind (Br.go (fun _ =>
 some false) (fun r1 => some r1))) (fun r2 => some r2))
abbrev R_ref2_taken (r : Bool) : AV := (B r)
def RR_ref2_taken (r : Bool) (x : Exit × St) : Prop := x.1 = .ret ∧ Fin cx [.tmp 8] [] (R_ref2_taken r) [] x
set_option maxHeartbeats 4000000 in
theorem T_ref2_taken {nn : Nat} {a0 : XApi_Unit} {a1 : Int} {a2 : Int} {a3 : ByteArray} {r : Bool} (hF : ref2_taken a0 a1 a2 a3 = some r) : den cx (nn + 1) 41 [(.agg (cXApi_Unit a0)), (I a1), (I a2), (AV.val (.string a3))] = some (R_ref2_taken r, []) := by
 unfold ref2_taken at hF
 refine fnA Tryd.func41 Tryd.ntmps41 (by exact spine) (sl := [0, 1, 2, 3]) ?_
 refine sr <| pp oBoxF <| pp oAssign <| nl <| sq <| sr <| pp oAssign <| nl <| ?_
 refine lpR (fun (s : Int) => mkSt 37 [1, 2, 3, 4, 9] [(I a1), (I a2), (AV.val (.string a3)), (.vp (cXApi_Unit a0)), (I s)]) (fun (s : Unit) => mkSt 37 [2, 3, 4] [(I a2), (AV.val (.string a3)), (.vp (cXApi_Unit a0))]) RR_ref2_taken hF cutR' ?_ ?_ ?_
 · rintro y6 z1 hF
   replace hF : ref2_taken_L1 a0 a1 a3 y6 = some z1 := hF
   unfold ref2_taken_L1 at hF
   refine mk ?_
   refine sq <| sr <| pp oMove <| pp oMove <| pp oLss <| nl <| ?_
   refine cd hF (fun hF => ?_) (fun hF => ?_)
   · refine sk <| qs <| sq <| bl <| sr <| pp oFA <| pp oLd <| pp oMove <| ?_
     refine bb hF fun x1 h1 hF => ?_
     refine pp (oIx h1) <| pp oFA <| pp oLd <| pp oMove <| pp oEqlS <| nl <| ?_
     refine cd hF (fun hF => ?_) (fun hF => ?_)
     · refine sr <| pp oAssign <| nl <| rt <| qbR <| qsR <| ?_
       exact lr hF ⟨rfl, fin1⟩
     · refine sk <| qb <| qs <| rg <| pp oMove <| pp oAdd <| pp oAssign <| nl <| ?_
       exact ln hF cutR'
   · refine ex <| qsE <| ?_
     exact lxR hF cutR'
 · intro _ hF
   refine qmk ?_
   refine qs <| sq <| sr <| pp oAssign <| nl <| ?_
   refine lpR (fun (s : Int) => mkSt 37 [2, 3, 4, 10] [(I a2), (AV.val (.string a3)), (.vp (cXApi_Unit a0)), (I s)]) (fun (s : Unit) => mkSt 37 [] []) RR_ref2_taken hF cutR' ?_ ?_ ?_
   · rintro y11 z2 hF
     replace hF : ref2_taken_L2 a0 a2 a3 y11 = some z2 := hF
     unfold ref2_taken_L2 at hF
     refine mk ?_
     refine sq <| sr <| pp oMove <| pp oMove <| pp oLss <| nl <| ?_
     refine cd hF (fun hF => ?_) (fun hF => ?_)
     · refine sk <| qs <| sq <| bl <| sr <| pp oFA <| pp oLd <| pp oMove <| ?_
       refine bb hF fun x2 h2 hF => ?_
       refine pp (oIx h2) <| pp oFA <| pp oLd <| pp oMove <| pp oEqlS <| nl <| ?_
       refine cd hF (fun hF => ?_) (fun hF => ?_)
       · refine sr <| pp oAssign <| nl <| rt <| qbR <| qsR <| ?_
         exact lr hF ⟨rfl, fin1⟩
       · refine sk <| qb <| qs <| rg <| pp oMove <| pp oAdd <| pp oAssign <| nl <| ?_
         exact ln hF cutR'
     · refine ex <| qsE <| ?_
       exact lxR hF cutR'
   · intro _ hF
     refine qmk ?_
     refine qs <| sr <| pp oAssign <| nl <| rt <| ?_
     obtain rfl := inj hF
     exact fin1
   · rintro r1 hF ⟨xe, xs⟩ ⟨hxe, hfin⟩
     obtain rfl : xe = Exit.ret := hxe
     obtain rfl := inj hF
     refine qbR <| qsR <| ?_
     exact hfin
 · rintro r2 hF ⟨xe, xs⟩ ⟨hxe, hfin⟩
   obtain rfl : xe = Exit.ret := hxe
   obtain rfl := inj hF
   refine qbR <| qsR <| ?_
   exact hfin
noncomputable def ref2_in (a0 : Int) (a1 : Int) (a2 : Int) : Option Bool :=
 some (if (decide (a1 ≤ a0)) then (decide (a0 ≤ a2)) else false)
abbrev R_ref2_in (r : Bool) : AV := (B r)
set_option maxHeartbeats 4000000 in
theorem T_ref2_in {nn : Nat} {a0 : Int} {a1 : Int} {a2 : Int} {r : Bool} (hF : ref2_in a0 a1 a2 = some r) : den cx (nn + 1) 42 [(I a0), (I a1), (I a2)] = some (R_ref2_in r, []) := by
 unfold ref2_in at hF
 refine fnA Tryd.func42 Tryd.ntmps42 (by exact spine) (sl := [0, 1, 2]) ?_
 refine sr <| pp oAssign <| nl <| sr <| pp oMove <| pp oMove <| pp oGeq <| pp oMove <| pg ar oMove <| pg ar oMove <| pg ar oLeq <| pp oPick <| pp oAssign <| nl <| ?_
 refine rt <| ?_
 obtain rfl := inj hF
 exact fin1
noncomputable def ref2_global (a0 : XApi_Unit) (a1 : Int) (a2 : Int) : Option Int :=
 (idx a0.Globals a1).bind fun x1 =>
 (ref1_Name x1.Name).bind fun x2 =>
 if (!x2) then
 (some 12)
 else
 ((ref2_taken a0 a1 0 x1.Name).bind fun x3 =>
 if x3 then
 (some 7)
 else
 ((ref2_in x1.Size 1 200).bind fun x4 =>
 if (!x4) then
 (some 3)
 else
 (if (decide (x1.Size < (x1.Init.length : Int))) then
 (some 9)
 else
 (if (decide (200 < (w64 (a2 + x1.Size)))) then
 (some 10)
 else
 (some 0)))))
abbrev R_ref2_global (r : Int) : AV := (I r)
set_option maxHeartbeats 4000000 in
theorem T_ref2_global {nn : Nat} {a0 : XApi_Unit} {a1 : Int} {a2 : Int} {r : Int} (hF : ref2_global a0 a1 a2 = some r) : den cx (nn + 3) 22 [(.agg (cXApi_Unit a0)), (I a1), (I a2)] = some (R_ref2_global r, []) := by
 unfold ref2_global at hF
 refine fnA Tryd.func22 Tryd.ntmps22 (by exact spine) (sl := [0, 1, 2]) ?_
 refine sr <| pp oBoxF <| pp oAssign <| nl <| sr <| pp oFA <| pp oLd <| pp oMove <| ?_
 refine bb hF fun x1 h1 hF => ?_
 refine pp (oIx h1) <| pp oLdA <| ww oAlloc <| ww oStF <| nl <| sq <| sr <| pp oFA <| pp oLd <| ?_
 refine bb hF fun x2 h2 hF => ?_
 refine pp (oCallZ (T_ref1_Name h2)) <| pp oNot <| nl <| ?_
 refine cd hF (fun hF => ?_) (fun hF => ?_)
 · refine sr <| pp oAssign <| nl <| rt <| qsR <| ?_
   obtain rfl := inj hF
   exact fin1
 · refine sk <| qs <| sq <| sr <| pp oLdA <| pp oMove <| pp oFA <| pp oLd <| ?_
   refine bb hF fun x3 h3 hF => ?_
   refine pp (oCallZ (T_ref2_taken h3)) <| nl <| ?_
   refine cd hF (fun hF => ?_) (fun hF => ?_)
   · refine sr <| pp oAssign <| nl <| rt <| qsR <| ?_
     obtain rfl := inj hF
     exact fin1
   · refine sk <| qs <| sq <| sr <| pp oFA <| pp oLd <| ?_
     refine bb hF fun x4 h4 hF => ?_
     refine pp (oCallZ (T_ref2_in h4)) <| pp oNot <| nl <| ?_
     refine cd hF (fun hF => ?_) (fun hF => ?_)
     · refine sr <| pp oAssign <| nl <| rt <| qsR <| ?_
       obtain rfl := inj hF
       exact fin1
     · refine sk <| qs <| sq <| sr <| pp oFA <| pp oLd <| pp oLenSl <| pp oFA <| pp oLd <| pp oGtr <| nl <| ?_
       refine cd hF (fun hF => ?_) (fun hF => ?_)
       · refine sr <| pp oAssign <| nl <| rt <| qsR <| ?_
         obtain rfl := inj hF
         exact fin1
       · refine sk <| qs <| sq <| sr <| pp oMove <| pp oFA <| pp oLd <| pp oAdd <| pp oGtr <| nl <| ?_
         refine cd hF (fun hF => ?_) (fun hF => ?_)
         · refine sr <| pp oAssign <| nl <| rt <| qsR <| ?_
           obtain rfl := inj hF
           exact fin1
         · refine sk <| qs <| sr <| pp oAssign <| nl <| rt <| ?_
           obtain rfl := inj hF
           exact fin1
noncomputable def ref2_head (a0 : XApi_Unit) (a1 : Int) : Option Int :=
 (idx a0.Funcs a1).bind fun x1 =>
 (ref1_Name x1.Name).bind fun x2 =>
 if (!x2) then
 (some 12)
 else
 ((ref2_taken a0 (a0.Globals.length : Int) a1 x1.Name).bind fun x3 =>
 if x3 then
 (some 7)
 else
 (((ref2_in x1.Params 0 6).bind fun x4 =>
 if (!x4) then
 (some true)
 else
 ((ref2_in x1.Regs x1.Params 100).bind fun x5 =>
 some (!x5))).bind fun p1 =>
 if p1 then
 (some 3)
 else
 (((ref2_in (x1.Blocks.length : Int) 1 40).bind fun x6 =>
 if (!x6) then
 (some true)
 else
 ((ref2_Ins x1).bind fun x7 =>
 some (decide (300 < x7)))).bind fun p2 =>
 if p2 then
 (some 2)
 else
 (some 0))))
abbrev R_ref2_head (r : Int) : AV := (I r)
set_option maxHeartbeats 4000000 in
theorem T_ref2_head {nn : Nat} {a0 : XApi_Unit} {a1 : Int} {r : Int} (hF : ref2_head a0 a1 = some r) : den cx (nn + 3) 23 [(.agg (cXApi_Unit a0)), (I a1)] = some (R_ref2_head r, []) := by
 unfold ref2_head at hF
 refine fnA Tryd.func23 Tryd.ntmps23 (by exact spine) (sl := [0, 1]) ?_
 refine sr <| pp oBoxF <| pp oAssign <| nl <| sr <| pp oFA <| pp oLd <| pp oMove <| ?_
 refine bb hF fun x1 h1 hF => ?_
 refine pp (oIx h1) <| pp oLdA <| ww oAlloc <| ww oStF <| nl <| sq <| sr <| pp oFA <| pp oLd <| ?_
 refine bb hF fun x2 h2 hF => ?_
 refine pp (oCallZ (T_ref1_Name h2)) <| pp oNot <| nl <| ?_
 refine cd hF (fun hF => ?_) (fun hF => ?_)
 · refine sr <| pp oAssign <| nl <| rt <| qsR <| ?_
   obtain rfl := inj hF
   exact fin1
 · refine sk <| qs <| sq <| sr <| pp oLdA <| pp oFA <| pp oLd <| pp oLenSl <| pp oMove <| pp oFA <| pp oLd <| ?_
   refine bb hF fun x3 h3 hF => ?_
   refine pp (oCallZ (T_ref2_taken h3)) <| nl <| ?_
   refine cd hF (fun hF => ?_) (fun hF => ?_)
   · refine sr <| pp oAssign <| nl <| rt <| qsR <| ?_
     obtain rfl := inj hF
     exact fin1
   · refine sk <| qs <| sq <| ?_
     refine srC (fun (s : Bool) => mkSt 45 [5, 34] [(.vp (cXApi_Func x1)), (B s)]) hF (fun z2 hF => ?_) (fun p1 hF => ?_)
     · refine pp oFA <| pp oLd <| ?_
       refine bb hF fun x4 h4 hF => ?_
       refine pp (oCallZ (T_ref2_in h4)) <| pp oNot <| pp oMove <| ?_
       refine spl (d := 27) hF (fun hF => ?_) (fun hF => ?_)
       · refine no fun u1 k1 hk1 => ?_
         refine no fun u2 k2 hk2 => ?_
         refine no fun u3 k3 hk3 => ?_
         refine no fun u4 k4 hk4 => ?_
         refine no fun u5 k5 hk5 => ?_
         refine no fun u6 k6 hk6 => ?_
         refine pp oPickT <| ?_
         obtain rfl := inj hF
         exact nlC cutR'
       · refine pt ar oFA <| pt ar oLd <| pt ar oFA <| pt ar oLd <| ?_
         refine bb hF fun x5 h5 hF => ?_
         refine pt ar (oCallZ (T_ref2_in h5)) <| pt ar oNot <| pp oPickF <| ?_
         obtain rfl := inj hF
         exact nlC cutR'
     · refine mk ?_
       refine cd hF (fun hF => ?_) (fun hF => ?_)
       · refine sr <| pp oAssign <| nl <| rt <| qsR <| ?_
         obtain rfl := inj hF
         exact fin1
       · refine sk <| qs <| sq <| ?_
         refine srC (fun (s : Bool) => mkSt 45 [44] [(B s)]) hF (fun z1 hF => ?_) (fun p2 hF => ?_)
         · refine pp oFA <| pp oLd <| pp oLenSl <| ?_
           refine bb hF fun x6 h6 hF => ?_
           refine pp (oCallZ (T_ref2_in h6)) <| pp oNot <| pp oMove <| ?_
           refine spl (d := 40) hF (fun hF => ?_) (fun hF => ?_)
           · refine no fun u7 k7 hk7 => ?_
             refine no fun u8 k8 hk8 => ?_
             refine no fun u9 k9 hk9 => ?_
             refine pp oPickT <| ?_
             obtain rfl := inj hF
             exact nlC cutR'
           · refine pt ar oLdA <| ?_
             refine bb hF fun x7 h7 hF => ?_
             refine pt ar (oCallZ (T_ref2_Ins h7)) <| pt ar oGtr <| pp oPickF <| ?_
             obtain rfl := inj hF
             exact nlC cutR'
         · refine mk ?_
           refine cd hF (fun hF => ?_) (fun hF => ?_)
           · refine sr <| pp oAssign <| nl <| rt <| qsR <| ?_
             obtain rfl := inj hF
             exact fin1
           · refine sk <| qs <| sr <| pp oAssign <| nl <| rt <| ?_
             obtain rfl := inj hF
             exact fin1
noncomputable def ref2_val (a0 : XApi_Func) (a1 : XApi_Val) : Option Bool :=
 (if (!a1.Reg) then
 (some true)
 else
 ((ref2_in a1.N 0 (w64 (a0.Regs - 1))).bind fun x1 =>
 some x1)).bind fun p1 =>
 some p1
abbrev R_ref2_val (r : Bool) : AV := (B r)
set_option maxHeartbeats 4000000 in
theorem T_ref2_val {nn : Nat} {a0 : XApi_Func} {a1 : XApi_Val} {r : Bool} (hF : ref2_val a0 a1 = some r) : den cx (nn + 2) 62 [(.agg (cXApi_Func a0)), (.agg (cXApi_Val a1))] = some (R_ref2_val r, []) := by
 unfold ref2_val at hF
 refine fnA Tryd.func62 Tryd.ntmps62 (by exact spine) (sl := [0, 1]) ?_
 refine sr <| pp oBoxF <| pp oBoxF <| pp oAssign <| nl <| ?_
 refine srC (fun (s : Bool) => mkSt 16 [4] [(B s)]) hF (fun z1 hF => ?_) (fun p1 hF => ?_)
 · refine pp oFA <| pp oLd <| pp oNot <| pp oMove <| ?_
   refine spl (d := 8) hF (fun hF => ?_) (fun hF => ?_)
   · refine no fun u1 k1 hk1 => ?_
     refine no fun u2 k2 hk2 => ?_
     refine no fun u3 k3 hk3 => ?_
     refine no fun u4 k4 hk4 => ?_
     refine no fun u5 k5 hk5 => ?_
     refine no fun u6 k6 hk6 => ?_
     refine pp oPickT <| pp oAssign <| ?_
     obtain rfl := inj hF
     exact nlC cutR'
   · refine pt ar oFA <| pt ar oLd <| pt ar oFA <| pt ar oLd <| pt ar oSub <| ?_
     refine bb hF fun x1 h1 hF => ?_
     refine pt ar (oCall (T_ref2_in h1)) <| pp oPickF <| pp oAssign <| ?_
     obtain rfl := inj hF
     exact nlC cutR'
 · refine mk ?_
   refine rt <| ?_
   obtain rfl := inj hF
   exact fin1
noncomputable def ref2_end_L1 (a0 : XApi_Func) (a1 : XApi_End) (y4 : Int) : Option (Lp Int (Br Unit Int)) :=
 if (decide (y4 < (a1.To.length : Int))) then
 ((idx a1.To y4).bind fun x2 =>
 (ref2_in x2 1 (w64 ((a0.Blocks.length : Int) - 1))).bind fun x3 =>
 if (!x3) then
 (some (.out (.ret 3)))
 else
 (some (.next (w64 (y4 + 1)))))
 else
 (some (.out (.brk ())))
noncomputable def ref2_end (a0 : XApi_Func) (a1 : XApi_End) : Option Int :=
 (ref2_in a1.Kind 1 3).bind fun x1 =>
 if (!x1) then
 (some 4)
 else
 (if ((a1.To.length : Int) != (w64 (a1.Kind - 1))) then
 (some 9)
 else
 ((Loop (fun (s : Int) => ref2_end_L1 a0 a1 s) 0).bind (Br.go (fun _ =>
 (if (a1.Kind == 3) then
 ((idx a1.To 0).bind fun x4 =>
 (idx a1.To 1).bind fun x5 =>
 some (if (x4 == x5) then true else (if (a1.Kind == 2) then (!((a1.On.Reg == false) && ((a1.On.N == 0) && true))) else false)))
 else
 (some (if (a1.Kind == 2) then (!((a1.On.Reg == false) && ((a1.On.N == 0) && true))) else false))).bind fun p1 =>
 if p1 then
 (some 5)
 else
 ((ref2_val a0 a1.On).bind fun x6 =>
 if (!x6) then
 (some 3)
 else
 (some 0))) (fun r1 => some r1))))
abbrev R_ref2_end (r : Int) : AV := (I r)
def RR_ref2_end (r : Int) (x : Exit × St) : Prop := x.1 = .ret ∧ Fin cx [.tmp 4] [] (R_ref2_end r) [] x
set_option maxHeartbeats 4000000 in
theorem T_ref2_end {nn : Nat} {a0 : XApi_Func} {a1 : XApi_End} {r : Int} (hF : ref2_end a0 a1 = some r) : den cx (nn + 3) 43 [(.agg (cXApi_Func a0)), (.agg (cXApi_End a1))] = some (R_ref2_end r, []) := by
 unfold ref2_end at hF
 refine fnA Tryd.func43 Tryd.ntmps43 (by exact spine) (sl := [0, 1]) ?_
 refine sr <| pp oBoxF <| pp oBoxF <| pp oAssign <| nl <| sq <| sr <| pp oFA <| pp oLd <| ?_
 refine bb hF fun x1 h1 hF => ?_
 refine pp (oCallZ (T_ref2_in h1)) <| pp oNot <| nl <| ?_
 refine cd hF (fun hF => ?_) (fun hF => ?_)
 · refine sr <| pp oAssign <| nl <| rt <| qsR <| ?_
   obtain rfl := inj hF
   exact fin1
 · refine sk <| qs <| sq <| sr <| pp oFA <| pp oLd <| pp oLenSl <| pp oFA <| pp oLd <| pp oSub <| pp oNeq <| nl <| ?_
   refine cd hF (fun hF => ?_) (fun hF => ?_)
   · refine sr <| pp oAssign <| nl <| rt <| qsR <| ?_
     obtain rfl := inj hF
     exact fin1
   · refine sk <| qs <| sq <| sr <| pp oAssign <| nl <| ?_
     refine lpR (fun (s : Int) => mkSt 65 [2, 3, 5] [(.vp (cXApi_Func a0)), (.vp (cXApi_End a1)), (I s)]) (fun (s : Unit) => mkSt 65 [2, 3] [(.vp (cXApi_Func a0)), (.vp (cXApi_End a1))]) RR_ref2_end hF cutR' ?_ ?_ ?_
     · rintro y4 z1 hF
       replace hF : ref2_end_L1 a0 a1 y4 = some z1 := hF
       unfold ref2_end_L1 at hF
       refine mk ?_
       refine sq <| sr <| pp oMove <| pp oFA <| pp oLd <| pp oLenSl <| pp oLss <| nl <| ?_
       refine cd hF (fun hF => ?_) (fun hF => ?_)
       · refine sk <| qs <| sq <| bl <| srD <| pp oFA <| pp oLd <| pp oMove <| ?_
         refine bb hF fun x2 h2 hF => ?_
         refine pp (oIx h2) <| pp oLd <| pp oFA <| pp oLd <| pp oLenSl <| pp oSub <| ?_
         refine bb hF fun x3 h3 hF => ?_
         refine pp (oCallZ (T_ref2_in h3)) <| pp oNot <| nlD <| ?_
         refine cd hF (fun hF => ?_) (fun hF => ?_)
         · refine sr <| pp oAssign <| nl <| rt <| qbR <| qsR <| ?_
           exact lr hF ⟨rfl, fin1⟩
         · refine sk <| qb <| qs <| rg <| pp oMove <| pp oAdd <| pp oAssign <| nl <| ?_
           exact ln hF cutR'
       · refine ex <| qsE <| ?_
         exact lxR hF cutR'
     · intro _ hF
       refine qmk ?_
       refine qs <| sq <| ?_
       refine srC (fun (s : Bool) => mkSt 65 [2, 3, 59] [(.vp (cXApi_Func a0)), (.vp (cXApi_End a1)), (B s)]) hF (fun z2 hF => ?_) (fun p1 hF => ?_)
       · refine pp oFA <| pp oLd <| pp oEql <| pp oMove <| ?_
         refine spl (d := 38) hF (fun hF => ?_) (fun hF => ?_)
         · refine pt ar oFA <| pt ar oLd <| ?_
           refine bb hF fun x4 h4 hF => ?_
           refine pt ar (oIx h4) <| pt ar oLd <| pt ar oFA <| pt ar oLd <| ?_
           refine bb hF fun x5 h5 hF => ?_
           refine pt ar (oIx h5) <| pt ar oLd <| pt ar oEql <| pp oPickT <| pp oMove <| pg ar oFA <| pg ar oLd <| pg ar oEql <| pg ar oMove <| pg ar oFA <| pg ar oLdA <| pg ar oBuild <| pg ar (oStq (eq52_neq ..)) <| pg ar oPick <| ?_
           refine pp oPick <| ?_
           obtain rfl := inj hF
           exact nlCD cutR'
         · refine no fun u1 k1 hk1 => ?_
           refine no fun u2 k2 hk2 => ?_
           refine no fun u3 k3 hk3 => ?_
           refine no fun u4 k4 hk4 => ?_
           refine no fun u5 k5 hk5 => ?_
           refine no fun u6 k6 hk6 => ?_
           refine no fun u7 k7 hk7 => ?_
           refine no fun u8 k8 hk8 => ?_
           refine no fun u9 k9 hk9 => ?_
           refine pp oPickF <| pp oMove <| pt ar oFA <| pt ar oLd <| pt ar oEql <| pt ar oMove <| pg ar oFA <| pg ar oLdA <| pg ar oBuild <| pg ar (oStq (eq52_neq ..)) <| pt ar oPick <| pp oPickF <| ?_
           obtain rfl := inj hF
           exact nlCD (hf := rok) cutR'
       · refine mk ?_
         refine cd hF (fun hF => ?_) (fun hF => ?_)
         · refine sr <| pp oAssign <| nl <| rt <| qsR <| ?_
           obtain rfl := inj hF
           exact fin1
         · refine sk <| qs <| sq <| sr <| pp oLdA <| pp oFA <| pp oLdA <| ?_
           refine bb hF fun x6 h6 hF => ?_
           refine pp (oCallZ (T_ref2_val h6)) <| pp oNot <| nl <| ?_
           refine cd hF (fun hF => ?_) (fun hF => ?_)
           · refine sr <| pp oAssign <| nl <| rt <| qsR <| ?_
             obtain rfl := inj hF
             exact fin1
           · refine sk <| qs <| sr <| pp oAssign <| nl <| rt <| ?_
             obtain rfl := inj hF
             exact fin1
     · rintro r1 hF ⟨xe, xs⟩ ⟨hxe, hfin⟩
       obtain rfl : xe = Exit.ret := hxe
       obtain rfl := inj hF
       refine qbR <| qsR <| ?_
       exact hfin
noncomputable def ref2_Ahead_J1 (y13 : Int) (y14 : (List Int)) : Option (Lp ((List Int) × Int) (List Int)) :=
 some (.next (y14, (w64 (y13 + 1))))
noncomputable def ref2_Ahead_L2 (a0 : XApi_Func) (a1 : Int) (y6 : Int) (y12 : (List Int)) (y13 : Int) : Option (Lp ((List Int) × Int) (List Int)) :=
 (idx a0.Blocks y6).bind fun x1 =>
 if (decide (y13 < (x1.End.To.length : Int))) then
 ((idx a0.Blocks y6).bind fun x2 =>
 (idx x2.End.To y13).bind fun x3 =>
 if (x3 == a1) then
 ((app y12 ([y6] : List Int)).bind fun x4 =>
 ref2_Ahead_J1 y13 x4)
 else
 (ref2_Ahead_J1 y13 y12))
 else
 (some (.out y12))
noncomputable def ref2_Ahead_L1 (a0 : XApi_Func) (a1 : Int) (y5 : (List Int)) (y6 : Int) : Option (Lp ((List Int) × Int) (List Int)) :=
 if (decide (y6 < (a0.Blocks.length : Int))) then
 ((Loop (fun (s : ((List Int) × Int)) => ref2_Ahead_L2 a0 a1 y6 s.1 s.2) (y5, 0)).bind fun v1 =>
 some (.next (v1, (w64 (y6 + 1)))))
 else
 (some (.out y5))
noncomputable def ref2_Ahead (a0 : XApi_Func) (a1 : Int) : Option (List Int) :=
 (Loop (fun (s : ((List Int) × Int)) => ref2_Ahead_L1 a0 a1 s.1 s.2) ([], 0)).bind fun v2 =>
 some v2
abbrev R_ref2_Ahead (r : (List Int)) : AV := (.own ((r).map cInt_i64) (r).length)
set_option maxHeartbeats 4000000 in
theorem T_ref2_Ahead {nn : Nat} {a0 : XApi_Func} {a1 : Int} {r : (List Int)} (hF : ref2_Ahead a0 a1 = some r) : den cx (nn + 1) 19 [(.agg (cXApi_Func a0)), (I a1)] = some (R_ref2_Ahead r, []) := by
 unfold ref2_Ahead at hF
 refine fnA Tryd.func19 Tryd.ntmps19 (by exact spine) (sl := [0, 1]) ?_
 refine sr <| pp oBoxF <| pp oAssign <| nl <| sr <| pp oAssign <| nl <| sq <| sr <| pp oAssign <| nl <| ?_
 refine lp (fun (s : ((List Int) × Int)) => mkSt 44 [1, 2, 5, 6] [(I a1), (.vp (cXApi_Func a0)), (.own ((s.1).map cInt_i64) (s.1).length), (I s.2)]) (fun (s : (List Int)) => mkSt 44 [5] [(.own ((s).map cInt_i64) (s).length)]) hF cutR' ?_ ?_
 · rintro ⟨y5, y6⟩ z1 hF
   replace hF : ref2_Ahead_L1 a0 a1 y5 y6 = some z1 := hF
   unfold ref2_Ahead_L1 at hF
   refine mk ?_
   refine sq <| sr <| pp oMove <| pp oFA <| pp oLd <| pp oLenSl <| pp oLss <| nl <| ?_
   refine cd hF (fun hF => ?_) (fun hF => ?_)
   · refine sk <| qs <| sq <| bl <| sr <| pp oAssign <| nl <| ?_
     refine lp (fun (s : ((List Int) × Int)) => mkSt 44 [1, 2, 5, 6, 7] [(I a1), (.vp (cXApi_Func a0)), (.own ((s.1).map cInt_i64) (s.1).length), (I y6), (I s.2)]) (fun (s : (List Int)) => mkSt 44 [1, 2, 5, 6] [(I a1), (.vp (cXApi_Func a0)), (.own ((s).map cInt_i64) (s).length), (I y6)]) hF cutR' ?_ ?_
     · rintro ⟨y12, y13⟩ z2 hF
       replace hF : ref2_Ahead_L2 a0 a1 y6 y12 y13 = some z2 := hF
       unfold ref2_Ahead_L2 at hF
       refine mk ?_
       refine sq <| sr <| pp oMove <| pp oFA <| pp oLd <| pp oMove <| ?_
       refine bb hF fun x1 h1 hF => ?_
       refine pp (oIx h1) <| pp oFA <| pp oFA <| pp oLd <| pp oLenSl <| pp oLss <| nl <| ?_
       refine cd hF (fun hF => ?_) (fun hF => ?_)
       · refine sk <| qs <| ?_
         refine sjn (r := z2) (fun (s : (List Int)) => mkSt 44 [1, 2, 5, 6, 7] [(I a1), (.vp (cXApi_Func a0)), (.own ((s).map cInt_i64) (s).length), (I y6), (I y13)]) (fun s => ref2_Ahead_J1 y13 s) ?_ ?_
         · refine bl <| sr <| pp oFA <| pp oLd <| pp oMove <| ?_
           refine bb hF fun x2 h2 hF => ?_
           refine pp (oIx h2) <| pp oFA <| pp oFA <| pp oLd <| pp oMove <| ?_
           refine bb hF fun x3 h3 hF => ?_
           refine pp (oIx h3) <| pp oLd <| pp oMove <| pp oEql <| nl <| ?_
           refine cd hF (fun hF => ?_) (fun hF => ?_)
           · refine rg <| pp oMove <| pp oMove <| pp oBSF <| ?_
             refine bb hF fun x4 h4 hF => ?_
             refine ww (oApp h4) <| pp oAssign <| nl <| qb <| ?_
             exact qj x4 hF cutR'
           · refine sk <| qb <| ?_
             exact qj y12 hF cutR'
         · rintro y14 hF
           replace hF : ref2_Ahead_J1 y13 y14 = some z2 := hF
           unfold ref2_Ahead_J1 at hF
           refine mk ?_
           refine rg <| pp oMove <| pp oAdd <| pp oAssign <| nl <| ?_
           exact ln hF cutR'
       · refine ex <| qsE <| ?_
         exact lx hF cutR'
     · intro v1 hF
       refine qmk ?_
       refine qb <| qs <| rg <| pp oMove <| pp oAdd <| pp oAssign <| nl <| ?_
       exact ln hF cutR'
   · refine ex <| qsE <| ?_
     exact lx hF cutR'
 · intro v2 hF
   refine qmk ?_
   refine qs <| sr <| pp oMove <| pp oAssign <| nl <| rt <| ?_
   obtain rfl := inj hF
   exact fin1
noncomputable def ref2_vals_L1 (a0 : XApi_Func) (a1 : (List XApi_Val)) (y4 : Int) : Option (Lp Int (Br Unit Bool)) :=
 if (decide (y4 < (a1.length : Int))) then
 ((idx a1 y4).bind fun x1 =>
 (ref2_val a0 x1).bind fun x2 =>
 if (!x2) then
 (some (.out (.ret false)))
 else
 (some (.next (w64 (y4 + 1)))))
 else
 (some (.out (.brk ())))
noncomputable def ref2_vals (a0 : XApi_Func) (a1 : (List XApi_Val)) : Option Bool :=
 (Loop (fun (s : Int) => ref2_vals_L1 a0 a1 s) 0).bind (Br.go (fun _ =>
 some true) (fun r1 => some r1))
abbrev R_ref2_vals (r : Bool) : AV := (B r)
def RR_ref2_vals (r : Bool) (x : Exit × St) : Prop := x.1 = .ret ∧ Fin cx [.tmp 4] [] (R_ref2_vals r) [] x
set_option maxHeartbeats 4000000 in
theorem T_ref2_vals {nn : Nat} {a0 : XApi_Func} {a1 : (List XApi_Val)} {r : Bool} (hF : ref2_vals a0 a1 = some r) : den cx (nn + 3) 63 [(.agg (cXApi_Func a0)), (.sl ((a1).map cXApi_Val))] = some (R_ref2_vals r, []) := by
 unfold ref2_vals at hF
 refine fnA Tryd.func63 Tryd.ntmps63 (by exact spine) (sl := [0, 1]) ?_
 refine sr <| pp oBoxF <| pp oAssign <| nl <| sq <| sr <| pp oAssign <| nl <| ?_
 refine lpR (fun (s : Int) => mkSt 19 [1, 2, 5] [(.sl ((a1).map cXApi_Val)), (.vp (cXApi_Func a0)), (I s)]) (fun (s : Unit) => mkSt 19 [] []) RR_ref2_vals hF cutR' ?_ ?_ ?_
 · rintro y4 z1 hF
   replace hF : ref2_vals_L1 a0 a1 y4 = some z1 := hF
   unfold ref2_vals_L1 at hF
   refine mk ?_
   refine sq <| sr <| pp oMove <| pp oMove <| pp oLenSl <| pp oLss <| nl <| ?_
   refine cd hF (fun hF => ?_) (fun hF => ?_)
   · refine sk <| qs <| sq <| bl <| srD <| pp oLdA <| pp oMove <| pp oMove <| ?_
     refine bb hF fun x1 h1 hF => ?_
     refine pp (oIx h1) <| pp oLdA <| ?_
     refine bb hF fun x2 h2 hF => ?_
     refine pp (oCallZ (T_ref2_val h2)) <| pp oNot <| nlD <| ?_
     refine cd hF (fun hF => ?_) (fun hF => ?_)
     · refine sr <| pp oAssign <| nl <| rt <| qbR <| qsR <| ?_
       exact lr hF ⟨rfl, fin1⟩
     · refine sk <| qb <| qs <| rg <| pp oMove <| pp oAdd <| pp oAssign <| nl <| ?_
       exact ln hF cutR'
   · refine ex <| qsE <| ?_
     exact lxR hF cutR'
 · intro _ hF
   refine qmk ?_
   refine qs <| sr <| pp oAssign <| nl <| rt <| ?_
   obtain rfl := inj hF
   exact fin1
 · rintro r1 hF ⟨xe, xs⟩ ⟨hxe, hfin⟩
   obtain rfl : xe = Exit.ret := hxe
   obtain rfl := inj hF
   refine qbR <| qsR <| ?_
   exact hfin
noncomputable def ref2_phi (a0 : XApi_Func) (a1 : Int) (a2 : XApi_Phi) : Option Int :=
 if (a1 == 0) then
 (some 5)
 else
 ((ref2_in a2.Dst 0 (w64 (a0.Regs - 1))).bind fun x1 =>
 if (!x1) then
 (some 3)
 else
 ((ref2_Ahead a0 a1).bind fun x2 =>
 if ((a2.From.length : Int) != (x2.length : Int)) then
 (some 9)
 else
 ((ref2_vals a0 a2.From).bind fun x3 =>
 if (!x3) then
 (some 3)
 else
 (some 0))))
abbrev R_ref2_phi (r : Int) : AV := (I r)
set_option maxHeartbeats 4000000 in
theorem T_ref2_phi {nn : Nat} {a0 : XApi_Func} {a1 : Int} {a2 : XApi_Phi} {r : Int} (hF : ref2_phi a0 a1 a2 = some r) : den cx (nn + 4) 44 [(.agg (cXApi_Func a0)), (I a1), (.agg (cXApi_Phi a2))] = some (R_ref2_phi r, []) := by
 unfold ref2_phi at hF
 refine fnA Tryd.func44 Tryd.ntmps44 (by exact spine) (sl := [0, 1, 2]) ?_
 refine sr <| pp oBoxF <| pp oBoxF <| pp oAssign <| nl <| sq <| sr <| pp oMove <| pp oEql <| nl <| ?_
 refine cd hF (fun hF => ?_) (fun hF => ?_)
 · refine sr <| pp oAssign <| nl <| rt <| qsR <| ?_
   obtain rfl := inj hF
   exact fin1
 · refine sk <| qs <| sq <| sr <| pp oFA <| pp oLd <| pp oFA <| pp oLd <| pp oSub <| ?_
   refine bb hF fun x1 h1 hF => ?_
   refine pp (oCallZ (T_ref2_in h1)) <| pp oNot <| nl <| ?_
   refine cd hF (fun hF => ?_) (fun hF => ?_)
   · refine sr <| pp oAssign <| nl <| rt <| qsR <| ?_
     obtain rfl := inj hF
     exact fin1
   · refine sk <| qs <| sq <| srD <| pp oFA <| pp oLd <| pp oLenSl <| pp oLdA <| pp oMove <| ?_
     refine bb hF fun x2 h2 hF => ?_
     refine pp (oCallZ (T_ref2_Ahead h2)) <| pp oLenSl <| pp oNeq <| nlD <| ?_
     refine cd hF (fun hF => ?_) (fun hF => ?_)
     · refine sr <| pp oAssign <| nl <| rt <| qsR <| ?_
       obtain rfl := inj hF
       exact fin1
     · refine sk <| qs <| sq <| sr <| pp oLdA <| pp oFA <| pp oLd <| ?_
       refine bb hF fun x3 h3 hF => ?_
       refine pp (oCallZ (T_ref2_vals h3)) <| pp oNot <| nl <| ?_
       refine cd hF (fun hF => ?_) (fun hF => ?_)
       · refine sr <| pp oAssign <| nl <| rt <| qsR <| ?_
         obtain rfl := inj hF
         exact fin1
       · refine sk <| qs <| sr <| pp oAssign <| nl <| rt <| ?_
         obtain rfl := inj hF
         exact fin1
noncomputable def ref2_Dst (a0 : Int) : Option Bool :=
 (ref2_in a0 1 18).bind fun x1 =>
 some (if (if x1 then true else (a0 == 20)) then true else (a0 == 21))
abbrev R_ref2_Dst (r : Bool) : AV := (B r)
set_option maxHeartbeats 4000000 in
theorem T_ref2_Dst {nn : Nat} {a0 : Int} {r : Bool} (hF : ref2_Dst a0 = some r) : den cx (nn + 2) 64 [(I a0)] = some (R_ref2_Dst r, []) := by
 unfold ref2_Dst at hF
 refine fnA Tryd.func64 Tryd.ntmps64 (by exact spine) (sl := [0]) ?_
 refine sr <| pp oAssign <| nl <| sr <| pp oMove <| ?_
 refine bb hF fun x1 h1 hF => ?_
 refine pp (oCall (T_ref2_in h1)) <| pp oMove <| pg ar oMove <| pg ar oEql <| pp oPick <| pp oMove <| pg ar oMove <| pg ar oEql <| pp oPick <| pp oAssign <| nl <| rt <| ?_
 obtain rfl := inj hF
 exact fin1
noncomputable def ref2_SpeaksA (a0 : Int) : Option Bool :=
 (ref2_in a0 1 19).bind fun x1 =>
 some (if x1 then true else (a0 == 22))
abbrev R_ref2_SpeaksA (r : Bool) : AV := (B r)
set_option maxHeartbeats 4000000 in
theorem T_ref2_SpeaksA {nn : Nat} {a0 : Int} {r : Bool} (hF : ref2_SpeaksA a0 = some r) : den cx (nn + 2) 65 [(I a0)] = some (R_ref2_SpeaksA r, []) := by
 unfold ref2_SpeaksA at hF
 refine fnA Tryd.func65 Tryd.ntmps65 (by exact spine) (sl := [0]) ?_
 refine sr <| pp oAssign <| nl <| sr <| pp oMove <| ?_
 refine bb hF fun x1 h1 hF => ?_
 refine pp (oCall (T_ref2_in h1)) <| pp oMove <| pg ar oMove <| pg ar oEql <| pp oPick <| pp oAssign <| nl <| rt <| ?_
 obtain rfl := inj hF
 exact fin1
noncomputable def ref2_SpeaksB (a0 : Int) : Option Bool :=
 (ref2_in a0 2 15).bind fun x1 =>
 some (if x1 then true else (a0 == 19))
abbrev R_ref2_SpeaksB (r : Bool) : AV := (B r)
set_option maxHeartbeats 4000000 in
theorem T_ref2_SpeaksB {nn : Nat} {a0 : Int} {r : Bool} (hF : ref2_SpeaksB a0 = some r) : den cx (nn + 2) 66 [(I a0)] = some (R_ref2_SpeaksB r, []) := by
 unfold ref2_SpeaksB at hF
 refine fnA Tryd.func66 Tryd.ntmps66 (by exact spine) (sl := [0]) ?_
 refine sr <| pp oAssign <| nl <| sr <| pp oMove <| ?_
 refine bb hF fun x1 h1 hF => ?_
 refine pp (oCall (T_ref2_in h1)) <| pp oMove <| pg ar oMove <| pg ar oEql <| pp oPick <| pp oAssign <| nl <| rt <| ?_
 obtain rfl := inj hF
 exact fin1
noncomputable def ref2_ins (a0 : XApi_Unit) (a1 : XApi_Func) (a2 : XApi_Ins) : Option Int :=
 (ref2_in a2.Op 1 22).bind fun x1 =>
 if (!x1) then
 (some 4)
 else
 (((ref2_Dst a2.Op).bind fun x2 =>
 if (if (!x2) then (a2.Dst != (-1)) else false) then
 (some true)
 else
 ((ref2_SpeaksA a2.Op).bind fun x3 =>
 if (if (!x3) then (!((a2.A.Reg == false) && ((a2.A.N == 0) && true))) else false) then
 (some true)
 else
 ((ref2_SpeaksB a2.Op).bind fun x4 =>
 some (if (if (!x4) then (!((a2.B.Reg == false) && ((a2.B.N == 0) && true))) else false) then true else (if (!(a2.Op == 20)) then (if (a2.Func != 0) then true else (decide (0 < (a2.Args.length : Int)))) else false))))).bind fun p1 =>
 if p1 then
 (some 5)
 else
 (((ref2_Dst a2.Op).bind fun x5 =>
 if x5 then
 ((ref2_in a2.Dst 0 (w64 (a1.Regs - 1))).bind fun x6 =>
 some (if (!x6) then (if (!(a2.Op == 20)) then true else (a2.Dst != (-1))) else false))
 else
 (some false)).bind fun p2 =>
 if p2 then
 (some 3)
 else
 (((ref2_val a1 a2.A).bind fun x7 =>
 if (!x7) then
 (some true)
 else
 ((ref2_val a1 a2.B).bind fun x8 =>
 some (!x8))).bind fun p3 =>
 if p3 then
 (some 3)
 else
 (if (!(a2.Op == 20)) then
 (some 0)
 else
 ((ref2_in a2.Func 0 (w64 ((a0.Funcs.length : Int) - 1))).bind fun x9 =>
 if (!x9) then
 (some 3)
 else
 ((idx a0.Funcs a2.Func).bind fun x10 =>
 if ((a2.Args.length : Int) != x10.Params) then
 (some 9)
 else
 ((ref2_vals a1 a2.Args).bind fun x11 =>
 if (!x11) then
 (some 3)
 else
 (some 0))))))))
abbrev R_ref2_ins (r : Int) : AV := (I r)
set_option maxHeartbeats 4000000 in
theorem T_ref2_ins {nn : Nat} {a0 : XApi_Unit} {a1 : XApi_Func} {a2 : XApi_Ins} {r : Int} (hF : ref2_ins a0 a1 a2 = some r) : den cx (nn + 4) 45 [(.agg (cXApi_Unit a0)), (.agg (cXApi_Func a1)), (.agg (cXApi_Ins a2))] = some (R_ref2_ins r, []) := by
 unfold ref2_ins at hF
 refine fnA Tryd.func45 Tryd.ntmps45 (by exact spine) (sl := [0, 1, 2]) ?_
 refine sr <| pp oBoxF <| pp oBoxF <| pp oBoxF <| pp oAssign <| nl <| sq <| sr <| pp oFA <| pp oLd <| ?_
 refine bb hF fun x1 h1 hF => ?_
 refine pp (oCallZ (T_ref2_in h1)) <| pp oNot <| nl <| ?_
 refine cd hF (fun hF => ?_) (fun hF => ?_)
 · refine sr <| pp oAssign <| nl <| rt <| qsR <| ?_
   obtain rfl := inj hF
   exact fin1
 · refine sk <| qs <| sr <| pp oFA <| pp oLd <| pp oEql <| pp oAssign <| nl <| sq <| ?_
   refine srC (fun (s : Bool) => mkSt 122 [3, 4, 5, 7, 62] [(.vp (cXApi_Unit a0)), (.vp (cXApi_Func a1)), (.vp (cXApi_Ins a2)), (B (a2.Op == 20)), (B s)]) hF (fun z3 hF => ?_) (fun p1 hF => ?_)
   · refine pp oFA <| pp oLd <| ?_
     refine bb hF fun x2 h2 hF => ?_
     refine pp (oCallZ (T_ref2_Dst h2)) <| pp oNot <| pp oMove <| pg ar oFA <| pg ar oLd <| pg ar oNeq <| pp oPick <| pp oMove <| ?_
     refine spl (d := 24) hF (fun hF => ?_) (fun hF => ?_)
     · refine no fun u1 k1 hk1 => ?_
       refine no fun u2 k2 hk2 => ?_
       refine no fun u3 k3 hk3 => ?_
       refine no fun u4 k4 hk4 => ?_
       refine no fun u5 k5 hk5 => ?_
       refine no fun u6 k6 hk6 => ?_
       refine no fun u7 k7 hk7 => ?_
       refine no fun u8 k8 hk8 => ?_
       refine no fun u9 k9 hk9 => ?_
       refine no fun u10 k10 hk10 => ?_
       refine pp oPickT <| pp oMove <| ?_
       refine no fun u11 k11 hk11 => ?_
       refine no fun u12 k12 hk12 => ?_
       refine no fun u13 k13 hk13 => ?_
       refine no fun u14 k14 hk14 => ?_
       refine no fun u15 k15 hk15 => ?_
       refine no fun u16 k16 hk16 => ?_
       refine no fun u17 k17 hk17 => ?_
       refine no fun u18 k18 hk18 => ?_
       refine no fun u19 k19 hk19 => ?_
       refine no fun u20 k20 hk20 => ?_
       refine pp oPickT <| pp oMove <| ?_
       refine no fun u21 k21 hk21 => ?_
       refine no fun u22 k22 hk22 => ?_
       refine no fun u23 k23 hk23 => ?_
       refine no fun u24 k24 hk24 => ?_
       refine no fun u25 k25 hk25 => ?_
       refine no fun u26 k26 hk26 => ?_
       refine no fun u27 k27 hk27 => ?_
       refine no fun u28 k28 hk28 => ?_
       refine no fun u29 k29 hk29 => ?_
       refine no fun u30 k30 hk30 => ?_
       refine no fun u31 k31 hk31 => ?_
       refine no fun u32 k32 hk32 => ?_
       refine no fun u33 k33 hk33 => ?_
       refine pp oPickT <| ?_
       obtain rfl := inj hF
       exact nlC cutR'
     · refine pt ar oFA <| pt ar oLd <| ?_
       refine bb hF fun x3 h3 hF => ?_
       refine pt ar (oCallZ (T_ref2_SpeaksA h3)) <| pt ar oNot <| pt ar oMove <| pg ar oFA <| pg ar oLdA <| pg ar oBuild <| pg ar (oStq (eq52_neq ..)) <| pt ar oPick <| pp oPickF <| pp oMove <| ?_
       refine spl (d := 36) hF (fun hF => ?_) (fun hF => ?_)
       · refine no fun u34 k34 hk34 => ?_
         refine no fun u35 k35 hk35 => ?_
         refine no fun u36 k36 hk36 => ?_
         refine no fun u37 k37 hk37 => ?_
         refine no fun u38 k38 hk38 => ?_
         refine no fun u39 k39 hk39 => ?_
         refine no fun u40 k40 hk40 => ?_
         refine no fun u41 k41 hk41 => ?_
         refine no fun u42 k42 hk42 => ?_
         refine no fun u43 k43 hk43 => ?_
         refine pp oPickT <| pp oMove <| ?_
         refine no fun u44 k44 hk44 => ?_
         refine no fun u45 k45 hk45 => ?_
         refine no fun u46 k46 hk46 => ?_
         refine no fun u47 k47 hk47 => ?_
         refine no fun u48 k48 hk48 => ?_
         refine no fun u49 k49 hk49 => ?_
         refine no fun u50 k50 hk50 => ?_
         refine no fun u51 k51 hk51 => ?_
         refine no fun u52 k52 hk52 => ?_
         refine no fun u53 k53 hk53 => ?_
         refine no fun u54 k54 hk54 => ?_
         refine no fun u55 k55 hk55 => ?_
         refine no fun u56 k56 hk56 => ?_
         refine pp oPickT <| ?_
         obtain rfl := inj hF
         exact nlC cutR'
       · refine pt ar oFA <| pt ar oLd <| ?_
         refine bb hF fun x4 h4 hF => ?_
         refine pt ar (oCallZ (T_ref2_SpeaksB h4)) <| pt ar oNot <| pt ar oMove <| pg ar oFA <| pg ar oLdA <| pg ar oBuild <| pg ar (oStq (eq52_neq ..)) <| pt ar oPick <| pp oPickF <| pp oMove <| pg ar oMove <| pg ar oNot <| pg ar oMove <| pg ar oFA <| ?_
         refine pg ar oLd <| pg ar oNeq <| pg ar oMove <| pg ar oFA <| pg ar oLd <| pg ar oLenSl <| pg ar oGtr <| pg ar oPick <| pg ar oPick <| pp oPick <| ?_
         obtain rfl := inj hF
         exact nlC cutR'
   · refine mk ?_
     refine cd hF (fun hF => ?_) (fun hF => ?_)
     · refine sr <| pp oAssign <| nl <| rt <| qsR <| ?_
       obtain rfl := inj hF
       exact fin1
     · refine sk <| qs <| sq <| ?_
       refine srC (fun (s : Bool) => mkSt 122 [3, 4, 5, 7, 83] [(.vp (cXApi_Unit a0)), (.vp (cXApi_Func a1)), (.vp (cXApi_Ins a2)), (B (a2.Op == 20)), (B s)]) hF (fun z2 hF => ?_) (fun p2 hF => ?_)
       · refine pp oFA <| pp oLd <| ?_
         refine bb hF fun x5 h5 hF => ?_
         refine pp (oCallZ (T_ref2_Dst h5)) <| pp oMove <| ?_
         refine spl (d := 66) hF (fun hF => ?_) (fun hF => ?_)
         · refine pt ar oFA <| pt ar oLd <| pt ar oFA <| pt ar oLd <| pt ar oSub <| ?_
           refine bb hF fun x6 h6 hF => ?_
           refine pt ar (oCallZ (T_ref2_in h6)) <| pt ar oNot <| pp oPickT <| pp oMove <| pg ar oMove <| pg ar oNot <| pg ar oMove <| pg ar oFA <| pg ar oLd <| pg ar oNeq <| pg ar oPick <| pp oPick <| ?_
           obtain rfl := inj hF
           exact nlC cutR'
         · refine no fun u57 k57 hk57 => ?_
           refine no fun u58 k58 hk58 => ?_
           refine no fun u59 k59 hk59 => ?_
           refine no fun u60 k60 hk60 => ?_
           refine no fun u61 k61 hk61 => ?_
           refine no fun u62 k62 hk62 => ?_
           refine no fun u63 k63 hk63 => ?_
           refine pp oPickF <| pp oMove <| ?_
           refine no fun u64 k64 hk64 => ?_
           refine no fun u65 k65 hk65 => ?_
           refine no fun u66 k66 hk66 => ?_
           refine no fun u67 k67 hk67 => ?_
           refine no fun u68 k68 hk68 => ?_
           refine no fun u69 k69 hk69 => ?_
           refine no fun u70 k70 hk70 => ?_
           refine pp oPickF <| ?_
           obtain rfl := inj hF
           exact nlC cutR'
       · refine mk ?_
         refine cd hF (fun hF => ?_) (fun hF => ?_)
         · refine sr <| pp oAssign <| nl <| rt <| qsR <| ?_
           obtain rfl := inj hF
           exact fin1
         · refine sk <| qs <| sq <| ?_
           refine srC (fun (s : Bool) => mkSt 122 [3, 4, 5, 7, 95] [(.vp (cXApi_Unit a0)), (.vp (cXApi_Func a1)), (.vp (cXApi_Ins a2)), (B (a2.Op == 20)), (B s)]) hF (fun z1 hF => ?_) (fun p3 hF => ?_)
           · refine pp oLdA <| pp oFA <| pp oLdA <| ?_
             refine bb hF fun x7 h7 hF => ?_
             refine pp (oCallZ (T_ref2_val h7)) <| pp oNot <| pp oMove <| ?_
             refine spl (d := 89) hF (fun hF => ?_) (fun hF => ?_)
             · refine no fun u71 k71 hk71 => ?_
               refine no fun u72 k72 hk72 => ?_
               refine no fun u73 k73 hk73 => ?_
               refine no fun u74 k74 hk74 => ?_
               refine no fun u75 k75 hk75 => ?_
               refine pp oPickT <| ?_
               obtain rfl := inj hF
               exact nlC cutR'
             · refine pt ar oLdA <| pt ar oFA <| pt ar oLdA <| ?_
               refine bb hF fun x8 h8 hF => ?_
               refine pt ar (oCallZ (T_ref2_val h8)) <| pt ar oNot <| pp oPickF <| ?_
               obtain rfl := inj hF
               exact nlC cutR'
           · refine mk ?_
             refine cd hF (fun hF => ?_) (fun hF => ?_)
             · refine sr <| pp oAssign <| nl <| rt <| qsR <| ?_
               obtain rfl := inj hF
               exact fin1
             · refine sk <| qs <| sq <| sr <| pp oMove <| pp oNot <| nl <| ?_
               refine cd hF (fun hF => ?_) (fun hF => ?_)
               · refine sr <| pp oAssign <| nl <| rt <| qsR <| ?_
                 obtain rfl := inj hF
                 exact fin1
               · refine sk <| qs <| sq <| sr <| pp oFA <| pp oLd <| pp oFA <| pp oLd <| pp oLenSl <| pp oSub <| ?_
                 refine bb hF fun x9 h9 hF => ?_
                 refine pp (oCallZ (T_ref2_in h9)) <| pp oNot <| nl <| ?_
                 refine cd hF (fun hF => ?_) (fun hF => ?_)
                 · refine sr <| pp oAssign <| nl <| rt <| qsR <| ?_
                   obtain rfl := inj hF
                   exact fin1
                 · refine sk <| qs <| sq <| srD <| pp oFA <| pp oLd <| pp oLenSl <| pp oFA <| pp oLd <| pp oFA <| pp oLd <| ?_
                   refine bb hF fun x10 h10 hF => ?_
                   refine pp (oIx h10) <| pp oFA <| pp oLd <| pp oNeq <| nlD <| ?_
                   refine cd hF (fun hF => ?_) (fun hF => ?_)
                   · refine sr <| pp oAssign <| nl <| rt <| qsR <| ?_
                     obtain rfl := inj hF
                     exact fin1
                   · refine sk <| qs <| sq <| sr <| pp oLdA <| pp oFA <| pp oLd <| ?_
                     refine bb hF fun x11 h11 hF => ?_
                     refine pp (oCallZ (T_ref2_vals h11)) <| pp oNot <| nl <| ?_
                     refine cd hF (fun hF => ?_) (fun hF => ?_)
                     · refine sr <| pp oAssign <| nl <| rt <| qsR <| ?_
                       obtain rfl := inj hF
                       exact fin1
                     · refine sk <| qs <| sr <| pp oAssign <| nl <| rt <| ?_
                       obtain rfl := inj hF
                       exact fin1
end Go.Ab
