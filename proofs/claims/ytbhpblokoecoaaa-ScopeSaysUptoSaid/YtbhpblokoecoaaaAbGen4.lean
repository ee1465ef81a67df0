/-
  Functions of the program as functions on plain data (written by gen3.py).
-/
import Derived.Test.YtbhpblokoecoaaaAbGen3
namespace Go.Ab
open Go Go.Proofs
/-! turnery/turneryref1.Deep -/
noncomputable def ref1_Deep_J1 (y6 : Int) (y7 : Int) : Option (Lp (Int × Int) Int) :=
 some (.next (y7, (w64 (y6 + 1))))
noncomputable def ref1_Deep_L1 (rc : XApi_Tree → Int → Option Int) (a0 : XApi_Tree) (a1 : Int) (y5 : Int) (y6 : Int) : Option (Lp (Int × Int) Int) :=
 (idx a0.Nodes a1).bind fun x1 =>
 if (decide (y6 < (x1.Kids.length : Int))) then
 ((idx a0.Nodes a1).bind fun x2 =>
 (idx x2.Kids y6).bind fun x3 =>
 (rc a0 x3).bind fun x4 =>
 if (decide (y5 < x4)) then
 (ref1_Deep_J1 y6 x4)
 else
 (ref1_Deep_J1 y6 y5))
 else
 (some (.out y5))
noncomputable def ref1_Deep_B (rc : XApi_Tree → Int → Option Int) (a0 : XApi_Tree) (a1 : Int) : Option Int :=
 (Loop (fun (s : (Int × Int)) => ref1_Deep_L1 rc a0 a1 s.1 s.2) (0, 0)).bind fun v1 =>
 some (w64 (v1 + 1))
noncomputable def ref1_Deep : Nat → XApi_Tree → Int → Option Int
 | 0 => fun _ _ => none
 | m + 1 => ref1_Deep_B (ref1_Deep m)
abbrev R_ref1_Deep (r : Int) : AV := (I r)
set_option maxHeartbeats 4000000 in
theorem T_ref1_Deep_B {nn : Nat} {rc : XApi_Tree → Int → Option Int} (ih : ∀ {a0 : XApi_Tree} {a1 : Int} {r : Int}, rc a0 a1 = some r → den cx (nn + 0) 47 [(.agg (cXApi_Tree a0)), (I a1)] = some (R_ref1_Deep r, [])) {a0 : XApi_Tree} {a1 : Int} {r : Int} (hF : ref1_Deep_B rc a0 a1 = some r) : den cx (nn + 1) 47 [(.agg (cXApi_Tree a0)), (I a1)] = some (R_ref1_Deep r, []) := by
 unfold ref1_Deep_B at hF
 refine fnA Try.func47 Try.ntmps47 (by exact spine) (sl := [0, 1]) ?_
 refine sr <| pp oBoxF <| pp oAssign <| nl <| sr <| pp oAssign <| nl <| sq <| sr <| pp oAssign <| nl <| ?_
 refine lp (fun (s : (Int × Int)) => mkSt 36 [1, 2, 5, 6] [(I a1), (.vp (cXApi_Tree a0)), (I s.1), (I s.2)]) (fun (s : Int) => mkSt 36 [5] [(I s)]) hF cutR' ?_ ?_
 · rintro ⟨y5, y6⟩ z1 hF
   replace hF : ref1_Deep_L1 rc a0 a1 y5 y6 = some z1 := hF
   unfold ref1_Deep_L1 at hF
   refine mk ?_
   refine sq <| sr <| pp oMove <| pp oFA <| pp oLd <| pp oMove <| ?_
   refine bb hF fun x1 h1 hF => ?_
   refine pp (oIx h1) <| pp oFA <| pp oLd <| pp oLenSl <| pp oLss <| nl <| ?_
   refine cd hF (fun hF => ?_) (fun hF => ?_)
   · refine sk <| qs <| ?_
     refine sjn (r := z1) (fun (s : Int) => mkSt 36 [1, 2, 5, 6] [(I a1), (.vp (cXApi_Tree a0)), (I s), (I y6)]) (fun s => ref1_Deep_J1 y6 s) ?_ ?_
     · refine bl <| srD <| pp oLdA <| pp oFA <| pp oLd <| pp oMove <| ?_
       refine bb hF fun x2 h2 hF => ?_
       refine pp (oIx h2) <| pp oFA <| pp oLd <| pp oMove <| ?_
       refine bb hF fun x3 h3 hF => ?_
       refine pp (oIx h3) <| pp oLd <| ?_
       refine bb hF fun x4 h4 hF => ?_
       refine pp (oCallZ (ih h4)) <| pp oAssign <| nlD <| sr <| pp oMove <| pp oMove <| pp oGtr <| nl <| ?_
       refine cd hF (fun hF => ?_) (fun hF => ?_)
       · refine rg <| pp oMove <| pp oAssign <| nl <| qb <| ?_
         exact qj x4 hF cutR'
       · refine sk <| qb <| ?_
         exact qj y5 hF cutR'
     · rintro y7 hF
       replace hF : ref1_Deep_J1 y6 y7 = some z1 := hF
       unfold ref1_Deep_J1 at hF
       refine mk ?_
       refine rg <| pp oMove <| pp oAdd <| pp oAssign <| nl <| ?_
       exact ln hF cutR'
   · refine ex <| qsE <| ?_
     exact lx hF cutR'
 · intro v1 hF
   refine qmk ?_
   refine qs <| sr <| pp oMove <| pp oAdd <| pp oAssign <| nl <| rt <| ?_
   obtain rfl := inj hF
   exact fin1
theorem T_ref1_Deep : ∀ {fu nn : Nat} {a0 : XApi_Tree} {a1 : Int} {r : Int} (hF : ref1_Deep fu a0 a1 = some r), den cx (fu + nn + 1) 47 [(.agg (cXApi_Tree a0)), (I a1)] = some (R_ref1_Deep r, [])
 | 0, _, _, _, _, hF => by cases hF
 | m + 1, nn, _, _, _, hF => by
  rw [show m + 1 + nn + 1 = m + nn + 1 + 1 by omega]
  refine T_ref1_Deep_B (nn := m + nn + 1) (rc := ref1_Deep m) (fun h => ?_) hF
  have := T_ref1_Deep (nn := nn) h
  rwa [show m + nn + 1 = m + nn + 1 + 0 by omega] at this

/-! turnery/turneryref1.Tree -/
noncomputable def ref1_Tree_L1 (fu : Nat) (a0 : XApi_Tree) (y4 : Int) : Option (Lp Int (Br Unit XApi_Fault)) :=
 if (decide (y4 < (a0.Nodes.length : Int))) then
 ((ref1_wrong fu a0 y4).bind fun x3 =>
 if (x3 != 0) then
 ((ref1_fault x3 y4).bind fun x4 =>
 some (.out (.ret x4)))
 else
 (some (.next (w64 (y4 + 1)))))
 else
 (some (.out (.brk ())))
noncomputable def ref1_Tree (fu : Nat) (a0 : XApi_Tree) : Option XApi_Fault :=
 (ref1_in (a0.Nodes.length : Int) 1 600).bind fun x1 =>
 if (!x1) then
 ((ref1_fault 2 0).bind fun x2 =>
 some x2)
 else
 ((Loop (fun (s : Int) => ref1_Tree_L1 fu a0 s) 0).bind (Br.go (fun _ =>
 (ref1_Many fu a0 (w64 ((a0.Nodes.length : Int) - 1))).bind fun x5 =>
 if (x5 != (a0.Nodes.length : Int)) then
 ((ref1_fault 5 (w64 ((a0.Nodes.length : Int) - 1))).bind fun x6 =>
 some x6)
 else
 ((ref1_Deep fu a0 (w64 ((a0.Nodes.length : Int) - 1))).bind fun x7 =>
 if (decide (40 < x7)) then
 ((ref1_fault 10 0).bind fun x8 =>
 some x8)
 else
 (some (XApi_Fault.mk 0 0)))) (fun r1 => some r1)))
abbrev R_ref1_Tree (r : XApi_Fault) : AV := (.agg (cXApi_Fault r))
def RR_ref1_Tree (r : XApi_Fault) (x : Exit × St) : Prop := x.1 = .ret ∧ Fin cx [.cell 2 27] [] (R_ref1_Tree r) [] x
set_option maxHeartbeats 4000000 in
theorem T_ref1_Tree {fu nn : Nat} {a0 : XApi_Tree} {r : XApi_Fault} (hF : ref1_Tree fu a0 = some r) : den cx (fu + nn + 5) 25 [(.agg (cXApi_Tree a0))] = some (R_ref1_Tree r, []) := by
 unfold ref1_Tree at hF
 refine fnA Try.func25 Try.ntmps25 (by exact spine) (sl := [0]) ?_
 refine sr <| pp oBoxF <| ww oAlloc <| nl <| sq <| sr <| pp oFA <| pp oLd <| pp oLenSl <| ?_
 refine bb hF fun x1 h1 hF => ?_
 refine pp (oCallZ (T_ref1_in h1)) <| pp oNot <| nl <| ?_
 refine cd hF (fun hF => ?_) (fun hF => ?_)
 · refine sr <| ?_
   refine bb hF fun x2 h2 hF => ?_
   refine pp (oCall (T_ref1_fault h2)) <| ww oStR <| nl <| rt <| qsR <| ?_
   obtain rfl := inj hF
   exact fin1
 · refine sk <| qs <| sq <| sr <| pp oAssign <| nl <| ?_
   refine lpR (fun (s : Int) => mkSt 46 [1, 2, 3] [(.vp (cXApi_Tree a0)), (.ownp (cXApi_Fault (XApi_Fault.mk 0 0))), (I s)]) (fun (s : Unit) => mkSt 46 [1, 2] [(.vp (cXApi_Tree a0)), (.ownp (cXApi_Fault (XApi_Fault.mk 0 0)))]) RR_ref1_Tree hF cutR' ?_ ?_ ?_
   · rintro y4 z1 hF
     replace hF : ref1_Tree_L1 fu a0 y4 = some z1 := hF
     unfold ref1_Tree_L1 at hF
     refine mk ?_
     refine sq <| sr <| pp oMove <| pp oFA <| pp oLd <| pp oLenSl <| pp oLss <| nl <| ?_
     refine cd hF (fun hF => ?_) (fun hF => ?_)
     · refine sk <| qs <| sq <| bl <| sr <| pp oLdA <| pp oMove <| ?_
       refine bb hF fun x3 h3 hF => ?_
       refine pp (oCallZ (dnE (T_ref1_wrong (fu := fu) (nn := nn + 0) h3) (by omega))) <| pp oAssign <| nl <| sr <| pp oMove <| pp oNeq <| nl <| ?_
       refine cd hF (fun hF => ?_) (fun hF => ?_)
       · refine sr <| pp oMove <| pp oMove <| ?_
         refine bb hF fun x4 h4 hF => ?_
         refine pp (oCall (T_ref1_fault h4)) <| ww oStR <| nl <| rt <| qbR <| qsR <| ?_
         exact lr hF ⟨rfl, fin1⟩
       · refine sk <| qb <| qs <| rg <| pp oMove <| pp oAdd <| pp oAssign <| nl <| ?_
         exact ln hF cutR'
     · refine ex <| qsE <| ?_
       exact lxR hF cutR'
   · intro _ hF
     refine qmk ?_
     refine qs <| sr <| pp oFA <| pp oLd <| pp oLenSl <| pp oSub <| pp oAssign <| nl <| sq <| srD <| pp oLdA <| pp oMove <| ?_
     refine bb hF fun x5 h5 hF => ?_
     refine pp (oCallZ (dnE (T_ref1_Many (fu := fu) (nn := nn + 3) h5) (by omega))) <| pp oFA <| pp oLd <| pp oLenSl <| pp oNeq <| nlD <| ?_
     refine cd hF (fun hF => ?_) (fun hF => ?_)
     · refine sr <| pp oMove <| ?_
       refine bb hF fun x6 h6 hF => ?_
       refine pp (oCall (T_ref1_fault h6)) <| ww oStR <| nl <| rt <| qsR <| ?_
       obtain rfl := inj hF
       exact fin1
     · refine sk <| qs <| sq <| sr <| pp oLdA <| pp oMove <| ?_
       refine bb hF fun x7 h7 hF => ?_
       refine pp (oCallZ (dnE (T_ref1_Deep (fu := fu) (nn := nn + 3) h7) (by omega))) <| pp oGtr <| nl <| ?_
       refine cd hF (fun hF => ?_) (fun hF => ?_)
       · refine sr <| ?_
         refine bb hF fun x8 h8 hF => ?_
         refine pp (oCall (T_ref1_fault h8)) <| ww oStR <| nl <| rt <| qsR <| ?_
         obtain rfl := inj hF
         exact fin1
       · refine sk <| qs <| sr <| pp oBuild <| ww oStR <| nl <| rt <| ?_
         obtain rfl := inj hF
         exact fin1
   · rintro r1 hF ⟨xe, xs⟩ ⟨hxe, hfin⟩
     obtain rfl : xe = Exit.ret := hxe
     obtain rfl := inj hF
     refine qbR <| qsR <| ?_
     exact hfin

/-! (turnery/turneryref1.Rooms).declare -/
noncomputable def ref1_Rooms_declare_L1 (a0 : XTurneryref1_Rooms) (a1 : XApi_Tree) (a2 : Int) (y6 : Int) : Option (Lp Int (Br Unit XTurneryref1_Rooms)) :=
 if (decide (y6 < (a0.Has.length : Int))) then
 (((idx a0.Room y6).bind fun x1 =>
 if (x1 == a0.Now) then
 ((idx a0.Has y6).bind fun x2 =>
 (idx a1.Nodes x2).bind fun x3 =>
 (idx a1.Nodes a2).bind fun x4 =>
 some (x3.Text.toList == x4.Text.toList))
 else
 (some false)).bind fun p1 =>
 if p1 then
 ((ref1_fault 7 a2).bind fun x5 =>
 some (.out (.ret (XTurneryref1_Rooms.mk a0.Has a0.Room a0.Now x5 a0.Of))))
 else
 (some (.next (w64 (y6 + 1)))))
 else
 (some (.out (.brk ())))
noncomputable def ref1_Rooms_declare (a0 : XTurneryref1_Rooms) (a1 : XApi_Tree) (a2 : Int) : Option XTurneryref1_Rooms :=
 (Loop (fun (s : Int) => ref1_Rooms_declare_L1 a0 a1 a2 s) 0).bind (Br.go (fun _ =>
 (app [] a0.Has).bind fun x6 =>
 (app [] a0.Room).bind fun x7 =>
 (app x6 ([a2] : List Int)).bind fun x8 =>
 (app x7 ([a0.Now] : List Int)).bind fun x9 =>
 (idx a0.Of a2).bind fun x10 =>
 some (XTurneryref1_Rooms.mk x8 x9 a0.Now a0.Bad (List.set a0.Of ((a2) : Int).toNat a2))) (fun r1 => some r1))
abbrev R_ref1_Rooms_declare (r : XTurneryref1_Rooms) : AV := (.agg (cXTurneryref1_Rooms_SIIIIOe r))
def RR_ref1_Rooms_declare (r : XTurneryref1_Rooms) (x : Exit × St) : Prop := x.1 = .ret ∧ Fin cx [.cell 6 57] [] (R_ref1_Rooms_declare r) [] x
set_option maxHeartbeats 4000000 in
theorem T_ref1_Rooms_declare {nn : Nat} {a0 : XTurneryref1_Rooms} {a1 : XApi_Tree} {a2 : Int} {r : XTurneryref1_Rooms} (hF : ref1_Rooms_declare a0 a1 a2 = some r) : den cx (nn + 2) 27 [(.agg (cXTurneryref1_Rooms_SIIIIOe a0)), (.agg (cXApi_Tree a1)), (I a2)] = some (R_ref1_Rooms_declare r, []) := by
 unfold ref1_Rooms_declare at hF
 refine fnA Try.func27 Try.ntmps27 (by exact spine) (sl := [0, 1, 2]) ?_
 refine sr <| ww oBoxM <| pp oBoxF <| ww oAlloc <| nl <| sq <| sr <| pp oAssign <| nl <| ?_
 refine lpR (fun (s : Int) => mkSt 73 [2, 3, 4, 6, 7] [(I a2), (.ownp (cXTurneryref1_Rooms_SIIIIOe a0)), (.vp (cXApi_Tree a1)), (.ownp (cXTurneryref1_Rooms_SOOIIOe (XTurneryref1_Rooms.mk [] [] 0 (XApi_Fault.mk 0 0) []))), (I s)]) (fun (s : Unit) => mkSt 73 [2, 3, 6] [(I a2), (.ownp (cXTurneryref1_Rooms_SIIIIOe a0)), (.ownp (cXTurneryref1_Rooms_SOOIIOe (XTurneryref1_Rooms.mk [] [] 0 (XApi_Fault.mk 0 0) [])))]) RR_ref1_Rooms_declare hF cutR' ?_ ?_ ?_
 · rintro y6 z1 hF
   replace hF : ref1_Rooms_declare_L1 a0 a1 a2 y6 = some z1 := hF
   unfold ref1_Rooms_declare_L1 at hF
   refine mk ?_
   refine sq <| sr <| pp oMove <| pp oFAM <| rr oLdR <| pp oLenSl <| pp oLss <| nl <| ?_
   refine cd hF (fun hF => ?_) (fun hF => ?_)
   · refine sk <| qs <| sq <| bl <| ?_
     refine srC (fun (s : Bool) => mkSt 73 [2, 3, 4, 6, 7, 43] [(I a2), (.ownp (cXTurneryref1_Rooms_SIIIIOe a0)), (.vp (cXApi_Tree a1)), (.ownp (cXTurneryref1_Rooms_SOOIIOe (XTurneryref1_Rooms.mk [] [] 0 (XApi_Fault.mk 0 0) []))), (I y6), (B s)]) hF (fun z2 hF => ?_) (fun p1 hF => ?_)
     · refine pp oFAM <| rr oLdR <| pp oMove <| ?_
       refine bb hF fun x1 h1 hF => ?_
       refine pp (oIx h1) <| pp oLd <| pp oFAM <| rr oLdR <| pp oEql <| pp oMove <| ?_
       refine spl (d := 25) hF (fun hF => ?_) (fun hF => ?_)
       · refine pt ar oFA <| pt ar oLd <| pt ar oFAM <| rt_ ar oLdR <| pt ar oMove <| ?_
         refine bb hF fun x2 h2 hF => ?_
         refine pt ar (oIx h2) <| pt ar oLd <| ?_
         refine bb hF fun x3 h3 hF => ?_
         refine pt ar (oIx h3) <| pt ar oFA <| pt ar oLd <| pt ar oFA <| pt ar oLd <| pt ar oMove <| ?_
         refine bb hF fun x4 h4 hF => ?_
         refine pt ar (oIx h4) <| pt ar oFA <| pt ar oLd <| pt ar oEqlS <| pp oPickT <| ?_
         obtain rfl := inj hF
         exact nlCD cutR'
       · refine no fun u1 k1 hk1 => ?_
         refine no fun u2 k2 hk2 => ?_
         refine no fun u3 k3 hk3 => ?_
         refine no fun u4 k4 hk4 => ?_
         refine no fun u5 k5 hk5 => ?_
         refine no fun u6 k6 hk6 => ?_
         refine no fun u7 k7 hk7 => ?_
         refine no fun u8 k8 hk8 => ?_
         refine no fun u9 k9 hk9 => ?_
         refine no fun u10 k10 hk10 => ?_
         refine no fun u11 k11 hk11 => ?_
         refine no fun u12 k12 hk12 => ?_
         refine no fun u13 k13 hk13 => ?_
         refine no fun u14 k14 hk14 => ?_
         refine no fun u15 k15 hk15 => ?_
         refine no fun u16 k16 hk16 => ?_
         refine no fun u17 k17 hk17 => ?_
         refine pp oPickF <| ?_
         obtain rfl := inj hF
         exact nlCD (hf := rok) cutR'
     · refine mk ?_
       refine cd hF (fun hF => ?_) (fun hF => ?_)
       · refine sr <| pp oMove <| ?_
         refine bb hF fun x5 h5 hF => ?_
         refine pp (oCall (T_ref1_fault h5)) <| pp oFAM <| ww oStR <| nl <| sr <| rr oLdRA <| ww oStR <| nl <| rt <| qbR <| qsR <| ?_
         exact lr hF ⟨rfl, fin1⟩
       · refine sk <| qb <| qs <| rg <| pp oMove <| pp oAdd <| pp oAssign <| nl <| ?_
         exact ln hF cutR'
   · refine ex <| qsE <| ?_
     exact lxR hF cutR'
 · intro _ hF
   refine qmk ?_
   refine qs <| sr <| pp oAssign <| pp oAssign <| nl <| sr <| pp oMove <| pp oFAM <| rr oLdR <| ?_
   refine bb hF fun x6 h6 hF => ?_
   refine ww (oAppN h6) <| pp oAssign <| nl <| sr <| pp oMove <| pp oFAM <| rr oLdR <| ?_
   refine bb hF fun x7 h7 hF => ?_
   refine ww (oAppN h7) <| pp oAssign <| nl <| sr <| pp oMove <| pp oMove <| pp oBSF <| ?_
   refine bb hF fun x8 h8 hF => ?_
   refine ww (oAppF h8) <| pp oFAM <| ww oStR <| nl <| sr <| pp oMove <| pp oFAM <| rr oLdR <| pp oBSF <| ?_
   refine bb hF fun x9 h9 hF => ?_
   refine ww (oAppF h9) <| pp oFAM <| ww oStR <| nl <| sr <| pp oFAM <| rr oLdR <| pp oMove <| pp oMove <| ?_
   refine bb hF fun x10 h10 hF => ?_
   refine rr (oIxM h10) <| ww (oStL (idx_nat h10) a2) <| nl <| sr <| rr oLdRA <| ww oStR <| nl <| rt <| ?_
   obtain rfl := inj hF
   exact fin1
 · rintro r1 hF ⟨xe, xs⟩ ⟨hxe, hfin⟩
   obtain rfl : xe = Exit.ret := hxe
   obtain rfl := inj hF
   refine qbR <| qsR <| ?_
   exact hfin

/-! (turnery/turneryref1.Rooms).find -/
noncomputable def ref1_Rooms_find_J1 (y7 : Int) (y8 : Int) : Option (Lp (Int × Int) Int) :=
 some (.next (y8, (w64 (y7 + 1))))
noncomputable def ref1_Rooms_find_L1 (a0 : XTurneryref1_Rooms) (a1 : XApi_Tree) (a2 : ByteArray) (y6 : Int) (y7 : Int) : Option (Lp (Int × Int) Int) :=
 if (decide (y7 < (a0.Has.length : Int))) then
 (((idx a0.Has y7).bind fun x1 =>
 (idx a1.Nodes x1).bind fun x2 =>
 if (x2.Text.toList == a2.toList) then
 (if (decide (y6 < 0)) then
 (some true)
 else
 ((idx a0.Room y7).bind fun x3 =>
 (idx a0.Room y6).bind fun x4 =>
 some (decide (x4 < x3))))
 else
 (some false)).bind fun p1 =>
 if p1 then
 (ref1_Rooms_find_J1 y7 y7)
 else
 (ref1_Rooms_find_J1 y7 y6))
 else
 (some (.out y6))
noncomputable def ref1_Rooms_find (a0 : XTurneryref1_Rooms) (a1 : XApi_Tree) (a2 : ByteArray) : Option Int :=
 (Loop (fun (s : (Int × Int)) => ref1_Rooms_find_L1 a0 a1 a2 s.1 s.2) ((-1), 0)).bind fun v1 =>
 if (decide (v1 < 0)) then
 (some (-1))
 else
 ((idx a0.Has v1).bind fun x5 =>
 some x5)
abbrev R_ref1_Rooms_find (r : Int) : AV := (I r)
set_option maxHeartbeats 4000000 in
theorem T_ref1_Rooms_find {nn : Nat} {a0 : XTurneryref1_Rooms} {a1 : XApi_Tree} {a2 : ByteArray} {r : Int} (hF : ref1_Rooms_find a0 a1 a2 = some r) : den cx (nn + 1) 75 [(.agg (cXTurneryref1_Rooms a0)), (.agg (cXApi_Tree a1)), (AV.val (.string a2))] = some (R_ref1_Rooms_find r, []) := by
 unfold ref1_Rooms_find at hF
 refine fnA Try.func75 Try.ntmps75 (by exact spine) (sl := [0, 1, 2]) ?_
 refine sr <| pp oBoxF <| pp oBoxF <| pp oAssign <| nl <| sr <| pp oAssign <| nl <| sq <| sr <| pp oAssign <| nl <| ?_
 refine lp (fun (s : (Int × Int)) => mkSt 53 [2, 3, 4, 7, 8] [(AV.val (.string a2)), (.vp (cXTurneryref1_Rooms a0)), (.vp (cXApi_Tree a1)), (I s.1), (I s.2)]) (fun (s : Int) => mkSt 53 [3, 7] [(.vp (cXTurneryref1_Rooms a0)), (I s)]) hF cutR' ?_ ?_
 · rintro ⟨y6, y7⟩ z1 hF
   replace hF : ref1_Rooms_find_L1 a0 a1 a2 y6 y7 = some z1 := hF
   unfold ref1_Rooms_find_L1 at hF
   refine mk ?_
   refine sq <| sr <| pp oMove <| pp oFA <| pp oLd <| pp oLenSl <| pp oLss <| nl <| ?_
   refine cd hF (fun hF => ?_) (fun hF => ?_)
   · refine sk <| qs <| ?_
     refine sjn (r := z1) (fun (s : Int) => mkSt 53 [2, 3, 4, 7, 8] [(AV.val (.string a2)), (.vp (cXTurneryref1_Rooms a0)), (.vp (cXApi_Tree a1)), (I s), (I y7)]) (fun s => ref1_Rooms_find_J1 y7 s) ?_ ?_
     · refine bl <| ?_
       refine srC (fun (s : Bool) => mkSt 53 [2, 3, 4, 7, 8, 44] [(AV.val (.string a2)), (.vp (cXTurneryref1_Rooms a0)), (.vp (cXApi_Tree a1)), (I y6), (I y7), (B s)]) hF (fun z2 hF => ?_) (fun p1 hF => ?_)
       · refine pp oFA <| pp oLd <| pp oFA <| pp oLd <| pp oMove <| ?_
         refine bb hF fun x1 h1 hF => ?_
         refine pp (oIx h1) <| pp oLd <| ?_
         refine bb hF fun x2 h2 hF => ?_
         refine pp (oIx h2) <| pp oFA <| pp oLd <| pp oMove <| pp oEqlS <| pp oMove <| ?_
         refine spl (d := 28) hF (fun hF => ?_) (fun hF => ?_)
         · refine pt ar oMove <| pt ar oLss <| pt ar oMove <| ?_
           refine splG (d := 31) hF (fun hF => ?_) (fun hF => ?_)
           · refine no fun u1 k1 hk1 => ?_
             refine no fun u2 k2 hk2 => ?_
             refine no fun u3 k3 hk3 => ?_
             refine no fun u4 k4 hk4 => ?_
             refine no fun u5 k5 hk5 => ?_
             refine no fun u6 k6 hk6 => ?_
             refine no fun u7 k7 hk7 => ?_
             refine no fun u8 k8 hk8 => ?_
             refine no fun u9 k9 hk9 => ?_
             refine no fun u10 k10 hk10 => ?_
             refine no fun u11 k11 hk11 => ?_
             refine pt ar oPickT <| pp oPickT <| ?_
             obtain rfl := inj hF
             exact nlCD (hf := rok) cutR'
           · refine pt ar oFA <| pt ar oLd <| pt ar oMove <| ?_
             refine bb hF fun x3 h3 hF => ?_
             refine pt ar (oIx h3) <| pt ar oLd <| pt ar oFA <| pt ar oLd <| pt ar oMove <| ?_
             refine bb hF fun x4 h4 hF => ?_
             refine pt ar (oIx h4) <| pt ar oLd <| pt ar oGtr <| pt ar oPickF <| pp oPickT <| ?_
             obtain rfl := inj hF
             exact nlCD cutR'
         · refine no fun u12 k12 hk12 => ?_
           refine no fun u13 k13 hk13 => ?_
           refine no fun u14 k14 hk14 => ?_
           refine no fun u15 k15 hk15 => ?_
           refine no fun u16 k16 hk16 => ?_
           refine no fun u17 k17 hk17 => ?_
           refine no fun u18 k18 hk18 => ?_
           refine no fun u19 k19 hk19 => ?_
           refine no fun u20 k20 hk20 => ?_
           refine no fun u21 k21 hk21 => ?_
           refine no fun u22 k22 hk22 => ?_
           refine no fun u23 k23 hk23 => ?_
           refine no fun u24 k24 hk24 => ?_
           refine no fun u25 k25 hk25 => ?_
           refine no fun u26 k26 hk26 => ?_
           refine pp oPickF <| ?_
           obtain rfl := inj hF
           exact nlCD (hf := rok) cutR'
       · refine mk ?_
         refine cd hF (fun hF => ?_) (fun hF => ?_)
         · refine rg <| pp oMove <| pp oAssign <| nl <| qb <| ?_
           exact qj y7 hF cutR'
         · refine sk <| qb <| ?_
           exact qj y6 hF cutR'
     · rintro y8 hF
       replace hF : ref1_Rooms_find_J1 y7 y8 = some z1 := hF
       unfold ref1_Rooms_find_J1 at hF
       refine mk ?_
       refine rg <| pp oMove <| pp oAdd <| pp oAssign <| nl <| ?_
       exact ln hF cutR'
   · refine ex <| qsE <| ?_
     exact lx hF cutR'
 · intro v1 hF
   refine qmk ?_
   refine qs <| sq <| sr <| pp oMove <| pp oLss <| nl <| ?_
   refine cd hF (fun hF => ?_) (fun hF => ?_)
   · refine sr <| pp oAssign <| nl <| rt <| qsR <| ?_
     obtain rfl := inj hF
     exact fin1
   · refine sk <| qs <| sr <| pp oFA <| pp oLd <| pp oMove <| ?_
     refine bb hF fun x5 h5 hF => ?_
     refine pp (oIx h5) <| pp oLd <| pp oAssign <| nl <| rt <| ?_
     obtain rfl := inj hF
     exact fin1

/-! (turnery/turneryref1.Rooms).all -/
noncomputable def ref1_Rooms_all_L1 (rc48 : XTurneryref1_Rooms → XApi_Tree → Int → Option XTurneryref1_Rooms) (a1 : XApi_Tree) (a2 : Int) (y6 : XTurneryref1_Rooms) (y7 : Int) : Option (Lp (XTurneryref1_Rooms × Int) XTurneryref1_Rooms) :=
 (idx a1.Nodes a2).bind fun x1 =>
 if (if (decide (y7 < (x1.Kids.length : Int))) then (y6.Bad.Code == 0) else false) then
 ((idx a1.Nodes a2).bind fun x2 =>
 (idx x2.Kids y7).bind fun x3 =>
 (rc48 y6 a1 x3).bind fun x4 =>
 some (.next (x4, (w64 (y7 + 1)))))
 else
 (some (.out y6))
noncomputable def ref1_Rooms_all_B (fu : Nat) (rc28 : XTurneryref1_Rooms → XApi_Tree → Int → Option XTurneryref1_Rooms) (rc48 : XTurneryref1_Rooms → XApi_Tree → Int → Option XTurneryref1_Rooms) (a0 : XTurneryref1_Rooms) (a1 : XApi_Tree) (a2 : Int) : Option XTurneryref1_Rooms :=
 (Loop (fun (s : (XTurneryref1_Rooms × Int)) => ref1_Rooms_all_L1 rc48 a1 a2 s.1 s.2) (a0, 0)).bind fun v1 =>
 some v1
/-! (turnery/turneryref1.Rooms).look -/
noncomputable def ref1_Rooms_look_J1 (y1 : XTurneryref1_Rooms) : Option XTurneryref1_Rooms :=
 some y1
noncomputable def ref1_Rooms_look_J2 (rc28 : XTurneryref1_Rooms → XApi_Tree → Int → Option XTurneryref1_Rooms) (a1 : XApi_Tree) (a2 : Int) (y2 : XTurneryref1_Rooms) : Option XTurneryref1_Rooms :=
 (rc28 y2 a1 a2).bind fun x10 =>
 some x10
noncomputable def ref1_Rooms_look_J3 (y11 : Int) (y12 : Int) : Option (Lp (Int × Int) Int) :=
 some (.next (y12, (w64 (y11 + 1))))
noncomputable def ref1_Rooms_look_L1 (a0 : XTurneryref1_Rooms) (a1 : XApi_Tree) (x1 : XApi_Node) (y10 : Int) (y11 : Int) : Option (Lp (Int × Int) Int) :=
 if (decide (y11 < (a0.Has.length : Int))) then
 (((idx a0.Room y11).bind fun x11 =>
 if (x11 == 0) then
 ((idx a0.Has y11).bind fun x12 =>
 (idx a1.Nodes x12).bind fun x13 =>
 if (x13.Text.toList == x1.Text.toList) then
 ((idx a0.Has y11).bind fun x14 =>
 (idx a1.Nodes x14).bind fun x15 =>
 some (x15.Kind == 3))
 else
 (some false))
 else
 (some false)).bind fun p2 =>
 if p2 then
 ((idx a0.Has y11).bind fun x16 =>
 ref1_Rooms_look_J3 y11 x16)
 else
 (ref1_Rooms_look_J3 y11 y10))
 else
 (some (.out y10))
noncomputable def ref1_Rooms_look_B (fu : Nat) (rc28 : XTurneryref1_Rooms → XApi_Tree → Int → Option XTurneryref1_Rooms) (rc48 : XTurneryref1_Rooms → XApi_Tree → Int → Option XTurneryref1_Rooms) (a0 : XTurneryref1_Rooms) (a1 : XApi_Tree) (a2 : Int) : Option XTurneryref1_Rooms :=
 (idx a1.Nodes a2).bind fun x1 =>
 if (if (if (if (x1.Kind == 3) then true else (x1.Kind == 11)) then true else (x1.Kind == 17)) then true else (x1.Kind == 18)) then
 ((rc28 (XTurneryref1_Rooms.mk a0.Has a0.Room (w64 (a0.Now + 1)) a0.Bad a0.Of) a1 a2).bind fun x2 =>
 some (XTurneryref1_Rooms.mk a0.Has a0.Room (w64 (x2.Now - 1)) x2.Bad x2.Of))
 else
 (if (x1.Kind == 4) then
 ((ref1_Rooms_declare a0 a1 a2).bind fun x3 =>
 some x3)
 else
 (if (x1.Kind == 12) then
 ((rc28 a0 a1 a2).bind fun x4 =>
 if (x4.Bad.Code == 0) then
 ((ref1_Rooms_declare x4 a1 a2).bind fun x5 =>
 ref1_Rooms_look_J1 x5)
 else
 (ref1_Rooms_look_J1 x4))
 else
 (if (x1.Kind == 32) then
 ((ref1_Rooms_find a0 a1 x1.Text).bind fun x6 =>
 (if (decide (x6 < 0)) then
 (some true)
 else
 ((idx a1.Nodes x6).bind fun x7 =>
 some (x7.Kind == 3))).bind fun p1 =>
 if p1 then
 ((ref1_fault 6 a2).bind fun x8 =>
 some (XTurneryref1_Rooms.mk a0.Has a0.Room a0.Now x8 a0.Of))
 else
 ((idx a0.Of a2).bind fun x9 =>
 some (XTurneryref1_Rooms.mk a0.Has a0.Room a0.Now a0.Bad (List.set a0.Of ((a2) : Int).toNat x6))))
 else
 (if (x1.Kind == 33) then
 ((Loop (fun (s : (Int × Int)) => ref1_Rooms_look_L1 a0 a1 x1 s.1 s.2) ((-1), 0)).bind fun v1 =>
 if (if (if (decide (v1 < 0)) then (x1.Text.toList != (ByteArray.mk #[114, 101, 97, 100]).toList) else false) then (x1.Text.toList != (ByteArray.mk #[112, 114, 105, 110, 116]).toList) else false) then
 ((ref1_fault 6 a2).bind fun x17 =>
 some (XTurneryref1_Rooms.mk a0.Has a0.Room a0.Now x17 a0.Of))
 else
 ((idx a0.Of a2).bind fun x18 =>
 ref1_Rooms_look_J2 rc28 a1 a2 (XTurneryref1_Rooms.mk a0.Has a0.Room a0.Now a0.Bad (List.set a0.Of ((a2) : Int).toNat v1))))
 else
 (ref1_Rooms_look_J2 rc28 a1 a2 a0)))))
noncomputable def ref1_Rooms_all_grp : Nat → (XTurneryref1_Rooms → XApi_Tree → Int → Option XTurneryref1_Rooms) × (XTurneryref1_Rooms → XApi_Tree → Int → Option XTurneryref1_Rooms)
 | 0 => (fun _ _ _ => none, fun _ _ _ => none)
 | m + 1 => (ref1_Rooms_all_B m ((ref1_Rooms_all_grp m).1) ((ref1_Rooms_all_grp m).2), ref1_Rooms_look_B m ((ref1_Rooms_all_grp m).1) ((ref1_Rooms_all_grp m).2))
noncomputable def ref1_Rooms_all (fu : Nat) : XTurneryref1_Rooms → XApi_Tree → Int → Option XTurneryref1_Rooms := (ref1_Rooms_all_grp fu).1
abbrev R_ref1_Rooms_all (r : XTurneryref1_Rooms) : AV := (.agg (cXTurneryref1_Rooms_SIIIIOe r))
noncomputable def ref1_Rooms_look (fu : Nat) : XTurneryref1_Rooms → XApi_Tree → Int → Option XTurneryref1_Rooms := (ref1_Rooms_all_grp fu).2
abbrev R_ref1_Rooms_look (r : XTurneryref1_Rooms) : AV := (.agg (cXTurneryref1_Rooms_SIIIIOe r))
set_option maxHeartbeats 4000000 in
theorem T_ref1_Rooms_all_B {fu nn : Nat} {rc28 : XTurneryref1_Rooms → XApi_Tree → Int → Option XTurneryref1_Rooms} {rc48 : XTurneryref1_Rooms → XApi_Tree → Int → Option XTurneryref1_Rooms} (ih28 : ∀ {a0 : XTurneryref1_Rooms} {a1 : XApi_Tree} {a2 : Int} {r : XTurneryref1_Rooms}, rc28 a0 a1 a2 = some r → den cx (fu + nn + 2) 28 [(.agg (cXTurneryref1_Rooms_SIIIIOe a0)), (.agg (cXApi_Tree a1)), (I a2)] = some (R_ref1_Rooms_all r, [])) (ih48 : ∀ {a0 : XTurneryref1_Rooms} {a1 : XApi_Tree} {a2 : Int} {r : XTurneryref1_Rooms}, rc48 a0 a1 a2 = some r → den cx (fu + nn + 2) 48 [(.agg (cXTurneryref1_Rooms_SIIIIOe a0)), (.agg (cXApi_Tree a1)), (I a2)] = some (R_ref1_Rooms_look r, [])) {a0 : XTurneryref1_Rooms} {a1 : XApi_Tree} {a2 : Int} {r : XTurneryref1_Rooms} (hF : ref1_Rooms_all_B fu rc28 rc48 a0 a1 a2 = some r) : den cx (fu + nn + 3) 28 [(.agg (cXTurneryref1_Rooms_SIIIIOe a0)), (.agg (cXApi_Tree a1)), (I a2)] = some (R_ref1_Rooms_all r, []) := by
 unfold ref1_Rooms_all_B at hF
 refine fnA Try.func28 Try.ntmps28 (by exact spine) (sl := [0, 1, 2]) ?_
 refine sr <| ww oBoxM <| pp oBoxF <| ww oAlloc <| nl <| sq <| sr <| pp oAssign <| nl <| ?_
 refine lp (fun (s : (XTurneryref1_Rooms × Int)) => mkSt 38 [2, 3, 4, 6, 7] [(I a2), (.ownp (cXTurneryref1_Rooms_SIIIIOe s.1)), (.vp (cXApi_Tree a1)), (.ownp (cXTurneryref1_Rooms_SOOIIOe (XTurneryref1_Rooms.mk [] [] 0 (XApi_Fault.mk 0 0) []))), (I s.2)]) (fun (s : XTurneryref1_Rooms) => mkSt 38 [3, 6] [(.ownp (cXTurneryref1_Rooms_SIIIIOe s)), (.ownp (cXTurneryref1_Rooms_SOOIIOe (XTurneryref1_Rooms.mk [] [] 0 (XApi_Fault.mk 0 0) [])))]) hF cutR' ?_ ?_
 · rintro ⟨y6, y7⟩ z1 hF
   replace hF : ref1_Rooms_all_L1 rc48 a1 a2 y6 y7 = some z1 := hF
   unfold ref1_Rooms_all_L1 at hF
   refine mk ?_
   refine sq <| sr <| pp oMove <| pp oFA <| pp oLd <| pp oMove <| ?_
   refine bb hF fun x1 h1 hF => ?_
   refine pp (oIx h1) <| pp oFA <| pp oLd <| pp oLenSl <| pp oLss <| pp oMove <| pg ar oFAM <| pg ar oFAM <| rgd ar oLdR <| pg ar oEql <| pp oPick <| nl <| ?_
   refine cd hF (fun hF => ?_) (fun hF => ?_)
   · refine sk <| qs <| sq <| bl <| rgD <| rr oLdRA <| pp oLdA <| pp oFA <| pp oLd <| pp oMove <| ?_
     refine bb hF fun x2 h2 hF => ?_
     refine pp (oIx h2) <| pp oFA <| pp oLd <| pp oMove <| ?_
     refine bb hF fun x3 h3 hF => ?_
     refine pp (oIx h3) <| pp oLd <| ?_
     refine bb hF fun x4 h4 hF => ?_
     refine ww (oCallT (ih48 h4)) <| ww oStR <| nlD <| qb <| qs <| rg <| pp oMove <| pp oAdd <| pp oAssign <| nl <| ?_
     exact ln hF cutR'
   · refine ex <| qsE <| ?_
     exact lx hF cutR'
 · intro v1 hF
   refine qmk ?_
   refine qs <| sr <| rr oLdRA <| ww oStR <| nl <| rt <| ?_
   obtain rfl := inj hF
   exact fin1
set_option maxHeartbeats 4000000 in
theorem T_ref1_Rooms_look_B {fu nn : Nat} {rc28 : XTurneryref1_Rooms → XApi_Tree → Int → Option XTurneryref1_Rooms} {rc48 : XTurneryref1_Rooms → XApi_Tree → Int → Option XTurneryref1_Rooms} (ih28 : ∀ {a0 : XTurneryref1_Rooms} {a1 : XApi_Tree} {a2 : Int} {r : XTurneryref1_Rooms}, rc28 a0 a1 a2 = some r → den cx (fu + nn + 2) 28 [(.agg (cXTurneryref1_Rooms_SIIIIOe a0)), (.agg (cXApi_Tree a1)), (I a2)] = some (R_ref1_Rooms_all r, [])) (ih48 : ∀ {a0 : XTurneryref1_Rooms} {a1 : XApi_Tree} {a2 : Int} {r : XTurneryref1_Rooms}, rc48 a0 a1 a2 = some r → den cx (fu + nn + 2) 48 [(.agg (cXTurneryref1_Rooms_SIIIIOe a0)), (.agg (cXApi_Tree a1)), (I a2)] = some (R_ref1_Rooms_look r, [])) {a0 : XTurneryref1_Rooms} {a1 : XApi_Tree} {a2 : Int} {r : XTurneryref1_Rooms} (hF : ref1_Rooms_look_B fu rc28 rc48 a0 a1 a2 = some r) : den cx (fu + nn + 3) 48 [(.agg (cXTurneryref1_Rooms_SIIIIOe a0)), (.agg (cXApi_Tree a1)), (I a2)] = some (R_ref1_Rooms_look r, []) := by
 unfold ref1_Rooms_look_B at hF
 refine fnA Try.func48 Try.ntmps48 (by exact spine) (sl := [0, 1, 2]) ?_
 refine sr <| ww oBoxM <| pp oBoxF <| ww oAlloc <| nl <| sr <| pp oFA <| pp oLd <| pp oMove <| ?_
 refine bb hF fun x1 h1 hF => ?_
 refine pp (oIx h1) <| pp oLdA <| ww oAlloc <| ww oStF <| nl <| sq <| sr <| pp oFA <| pp oLd <| pp oEql <| pp oMove <| pg ar oFA <| pg ar oLd <| pg ar oEql <| ?_
 refine pp oPick <| pp oMove <| pg ar oFA <| pg ar oLd <| pg ar oEql <| pp oPick <| pp oMove <| pg ar oFA <| pg ar oLd <| pg ar oEql <| pp oPick <| nl <| ?_
 refine cd hF (fun hF => ?_) (fun hF => ?_)
 · refine sr <| pp oFAM <| rr oLdR <| pp oAssign <| nl <| sr <| pp oFAM <| rr oLdR <| pp oAssign <| nl <| sr <| pp oFAM <| rr oLdR <| pp oAdd <| ?_
   refine pp oFAM <| ww oStR <| nl <| sr <| rr oLdRA <| pp oLdA <| pp oMove <| ?_
   refine bb hF fun x2 h2 hF => ?_
   refine ww (oCallT (ih28 h2)) <| ww oStR <| nl <| sr <| pp oFAM <| rr oLdR <| pp oSub <| pp oFAM <| ww oStR <| nl <| sr <| pp oMove <| pp oFAM <| ww oStR <| ?_
   refine nl <| sr <| pp oMove <| pp oFAM <| ww oStR <| nl <| sr <| rr oLdRA <| ww oStR <| nl <| rt <| qsR <| ?_
   obtain rfl := inj hF
   exact fin1
 · refine sk <| qs <| sq <| sr <| pp oFA <| pp oLd <| pp oEql <| nl <| ?_
   refine cd hF (fun hF => ?_) (fun hF => ?_)
   · refine sr <| rr oLdRA <| pp oLdA <| pp oMove <| ?_
     refine bb hF fun x3 h3 hF => ?_
     refine ww (oCallT (T_ref1_Rooms_declare h3)) <| ww oStR <| nl <| rt <| qsR <| ?_
     obtain rfl := inj hF
     exact fin1
   · refine sk <| qs <| sq <| sr <| pp oFA <| pp oLd <| pp oEql <| nl <| ?_
     refine cd hF (fun hF => ?_) (fun hF => ?_)
     · refine sr <| rr oLdRA <| pp oLdA <| pp oMove <| ?_
       refine bb hF fun x4 h4 hF => ?_
       refine ww (oCallT (ih28 h4)) <| ww oStR <| nl <| ?_
       refine sjn (r := r) (fun (s : XTurneryref1_Rooms) => mkSt 183 [3, 6] [(.ownp (cXTurneryref1_Rooms_SIIIIOe s)), (.ownp (cXTurneryref1_Rooms_SOOIIOe (XTurneryref1_Rooms.mk [] [] 0 (XApi_Fault.mk 0 0) [])))]) (fun s => ref1_Rooms_look_J1 s) ?_ ?_
       · refine sr <| pp oFAM <| pp oFAM <| rr oLdR <| pp oEql <| nl <| ?_
         refine cd hF (fun hF => ?_) (fun hF => ?_)
         · refine rg <| rr oLdRA <| pp oLdA <| pp oMove <| ?_
           refine bb hF fun x5 h5 hF => ?_
           refine ww (oCallT (T_ref1_Rooms_declare h5)) <| ww oStR <| nl <| ?_
           exact qj x5 hF cutR'
         · refine sk <| ?_
           exact qj x4 hF cutR'
       · rintro y1 hF
         replace hF : ref1_Rooms_look_J1 y1 = some r := hF
         unfold ref1_Rooms_look_J1 at hF
         refine mk ?_
         refine sr <| rr oLdRA <| ww oStR <| nl <| rt <| qsR <| ?_
         obtain rfl := inj hF
         exact fin1
     · refine sk <| qs <| sq <| sr <| pp oFA <| pp oLd <| pp oEql <| nl <| ?_
       refine cd hF (fun hF => ?_) (fun hF => ?_)
       · refine sr <| rr oLdRA <| pp oLdA <| pp oFA <| pp oLd <| ?_
         refine bb hF fun x6 h6 hF => ?_
         refine rr (oCall (T_ref1_Rooms_find h6)) <| pp oAssign <| nl <| sq <| ?_
         refine srC (fun (s : Bool) => mkSt 183 [2, 3, 6, 10, 98] [(I a2), (.ownp (cXTurneryref1_Rooms_SIIIIOe a0)), (.ownp (cXTurneryref1_Rooms_SOOIIOe (XTurneryref1_Rooms.mk [] [] 0 (XApi_Fault.mk 0 0) []))), (I x6), (B s)]) hF (fun z1 hF => ?_) (fun p1 hF => ?_)
         · refine pp oMove <| pp oLss <| pp oMove <| ?_
           refine spl (d := 90) hF (fun hF => ?_) (fun hF => ?_)
           · refine no fun u1 k1 hk1 => ?_
             refine no fun u2 k2 hk2 => ?_
             refine no fun u3 k3 hk3 => ?_
             refine no fun u4 k4 hk4 => ?_
             refine no fun u5 k5 hk5 => ?_
             refine no fun u6 k6 hk6 => ?_
             refine no fun u7 k7 hk7 => ?_
             refine pp oPickT <| ?_
             obtain rfl := inj hF
             exact nlC cutR'
           · refine pt ar oFA <| pt ar oLd <| pt ar oMove <| ?_
             refine bb hF fun x7 h7 hF => ?_
             refine pt ar (oIx h7) <| pt ar oFA <| pt ar oLd <| pt ar oEql <| pp oPickF <| ?_
             obtain rfl := inj hF
             exact nlC cutR'
         · refine mk ?_
           refine cd hF (fun hF => ?_) (fun hF => ?_)
           · refine sr <| pp oMove <| ?_
             refine bb hF fun x8 h8 hF => ?_
             refine pp (oCall (T_ref1_fault h8)) <| pp oFAM <| ww oStR <| nl <| sr <| rr oLdRA <| ww oStR <| nl <| rt <| qsR <| qsR <| ?_
             obtain rfl := inj hF
             exact fin1
           · refine sk <| qs <| sr <| pp oFAM <| rr oLdR <| pp oMove <| pp oMove <| ?_
             refine bb hF fun x9 h9 hF => ?_
             refine rr (oIxM h9) <| ww (oStL (idx_nat h9) x6) <| nl <| sr <| rr oLdRA <| ww oStR <| nl <| rt <| qsR <| ?_
             obtain rfl := inj hF
             exact fin1
       · refine sk <| qs <| ?_
         refine sjn (r := r) (fun (s : XTurneryref1_Rooms) => mkSt 183 [2, 3, 4, 6] [(I a2), (.ownp (cXTurneryref1_Rooms_SIIIIOe s)), (.vp (cXApi_Tree a1)), (.ownp (cXTurneryref1_Rooms_SOOIIOe (XTurneryref1_Rooms.mk [] [] 0 (XApi_Fault.mk 0 0) [])))]) (fun s => ref1_Rooms_look_J2 rc28 a1 a2 s) ?_ ?_
         · refine sr <| pp oFA <| pp oLd <| pp oEql <| nl <| ?_
           refine cd hF (fun hF => ?_) (fun hF => ?_)
           · refine sr <| pp oAssign <| nl <| sq <| sr <| pp oAssign <| nl <| ?_
             refine lp (fun (s : (Int × Int)) => mkSt 183 [2, 3, 4, 6, 7, 11, 12] [(I a2), (.ownp (cXTurneryref1_Rooms_SIIIIOe a0)), (.vp (cXApi_Tree a1)), (.ownp (cXTurneryref1_Rooms_SOOIIOe (XTurneryref1_Rooms.mk [] [] 0 (XApi_Fault.mk 0 0) []))), (.vp (cXApi_Node x1)), (I s.1), (I s.2)]) (fun (s : Int) => mkSt 183 [2, 3, 4, 6, 7, 11] [(I a2), (.ownp (cXTurneryref1_Rooms_SIIIIOe a0)), (.vp (cXApi_Tree a1)), (.ownp (cXTurneryref1_Rooms_SOOIIOe (XTurneryref1_Rooms.mk [] [] 0 (XApi_Fault.mk 0 0) []))), (.vp (cXApi_Node x1)), (I s)]) hF cutR' ?_ ?_
             · rintro ⟨y10, y11⟩ z2 hF
               replace hF : ref1_Rooms_look_L1 a0 a1 x1 y10 y11 = some z2 := hF
               unfold ref1_Rooms_look_L1 at hF
               refine mk ?_
               refine sq <| sr <| pp oMove <| pp oFAM <| rr oLdR <| pp oLenSl <| pp oLss <| nl <| ?_
               refine cd hF (fun hF => ?_) (fun hF => ?_)
               · refine sk <| qs <| ?_
                 refine sjn (r := z2) (fun (s : Int) => mkSt 183 [2, 3, 4, 6, 7, 11, 12] [(I a2), (.ownp (cXTurneryref1_Rooms_SIIIIOe a0)), (.vp (cXApi_Tree a1)), (.ownp (cXTurneryref1_Rooms_SOOIIOe (XTurneryref1_Rooms.mk [] [] 0 (XApi_Fault.mk 0 0) []))), (.vp (cXApi_Node x1)), (I s), (I y11)]) (fun s => ref1_Rooms_look_J3 y11 s) ?_ ?_
                 · refine bl <| ?_
                   refine srC (fun (s : Bool) => mkSt 183 [2, 3, 4, 6, 7, 11, 12, 152] [(I a2), (.ownp (cXTurneryref1_Rooms_SIIIIOe a0)), (.vp (cXApi_Tree a1)), (.ownp (cXTurneryref1_Rooms_SOOIIOe (XTurneryref1_Rooms.mk [] [] 0 (XApi_Fault.mk 0 0) []))), (.vp (cXApi_Node x1)), (I y10), (I y11), (B s)]) hF (fun z3 hF => ?_) (fun p2 hF => ?_)
                   · refine pp oFAM <| rr oLdR <| pp oMove <| ?_
                     refine bb hF fun x11 h11 hF => ?_
                     refine pp (oIx h11) <| pp oLd <| pp oEql <| pp oMove <| ?_
                     refine spl (d := 125) hF (fun hF => ?_) (fun hF => ?_)
                     · refine pt ar oFA <| pt ar oLd <| pt ar oFAM <| rt_ ar oLdR <| pt ar oMove <| ?_
                       refine bb hF fun x12 h12 hF => ?_
                       refine pt ar (oIx h12) <| pt ar oLd <| ?_
                       refine bb hF fun x13 h13 hF => ?_
                       refine pt ar (oIx h13) <| pt ar oFA <| pt ar oLd <| pt ar oFA <| pt ar oLd <| pt ar oEqlS <| pp oPickT <| pp oMove <| ?_
                       refine spl (d := 140) hF (fun hF => ?_) (fun hF => ?_)
                       · refine pt ar oFA <| pt ar oLd <| pt ar oFAM <| rt_ ar oLdR <| pt ar oMove <| ?_
                         refine bb hF fun x14 h14 hF => ?_
                         refine pt ar (oIx h14) <| pt ar oLd <| ?_
                         refine bb hF fun x15 h15 hF => ?_
                         refine pt ar (oIx h15) <| pt ar oFA <| pt ar oLd <| pt ar oEql <| pp oPickT <| ?_
                         obtain rfl := inj hF
                         exact nlCD cutR'
                       · refine no fun u8 k8 hk8 => ?_
                         refine no fun u9 k9 hk9 => ?_
                         refine no fun u10 k10 hk10 => ?_
                         refine no fun u11 k11 hk11 => ?_
                         refine no fun u12 k12 hk12 => ?_
                         refine no fun u13 k13 hk13 => ?_
                         refine no fun u14 k14 hk14 => ?_
                         refine no fun u15 k15 hk15 => ?_
                         refine no fun u16 k16 hk16 => ?_
                         refine no fun u17 k17 hk17 => ?_
                         refine no fun u18 k18 hk18 => ?_
                         refine pp oPickF <| ?_
                         obtain rfl := inj hF
                         exact nlCD (hf := rok) cutR'
                     · refine no fun u19 k19 hk19 => ?_
                       refine no fun u20 k20 hk20 => ?_
                       refine no fun u21 k21 hk21 => ?_
                       refine no fun u22 k22 hk22 => ?_
                       refine no fun u23 k23 hk23 => ?_
                       refine no fun u24 k24 hk24 => ?_
                       refine no fun u25 k25 hk25 => ?_
                       refine no fun u26 k26 hk26 => ?_
                       refine no fun u27 k27 hk27 => ?_
                       refine no fun u28 k28 hk28 => ?_
                       refine no fun u29 k29 hk29 => ?_
                       refine no fun u30 k30 hk30 => ?_
                       refine no fun u31 k31 hk31 => ?_
                       refine pp oPickF <| pp oMove <| ?_
                       refine no fun u32 k32 hk32 => ?_
                       refine no fun u33 k33 hk33 => ?_
                       refine no fun u34 k34 hk34 => ?_
                       refine no fun u35 k35 hk35 => ?_
                       refine no fun u36 k36 hk36 => ?_
                       refine no fun u37 k37 hk37 => ?_
                       refine no fun u38 k38 hk38 => ?_
                       refine no fun u39 k39 hk39 => ?_
                       refine no fun u40 k40 hk40 => ?_
                       refine no fun u41 k41 hk41 => ?_
                       refine no fun u42 k42 hk42 => ?_
                       refine pp oPickF <| ?_
                       obtain rfl := inj hF
                       exact nlCD (hf := rok) cutR'
                   · refine mk ?_
                     refine cd hF (fun hF => ?_) (fun hF => ?_)
                     · refine rg <| pp oFAM <| rr oLdR <| pp oMove <| ?_
                       refine bb hF fun x16 h16 hF => ?_
                       refine pp (oIx h16) <| pp oLd <| pp oAssign <| nl <| qb <| ?_
                       exact qj x16 hF cutR'
                     · refine sk <| qb <| ?_
                       exact qj y10 hF cutR'
                 · rintro y12 hF
                   replace hF : ref1_Rooms_look_J3 y11 y12 = some z2 := hF
                   unfold ref1_Rooms_look_J3 at hF
                   refine mk ?_
                   refine rg <| pp oMove <| pp oAdd <| pp oAssign <| nl <| ?_
                   exact ln hF cutR'
               · refine ex <| qsE <| ?_
                 exact lx hF cutR'
             · intro v1 hF
               refine qmk ?_
               refine qs <| sq <| sr <| pp oMove <| pp oLss <| pp oMove <| pg ar oFA <| pg ar oLd <| pg ar oNeqS <| pp oPick <| pp oMove <| pg ar oFA <| pg ar oLd <| pg ar oNeqS <| ?_
               refine pp oPick <| nl <| ?_
               refine cd hF (fun hF => ?_) (fun hF => ?_)
               · refine sr <| pp oMove <| ?_
                 refine bb hF fun x17 h17 hF => ?_
                 refine pp (oCall (T_ref1_fault h17)) <| pp oFAM <| ww oStR <| nl <| sr <| rr oLdRA <| ww oStR <| nl <| rt <| qsR <| qjR <| ?_
                 obtain rfl := inj hF
                 exact fin1
               · refine sk <| qs <| rg <| pp oFAM <| rr oLdR <| pp oMove <| pp oMove <| ?_
                 refine bb hF fun x18 h18 hF => ?_
                 refine rr (oIxM h18) <| ww (oStL (idx_nat h18) v1) <| nl <| ?_
                 exact qj (XTurneryref1_Rooms.mk a0.Has a0.Room a0.Now a0.Bad (List.set a0.Of ((a2) : Int).toNat v1)) hF cutR'
           · refine sk <| ?_
             exact qj a0 hF cutR'
         · rintro y2 hF
           replace hF : ref1_Rooms_look_J2 rc28 a1 a2 y2 = some r := hF
           unfold ref1_Rooms_look_J2 at hF
           refine mk ?_
           refine sr <| rr oLdRA <| pp oLdA <| pp oMove <| ?_
           refine bb hF fun x10 h10 hF => ?_
           refine ww (oCallT (ih28 h10)) <| ww oStR <| nl <| rt <| ?_
           obtain rfl := inj hF
           exact fin1
theorem T_ref1_Rooms_all_grp : ∀ (fu nn : Nat), (∀ {a0 : XTurneryref1_Rooms} {a1 : XApi_Tree} {a2 : Int} {r : XTurneryref1_Rooms}, ref1_Rooms_all fu a0 a1 a2 = some r → den cx (fu + nn + 3) 28 [(.agg (cXTurneryref1_Rooms_SIIIIOe a0)), (.agg (cXApi_Tree a1)), (I a2)] = some (R_ref1_Rooms_all r, [])) ∧ (∀ {a0 : XTurneryref1_Rooms} {a1 : XApi_Tree} {a2 : Int} {r : XTurneryref1_Rooms}, ref1_Rooms_look fu a0 a1 a2 = some r → den cx (fu + nn + 3) 48 [(.agg (cXTurneryref1_Rooms_SIIIIOe a0)), (.agg (cXApi_Tree a1)), (I a2)] = some (R_ref1_Rooms_look r, []))
 | 0, _ => ⟨(fun h => by cases h), (fun h => by cases h)⟩
 | m + 1, nn => by
  have ih := T_ref1_Rooms_all_grp m (nn + 0)
  rw [show m + (nn + 0) + 3 = m + (nn + 1) + 2 by omega] at ih
  rw [show m + 1 + nn + 3 = m + (nn + 1) + 3 by omega]
  exact ⟨fun h => T_ref1_Rooms_all_B (fu := m) (nn := nn + 1) (rc28 := ref1_Rooms_all m) (rc48 := ref1_Rooms_look m) ih.1 ih.2 h, fun h => T_ref1_Rooms_look_B (fu := m) (nn := nn + 1) (rc28 := ref1_Rooms_all m) (rc48 := ref1_Rooms_look m) ih.1 ih.2 h⟩
theorem T_ref1_Rooms_all {fu nn : Nat} {a0 : XTurneryref1_Rooms} {a1 : XApi_Tree} {a2 : Int} {r : XTurneryref1_Rooms} (hF : ref1_Rooms_all fu a0 a1 a2 = some r) : den cx (fu + nn + 3) 28 [(.agg (cXTurneryref1_Rooms_SIIIIOe a0)), (.agg (cXApi_Tree a1)), (I a2)] = some (R_ref1_Rooms_all r, []) := (T_ref1_Rooms_all_grp fu nn).1 hF
theorem T_ref1_Rooms_look {fu nn : Nat} {a0 : XTurneryref1_Rooms} {a1 : XApi_Tree} {a2 : Int} {r : XTurneryref1_Rooms} (hF : ref1_Rooms_look fu a0 a1 a2 = some r) : den cx (fu + nn + 3) 48 [(.agg (cXTurneryref1_Rooms_SIIIIOe a0)), (.agg (cXApi_Tree a1)), (I a2)] = some (R_ref1_Rooms_look r, []) := (T_ref1_Rooms_all_grp fu nn).2 hF


/-! turnery/turneryref1.Names -/
noncomputable def ref1_Names_L1 (a0 : XApi_Tree) (y6 : XTurneryref1_Rooms) (y7 : Int) : Option (Lp (XTurneryref1_Rooms × Int) XTurneryref1_Rooms) :=
 if (decide (y7 < (a0.Nodes.length : Int))) then
 ((app y6.Of ([(-1)] : List Int)).bind fun x4 =>
 some (.next ((XTurneryref1_Rooms.mk y6.Has y6.Room y6.Now y6.Bad x4), (w64 (y7 + 1)))))
 else
 (some (.out y6))
noncomputable def ref1_Names_L2 (a0 : XApi_Tree) (x5 : XApi_Node) (y14 : XTurneryref1_Rooms) (y15 : Int) : Option (Lp (XTurneryref1_Rooms × Int) (Br XTurneryref1_Rooms ((List Int) × XApi_Fault))) :=
 if (decide (y15 < (x5.Kids.length : Int))) then
 ((idx x5.Kids y15).bind fun x6 =>
 (idx a0.Nodes x6).bind fun x7 =>
 if (if (x7.Text.toList == (ByteArray.mk #[114, 101, 97, 100]).toList) then true else (x7.Text.toList == (ByteArray.mk #[112, 114, 105, 110, 116]).toList)) then
 ((idx x5.Kids y15).bind fun x8 =>
 (ref1_fault 12 x8).bind fun x9 =>
 some (.out (.ret ([], x9))))
 else
 ((idx x5.Kids y15).bind fun x10 =>
 (ref1_Rooms_declare y14 a0 x10).bind fun x11 =>
 if (x11.Bad.Code != 0) then
 (some (.out (.ret ([], x11.Bad))))
 else
 (some (.next (x11, (w64 (y15 + 1)))))))
 else
 (some (.out (.brk y14)))
noncomputable def ref1_Names (fu : Nat) (a0 : XApi_Tree) : Option ((List Int) × XApi_Fault) :=
 (ref1_Tree fu a0).bind fun x1 =>
 if (x1.Code != 0) then
 (some ([], x1))
 else
 ((idx a0.Nodes (w64 ((a0.Nodes.length : Int) - 1))).bind fun x2 =>
 if (x2.Kind != 1) then
 ((ref1_fault 11 0).bind fun x3 =>
 some ([], x3))
 else
 ((Loop (fun (s : (XTurneryref1_Rooms × Int)) => ref1_Names_L1 a0 s.1 s.2) ((XTurneryref1_Rooms.mk [] [] 0 (XApi_Fault.mk 0 0) []), 0)).bind fun v1 =>
 (idx a0.Nodes (w64 ((a0.Nodes.length : Int) - 1))).bind fun x5 =>
 (Loop (fun (s : (XTurneryref1_Rooms × Int)) => ref1_Names_L2 a0 x5 s.1 s.2) (v1, 0)).bind (Br.go (fun v2 =>
 (ref1_Rooms_all fu v2 a0 (w64 ((a0.Nodes.length : Int) - 1))).bind fun x12 =>
 if (x12.Bad.Code != 0) then
 (some ([], x12.Bad))
 else
 (some (x12.Of, (XApi_Fault.mk 0 0)))) (fun r1 => some r1))))
abbrev R_ref1_Names (r : ((List Int) × XApi_Fault)) : AV := (.tup [(.own ((r.1).map cInt_i64) (r.1).length), (.agg (cXApi_Fault r.2))])
def RR_ref1_Names (r : ((List Int) × XApi_Fault)) (x : Exit × St) : Prop := x.1 = .ret ∧ Fin cx [.tmp 2, .cell 3 27] [] (R_ref1_Names r) [] x
set_option maxHeartbeats 4000000 in
theorem T_ref1_Names {fu nn : Nat} {a0 : XApi_Tree} {r : ((List Int) × XApi_Fault)} (hF : ref1_Names fu a0 = some r) : den cx (fu + nn + 6) 7 [(.agg (cXApi_Tree a0))] = some (R_ref1_Names r, []) := by
 unfold ref1_Names at hF
 refine fnA Try.func7 Try.ntmps7 (by exact spine) (sl := [0]) ?_
 refine sr <| pp oBoxF <| pp oAssign <| ww oAlloc <| nl <| sr <| pp oLdA <| ?_
 refine bb hF fun x1 h1 hF => ?_
 refine pp (oCall (dnE (T_ref1_Tree (fu := fu) (nn := nn + 0) h1) (by omega))) <| ww oAlloc <| ww oStF <| nl <| sq <| sr <| pp oFA <| pp oLd <| pp oNeq <| nl <| ?_
 refine cd hF (fun hF => ?_) (fun hF => ?_)
 · refine srD <| pp oLdA <| pp oAssign <| ww oStR <| nlD <| rt <| qsR <| ?_
   obtain rfl := inj hF
   exact finT
 · refine sk <| qs <| sr <| pp oFA <| pp oLd <| pp oLenSl <| pp oSub <| pp oAssign <| nl <| sq <| sr <| pp oFA <| pp oLd <| pp oMove <| ?_
   refine bb hF fun x2 h2 hF => ?_
   refine pp (oIx h2) <| pp oFA <| pp oLd <| pp oNeq <| nl <| ?_
   refine cd hF (fun hF => ?_) (fun hF => ?_)
   · refine sr <| ?_
     refine bb hF fun x3 h3 hF => ?_
     refine pp (oCall (T_ref1_fault h3)) <| pp oAssign <| ww oStR <| nl <| rt <| qsR <| ?_
     obtain rfl := inj hF
     exact finT
   · refine sk <| qs <| sr <| ww oAllocZ <| nl <| sq <| sr <| pp oAssign <| nl <| ?_
     refine lp (fun (s : (XTurneryref1_Rooms × Int)) => mkSt 99 [1, 3, 5, 6, 7] [(.vp (cXApi_Tree a0)), (.ownp (cXApi_Fault (XApi_Fault.mk 0 0))), (I (w64 ((a0.Nodes.length : Int) - 1))), (.ownp (cXTurneryref1_Rooms_SIIIIOe s.1)), (I s.2)]) (fun (s : XTurneryref1_Rooms) => mkSt 99 [1, 3, 5, 6] [(.vp (cXApi_Tree a0)), (.ownp (cXApi_Fault (XApi_Fault.mk 0 0))), (I (w64 ((a0.Nodes.length : Int) - 1))), (.ownp (cXTurneryref1_Rooms_SIIIIOe s))]) hF cutR' ?_ ?_
     · rintro ⟨y6, y7⟩ z1 hF
       replace hF : ref1_Names_L1 a0 y6 y7 = some z1 := hF
       unfold ref1_Names_L1 at hF
       refine mk ?_
       refine sq <| sr <| pp oMove <| pp oFA <| pp oLd <| pp oLenSl <| pp oLss <| nl <| ?_
       refine cd hF (fun hF => ?_) (fun hF => ?_)
       · refine sk <| qs <| sq <| bl <| rg <| pp oFAM <| rr oLdR <| pp oBSF <| ?_
         refine bb hF fun x4 h4 hF => ?_
         refine ww (oApp h4) <| pp oFAM <| ww oStR <| nl <| qb <| qs <| rg <| pp oMove <| pp oAdd <| pp oAssign <| nl <| ?_
         exact ln hF cutR'
       · refine ex <| qsE <| ?_
         exact lx hF cutR'
     · intro v1 hF
       refine qmk ?_
       refine qs <| sr <| pp oFA <| pp oLd <| pp oMove <| ?_
       refine bb hF fun x5 h5 hF => ?_
       refine pp (oIx h5) <| pp oFA <| pp oLd <| pp oAssign <| nl <| sq <| sr <| pp oAssign <| nl <| ?_
       refine lpR (fun (s : (XTurneryref1_Rooms × Int)) => mkSt 99 [1, 3, 5, 6, 8, 9] [(.vp (cXApi_Tree a0)), (.ownp (cXApi_Fault (XApi_Fault.mk 0 0))), (I (w64 ((a0.Nodes.length : Int) - 1))), (.ownp (cXTurneryref1_Rooms_SIIIIOe s.1)), (.sl ((x5.Kids).map cInt_i64)), (I s.2)]) (fun (s : XTurneryref1_Rooms) => mkSt 99 [1, 3, 5, 6] [(.vp (cXApi_Tree a0)), (.ownp (cXApi_Fault (XApi_Fault.mk 0 0))), (I (w64 ((a0.Nodes.length : Int) - 1))), (.ownp (cXTurneryref1_Rooms_SIIIIOe s))]) RR_ref1_Names hF cutR' ?_ ?_ ?_
       · rintro ⟨y14, y15⟩ z2 hF
         replace hF : ref1_Names_L2 a0 x5 y14 y15 = some z2 := hF
         unfold ref1_Names_L2 at hF
         refine mk ?_
         refine sq <| sr <| pp oMove <| pp oMove <| pp oLenSl <| pp oLss <| nl <| ?_
         refine cd hF (fun hF => ?_) (fun hF => ?_)
         · refine sk <| qs <| sq <| bl <| srD <| pp oFA <| pp oLd <| pp oMove <| pp oMove <| ?_
           refine bb hF fun x6 h6 hF => ?_
           refine pp (oIx h6) <| pp oLd <| ?_
           refine bb hF fun x7 h7 hF => ?_
           refine pp (oIx h7) <| pp oFA <| pp oLd <| pp oAssign <| nlD <| sq <| sr <| pp oMove <| pp oEqlS <| pp oMove <| pg ar oMove <| pg ar oEqlS <| pp oPick <| nl <| ?_
           refine cd hF (fun hF => ?_) (fun hF => ?_)
           · refine sr <| pp oMove <| pp oMove <| ?_
             refine bb hF fun x8 h8 hF => ?_
             refine pp (oIx h8) <| pp oLd <| ?_
             refine bb hF fun x9 h9 hF => ?_
             refine pp (oCall (T_ref1_fault h9)) <| pp oAssign <| ww oStR <| nl <| rt <| qsR <| qbR <| qsR <| ?_
             exact lr hF ⟨rfl, finT⟩
           · refine sk <| qs <| srD <| rr oLdRA <| pp oLdA <| pp oMove <| pp oMove <| ?_
             refine bb hF fun x10 h10 hF => ?_
             refine pp (oIx h10) <| pp oLd <| ?_
             refine bb hF fun x11 h11 hF => ?_
             refine ww (oCallT (T_ref1_Rooms_declare h11)) <| ww oStR <| nlD <| sr <| pp oFAM <| pp oFAM <| rr oLdR <| pp oNeq <| nl <| ?_
             refine cd hF (fun hF => ?_) (fun hF => ?_)
             · refine srD <| pp oFAM <| rr oLdRA <| pp oAssign <| ww oStR <| nlD <| rt <| qbR <| qsR <| ?_
               exact lr hF ⟨rfl, finT⟩
             · refine sk <| qb <| qs <| rg <| pp oMove <| pp oAdd <| pp oAssign <| nl <| ?_
               exact ln hF cutR'
         · refine ex <| qsE <| ?_
           exact lxR hF cutR'
       · intro v2 hF
         refine qmk ?_
         refine qs <| sr <| rr oLdRA <| pp oLdA <| pp oMove <| ?_
         refine bb hF fun x12 h12 hF => ?_
         refine ww (oCallT (dnE (T_ref1_Rooms_all (fu := fu) (nn := nn + 2) h12) (by omega))) <| ww oStR <| nl <| sq <| sr <| pp oFAM <| pp oFAM <| rr oLdR <| pp oNeq <| nl <| ?_
         refine cd hF (fun hF => ?_) (fun hF => ?_)
         · refine srD <| pp oFAM <| rr oLdRA <| pp oAssign <| ww oStR <| nlD <| rt <| qsR <| ?_
           obtain rfl := inj hF
           exact finT
         · refine sk <| qs <| sr <| pp oFAM <| rr oLdR <| pp oBuild <| pp oAssign <| ww oStR <| nl <| rt <| ?_
           obtain rfl := inj hF
           exact finT
       · rintro r1 hF ⟨xe, xs⟩ ⟨hxe, hfin⟩
         obtain rfl : xe = Exit.ret := hxe
         obtain rfl := inj hF
         refine qbR <| qsR <| ?_
         exact hfin

/-! turnery/turnerysame.Ints -/
noncomputable def same_Ints_L1 (a0 : (List Int)) (a1 : (List Int)) (y4 : Int) : Option (Lp Int (Br Unit Bool)) :=
 if (decide (y4 < (a0.length : Int))) then
 ((idx a0 y4).bind fun x1 =>
 (idx a1 y4).bind fun x2 =>
 if (x1 != x2) then
 (some (.out (.ret false)))
 else
 (some (.next (w64 (y4 + 1)))))
 else
 (some (.out (.brk ())))
noncomputable def same_Ints (a0 : (List Int)) (a1 : (List Int)) : Option Bool :=
 if ((a0.length : Int) != (a1.length : Int)) then
 (some false)
 else
 ((Loop (fun (s : Int) => same_Ints_L1 a0 a1 s) 0).bind (Br.go (fun _ =>
 some true) (fun r1 => some r1)))
abbrev R_same_Ints (r : Bool) : AV := (B r)
def RR_same_Ints (r : Bool) (x : Exit × St) : Prop := x.1 = .ret ∧ Fin cx [.tmp 4] [] (R_same_Ints r) [] x
set_option maxHeartbeats 4000000 in
theorem T_same_Ints {nn : Nat} {a0 : (List Int)} {a1 : (List Int)} {r : Bool} (hF : same_Ints a0 a1 = some r) : den cx (nn + 1) 8 [(.sl ((a0).map cInt_i64)), (.sl ((a1).map cInt_i64))] = some (R_same_Ints r, []) := by
 unfold same_Ints at hF
 refine fnA Try.func8 Try.ntmps8 (by exact spine) (sl := [0, 1]) ?_
 refine sr <| pp oAssign <| nl <| sq <| sr <| pp oMove <| pp oLenSl <| pp oMove <| pp oLenSl <| pp oNeq <| nl <| ?_
 refine cd hF (fun hF => ?_) (fun hF => ?_)
 · refine sr <| pp oAssign <| nl <| rt <| qsR <| ?_
   obtain rfl := inj hF
   exact fin1
 · refine sk <| qs <| sq <| sr <| pp oAssign <| nl <| ?_
   refine lpR (fun (s : Int) => mkSt 26 [0, 1, 5] [(.sl ((a0).map cInt_i64)), (.sl ((a1).map cInt_i64)), (I s)]) (fun (s : Unit) => mkSt 26 [] []) RR_same_Ints hF cutR' ?_ ?_ ?_
   · rintro y4 z1 hF
     replace hF : same_Ints_L1 a0 a1 y4 = some z1 := hF
     unfold same_Ints_L1 at hF
     refine mk ?_
     refine sq <| sr <| pp oMove <| pp oMove <| pp oLenSl <| pp oLss <| nl <| ?_
     refine cd hF (fun hF => ?_) (fun hF => ?_)
     · refine sk <| qs <| sq <| bl <| srD <| pp oMove <| pp oMove <| ?_
       refine bb hF fun x1 h1 hF => ?_
       refine pp (oIx h1) <| pp oLd <| pp oMove <| pp oMove <| ?_
       refine bb hF fun x2 h2 hF => ?_
       refine pp (oIx h2) <| pp oLd <| pp oNeq <| nlD <| ?_
       refine cd hF (fun hF => ?_) (fun hF => ?_)
       · refine sr <| pp oAssign <| nl <| rt <| qbR <| qsR <| ?_
         exact lr hF ⟨rfl, fin1⟩
       · refine sk <| qb <| qs <| rg <| pp oMove <| pp oAdd <| pp oAssign <| nl <| ?_
         exact ln hF cutR'
     · refine ex <| qsE <| ?_
       exact lxR hF cutR'
   · intro _ hF
     refine qmk ?_
     refine qs <| sr <| pp oAssign <| nl <| rt <| ?_
     obtain rfl := inj hF
     exact fin1
   · rintro r1 hF ⟨xe, xs⟩ ⟨hxe, hfin⟩
     obtain rfl : xe = Exit.ret := hxe
     obtain rfl := inj hF
     refine qbR <| qsR <| ?_
     exact hfin

/-! turnery/turnerylaw1.ScopeSays -/

noncomputable def law1_ScopeSays (fu : Nat) (a0 : XApi_Tree) : Option Bool :=
 if (decide (700 < (a0.Nodes.length : Int))) then
 (some true)
 else
 ((scope_Names fu a0).bind fun x1 =>
 (ref1_Names fu a0).bind fun x2 =>
 (if ((x1.2.Code == x2.2.Code) && ((x1.2.At == x2.2.At) && true)) then
 ((same_Ints x1.1 x2.1).bind fun x3 =>
 some x3)
 else
 (some false)).bind fun p1 =>
 some p1)
abbrev R_law1_ScopeSays (r : Bool) : AV := (B r)
set_option maxHeartbeats 4000000 in
theorem T_law1_ScopeSays {fu nn : Nat} {a0 : XApi_Tree} {r : Bool} (hF : law1_ScopeSays fu a0 = some r) : den cx (fu + nn + 7) 3 [(.agg (cXApi_Tree a0))] = some (R_law1_ScopeSays r, []) := by
 unfold law1_ScopeSays at hF
 refine fnA Try.func3 Try.ntmps3 (by exact spine) (sl := [0]) ?_
 refine sr <| pp oBoxF <| pp oAssign <| nl <| sq <| sr <| pp oFA <| pp oLd <| pp oLenSl <| pp oGtr <| nl <| ?_
 refine cd hF (fun hF => ?_) (fun hF => ?_)
 · refine sr <| pp oAssign <| nl <| rt <| qsR <| ?_
   obtain rfl := inj hF
   exact fin1
 · refine sk <| qs <| sr <| pp oLdA <| ?_
   refine bb hF fun x1 h1 hF => ?_
   refine pp (oCallZ (dnE (T_scope_Names (fu := fu) (nn := nn + 0) h1) (by omega))) <| pp oMove <| pp oExt <| pp oExt <| ww oAlloc <| pp oAssign <| ww oStF <| nl <| sr <| pp oLdA <| ?_
   refine bb hF fun x2 h2 hF => ?_
   refine pp (oCallZ (dnE (T_ref1_Names (fu := fu) (nn := nn + 0) h2) (by omega))) <| pp oMove <| pp oExt <| pp oExt <| ww oAlloc <| pp oAssign <| ww oStF <| nl <| ?_
   refine srC (fun (s : Bool) => mkSt 29 [2] [(B s)]) hF (fun z1 hF => ?_) (fun p1 hF => ?_)
   · refine pp oLdA <| pp oLdA <| pp (oStq (eq27_eql ..)) <| pp oMove <| ?_
     refine spl (d := 24) hF (fun hF => ?_) (fun hF => ?_)
     · refine pt ar oMove <| pt ar oMove <| ?_
       refine bb hF fun x3 h3 hF => ?_
       refine pt ar (oCall (T_same_Ints h3)) <| pp oPickT <| pp oAssign <| ?_
       obtain rfl := inj hF
       exact nlC cutR'
     · refine no fun u1 k1 hk1 => ?_
       refine no fun u2 k2 hk2 => ?_
       refine no fun u3 k3 hk3 => ?_
       refine pp oPickF <| pp oAssign <| ?_
       obtain rfl := inj hF
       exact nlC cutR'
   · refine mk ?_
     refine rt <| ?_
     obtain rfl := inj hF
     exact fin1

end Go.Ab
