/-
  Functions of the program as functions on plain data (written by gen3.py).
-/
import Derived.Test.YtfciindiplokgaaDoorAbGen6
namespace Go.Ab
open Go Go.Proofs
noncomputable def law2_RunFlow_L3 (x3 : ((List (List Int)) × XApi_Outcome × XApi_Fault)) (y8 : Int) (x15 : (List Int)) (y33 : Int) (y34 : Int) : Option (Lp (Int × Int) Int) :=
 if (decide (y34 < (x15.length : Int))) then
 ((idx x3.1 y8).bind fun x16 =>
 (idx x15 y34).bind fun x17 =>
 (idx x16 x17).bind fun x18 =>
 some (.next ((w64 (y33 + x18)), (w64 (y34 + 1)))))
 else
 (some (.out y33))
noncomputable def law2_RunFlow_J1 (a0 : XApi_Unit) (x3 : ((List (List Int)) × XApi_Outcome × XApi_Fault)) (y8 : Int) (y19 : Int) (y20 : Int) : Option (Lp (Int × Int) (Br Int Bool)) :=
 (idx a0.Funcs y8).bind fun x14 =>
 (ref2_Ahead x14 y19).bind fun x15 =>
 (Loop (fun (s : (Int × Int)) => law2_RunFlow_L3 x3 y8 x15 s.1 s.2) (0, 0)).bind fun v1 =>
 (if (decide (0 < y19)) then
 ((idx x3.1 y8).bind fun x19 =>
 (idx x19 y19).bind fun x20 =>
 some (decide (v1 < x20)))
 else
 (some false)).bind fun p1 =>
 if p1 then
 (some (.out (.ret false)))
 else
 (some (.next (y20, (w64 (y19 + 1)))))
noncomputable def law2_RunFlow_L2 (a0 : XApi_Unit) (a2 : Int) (x3 : ((List (List Int)) × XApi_Outcome × XApi_Fault)) (y8 : Int) (y18 : Int) (y19 : Int) : Option (Lp (Int × Int) (Br Int Bool)) :=
 (idx x3.1 y8).bind fun x8 =>
 if (decide (y19 < (x8.length : Int))) then
 ((idx x3.1 y8).bind fun x9 =>
 (idx x9 y19).bind fun x10 =>
 (law2_in x10 0 (w64 (a2 + 1))).bind fun x11 =>
 if (!x11) then
 (some (.out (.ret false)))
 else
 ((idx a0.Funcs y8).bind fun x12 =>
 (idx x12.Blocks y19).bind fun x13 =>
 if ((x13.End.To.length : Int) == 0) then
 ((idx x3.1 y8).bind fun x21 =>
 (idx x21 y19).bind fun x22 =>
 law2_RunFlow_J1 a0 x3 y8 y19 (w64 (y18 + x22)))
 else
 (law2_RunFlow_J1 a0 x3 y8 y19 y18)))
 else
 (some (.out (.brk y18)))
noncomputable def law2_RunFlow_L1 (a0 : XApi_Unit) (a2 : Int) (x3 : ((List (List Int)) × XApi_Outcome × XApi_Fault)) (y7 : Int) (y8 : Int) : Option (Lp (Int × Int) (Br Int Bool)) :=
 if (decide (y8 < (x3.1.length : Int))) then
 ((idx x3.1 y8).bind fun x4 =>
 (idx a0.Funcs y8).bind fun x5 =>
 if ((x4.length : Int) != (x5.Blocks.length : Int)) then
 (some (.out (.ret false)))
 else
 ((idx x3.1 y8).bind fun x6 =>
 (idx x6 0).bind fun x7 =>
 (Loop (fun (s : (Int × Int)) => law2_RunFlow_L2 a0 a2 x3 y8 s.1 s.2) (0, 0)).bind (Br.go (fun v2 =>
 if (decide (x7 < 0)) then
 (some (.out (.ret false)))
 else
 (if (if (x3.2.1.State == 0) then (x7 != v2) else false) then
 (some (.out (.ret false)))
 else
 (some (.next ((w64 ((w64 (y7 + x7)) - v2)), (w64 (y8 + 1))))))) (fun r1 => some (.out (.ret r1))))))
 else
 (some (.out (.brk y7)))
noncomputable def law2_RunFlow (a0 : XApi_Unit) (a1 : (List Int)) (a2 : Int) : Option Bool :=
 (law2_runFact).bind fun x1 =>
 if (!x1) then
 (some false)
 else
 ((law2_in a2 0 2000).bind fun x2 =>
 if (!x2) then
 (some true)
 else
 ((run_Counts a0 a1 a2).bind fun x3 =>
 if (x3.2.2.Code != 0) then
 (some ((x3.1.length : Int) == 0))
 else
 (if ((x3.1.length : Int) != (a0.Funcs.length : Int)) then
 (some false)
 else
 ((Loop (fun (s : (Int × Int)) => law2_RunFlow_L1 a0 a2 x3 s.1 s.2) (0, 0)).bind (Br.go (fun v3 =>
 (law2_in v3 (-30) 30).bind fun x23 =>
 some (if x23 then (if (x3.2.1.State != 0) then true else (v3 == 0)) else false)) (fun r2 => some r2))))))
abbrev R_law2_RunFlow (r : Bool) : AV := (B r)
def RR_law2_RunFlow (r : Bool) (x : Exit × St) : Prop := x.1 = .ret ∧ Fin cx [.tmp 6] [] (R_law2_RunFlow r) [] x
set_option maxHeartbeats 4000000 in
theorem T_law2_RunFlow {nn : Nat} {a0 : XApi_Unit} {a1 : (List Int)} {a2 : Int} {r : Bool} (hF : law2_RunFlow a0 a1 a2 = some r) : den cx (nn + 12) 5 [(.agg (cXApi_Unit a0)), (.sl ((a1).map cInt_i64)), (I a2)] = some (R_law2_RunFlow r, []) := by
 unfold law2_RunFlow at hF
 refine fnA Tryd.func5 Tryd.ntmps5 (by exact spine) (sl := [0, 1, 2]) ?_
 refine sr <| pp oBoxF <| pp oAssign <| nl <| sr <| ?_
 refine bb hF fun x1 h1 hF => ?_
 refine pp (oCallZ (T_law2_runFact h1)) <| pp oAssign <| nl <| sq <| sr <| pp oMove <| pp oNot <| nl <| ?_
 refine cd hF (fun hF => ?_) (fun hF => ?_)
 · refine sr <| pp oAssign <| nl <| rt <| qsR <| ?_
   obtain rfl := inj hF
   exact fin1
 · refine sk <| qs <| sq <| sr <| pp oMove <| ?_
   refine bb hF fun x2 h2 hF => ?_
   refine pp (oCallZ (T_law2_in h2)) <| pp oNot <| nl <| ?_
   refine cd hF (fun hF => ?_) (fun hF => ?_)
   · refine sr <| pp oAssign <| nl <| rt <| qsR <| ?_
     obtain rfl := inj hF
     exact fin1
   · refine sk <| qs <| sr <| pp oLdA <| pp oMove <| pp oMove <| ?_
     refine bb hF fun x3 h3 hF => ?_
     refine pp (oCallZ (T_run_Counts h3)) <| pp oMove <| pp oExt <| pp oExt <| pp oExt <| ww oAlloc <| ww oAlloc <| pp oAssign <| ww oStF <| ww oStF <| nl <| sq <| sr <| pp oFA <| ?_
     refine pp oLd <| pp oNeq <| nl <| ?_
     refine cd hF (fun hF => ?_) (fun hF => ?_)
     · refine sr <| pp oMove <| pp oLenSl <| pp oEql <| pp oAssign <| nl <| rt <| qsR <| ?_
       obtain rfl := inj hF
       exact fin1
     · refine sk <| qs <| sq <| sr <| pp oMove <| pp oLenSl <| pp oFA <| pp oLd <| pp oLenSl <| pp oNeq <| nl <| ?_
       refine cd hF (fun hF => ?_) (fun hF => ?_)
       · refine sr <| pp oAssign <| nl <| rt <| qsR <| ?_
         obtain rfl := inj hF
         exact fin1
       · refine sk <| qs <| sr <| pp oAssign <| nl <| sq <| sr <| pp oAssign <| nl <| ?_
         refine lpR (fun (s : (Int × Int)) => mkSt 178 [2, 3, 8, 9, 11, 12] [(I a2), (.vp (cXApi_Unit a0)), (.sl ((x3.1).map cs_cInt_i64)), (.vp (cXApi_Outcome x3.2.1)), (I s.1), (I s.2)]) (fun (s : Int) => mkSt 178 [9, 11] [(.vp (cXApi_Outcome x3.2.1)), (I s)]) RR_law2_RunFlow hF cutR' ?_ ?_ ?_
         · rintro ⟨y7, y8⟩ z1 hF
           replace hF : law2_RunFlow_L1 a0 a2 x3 y7 y8 = some z1 := hF
           unfold law2_RunFlow_L1 at hF
           refine mk ?_
           refine sq <| sr <| pp oMove <| pp oMove <| pp oLenSl <| pp oLss <| nl <| ?_
           refine cd hF (fun hF => ?_) (fun hF => ?_)
           · refine sk <| qs <| sq <| bl <| sq <| srD <| pp oMove <| pp oMove <| ?_
             refine bb hF fun x4 h4 hF => ?_
             refine pp (oIx h4) <| pp oLd <| pp oLenSl <| pp oFA <| pp oLd <| pp oMove <| ?_
             refine bb hF fun x5 h5 hF => ?_
             refine pp (oIx h5) <| pp oFA <| pp oLd <| pp oLenSl <| pp oNeq <| nlD <| ?_
             refine cd hF (fun hF => ?_) (fun hF => ?_)
             · refine sr <| pp oAssign <| nl <| rt <| qsR <| qbR <| qsR <| ?_
               exact lr hF ⟨rfl, fin1⟩
             · refine sk <| qs <| sr <| pp oMove <| pp oMove <| ?_
               refine bb hF fun x6 h6 hF => ?_
               refine pp (oIx h6) <| pp oLd <| ?_
               refine bb hF fun x7 h7 hF => ?_
               refine pp (oIx h7) <| pp oLd <| pp oAssign <| nl <| sr <| pp oAssign <| nl <| sq <| sr <| pp oAssign <| nl <| ?_
               refine lpR (fun (s : (Int × Int)) => mkSt 178 [2, 3, 8, 9, 11, 12, 13, 14, 15] [(I a2), (.vp (cXApi_Unit a0)), (.sl ((x3.1).map cs_cInt_i64)), (.vp (cXApi_Outcome x3.2.1)), (I y7), (I y8), (I x7), (I s.1), (I s.2)]) (fun (s : Int) => mkSt 178 [2, 3, 8, 9, 11, 12, 13, 14] [(I a2), (.vp (cXApi_Unit a0)), (.sl ((x3.1).map cs_cInt_i64)), (.vp (cXApi_Outcome x3.2.1)), (I y7), (I y8), (I x7), (I s)]) RR_law2_RunFlow hF cutR' ?_ ?_ ?_
               · rintro ⟨y18, y19⟩ z2 hF
                 replace hF : law2_RunFlow_L2 a0 a2 x3 y8 y18 y19 = some z2 := hF
                 unfold law2_RunFlow_L2 at hF
                 refine mk ?_
                 refine sq <| sr <| pp oMove <| pp oMove <| pp oMove <| ?_
                 refine bb hF fun x8 h8 hF => ?_
                 refine pp (oIx h8) <| pp oLd <| pp oLenSl <| pp oLss <| nl <| ?_
                 refine cd hF (fun hF => ?_) (fun hF => ?_)
                 · refine sk <| qs <| sq <| bl <| sq <| sr <| pp oMove <| pp oMove <| ?_
                   refine bb hF fun x9 h9 hF => ?_
                   refine pp (oIx h9) <| pp oLd <| pp oMove <| ?_
                   refine bb hF fun x10 h10 hF => ?_
                   refine pp (oIx h10) <| pp oLd <| pp oMove <| pp oAdd <| ?_
                   refine bb hF fun x11 h11 hF => ?_
                   refine pp (oCallZ (T_law2_in h11)) <| pp oNot <| nl <| ?_
                   refine cd hF (fun hF => ?_) (fun hF => ?_)
                   · refine sr <| pp oAssign <| nl <| rt <| qsR <| qbR <| qsR <| ?_
                     exact lr hF ⟨rfl, fin1⟩
                   · refine sk <| qs <| sr <| pp oFA <| pp oLd <| pp oMove <| ?_
                     refine bb hF fun x12 h12 hF => ?_
                     refine pp (oIx h12) <| pp oFA <| pp oLd <| pp oMove <| ?_
                     refine bb hF fun x13 h13 hF => ?_
                     refine pp (oIx h13) <| pp oFA <| pp oFA <| pp oLd <| pp oAssign <| nl <| ?_
                     refine sjn (r := z2) (fun (s : Int) => mkSt 178 [2, 3, 8, 9, 11, 12, 13, 14, 15] [(I a2), (.vp (cXApi_Unit a0)), (.sl ((x3.1).map cs_cInt_i64)), (.vp (cXApi_Outcome x3.2.1)), (I y7), (I y8), (I x7), (I s), (I y19)]) (fun s => law2_RunFlow_J1 a0 x3 y8 y19 s) ?_ ?_
                     · refine sr <| pp oMove <| pp oLenSl <| pp oEql <| nl <| ?_
                       refine cd hF (fun hF => ?_) (fun hF => ?_)
                       · refine rg <| pp oMove <| pp oMove <| pp oMove <| ?_
                         refine bb hF fun x21 h21 hF => ?_
                         refine pp (oIx h21) <| pp oLd <| pp oMove <| ?_
                         refine bb hF fun x22 h22 hF => ?_
                         refine pp (oIx h22) <| pp oLd <| pp oAdd <| pp oAssign <| nl <| ?_
                         exact qj (w64 (y18 + x22)) hF cutR'
                       · refine sk <| ?_
                         exact qj y18 hF cutR'
                     · rintro y20 hF
                       replace hF : law2_RunFlow_J1 a0 x3 y8 y19 y20 = some z2 := hF
                       unfold law2_RunFlow_J1 at hF
                       refine mk ?_
                       refine sr <| pp oFA <| pp oLd <| pp oMove <| ?_
                       refine bb hF fun x14 h14 hF => ?_
                       refine pp (oIx h14) <| pp oLdA <| pp oMove <| ?_
                       refine bb hF fun x15 h15 hF => ?_
                       refine pp (oCallZ (T_ref2_Ahead h15)) <| pp oAssign <| nl <| sr <| pp oAssign <| nl <| sq <| sr <| pp oAssign <| nl <| ?_
                       refine lp (fun (s : (Int × Int)) => mkSt 178 [2, 3, 8, 9, 11, 12, 13, 14, 15, 17, 18, 19] [(I a2), (.vp (cXApi_Unit a0)), (.sl ((x3.1).map cs_cInt_i64)), (.vp (cXApi_Outcome x3.2.1)), (I y7), (I y8), (I x7), (I y20), (I y19), (.sl ((x15).map cInt_i64)), (I s.1), (I s.2)]) (fun (s : Int) => mkSt 178 [2, 3, 8, 9, 11, 12, 13, 14, 15, 18] [(I a2), (.vp (cXApi_Unit a0)), (.sl ((x3.1).map cs_cInt_i64)), (.vp (cXApi_Outcome x3.2.1)), (I y7), (I y8), (I x7), (I y20), (I y19), (I s)]) hF cutR' ?_ ?_
                       · rintro ⟨y33, y34⟩ z3 hF
                         replace hF : law2_RunFlow_L3 x3 y8 x15 y33 y34 = some z3 := hF
                         unfold law2_RunFlow_L3 at hF
                         refine mk ?_
                         refine sq <| sr <| pp oMove <| pp oMove <| pp oLenSl <| pp oLss <| nl <| ?_
                         refine cd hF (fun hF => ?_) (fun hF => ?_)
                         · refine sk <| qs <| sq <| bl <| rgD <| pp oMove <| pp oMove <| pp oMove <| ?_
                           refine bb hF fun x16 h16 hF => ?_
                           refine pp (oIx h16) <| pp oLd <| pp oMove <| pp oMove <| ?_
                           refine bb hF fun x17 h17 hF => ?_
                           refine pp (oIx h17) <| pp oLd <| ?_
                           refine bb hF fun x18 h18 hF => ?_
                           refine pp (oIx h18) <| pp oLd <| pp oAdd <| pp oAssign <| nlD <| qb <| qs <| rg <| pp oMove <| pp oAdd <| pp oAssign <| nl <| ?_
                           exact ln hF cutR'
                         · refine ex <| qsE <| ?_
                           exact lx hF cutR'
                       · intro v1 hF
                         refine qmk ?_
                         refine qs <| ?_
                         refine srC (fun (s : Bool) => mkSt 178 [2, 3, 8, 9, 11, 12, 13, 14, 15, 151] [(I a2), (.vp (cXApi_Unit a0)), (.sl ((x3.1).map cs_cInt_i64)), (.vp (cXApi_Outcome x3.2.1)), (I y7), (I y8), (I x7), (I y20), (I y19), (B s)]) hF (fun z4 hF => ?_) (fun p1 hF => ?_)
                         · refine pp oMove <| pp oGtr <| pp oMove <| ?_
                           refine spl (d := 141) hF (fun hF => ?_) (fun hF => ?_)
                           · refine pt ar oMove <| pt ar oMove <| ?_
                             refine bb hF fun x19 h19 hF => ?_
                             refine pt ar (oIx h19) <| pt ar oLd <| pt ar oMove <| ?_
                             refine bb hF fun x20 h20 hF => ?_
                             refine pt ar (oIx h20) <| pt ar oLd <| pt ar oMove <| pt ar oGtr <| pp oPickT <| ?_
                             obtain rfl := inj hF
                             exact nlC cutR'
                           · refine no fun u1 k1 hk1 => ?_
                             refine no fun u2 k2 hk2 => ?_
                             refine no fun u3 k3 hk3 => ?_
                             refine no fun u4 k4 hk4 => ?_
                             refine no fun u5 k5 hk5 => ?_
                             refine no fun u6 k6 hk6 => ?_
                             refine no fun u7 k7 hk7 => ?_
                             refine no fun u8 k8 hk8 => ?_
                             refine no fun u9 k9 hk9 => ?_
                             refine pp oPickF <| ?_
                             obtain rfl := inj hF
                             exact nlC cutR'
                         · refine mk ?_
                           refine cd hF (fun hF => ?_) (fun hF => ?_)
                           · refine sr <| pp oAssign <| nl <| rt <| qbR <| qsR <| ?_
                             exact lr hF ⟨rfl, fin1⟩
                           · refine sk <| qb <| qs <| rg <| pp oMove <| pp oAdd <| pp oAssign <| nl <| ?_
                             exact ln hF cutR'
                 · refine ex <| qsE <| ?_
                   exact lxR hF cutR'
               · intro v2 hF
                 refine qmk ?_
                 refine qs <| sq <| sr <| pp oMove <| pp oLss <| nl <| ?_
                 refine cd hF (fun hF => ?_) (fun hF => ?_)
                 · refine sr <| pp oAssign <| nl <| rt <| qsR <| qbR <| qsR <| ?_
                   exact lr hF ⟨rfl, fin1⟩
                 · refine sk <| qs <| sq <| sr <| pp oFA <| pp oLd <| pp oEql <| pp oMove <| pg ar oMove <| pg ar oMove <| pg ar oNeq <| pp oPick <| nl <| ?_
                   refine cd hF (fun hF => ?_) (fun hF => ?_)
                   · refine sr <| pp oAssign <| nl <| rt <| qsR <| qbR <| qsR <| ?_
                     exact lr hF ⟨rfl, fin1⟩
                   · refine sk <| qs <| rg <| pp oMove <| pp oMove <| pp oAdd <| pp oMove <| pp oSub <| pp oAssign <| nl <| qb <| qs <| rg <| pp oMove <| ?_
                     refine pp oAdd <| pp oAssign <| nl <| ?_
                     exact ln hF cutR'
               · rintro r1 hF ⟨xe, xs⟩ ⟨hxe, hfin⟩
                 obtain rfl : xe = Exit.ret := hxe
                 refine qbR <| qsR <| qbR <| qsR <| ?_
                 exact lrr hF (by simp) ⟨rfl, hfin⟩
           · refine ex <| qsE <| ?_
             exact lxR hF cutR'
         · intro v3 hF
           refine qmk ?_
           refine qs <| sr <| pp oMove <| ?_
           refine bb hF fun x23 h23 hF => ?_
           refine pp (oCall (T_law2_in h23)) <| pp oMove <| pg ar oFA <| pg ar oLd <| pg ar oNeq <| pg ar oMove <| pg ar oMove <| pg ar oEql <| pg ar oPick <| pp oPick <| pp oAssign <| nl <| rt <| ?_
           obtain rfl := inj hF
           exact fin1
         · rintro r2 hF ⟨xe, xs⟩ ⟨hxe, hfin⟩
           obtain rfl : xe = Exit.ret := hxe
           obtain rfl := inj hF
           refine qbR <| qsR <| ?_
           exact hfin
noncomputable def law2_RunStraight_L3 (a0 : XApi_Unit) (x3 : ((List (List Int)) × XApi_Outcome × XApi_Fault)) (y4 : Int) (x8 : (List Int)) (y18 : Int) (y19 : Bool) (y20 : Int) : Option (Lp (Int × Bool × Int) (Int × Bool)) :=
 if (decide (y20 < (x8.length : Int))) then
 ((idx x3.1 y4).bind fun x9 =>
 (idx x8 y20).bind fun x10 =>
 (idx x9 x10).bind fun x11 =>
 (if y19 then
 ((idx a0.Funcs y4).bind fun x12 =>
 (idx x8 y20).bind fun x13 =>
 (idx x12.Blocks x13).bind fun x14 =>
 some (x14.End.Kind == 2))
 else
 (some false)).bind fun p1 =>
 some (.next ((w64 (y18 + x11)), p1, (w64 (y20 + 1)))))
 else
 (some (.out (y18, y19)))
noncomputable def law2_RunStraight_L2 (a0 : XApi_Unit) (x3 : ((List (List Int)) × XApi_Outcome × XApi_Fault)) (y4 : Int) (y9 : Int) : Option (Lp Int (Br Unit Bool)) :=
 (idx x3.1 y4).bind fun x6 =>
 if (decide (y9 < (x6.length : Int))) then
 ((idx a0.Funcs y4).bind fun x7 =>
 (ref2_Ahead x7 y9).bind fun x8 =>
 (Loop (fun (s : (Int × Bool × Int)) => law2_RunStraight_L3 a0 x3 y4 x8 s.1 s.2.1 s.2.2) (0, true, 0)).bind fun v1 =>
 (if v1.2 then
 ((idx x3.1 y4).bind fun x15 =>
 (idx x15 y9).bind fun x16 =>
 some (x16 != v1.1))
 else
 (some false)).bind fun p2 =>
 if p2 then
 (some (.out (.ret false)))
 else
 (some (.next (w64 (y9 + 1)))))
 else
 (some (.out (.brk ())))
noncomputable def law2_RunStraight_L1 (a0 : XApi_Unit) (x3 : ((List (List Int)) × XApi_Outcome × XApi_Fault)) (y4 : Int) : Option (Lp Int (Br Unit Bool)) :=
 if (decide (y4 < (x3.1.length : Int))) then
 ((idx x3.1 y4).bind fun x4 =>
 (idx a0.Funcs y4).bind fun x5 =>
 if ((x4.length : Int) != (x5.Blocks.length : Int)) then
 (some (.out (.ret false)))
 else
 ((Loop (fun (s : Int) => law2_RunStraight_L2 a0 x3 y4 s) 1).bind (Br.go (fun _ =>
 some (.next (w64 (y4 + 1)))) (fun r1 => some (.out (.ret r1))))))
 else
 (some (.out (.brk ())))
noncomputable def law2_RunStraight (a0 : XApi_Unit) (a1 : (List Int)) (a2 : Int) : Option Bool :=
 (law2_runFact).bind fun x1 =>
 if (!x1) then
 (some false)
 else
 ((law2_in a2 0 2000).bind fun x2 =>
 if (!x2) then
 (some true)
 else
 ((run_Counts a0 a1 a2).bind fun x3 =>
 if (x3.2.2.Code != 0) then
 (some ((x3.1.length : Int) == 0))
 else
 (if (if ((x3.1.length : Int) != (a0.Funcs.length : Int)) then true else (x3.2.1.State != 0)) then
 (some ((x3.1.length : Int) == (a0.Funcs.length : Int)))
 else
 ((Loop (fun (s : Int) => law2_RunStraight_L1 a0 x3 s) 0).bind (Br.go (fun _ =>
 some true) (fun r2 => some r2))))))
abbrev R_law2_RunStraight (r : Bool) : AV := (B r)
def RR_law2_RunStraight (r : Bool) (x : Exit × St) : Prop := x.1 = .ret ∧ Fin cx [.tmp 6] [] (R_law2_RunStraight r) [] x
set_option maxHeartbeats 4000000 in
theorem T_law2_RunStraight {nn : Nat} {a0 : XApi_Unit} {a1 : (List Int)} {a2 : Int} {r : Bool} (hF : law2_RunStraight a0 a1 a2 = some r) : den cx (nn + 12) 6 [(.agg (cXApi_Unit a0)), (.sl ((a1).map cInt_i64)), (I a2)] = some (R_law2_RunStraight r, []) := by
 unfold law2_RunStraight at hF
 refine fnA Tryd.func6 Tryd.ntmps6 (by exact spine) (sl := [0, 1, 2]) ?_
 refine sr <| pp oBoxF <| pp oAssign <| nl <| sr <| ?_
 refine bb hF fun x1 h1 hF => ?_
 refine pp (oCallZ (T_law2_runFact h1)) <| pp oAssign <| nl <| sq <| sr <| pp oMove <| pp oNot <| nl <| ?_
 refine cd hF (fun hF => ?_) (fun hF => ?_)
 · refine sr <| pp oAssign <| nl <| rt <| qsR <| ?_
   obtain rfl := inj hF
   exact fin1
 · refine sk <| qs <| sq <| sr <| pp oMove <| ?_
   refine bb hF fun x2 h2 hF => ?_
   refine pp (oCallZ (T_law2_in h2)) <| pp oNot <| nl <| ?_
   refine cd hF (fun hF => ?_) (fun hF => ?_)
   · refine sr <| pp oAssign <| nl <| rt <| qsR <| ?_
     obtain rfl := inj hF
     exact fin1
   · refine sk <| qs <| sr <| pp oLdA <| pp oMove <| pp oMove <| ?_
     refine bb hF fun x3 h3 hF => ?_
     refine pp (oCallZ (T_run_Counts h3)) <| pp oMove <| pp oExt <| pp oExt <| pp oExt <| ww oAlloc <| ww oAlloc <| pp oAssign <| ww oStF <| ww oStF <| nl <| sq <| sr <| pp oFA <| ?_
     refine pp oLd <| pp oNeq <| nl <| ?_
     refine cd hF (fun hF => ?_) (fun hF => ?_)
     · refine sr <| pp oMove <| pp oLenSl <| pp oEql <| pp oAssign <| nl <| rt <| qsR <| ?_
       obtain rfl := inj hF
       exact fin1
     · refine sk <| qs <| sq <| sr <| pp oMove <| pp oLenSl <| pp oFA <| pp oLd <| pp oLenSl <| pp oNeq <| pp oMove <| pg ar oFA <| pg ar oLd <| pg ar oNeq <| ?_
       refine pp oPick <| nl <| ?_
       refine cd hF (fun hF => ?_) (fun hF => ?_)
       · refine sr <| pp oMove <| pp oLenSl <| pp oFA <| pp oLd <| pp oLenSl <| pp oEql <| pp oAssign <| nl <| rt <| qsR <| ?_
         obtain rfl := inj hF
         exact fin1
       · refine sk <| qs <| sq <| sr <| pp oAssign <| nl <| ?_
         refine lpR (fun (s : Int) => mkSt 137 [3, 8, 11] [(.vp (cXApi_Unit a0)), (.sl ((x3.1).map cs_cInt_i64)), (I s)]) (fun (s : Unit) => mkSt 137 [] []) RR_law2_RunStraight hF cutR' ?_ ?_ ?_
         · rintro y4 z1 hF
           replace hF : law2_RunStraight_L1 a0 x3 y4 = some z1 := hF
           unfold law2_RunStraight_L1 at hF
           refine mk ?_
           refine sq <| sr <| pp oMove <| pp oMove <| pp oLenSl <| pp oLss <| nl <| ?_
           refine cd hF (fun hF => ?_) (fun hF => ?_)
           · refine sk <| qs <| sq <| bl <| sq <| srD <| pp oMove <| pp oMove <| ?_
             refine bb hF fun x4 h4 hF => ?_
             refine pp (oIx h4) <| pp oLd <| pp oLenSl <| pp oFA <| pp oLd <| pp oMove <| ?_
             refine bb hF fun x5 h5 hF => ?_
             refine pp (oIx h5) <| pp oFA <| pp oLd <| pp oLenSl <| pp oNeq <| nlD <| ?_
             refine cd hF (fun hF => ?_) (fun hF => ?_)
             · refine sr <| pp oAssign <| nl <| rt <| qsR <| qbR <| qsR <| ?_
               exact lr hF ⟨rfl, fin1⟩
             · refine sk <| qs <| sr <| pp oAssign <| nl <| ?_
               refine lpR (fun (s : Int) => mkSt 137 [3, 8, 11, 12] [(.vp (cXApi_Unit a0)), (.sl ((x3.1).map cs_cInt_i64)), (I y4), (I s)]) (fun (s : Unit) => mkSt 137 [3, 8, 11] [(.vp (cXApi_Unit a0)), (.sl ((x3.1).map cs_cInt_i64)), (I y4)]) RR_law2_RunStraight hF cutR' ?_ ?_ ?_
               · rintro y9 z2 hF
                 replace hF : law2_RunStraight_L2 a0 x3 y4 y9 = some z2 := hF
                 unfold law2_RunStraight_L2 at hF
                 refine mk ?_
                 refine sq <| sr <| pp oMove <| pp oMove <| pp oMove <| ?_
                 refine bb hF fun x6 h6 hF => ?_
                 refine pp (oIx h6) <| pp oLd <| pp oLenSl <| pp oLss <| nl <| ?_
                 refine cd hF (fun hF => ?_) (fun hF => ?_)
                 · refine sk <| qs <| sq <| bl <| sr <| pp oFA <| pp oLd <| pp oMove <| ?_
                   refine bb hF fun x7 h7 hF => ?_
                   refine pp (oIx h7) <| pp oLdA <| pp oMove <| ?_
                   refine bb hF fun x8 h8 hF => ?_
                   refine pp (oCallZ (T_ref2_Ahead h8)) <| pp oAssign <| nl <| sr <| pp oAssign <| nl <| sr <| pp oAssign <| nl <| sq <| sr <| pp oAssign <| nl <| ?_
                   refine lp (fun (s : (Int × Bool × Int)) => mkSt 137 [3, 8, 11, 12, 13, 14, 15, 16] [(.vp (cXApi_Unit a0)), (.sl ((x3.1).map cs_cInt_i64)), (I y4), (I y9), (.sl ((x8).map cInt_i64)), (I s.1), (B s.2.1), (I s.2.2)]) (fun (s : (Int × Bool)) => mkSt 137 [3, 8, 11, 12, 14, 15] [(.vp (cXApi_Unit a0)), (.sl ((x3.1).map cs_cInt_i64)), (I y4), (I y9), (I s.1), (B s.2)]) hF cutR' ?_ ?_
                   · rintro ⟨y18, y19, y20⟩ z3 hF
                     replace hF : law2_RunStraight_L3 a0 x3 y4 x8 y18 y19 y20 = some z3 := hF
                     unfold law2_RunStraight_L3 at hF
                     refine mk ?_
                     refine sq <| sr <| pp oMove <| pp oMove <| pp oLenSl <| pp oLss <| nl <| ?_
                     refine cd hF (fun hF => ?_) (fun hF => ?_)
                     · refine sk <| qs <| sq <| bl <| srD <| pp oMove <| pp oMove <| pp oMove <| ?_
                       refine bb hF fun x9 h9 hF => ?_
                       refine pp (oIx h9) <| pp oLd <| pp oMove <| pp oMove <| ?_
                       refine bb hF fun x10 h10 hF => ?_
                       refine pp (oIx h10) <| pp oLd <| ?_
                       refine bb hF fun x11 h11 hF => ?_
                       refine pp (oIx h11) <| pp oLd <| pp oAdd <| pp oAssign <| nlD <| ?_
                       refine rgC (fun (s : Bool) => mkSt 137 [3, 8, 11, 12, 13, 14, 15, 16] [(.vp (cXApi_Unit a0)), (.sl ((x3.1).map cs_cInt_i64)), (I y4), (I y9), (.sl ((x8).map cInt_i64)), (I (w64 (y18 + x11))), (B s), (I y20)]) hF (fun z4 hF => ?_) (fun p1 hF => ?_)
                       · refine pp oMove <| pp oMove <| ?_
                         refine spl (d := 108) hF (fun hF => ?_) (fun hF => ?_)
                         · refine pt ar oFA <| pt ar oLd <| pt ar oMove <| ?_
                           refine bb hF fun x12 h12 hF => ?_
                           refine pt ar (oIx h12) <| pt ar oFA <| pt ar oLd <| pt ar oMove <| pt ar oMove <| ?_
                           refine bb hF fun x13 h13 hF => ?_
                           refine pt ar (oIx h13) <| pt ar oLd <| ?_
                           refine bb hF fun x14 h14 hF => ?_
                           refine pt ar (oIx h14) <| pt ar oFA <| pt ar oFA <| pt ar oLd <| pt ar oEql <| pp oPickT <| pp oAssign <| ?_
                           obtain rfl := inj hF
                           exact nlCD cutR'
                         · refine no fun u1 k1 hk1 => ?_
                           refine no fun u2 k2 hk2 => ?_
                           refine no fun u3 k3 hk3 => ?_
                           refine no fun u4 k4 hk4 => ?_
                           refine no fun u5 k5 hk5 => ?_
                           refine no fun u6 k6 hk6 => ?_
                           refine no fun u7 k7 hk7 => ?_
                           refine no fun u8 k8 hk8 => ?_
                           refine no fun u9 k9 hk9 => ?_
                           refine no fun u10 k10 hk10 => ?_
                           refine no fun u11 k11 hk11 => ?_
                           refine no fun u12 k12 hk12 => ?_
                           refine no fun u13 k13 hk13 => ?_
                           refine no fun u14 k14 hk14 => ?_
                           refine no fun u15 k15 hk15 => ?_
                           refine pp oPickF <| pp oAssign <| ?_
                           obtain rfl := inj hF
                           exact nlCD (hf := rok) cutR'
                       · refine qmk ?_
                         refine qb <| qs <| rg <| pp oMove <| pp oAdd <| pp oAssign <| nl <| ?_
                         exact ln hF cutR'
                     · refine ex <| qsE <| ?_
                       exact lx hF cutR'
                   · intro v1 hF
                     refine qmk ?_
                     refine qs <| ?_
                     refine srC (fun (s : Bool) => mkSt 137 [3, 8, 11, 12, 136] [(.vp (cXApi_Unit a0)), (.sl ((x3.1).map cs_cInt_i64)), (I y4), (I y9), (B s)]) hF (fun z5 hF => ?_) (fun p2 hF => ?_)
                     · refine pp oMove <| pp oMove <| ?_
                       refine spl (d := 126) hF (fun hF => ?_) (fun hF => ?_)
                       · refine pt ar oMove <| pt ar oMove <| ?_
                         refine bb hF fun x15 h15 hF => ?_
                         refine pt ar (oIx h15) <| pt ar oLd <| pt ar oMove <| ?_
                         refine bb hF fun x16 h16 hF => ?_
                         refine pt ar (oIx h16) <| pt ar oLd <| pt ar oMove <| pt ar oNeq <| pp oPickT <| ?_
                         obtain rfl := inj hF
                         exact nlC cutR'
                       · refine no fun u16 k16 hk16 => ?_
                         refine no fun u17 k17 hk17 => ?_
                         refine no fun u18 k18 hk18 => ?_
                         refine no fun u19 k19 hk19 => ?_
                         refine no fun u20 k20 hk20 => ?_
                         refine no fun u21 k21 hk21 => ?_
                         refine no fun u22 k22 hk22 => ?_
                         refine no fun u23 k23 hk23 => ?_
                         refine no fun u24 k24 hk24 => ?_
                         refine pp oPickF <| ?_
                         obtain rfl := inj hF
                         exact nlC cutR'
                     · refine mk ?_
                       refine cd hF (fun hF => ?_) (fun hF => ?_)
                       · refine sr <| pp oAssign <| nl <| rt <| qbR <| qsR <| ?_
                         exact lr hF ⟨rfl, fin1⟩
                       · refine sk <| qb <| qs <| rg <| pp oMove <| pp oAdd <| pp oAssign <| nl <| ?_
                         exact ln hF cutR'
                 · refine ex <| qsE <| ?_
                   exact lxR hF cutR'
               · intro _ hF
                 refine qmk ?_
                 refine qb <| qs <| rg <| pp oMove <| pp oAdd <| pp oAssign <| nl <| ?_
                 exact ln hF cutR'
               · rintro r1 hF ⟨xe, xs⟩ ⟨hxe, hfin⟩
                 obtain rfl : xe = Exit.ret := hxe
                 refine qbR <| qbR <| qsR <| ?_
                 exact lrr hF (by simp) ⟨rfl, hfin⟩
           · refine ex <| qsE <| ?_
             exact lxR hF cutR'
         · intro _ hF
           refine qmk ?_
           refine qs <| sr <| pp oAssign <| nl <| rt <| ?_
           obtain rfl := inj hF
           exact fin1
         · rintro r2 hF ⟨xe, xs⟩ ⟨hxe, hfin⟩
           obtain rfl : xe = Exit.ret := hxe
           obtain rfl := inj hF
           refine qbR <| qsR <| ?_
           exact hfin
noncomputable def law2_RunPrints_L3 (a0 : XApi_Unit) (y7 : Int) (y15 : Int) (y23 : (List Bool)) (y24 : Int) : Option (Lp ((List Bool) × Int) (Br (List Bool) Bool)) :=
 (idx a0.Funcs y7).bind fun x8 =>
 (idx x8.Blocks y15).bind fun x9 =>
 if (decide (y24 < (x9.List.length : Int))) then
 ((idx a0.Funcs y7).bind fun x10 =>
 (idx x10.Blocks y15).bind fun x11 =>
 (idx x11.List y24).bind fun x12 =>
 (law2_in x12.Op 1 22).bind fun x13 =>
 if (!x13) then
 (some (.out (.ret false)))
 else
 ((idx y23 x12.Op).bind fun x14 =>
 some (.next ((List.set y23 ((x12.Op) : Int).toNat true), (w64 (y24 + 1))))))
 else
 (some (.out (.brk y23)))
noncomputable def law2_RunPrints_L2 (a0 : XApi_Unit) (y7 : Int) (y14 : (List Bool)) (y15 : Int) : Option (Lp ((List Bool) × Int) (Br (List Bool) Bool)) :=
 (idx a0.Funcs y7).bind fun x7 =>
 if (decide (y15 < (x7.Blocks.length : Int))) then
 ((Loop (fun (s : ((List Bool) × Int)) => law2_RunPrints_L3 a0 y7 y15 s.1 s.2) (y14, 0)).bind (Br.go (fun v1 =>
 some (.next (v1, (w64 (y15 + 1))))) (fun r1 => some (.out (.ret r1)))))
 else
 (some (.out (.brk y14)))
noncomputable def law2_RunPrints_L1 (a0 : XApi_Unit) (y6 : (List Bool)) (y7 : Int) : Option (Lp ((List Bool) × Int) (Br (List Bool) Bool)) :=
 if (decide (y7 < (a0.Funcs.length : Int))) then
 ((Loop (fun (s : ((List Bool) × Int)) => law2_RunPrints_L2 a0 y7 s.1 s.2) (y6, 0)).bind (Br.go (fun v2 =>
 some (.next (v2, (w64 (y7 + 1))))) (fun r2 => some (.out (.ret r2)))))
 else
 (some (.out (.brk y6)))
noncomputable def law2_RunPrints (a0 : XApi_Unit) (a1 : (List Int)) (a2 : (List Int)) (a3 : Int) : Option Bool :=
 (law2_runFact).bind fun x1 =>
 if (!x1) then
 (some false)
 else
 (((law2_in a3 0 2000).bind fun x2 =>
 if (!x2) then
 (some true)
 else
 ((law2_vast a0).bind fun x3 =>
 some (if (if x3 then true else (decide (30 < (a1.length : Int)))) then true else (decide (30 < (a2.length : Int)))))).bind fun p1 =>
 if p1 then
 (some true)
 else
 ((run_Do a0 a1 a3).bind fun x4 =>
 (run_Do a0 a2 a3).bind fun x5 =>
 if (x4.2.Code != 0) then
 (some ((x4.2.Code == x5.2.Code) && ((x4.2.At == x5.2.At) && true)))
 else
 ((mks 23 (false : Bool)).bind fun x6 =>
 (Loop (fun (s : ((List Bool) × Int)) => law2_RunPrints_L1 a0 s.1 s.2) (x6, 0)).bind (Br.go (fun v3 =>
 ((idx v3 22).bind fun x15 =>
 if (if (!x15) then (if (decide (0 < (x4.1.Out.length : Int))) then true else (x4.1.State == 5)) else false) then
 (some true)
 else
 ((idx v3 5).bind fun x16 =>
 if (!x16) then
 ((idx v3 6).bind fun x17 =>
 some (if (!x17) then (x4.1.State == 2) else false))
 else
 (some false))).bind fun p2 =>
 if p2 then
 (some false)
 else
 (((idx v3 18).bind fun x18 =>
 if (!x18) then
 ((idx v3 19).bind fun x19 =>
 if (if (!x19) then (x4.1.State == 3) else false) then
 (some true)
 else
 ((idx v3 20).bind fun x20 =>
 some (if (!x20) then (x4.1.State == 4) else false)))
 else
 ((idx v3 20).bind fun x21 =>
 some (if (!x21) then (x4.1.State == 4) else false))).bind fun p3 =>
 if p3 then
 (some false)
 else
 (((idx v3 21).bind fun x22 =>
 if x22 then
 (some true)
 else
 ((same_Outcomes x4.1 x5.1).bind fun x23 =>
 some x23)).bind fun p4 =>
 some p4))) (fun r3 => some r3)))))
abbrev R_law2_RunPrints (r : Bool) : AV := (B r)
def RR_law2_RunPrints (r : Bool) (x : Exit × St) : Prop := x.1 = .ret ∧ Fin cx [.tmp 8] [] (R_law2_RunPrints r) [] x
set_option maxHeartbeats 4000000 in
theorem T_law2_RunPrints {nn : Nat} {a0 : XApi_Unit} {a1 : (List Int)} {a2 : (List Int)} {a3 : Int} {r : Bool} (hF : law2_RunPrints a0 a1 a2 a3 = some r) : den cx (nn + 12) 7 [(.agg (cXApi_Unit a0)), (.sl ((a1).map cInt_i64)), (.sl ((a2).map cInt_i64)), (I a3)] = some (R_law2_RunPrints r, []) := by
 unfold law2_RunPrints at hF
 refine fnA Tryd.func7 Tryd.ntmps7 (by exact spine) (sl := [0, 1, 2, 3]) ?_
 refine sr <| pp oBoxF <| pp oAssign <| nl <| sr <| ?_
 refine bb hF fun x1 h1 hF => ?_
 refine pp (oCallZ (T_law2_runFact h1)) <| pp oAssign <| nl <| sq <| sr <| pp oMove <| pp oNot <| nl <| ?_
 refine cd hF (fun hF => ?_) (fun hF => ?_)
 · refine sr <| pp oAssign <| nl <| rt <| qsR <| ?_
   obtain rfl := inj hF
   exact fin1
 · refine sk <| qs <| sq <| ?_
   refine srC (fun (s : Bool) => mkSt 179 [1, 2, 3, 4, 38] [(.sl ((a1).map cInt_i64)), (.sl ((a2).map cInt_i64)), (I a3), (.vp (cXApi_Unit a0)), (B s)]) hF (fun z7 hF => ?_) (fun p1 hF => ?_)
   · refine pp oMove <| ?_
     refine bb hF fun x2 h2 hF => ?_
     refine pp (oCallZ (T_law2_in h2)) <| pp oNot <| pp oMove <| ?_
     refine spl (d := 25) hF (fun hF => ?_) (fun hF => ?_)
     · refine no fun u1 k1 hk1 => ?_
       refine no fun u2 k2 hk2 => ?_
       refine pp oPickT <| pp oMove <| ?_
       refine no fun u3 k3 hk3 => ?_
       refine no fun u4 k4 hk4 => ?_
       refine no fun u5 k5 hk5 => ?_
       refine pp oPickT <| pp oMove <| ?_
       refine no fun u6 k6 hk6 => ?_
       refine no fun u7 k7 hk7 => ?_
       refine no fun u8 k8 hk8 => ?_
       refine pp oPickT <| ?_
       obtain rfl := inj hF
       exact nlC cutR'
     · refine pt ar oLdA <| ?_
       refine bb hF fun x3 h3 hF => ?_
       refine pt ar (oCallZ (T_law2_vast h3)) <| pp oPickF <| pp oMove <| pg ar oMove <| pg ar oLenSl <| pg ar oGtr <| pp oPick <| pp oMove <| pg ar oMove <| pg ar oLenSl <| pg ar oGtr <| pp oPick <| ?_
       obtain rfl := inj hF
       exact nlC cutR'
   · refine mk ?_
     refine cd hF (fun hF => ?_) (fun hF => ?_)
     · refine sr <| pp oAssign <| nl <| rt <| qsR <| ?_
       obtain rfl := inj hF
       exact fin1
     · refine sk <| qs <| sr <| pp oLdA <| pp oMove <| pp oMove <| ?_
       refine bb hF fun x4 h4 hF => ?_
       refine pp (oCallZ (T_run_Do h4)) <| pp oMove <| pp oExt <| pp oExt <| ww oAlloc <| ww oAlloc <| ww oStF <| ww oStF <| nl <| sr <| pp oLdA <| pp oMove <| pp oMove <| ?_
       refine bb hF fun x5 h5 hF => ?_
       refine pp (oCallZ (T_run_Do h5)) <| pp oMove <| pp oExt <| pp oExt <| ww oAlloc <| ww oAlloc <| ww oStF <| ww oStF <| nl <| sq <| sr <| pp oFA <| pp oLd <| pp oNeq <| ?_
       refine nl <| ?_
       refine cd hF (fun hF => ?_) (fun hF => ?_)
       · refine sr <| pp oLdA <| pp oLdA <| pp (oStq (eq29_eql ..)) <| pp oAssign <| nl <| rt <| qsR <| ?_
         obtain rfl := inj hF
         exact fin1
       · refine sk <| qs <| sr <| ?_
         refine bb hF fun x6 h6 hF => ?_
         refine ww (oMake (c := cBool) h6 rfl) <| pp oAssign <| nl <| sq <| sr <| pp oAssign <| nl <| ?_
         refine lpR (fun (s : ((List Bool) × Int)) => mkSt 179 [4, 10, 12, 14, 15] [(.vp (cXApi_Unit a0)), (.vp (cXApi_Outcome x4.1)), (.vp (cXApi_Outcome x5.1)), (.own ((s.1).map cBool) (s.1).length), (I s.2)]) (fun (s : (List Bool)) => mkSt 179 [10, 12, 14] [(.vp (cXApi_Outcome x4.1)), (.vp (cXApi_Outcome x5.1)), (.own ((s).map cBool) (s).length)]) RR_law2_RunPrints hF cutR' ?_ ?_ ?_
         · rintro ⟨y6, y7⟩ z1 hF
           replace hF : law2_RunPrints_L1 a0 y6 y7 = some z1 := hF
           unfold law2_RunPrints_L1 at hF
           refine mk ?_
           refine sq <| sr <| pp oMove <| pp oFA <| pp oLd <| pp oLenSl <| pp oLss <| nl <| ?_
           refine cd hF (fun hF => ?_) (fun hF => ?_)
           · refine sk <| qs <| sq <| bl <| sr <| pp oAssign <| nl <| ?_
             refine lpR (fun (s : ((List Bool) × Int)) => mkSt 179 [4, 10, 12, 14, 15, 16] [(.vp (cXApi_Unit a0)), (.vp (cXApi_Outcome x4.1)), (.vp (cXApi_Outcome x5.1)), (.own ((s.1).map cBool) (s.1).length), (I y7), (I s.2)]) (fun (s : (List Bool)) => mkSt 179 [4, 10, 12, 14, 15] [(.vp (cXApi_Unit a0)), (.vp (cXApi_Outcome x4.1)), (.vp (cXApi_Outcome x5.1)), (.own ((s).map cBool) (s).length), (I y7)]) RR_law2_RunPrints hF cutR' ?_ ?_ ?_
             · rintro ⟨y14, y15⟩ z2 hF
               replace hF : law2_RunPrints_L2 a0 y7 y14 y15 = some z2 := hF
               unfold law2_RunPrints_L2 at hF
               refine mk ?_
               refine sq <| sr <| pp oMove <| pp oFA <| pp oLd <| pp oMove <| ?_
               refine bb hF fun x7 h7 hF => ?_
               refine pp (oIx h7) <| pp oFA <| pp oLd <| pp oLenSl <| pp oLss <| nl <| ?_
               refine cd hF (fun hF => ?_) (fun hF => ?_)
               · refine sk <| qs <| sq <| bl <| sr <| pp oAssign <| nl <| ?_
                 refine lpR (fun (s : ((List Bool) × Int)) => mkSt 179 [4, 10, 12, 14, 15, 16, 17] [(.vp (cXApi_Unit a0)), (.vp (cXApi_Outcome x4.1)), (.vp (cXApi_Outcome x5.1)), (.own ((s.1).map cBool) (s.1).length), (I y7), (I y15), (I s.2)]) (fun (s : (List Bool)) => mkSt 179 [4, 10, 12, 14, 15, 16] [(.vp (cXApi_Unit a0)), (.vp (cXApi_Outcome x4.1)), (.vp (cXApi_Outcome x5.1)), (.own ((s).map cBool) (s).length), (I y7), (I y15)]) RR_law2_RunPrints hF cutR' ?_ ?_ ?_
                 · rintro ⟨y23, y24⟩ z3 hF
                   replace hF : law2_RunPrints_L3 a0 y7 y15 y23 y24 = some z3 := hF
                   unfold law2_RunPrints_L3 at hF
                   refine mk ?_
                   refine sq <| sr <| pp oMove <| pp oFA <| pp oLd <| pp oMove <| ?_
                   refine bb hF fun x8 h8 hF => ?_
                   refine pp (oIx h8) <| pp oFA <| pp oLd <| pp oMove <| ?_
                   refine bb hF fun x9 h9 hF => ?_
                   refine pp (oIx h9) <| pp oFA <| pp oLd <| pp oLenSl <| pp oLss <| nl <| ?_
                   refine cd hF (fun hF => ?_) (fun hF => ?_)
                   · refine sk <| qs <| sq <| bl <| sr <| pp oFA <| pp oLd <| pp oMove <| ?_
                     refine bb hF fun x10 h10 hF => ?_
                     refine pp (oIx h10) <| pp oFA <| pp oLd <| pp oMove <| ?_
                     refine bb hF fun x11 h11 hF => ?_
                     refine pp (oIx h11) <| pp oFA <| pp oLd <| pp oMove <| ?_
                     refine bb hF fun x12 h12 hF => ?_
                     refine pp (oIx h12) <| pp oFA <| pp oLd <| pp oAssign <| nl <| sq <| sr <| pp oMove <| ?_
                     refine bb hF fun x13 h13 hF => ?_
                     refine pp (oCallZ (T_law2_in h13)) <| pp oNot <| nl <| ?_
                     refine cd hF (fun hF => ?_) (fun hF => ?_)
                     · refine sr <| pp oAssign <| nl <| rt <| qsR <| qbR <| qsR <| ?_
                       exact lr hF ⟨rfl, fin1⟩
                     · refine sk <| qs <| rg <| pp oMove <| pp oMove <| ?_
                       refine bb hF fun x14 h14 hF => ?_
                       refine rr (oIxM h14) <| ww (oStL (idx_nat h14) true) <| nl <| qb <| qs <| rg <| pp oMove <| pp oAdd <| pp oAssign <| nl <| ?_
                       exact ln hF cutR'
                   · refine ex <| qsE <| ?_
                     exact lxR hF cutR'
                 · intro v1 hF
                   refine qmk ?_
                   refine qb <| qs <| rg <| pp oMove <| pp oAdd <| pp oAssign <| nl <| ?_
                   exact ln hF cutR'
                 · rintro r1 hF ⟨xe, xs⟩ ⟨hxe, hfin⟩
                   obtain rfl : xe = Exit.ret := hxe
                   refine qbR <| qbR <| qsR <| ?_
                   exact lrr hF (by simp) ⟨rfl, hfin⟩
               · refine ex <| qsE <| ?_
                 exact lxR hF cutR'
             · intro v2 hF
               refine qmk ?_
               refine qb <| qs <| rg <| pp oMove <| pp oAdd <| pp oAssign <| nl <| ?_
               exact ln hF cutR'
             · rintro r2 hF ⟨xe, xs⟩ ⟨hxe, hfin⟩
               obtain rfl : xe = Exit.ret := hxe
               refine qbR <| qbR <| qsR <| ?_
               exact lrr hF (by simp) ⟨rfl, hfin⟩
           · refine ex <| qsE <| ?_
             exact lxR hF cutR'
         · intro v3 hF
           refine qmk ?_
           refine qs <| sq <| ?_
           refine srC (fun (s : Bool) => mkSt 179 [10, 12, 14, 144] [(.vp (cXApi_Outcome x4.1)), (.vp (cXApi_Outcome x5.1)), (.own ((v3).map cBool) (v3).length), (B s)]) hF (fun z6 hF => ?_) (fun p2 hF => ?_)
           · refine pp oMove <| ?_
             refine bb hF fun x15 h15 hF => ?_
             refine rr (oIxM h15) <| rr (oLdM (idx_nat h15)) <| pp oNot <| pp oMove <| pg ar oFA <| pg ar oLd <| pg ar oLenSl <| pg ar oGtr <| pg ar oMove <| pg ar oFA <| pg ar oLd <| pg ar oEql <| pg ar oPick <| pp oPick <| ?_
             refine pp oMove <| ?_
             refine spl (d := 128) hF (fun hF => ?_) (fun hF => ?_)
             · refine no fun u9 k9 hk9 => ?_
               refine no fun u10 k10 hk10 => ?_
               refine no fun u11 k11 hk11 => ?_
               refine no fun u12 k12 hk12 => ?_
               refine no fun u13 k13 hk13 => ?_
               refine no fun u14 k14 hk14 => ?_
               refine no fun u15 k15 hk15 => ?_
               refine no fun u16 k16 hk16 => ?_
               refine no fun u17 k17 hk17 => ?_
               refine no fun u18 k18 hk18 => ?_
               refine no fun u19 k19 hk19 => ?_
               refine no fun u20 k20 hk20 => ?_
               refine no fun u21 k21 hk21 => ?_
               refine no fun u22 k22 hk22 => ?_
               refine no fun u23 k23 hk23 => ?_
               refine pp oPickT <| ?_
               obtain rfl := inj hF
               exact nlC cutR'
             · refine pt ar oMove <| ?_
               refine bb hF fun x16 h16 hF => ?_
               refine rt_ ar (oIxM h16) <| rt_ ar (oLdM (idx_nat h16)) <| pt ar oNot <| pt ar oMove <| ?_
               refine splG (d := 133) hF (fun hF => ?_) (fun hF => ?_)
               · refine pt ar oMove <| ?_
                 refine bb hF fun x17 h17 hF => ?_
                 refine rt_ ar (oIxM h17) <| rt_ ar (oLdM (idx_nat h17)) <| pt ar oNot <| pt ar oPickT <| pt ar oMove <| pg ar oFA <| pg ar oLd <| pg ar oEql <| pt ar oPick <| pp oPickF <| ?_
                 obtain rfl := inj hF
                 exact nlC cutR'
               · refine no fun u24 k24 hk24 => ?_
                 refine no fun u25 k25 hk25 => ?_
                 refine no fun u26 k26 hk26 => ?_
                 refine no fun u27 k27 hk27 => ?_
                 refine pt ar oPickF <| pt ar oMove <| ?_
                 refine no fun u28 k28 hk28 => ?_
                 refine no fun u29 k29 hk29 => ?_
                 refine no fun u30 k30 hk30 => ?_
                 refine pt ar oPickF <| pp oPickF <| ?_
                 obtain rfl := inj hF
                 exact nlC cutR'
           · refine mk ?_
             refine cd hF (fun hF => ?_) (fun hF => ?_)
             · refine sr <| pp oAssign <| nl <| rt <| qsR <| ?_
               obtain rfl := inj hF
               exact fin1
             · refine sk <| qs <| sq <| ?_
               refine srC (fun (s : Bool) => mkSt 179 [10, 12, 14, 170] [(.vp (cXApi_Outcome x4.1)), (.vp (cXApi_Outcome x5.1)), (.own ((v3).map cBool) (v3).length), (B s)]) hF (fun z5 hF => ?_) (fun p3 hF => ?_)
               · refine pp oMove <| ?_
                 refine bb hF fun x18 h18 hF => ?_
                 refine rr (oIxM h18) <| rr (oLdM (idx_nat h18)) <| pp oNot <| pp oMove <| ?_
                 refine spl (d := 149) hF (fun hF => ?_) (fun hF => ?_)
                 · refine pt ar oMove <| ?_
                   refine bb hF fun x19 h19 hF => ?_
                   refine rt_ ar (oIxM h19) <| rt_ ar (oLdM (idx_nat h19)) <| pt ar oNot <| pp oPickT <| pp oMove <| pg ar oFA <| pg ar oLd <| pg ar oEql <| pp oPick <| pp oMove <| ?_
                   refine spl (d := 160) hF (fun hF => ?_) (fun hF => ?_)
                   · refine no fun u31 k31 hk31 => ?_
                     refine no fun u32 k32 hk32 => ?_
                     refine no fun u33 k33 hk33 => ?_
                     refine no fun u34 k34 hk34 => ?_
                     refine no fun u35 k35 hk35 => ?_
                     refine no fun u36 k36 hk36 => ?_
                     refine no fun u37 k37 hk37 => ?_
                     refine no fun u38 k38 hk38 => ?_
                     refine no fun u39 k39 hk39 => ?_
                     refine pp oPickT <| ?_
                     obtain rfl := inj hF
                     exact nlC cutR'
                   · refine pt ar oMove <| ?_
                     refine bb hF fun x20 h20 hF => ?_
                     refine rt_ ar (oIxM h20) <| rt_ ar (oLdM (idx_nat h20)) <| pt ar oNot <| pt ar oMove <| pg ar oFA <| pg ar oLd <| pg ar oEql <| pt ar oPick <| pp oPickF <| ?_
                     obtain rfl := inj hF
                     exact nlC cutR'
                 · refine no fun u40 k40 hk40 => ?_
                   refine no fun u41 k41 hk41 => ?_
                   refine no fun u42 k42 hk42 => ?_
                   refine no fun u43 k43 hk43 => ?_
                   refine pp oPickF <| pp oMove <| ?_
                   refine no fun u44 k44 hk44 => ?_
                   refine no fun u45 k45 hk45 => ?_
                   refine no fun u46 k46 hk46 => ?_
                   refine pp oPickF <| pp oMove <| pt ar oMove <| ?_
                   refine bb hF fun x21 h21 hF => ?_
                   refine rt_ ar (oIxM h21) <| rt_ ar (oLdM (idx_nat h21)) <| pt ar oNot <| pt ar oMove <| pg ar oFA <| pg ar oLd <| pg ar oEql <| pt ar oPick <| pp oPickF <| ?_
                   obtain rfl := inj hF
                   exact nlC cutR'
               · refine mk ?_
                 refine cd hF (fun hF => ?_) (fun hF => ?_)
                 · refine sr <| pp oAssign <| nl <| rt <| qsR <| ?_
                   obtain rfl := inj hF
                   exact fin1
                 · refine sk <| qs <| ?_
                   refine srC (fun (s : Bool) => mkSt 179 [8] [(B s)]) hF (fun z4 hF => ?_) (fun p4 hF => ?_)
                   · refine pp oMove <| ?_
                     refine bb hF fun x22 h22 hF => ?_
                     refine rr (oIxM h22) <| rr (oLdM (idx_nat h22)) <| pp oMove <| ?_
                     refine spl (d := 174) hF (fun hF => ?_) (fun hF => ?_)
                     · refine no fun u47 k47 hk47 => ?_
                       refine no fun u48 k48 hk48 => ?_
                       refine no fun u49 k49 hk49 => ?_
                       refine pp oPickT <| pp oAssign <| ?_
                       obtain rfl := inj hF
                       exact nlC cutR'
                     · refine pt ar oLdA <| pt ar oLdA <| ?_
                       refine bb hF fun x23 h23 hF => ?_
                       refine pt ar (oCall (T_same_Outcomes h23)) <| pp oPickF <| pp oAssign <| ?_
                       obtain rfl := inj hF
                       exact nlC cutR'
                   · refine mk ?_
                     refine rt <| ?_
                     obtain rfl := inj hF
                     exact fin1
         · rintro r3 hF ⟨xe, xs⟩ ⟨hxe, hfin⟩
           obtain rfl : xe = Exit.ret := hxe
           obtain rfl := inj hF
           refine qbR <| qsR <| ?_
           exact hfin
end Go.Ab
