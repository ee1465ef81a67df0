/-
  Functions of the program as functions on plain data (written by gen3.py).
-/
import Derived.Test.YtfciindiplokgaaDoorAbGen4
namespace Go.Ab
open Go Go.Proofs
noncomputable def run_Do (a0 : XApi_Unit) (a1 : (List Int)) (a2 : Int) : Option (XApi_Outcome × XApi_Fault) :=
 (run_Counts a0 a1 a2).bind fun x1 =>
 some (x1.2.1, x1.2.2)
abbrev R_run_Do (r : (XApi_Outcome × XApi_Fault)) : AV := (.tup [(.agg (cXApi_Outcome_SIIOIe r.1)), (.agg (cXApi_Fault r.2))])
set_option maxHeartbeats 4000000 in
theorem T_run_Do {nn : Nat} {a0 : XApi_Unit} {a1 : (List Int)} {a2 : Int} {r : (XApi_Outcome × XApi_Fault)} (hF : run_Do a0 a1 a2 = some r) : den cx (nn + 10) 12 [(.agg (cXApi_Unit a0)), (.sl ((a1).map cInt_i64)), (I a2)] = some (R_run_Do r, []) := by
 unfold run_Do at hF
 refine fnA Tryd.func12 Tryd.ntmps12 (by exact spine) (sl := [0, 1, 2]) ?_
 refine sr <| pp oBoxF <| ww oAlloc <| ww oAlloc <| nl <| sr <| pp oLdA <| pp oMove <| pp oMove <| ?_
 refine bb hF fun x1 h1 hF => ?_
 refine ww (oCall (T_run_Counts h1)) <| pp oMove <| pp oExt <| pp oExt <| pp oExt <| ww oAlloc <| ww oAlloc <| pp oAssign <| ww oStR <| ww oStF <| nl <| srD <| rr oLdRA <| pp oLdA <| ?_
 refine ww oStR <| ww oStR <| nlD <| rt <| ?_
 obtain rfl := inj hF
 exact finT
noncomputable def same_Ints_L1 (a0 : (List Int)) (a1 : (List Int)) (y4 : Int) : Option (Lp Int (Br Unit Bool)) :=
 if (decide (y4 < (a0.length : Int))) then
 ((idx a0 y4).bind fun x1 =>
 (idx a1 y4).bind fun x2 =>
 if (x1 != x2) then
 (some (.out (.ret false)))
 else
 (some (.next (w64 (y4 + 1)))))
 else
 (some (.out (.brk ())))
noncomputable def same_Ints (a0 : (List Int)) (a1 : (List Int)) : Option Bool :=
 if ((a0.length : Int) != (a1.length : Int)) then
 (some false)
 else
 ((Loop (fun (s : Int) => same_Ints_L1 a0 a1 s) 0).bind (Br.go (fun _ =>
 some true) (fun r1 => some r1)))
abbrev R_same_Ints (r : Bool) : AV := (B r)
def RR_same_Ints (r : Bool) (x : Exit × St) : Prop := x.1 = .ret ∧ Fin cx [.tmp 4] [] (R_same_Ints r) [] x
set_option maxHeartbeats 4000000 in
theorem T_same_Ints {nn : Nat} {a0 : (List Int)} {a1 : (List Int)} {r : Bool} (hF : same_Ints a0 a1 = some r) : den cx (nn + 1) 18 [(.sl ((a0).map cInt_i64)), (.sl ((a1).map cInt_i64))] = some (R_same_Ints r, []) := by
 unfold same_Ints at hF
 refine fnA Tryd.func18 Tryd.ntmps18 (by exact spine) (sl := [0, 1]) ?_
 refine sr <| pp oAssign <| nl <| sq <| sr <| pp oMove <| pp oLenSl <| pp oMove <| pp oLenSl <| pp oNeq <| nl <| ?_
 refine cd hF (fun hF => ?_) (fun hF => ?_)
 · refine sr <| pp oAssign <| nl <| rt <| qsR <| ?_
   obtain rfl := inj hF
   exact fin1
 · refine sk <| qs <| sq <| sr <| pp oAssign <| nl <| ?_
   refine lpR (fun (s : Int) => mkSt 26 [0, 1, 5] [(.sl ((a0).map cInt_i64)), (.sl ((a1).map cInt_i64)), (I s)]) (fun (s : Unit) => mkSt 26 [] []) RR_same_Ints hF cutR' ?_ ?_ ?_
   · rintro y4 z1 hF
     replace hF : same_Ints_L1 a0 a1 y4 = some z1 := hF
     unfold same_Ints_L1 at hF
     refine mk ?_
     refine sq <| sr <| pp oMove <| pp oMove <| pp oLenSl <| pp oLss <| nl <| ?_
     refine cd hF (fun hF => ?_) (fun hF => ?_)
     · refine sk <| qs <| sq <| bl <| srD <| pp oMove <| pp oMove <| ?_
       refine bb hF fun x1 h1 hF => ?_
       refine pp (oIx h1) <| pp oLd <| pp oMove <| pp oMove <| ?_
       refine bb hF fun x2 h2 hF => ?_
       refine pp (oIx h2) <| pp oLd <| pp oNeq <| nlD <| ?_
       refine cd hF (fun hF => ?_) (fun hF => ?_)
       · refine sr <| pp oAssign <| nl <| rt <| qbR <| qsR <| ?_
         exact lr hF ⟨rfl, fin1⟩
       · refine sk <| qb <| qs <| rg <| pp oMove <| pp oAdd <| pp oAssign <| nl <| ?_
         exact ln hF cutR'
     · refine ex <| qsE <| ?_
       exact lxR hF cutR'
   · intro _ hF
     refine qmk ?_
     refine qs <| sr <| pp oAssign <| nl <| rt <| ?_
     obtain rfl := inj hF
     exact fin1
   · rintro r1 hF ⟨xe, xs⟩ ⟨hxe, hfin⟩
     obtain rfl : xe = Exit.ret := hxe
     obtain rfl := inj hF
     refine qbR <| qsR <| ?_
     exact hfin
noncomputable def same_Comes (a0 : XApi_Outcome) (a1 : XApi_Outcome) : Option Bool :=
 (if (if (a0.State == a1.State) then (a0.Value == a1.Value) else false) then
 ((same_Ints a0.Out a1.Out).bind fun x1 =>
 some x1)
 else
 (some false)).bind fun p1 =>
 some p1
abbrev R_same_Comes (r : Bool) : AV := (B r)
set_option maxHeartbeats 4000000 in
theorem T_same_Comes {nn : Nat} {a0 : XApi_Outcome} {a1 : XApi_Outcome} {r : Bool} (hF : same_Comes a0 a1 = some r) : den cx (nn + 2) 35 [(.agg (cXApi_Outcome a0)), (.agg (cXApi_Outcome a1))] = some (R_same_Comes r, []) := by
 unfold same_Comes at hF
 refine fnA Tryd.func35 Tryd.ntmps35 (by exact spine) (sl := [0, 1]) ?_
 refine sr <| pp oBoxF <| pp oBoxF <| pp oAssign <| nl <| ?_
 refine srC (fun (s : Bool) => mkSt 24 [4] [(B s)]) hF (fun z1 hF => ?_) (fun p1 hF => ?_)
 · refine pp oFA <| pp oLd <| pp oFA <| pp oLd <| pp oEql <| pp oMove <| pg ar oFA <| pg ar oLd <| pg ar oFA <| pg ar oLd <| pg ar oEql <| pp oPick <| pp oMove <| ?_
   refine spl (d := 17) hF (fun hF => ?_) (fun hF => ?_)
   · refine pt ar oFA <| pt ar oLd <| pt ar oFA <| pt ar oLd <| ?_
     refine bb hF fun x1 h1 hF => ?_
     refine pt ar (oCall (T_same_Ints h1)) <| pp oPickT <| pp oAssign <| ?_
     obtain rfl := inj hF
     exact nlC cutR'
   · refine no fun u1 k1 hk1 => ?_
     refine no fun u2 k2 hk2 => ?_
     refine no fun u3 k3 hk3 => ?_
     refine no fun u4 k4 hk4 => ?_
     refine no fun u5 k5 hk5 => ?_
     refine pp oPickF <| pp oAssign <| ?_
     obtain rfl := inj hF
     exact nlC cutR'
 · refine mk ?_
   refine rt <| ?_
   obtain rfl := inj hF
   exact fin1
noncomputable def same_Outcomes (a0 : XApi_Outcome) (a1 : XApi_Outcome) : Option Bool :=
 (same_Comes a0 a1).bind fun x1 =>
 some (if x1 then (a0.Steps == a1.Steps) else false)
abbrev R_same_Outcomes (r : Bool) : AV := (B r)
set_option maxHeartbeats 4000000 in
theorem T_same_Outcomes {nn : Nat} {a0 : XApi_Outcome} {a1 : XApi_Outcome} {r : Bool} (hF : same_Outcomes a0 a1 = some r) : den cx (nn + 3) 14 [(.agg (cXApi_Outcome a0)), (.agg (cXApi_Outcome a1))] = some (R_same_Outcomes r, []) := by
 unfold same_Outcomes at hF
 refine fnA Tryd.func14 Tryd.ntmps14 (by exact spine) (sl := [0, 1]) ?_
 refine sr <| pp oBoxF <| pp oBoxF <| pp oAssign <| nl <| sr <| pp oLdA <| pp oLdA <| ?_
 refine bb hF fun x1 h1 hF => ?_
 refine pp (oCall (T_same_Comes h1)) <| pp oMove <| pg ar oFA <| pg ar oLd <| pg ar oFA <| pg ar oLd <| pg ar oEql <| pp oPick <| pp oAssign <| nl <| rt <| ?_
 obtain rfl := inj hF
 exact fin1
noncomputable def ref2_Run_enter_L1 (a3 : (List Int)) (y8 : XTurneryref2_Run) (y9 : XTurneryref2_Run) (y10 : (List Int)) (y11 : Int) : Option (Lp (XTurneryref2_Run × XTurneryref2_Run × (List Int) × Int) (XTurneryref2_Run × XTurneryref2_Run × (List Int))) :=
 (stk (y8.Frames.1, y8.Frames.2)).bind fun _ =>
 (stk (y9.Frames.1, y9.Frames.2)).bind fun _ =>
 if (decide (y11 < (a3.length : Int))) then
 ((idx a3 y11).bind fun x3 =>
 (idx y10 y11).bind fun x4 =>
 some (.next ((XTurneryref2_Run.mk y8.U y8.Mem y8.Input y8.Out (y8.Frames.1, y8.Frames.2) y8.Counts y8.State y8.Value y8.Steps), (XTurneryref2_Run.mk y9.U y9.Mem y9.Input y9.Out (y9.Frames.1, y9.Frames.2) y9.Counts y9.State y9.Value y9.Steps), (List.set y10 ((y11) : Int).toNat x3), (w64 (y11 + 1)))))
 else
 (some (.out ((XTurneryref2_Run.mk y8.U y8.Mem y8.Input y8.Out (y8.Frames.1, y8.Frames.2) y8.Counts y8.State y8.Value y8.Steps), (XTurneryref2_Run.mk y9.U y9.Mem y9.Input y9.Out (y9.Frames.1, y9.Frames.2) y9.Counts y9.State y9.Value y9.Steps), y10)))
noncomputable def ref2_Run_enter (a0 : XTurneryref2_Run) (a1 : Int) (a2 : Int) (a3 : (List Int)) : Option XTurneryref2_Run :=
 (stk (a0.Frames.1, a0.Frames.2)).bind fun _ =>
 (idx a0.U.Funcs a1).bind fun x1 =>
 (mks x1.Regs (0 : Int)).bind fun x2 =>
 (Loop (fun (s : (XTurneryref2_Run × XTurneryref2_Run × (List Int) × Int)) => ref2_Run_enter_L1 a3 s.1 s.2.1 s.2.2.1 s.2.2.2) ((XTurneryref2_Run.mk a0.U a0.Mem a0.Input a0.Out (a0.Frames.1, a0.Frames.2) a0.Counts a0.State a0.Value a0.Steps), (XTurneryref2_Run.mk (XApi_Unit.mk [] []) [] [] [] ([], 0) [] 0 0 0), x2, 0)).bind fun v1 =>
 (stk (v1.1.Frames.1, v1.1.Frames.2)).bind fun _ =>
 (stk (v1.2.1.Frames.1, v1.2.1.Frames.2)).bind fun _ =>
 (app (List.take v1.1.Frames.2 v1.1.Frames.1) [(XTurneryref2_Frame.mk a1 0 0 v1.2.2 a2)]).bind fun x5 =>
 (idx v1.1.Counts a1).bind fun x6 =>
 (idx x6 0).bind fun x7 =>
 (idx x6 0).bind fun x8 =>
 some (XTurneryref2_Run.mk v1.1.U v1.1.Mem v1.1.Input v1.1.Out ((List.set x5 (((((((List.take v1.1.Frames.2 v1.1.Frames.1)).length : Nat) : Int)) : Int).toNat) (XTurneryref2_Frame.mk a1 0 0 v1.2.2 a2)), (List.set x5 (((((((List.take v1.1.Frames.2 v1.1.Frames.1)).length : Nat) : Int)) : Int).toNat) (XTurneryref2_Frame.mk a1 0 0 v1.2.2 a2)).length) (List.set v1.1.Counts (((a1) : Int).toNat) (List.set x6 ((0) : Int).toNat (w64 (x7 + 1)))) v1.1.State v1.1.Value v1.1.Steps)
abbrev R_ref2_Run_enter (r : XTurneryref2_Run) : AV := (.agg (cXTurneryref2_Run_SIOIOLSIIIOIeOOIIIe r))
set_option maxHeartbeats 4000000 in
theorem T_ref2_Run_enter {nn : Nat} {a0 : XTurneryref2_Run} {a1 : Int} {a2 : Int} {a3 : (List Int)} {r : XTurneryref2_Run} (hF : ref2_Run_enter a0 a1 a2 a3 = some r) : den cx (nn + 1) 36 [(.agg (cXTurneryref2_Run_SIOIOLSIIIOIeOOIIIe a0)), (I a1), (I a2), (.sl ((a3).map cInt_i64))] = some (R_ref2_Run_enter r, []) := by
 unfold ref2_Run_enter at hF
 refine fnA Tryd.func36 Tryd.ntmps36 (by exact spine) (sl := [0, 1, 2, 3]) ?_
 refine bb hF fun _ h1 hF => ?_
 have h1 : a0.Frames.2 ≤ a0.Frames.1.length := stk_le h1
 refine sr <| ww oBoxM <| ww oAlloc <| nl <| sr <| pp oFAM <| pp oFAM <| rr oLdR <| pp oMove <| ?_
 refine bb hF fun x1 h2 hF => ?_
 refine pp (oIx h2) <| pp oFA <| pp oLd <| ?_
 refine bb hF fun x2 h3 hF => ?_
 refine ww (oMake (c := cInt_i64) h3 rfl) <| pp oAssign <| nl <| sq <| sr <| pp oAssign <| nl <| ?_
 refine lp (fun (s : (XTurneryref2_Run × XTurneryref2_Run × (List Int) × Int)) => mkSt 51 [1, 2, 3, 4, 8, 9, 10] [(I a1), (I a2), (.sl ((a3).map cInt_i64)), (.ownp (cXTurneryref2_Run_SIOIOLSIIIOIeOOIIIe s.1)), (.ownp (cXTurneryref2_Run_SSOOeOOOLSIIIOIeOIIIe s.2.1)), (.own ((s.2.2.1).map cInt_i64) (s.2.2.1).length), (I s.2.2.2)]) (fun (s : (XTurneryref2_Run × XTurneryref2_Run × (List Int))) => mkSt 51 [1, 2, 4, 8, 9] [(I a1), (I a2), (.ownp (cXTurneryref2_Run_SIOIOLSIIIOIeOOIIIe s.1)), (.ownp (cXTurneryref2_Run_SSOOeOOOLSIIIOIeOIIIe s.2.1)), (.own ((s.2.2).map cInt_i64) (s.2.2).length)]) hF cutR' ?_ ?_
 · rintro ⟨y8, y9, y10, y11⟩ z1 hF
   replace hF : ref2_Run_enter_L1 a3 y8 y9 y10 y11 = some z1 := hF
   unfold ref2_Run_enter_L1 at hF
   refine mk ?_
   refine bb hF fun _ h6 hF => ?_
   have h6 : y8.Frames.2 ≤ y8.Frames.1.length := stk_le h6
   refine bb hF fun _ h7 hF => ?_
   have h7 : y9.Frames.2 ≤ y9.Frames.1.length := stk_le h7
   refine sq <| sr <| pp oMove <| pp oMove <| pp oLenSl <| pp oLss <| nl <| ?_
   refine cd hF (fun hF => ?_) (fun hF => ?_)
   · refine sk <| qs <| sq <| bl <| rg <| pp oMove <| pp oMove <| pp oMove <| pp oMove <| ?_
     refine bb hF fun x3 h8 hF => ?_
     refine pp (oIx h8) <| pp oLd <| ?_
     refine bb hF fun x4 h9 hF => ?_
     refine rr (oIxM h9) <| ww (oStL (idx_nat h9) x3) <| nl <| qb <| qs <| rg <| pp oMove <| pp oAdd <| pp oAssign <| nl <| ?_
     exact ln hF cutR'
   · refine ex <| qsE <| ?_
     exact lx hF cutR'
 · intro v1 hF
   refine qmk ?_
   refine bb hF fun _ h10 hF => ?_
   have h10 : v1.1.Frames.2 ≤ v1.1.Frames.1.length := stk_le h10
   refine bb hF fun _ h11 hF => ?_
   have h11 : v1.2.1.Frames.2 ≤ v1.2.1.Frames.1.length := stk_le h11
   refine qs <| sr <| pp oFAM <| rr oLdR <| pp oMove <| pp oMove <| pp oMove <| pp oBuild <| ww oBSM <| ?_
   refine bb hF fun x5 h12 hF => ?_
   have hk1 := app_get h12
   refine ww (oAppO h12 lle) <| pp oFAM <| ww oStR <| nl <| sr <| pp oFAM <| rr oLdR <| pp oMove <| ?_
   refine bb hF fun x6 h13 hF => ?_
   refine rr (oIxM h13) <| ?_
   have hk2 := (idx_nat h13)
   refine ww (oLdY (rowM (idx_nat h13)) setM) <| ?_
   refine bb hF fun x7 h14 hF => ?_
   refine rr (oIxM h14) <| rr (oLdM (idx_nat h14)) <| pp oAdd <| ?_
   refine bb hF fun x8 h15 hF => ?_
   refine rr (oIxM h15) <| ww (oStL (idx_nat h15) (w64 (x7 + 1))) <| nl <| sr <| rr oLdRA <| ww oStR <| nl <| rt <| ?_
   obtain rfl := inj hF
   exact fin1
noncomputable def ref2_Run_get (a0 : XTurneryref2_Run) (a1 : XApi_Val) : Option Int :=
 if a1.Reg then
 ((idx (List.take a0.Frames.2 a0.Frames.1) (w64 (((List.take a0.Frames.2 a0.Frames.1).length : Int) - 1))).bind fun x1 =>
 (idx x1.Regs a1.N).bind fun x2 =>
 some x2)
 else
 (some a1.N)
abbrev R_ref2_Run_get (r : Int) : AV := (I r)
set_option maxHeartbeats 4000000 in
theorem T_ref2_Run_get {nn : Nat} {a0 : XTurneryref2_Run} {a1 : XApi_Val} {r : Int} (hF : ref2_Run_get a0 a1 = some r) : den cx (nn + 1) 56 [(.agg (cXTurneryref2_Run a0)), (.agg (cXApi_Val a1))] = some (R_ref2_Run_get r, []) := by
 unfold ref2_Run_get at hF
 refine fnA Tryd.func56 Tryd.ntmps56 (by exact spine) (sl := [0, 1]) ?_
 refine sr <| pp oBoxF <| pp oBoxF <| pp oAssign <| nl <| sq <| sr <| pp oFA <| pp oLd <| nl <| ?_
 refine cd hF (fun hF => ?_) (fun hF => ?_)
 · refine srD <| pp oFA <| pp oLd <| pp oFA <| pp oLd <| pp oLenSl <| pp oSub <| ?_
   refine bb hF fun x1 h1 hF => ?_
   refine pp (oIx h1) <| pp oFA <| pp oLd <| pp oFA <| pp oLd <| ?_
   refine bb hF fun x2 h2 hF => ?_
   refine pp (oIx h2) <| pp oLd <| pp oAssign <| nlD <| rt <| qsR <| ?_
   obtain rfl := inj hF
   exact fin1
 · refine sk <| qs <| sr <| pp oFA <| pp oLd <| pp oAssign <| nl <| rt <| ?_
   obtain rfl := inj hF
   exact fin1
noncomputable def ref2_Run_jump_L1 (a0 : XTurneryref2_Run) (x1 : XTurneryref2_Frame) (x5 : (List Int)) (y37 : Int) : Option (Lp Int Int) :=
 (stk (a0.Frames.1, a0.Frames.2)).bind fun _ =>
 (idx a0.Frames.1 (w64 ((a0.Frames.2 : Int) - 1))).bind fun x7 =>
 (idx x5 y37).bind fun x8 =>
 if (x8 != x1.Block) then
 (some (.next (w64 (y37 + 1))))
 else
 (some (.out y37))
noncomputable def ref2_Run_jump_L2 (a0 : XTurneryref2_Run) (x1 : XTurneryref2_Frame) (x3 : XApi_Block) (v1 : Int) (y75 : Int) (y76 : (List Int)) : Option (Lp (Int × (List Int)) (List Int)) :=
 (stk (a0.Frames.1, a0.Frames.2)).bind fun _ =>
 (idx a0.Frames.1 (w64 ((a0.Frames.2 : Int) - 1))).bind fun x11 =>
 if (decide (y75 < (x3.Phis.length : Int))) then
 ((idx x3.Phis y75).bind fun x12 =>
 (idx x12.From v1).bind fun x13 =>
 (ref2_Run_get (XTurneryref2_Run.mk a0.U a0.Mem a0.Input a0.Out ((List.set a0.Frames.1 ((((w64 ((a0.Frames.2 : Int) - 1))) : Int).toNat) x1), a0.Frames.2) a0.Counts a0.State a0.Value a0.Steps) x13).bind fun x14 =>
 (app y76 ([x14] : List Int)).bind fun x15 =>
 some (.next ((w64 (y75 + 1)), x15)))
 else
 (some (.out y76))
noncomputable def ref2_Run_jump_L3 (a0 : XTurneryref2_Run) (x3 : XApi_Block) (v2 : (List Int)) (y113 : Int) (y114 : (List Int)) : Option (Lp (Int × (List Int)) (List Int)) :=
 (stk (a0.Frames.1, a0.Frames.2)).bind fun _ =>
 (idx a0.Frames.1 (w64 ((a0.Frames.2 : Int) - 1))).bind fun x18 =>
 if (decide (y113 < (x3.Phis.length : Int))) then
 ((idx x3.Phis y113).bind fun x19 =>
 (idx v2 y113).bind fun x20 =>
 (idx y114 x19.Dst).bind fun x21 =>
 some (.next ((w64 (y113 + 1)), (List.set y114 ((x19.Dst) : Int).toNat x20))))
 else
 (some (.out y114))
noncomputable def ref2_Run_jump (a0 : XTurneryref2_Run) (a1 : Int) : Option XTurneryref2_Run :=
 (stk (a0.Frames.1, a0.Frames.2)).bind fun _ =>
 (idx (List.take a0.Frames.2 a0.Frames.1) (w64 ((a0.Frames.2 : Int) - 1))).bind fun x1 =>
 (idx a0.U.Funcs x1.Fn).bind fun x2 =>
 (idx x2.Blocks a1).bind fun x3 =>
 (idx a0.U.Funcs x1.Fn).bind fun x4 =>
 (ref2_Ahead x4 a1).bind fun x5 =>
 (Loop (fun (s : Int) => ref2_Run_jump_L1 a0 x1 x5 s) 0).bind fun v1 =>
 (stk (a0.Frames.1, a0.Frames.2)).bind fun _ =>
 (idx a0.Frames.1 (w64 ((a0.Frames.2 : Int) - 1))).bind fun x9 =>
 (Loop (fun (s : (Int × (List Int))) => ref2_Run_jump_L2 a0 x1 x3 v1 s.1 s.2) (0, [])).bind fun v2 =>
 (stk (a0.Frames.1, a0.Frames.2)).bind fun _ =>
 (idx a0.Frames.1 (w64 ((a0.Frames.2 : Int) - 1))).bind fun x16 =>
 (Loop (fun (s : (Int × (List Int))) => ref2_Run_jump_L3 a0 x3 v2 s.1 s.2) (0, x1.Regs)).bind fun v3 =>
 (stk (a0.Frames.1, a0.Frames.2)).bind fun _ =>
 (idx a0.Frames.1 (w64 ((a0.Frames.2 : Int) - 1))).bind fun x22 =>
 (idx (List.take a0.Frames.2 a0.Frames.1) (w64 ((a0.Frames.2 : Int) - 1))).bind fun x23 =>
 (idx (List.take a0.Frames.2 a0.Frames.1) (w64 ((a0.Frames.2 : Int) - 1))).bind fun x24 =>
 (idx a0.Counts x1.Fn).bind fun x25 =>
 (idx x25 a1).bind fun x26 =>
 (idx x25 a1).bind fun x27 =>
 some (XTurneryref2_Run.mk a0.U a0.Mem a0.Input a0.Out ((List.set a0.Frames.1 ((((w64 ((a0.Frames.2 : Int) - 1))) : Int).toNat) (XTurneryref2_Frame.mk x1.Fn a1 0 v3 x1.Dst)), a0.Frames.2) (List.set a0.Counts (((x1.Fn) : Int).toNat) (List.set x25 ((a1) : Int).toNat (w64 (x26 + 1)))) a0.State a0.Value a0.Steps)
abbrev R_ref2_Run_jump (r : XTurneryref2_Run) : AV := (.agg (cXTurneryref2_Run_SIOIOLSIIIOIeOOIIIe r))
set_option maxHeartbeats 4000000 in
theorem T_ref2_Run_jump {nn : Nat} {a0 : XTurneryref2_Run} {a1 : Int} {r : XTurneryref2_Run} (hF : ref2_Run_jump a0 a1 = some r) : den cx (nn + 2) 55 [(.agg (cXTurneryref2_Run_SIOIOLSIIIOIeOOIIIe a0)), (I a1)] = some (R_ref2_Run_jump r, []) := by
 unfold ref2_Run_jump at hF
 refine fnA Tryd.func55 Tryd.ntmps55 (by exact spine) (sl := [0, 1]) ?_
 refine bb hF fun _ h1 hF => ?_
 have h1 : a0.Frames.2 ≤ a0.Frames.1.length := stk_le h1
 refine sr <| ww oBoxM <| ww oAlloc <| nl <| sr <| pp oFAM <| rr oLdR <| pp (oLenRs (m := a0.Frames.2)) <| pp oSub <| pp oAssign <| nl <| sr <| pp oFAM <| rr oLdR <| ?_
 refine pp oMove <| ?_
 refine bb hF fun x1 h2 hF => ?_
 refine rr (oIxQ (idx_bt h2) (rowM (idx_take' h2))) <| ?_
 have hk1 := (idx_take' h2)
 have hk1t := idx_nat h2
 refine ww (oLdYA (rowM (idx_take' h2)) setM) <| ww oAlloc <| ww oStR <| nl <| sr <| pp oFAM <| pp oFAM <| rr oLdR <| pp oFAM <| rr oLdR <| ?_
 refine bb hF fun x2 h3 hF => ?_
 refine pp (oIx h3) <| pp oFA <| pp oLd <| pp oMove <| ?_
 refine bb hF fun x3 h4 hF => ?_
 refine pp (oIx h4) <| pp oLdA <| ww oAlloc <| ww oStF <| nl <| sr <| pp oFAM <| pp oFAM <| rr oLdR <| pp oFAM <| rr oLdR <| ?_
 refine bb hF fun x4 h5 hF => ?_
 refine pp (oIx h5) <| pp oLdA <| pp oMove <| ?_
 refine bb hF fun x5 h6 hF => ?_
 refine pp (oCallZ (T_ref2_Ahead h6)) <| pp oAssign <| nl <| sr <| pp oAssign <| nl <| sq <| ?_
 refine lp (fun (s : Int) => stN 115 [(1, (I a1)), (2, (.mp [0, 2] 0 0)), (4, (.mp [0, 4] 0 0)), (5, (I (w64 ((a0.Frames.2 : Int) - 1)))), (6, (.mp [0, 6] 0 0)), (7, (.vp (cXApi_Block x3))), (8, (.sl ((x5).map cInt_i64))), (9, (I s))] [([0, 2], [[(.sl ((a0.U.Globals).map cXApi_Global)), (.sl ((a0.U.Funcs).map cXApi_Func)), (.rs [2, 0, 2] 0 a0.Mem.length), (.sl ((a0.Input).map cInt_i64)), (.rs [4, 0, 2] 0 a0.Out.length), (.rs [5, 0, 2] 0 a0.Frames.2), (.rs [6, 0, 2] 0 a0.Counts.length), (I a0.State), (I a0.Value), (I a0.Steps)]]), ([2, 0, 2], (a0.Mem).map cInt_i64), ([4, 0, 2], (a0.Out).map cInt_i64), ([5, 0, 2], ((a0.Frames.1).map cXTurneryref2_Frame_SIIIOIe).set (((w64 ((a0.Frames.2 : Int) - 1))) : Int).toNat [(I x1.Fn), (I x1.Block), (I x1.At), (.rs [3, 0, 6] 0 x1.Regs.length), (I x1.Dst)]), ([6, 0, 2], (a0.Counts).map co_cInt_i64), ([0, 4], [[(.own (([] : List XApi_Global).map cXApi_Global) ([] : List XApi_Global).length), (.own (([] : List XApi_Func).map cXApi_Func) ([] : List XApi_Func).length), (.own (([] : List Int).map cInt_i64) ([] : List Int).length), (.own (([] : List Int).map cInt_i64) ([] : List Int).length), (.own (([] : List Int).map cInt_i64) ([] : List Int).length), (.own (([] : List XTurneryref2_Frame).map cXTurneryref2_Frame) 0), (.own (([] : List (List Int)).map cs_cInt_i64) ([] : List (List Int)).length), (I 0), (I 0), (I 0)]]), ([0, 6], [[(I x1.Fn), (I x1.Block), (I x1.At), (.rs [3, 0, 6] 0 x1.Regs.length), (I x1.Dst)]]), ([3, 0, 6], (x1.Regs).map cInt_i64)]) (fun (s : Int) => stN 115 [(1, (I a1)), (2, (.mp [0, 2] 0 0)), (4, (.mp [0, 4] 0 0)), (5, (I (w64 ((a0.Frames.2 : Int) - 1)))), (6, (.mp [0, 6] 0 0)), (7, (.vp (cXApi_Block x3))), (9, (I s))] [([0, 2], [[(.sl ((a0.U.Globals).map cXApi_Global)), (.sl ((a0.U.Funcs).map cXApi_Func)), (.rs [2, 0, 2] 0 a0.Mem.length), (.sl ((a0.Input).map cInt_i64)), (.rs [4, 0, 2] 0 a0.Out.length), (.rs [5, 0, 2] 0 a0.Frames.2), (.rs [6, 0, 2] 0 a0.Counts.length), (I a0.State), (I a0.Value), (I a0.Steps)]]), ([2, 0, 2], (a0.Mem).map cInt_i64), ([4, 0, 2], (a0.Out).map cInt_i64), ([5, 0, 2], ((a0.Frames.1).map cXTurneryref2_Frame_SIIIOIe).set (((w64 ((a0.Frames.2 : Int) - 1))) : Int).toNat [(I x1.Fn), (I x1.Block), (I x1.At), (.rs [3, 0, 6] 0 x1.Regs.length), (I x1.Dst)]), ([6, 0, 2], (a0.Counts).map co_cInt_i64), ([0, 4], [[(.own (([] : List XApi_Global).map cXApi_Global) ([] : List XApi_Global).length), (.own (([] : List XApi_Func).map cXApi_Func) ([] : List XApi_Func).length), (.own (([] : List Int).map cInt_i64) ([] : List Int).length), (.own (([] : List Int).map cInt_i64) ([] : List Int).length), (.own (([] : List Int).map cInt_i64) ([] : List Int).length), (.own (([] : List XTurneryref2_Frame).map cXTurneryref2_Frame) 0), (.own (([] : List (List Int)).map cs_cInt_i64) ([] : List (List Int)).length), (I 0), (I 0), (I 0)]]), ([0, 6], [[(I x1.Fn), (I x1.Block), (I x1.At), (.rs [3, 0, 6] 0 x1.Regs.length), (I x1.Dst)]]), ([3, 0, 6], (x1.Regs).map cInt_i64)]) hF cutN' ?_ ?_
 · rintro y37 z1 hF
   replace hF : ref2_Run_jump_L1 a0 x1 x5 y37 = some z1 := hF
   unfold ref2_Run_jump_L1 at hF
   refine stm <| ?_
   refine bb hF fun _ h9 hF => ?_
   have h9 : a0.Frames.2 ≤ a0.Frames.1.length := stk_le h9
   refine bb hF fun x7 h10 hF => ?_
   have hk3 := idx_nat h10
   refine sq <| srD <| pp oMove <| pp oMove <| ?_
   refine bb hF fun x8 h11 hF => ?_
   refine pp (oIx h11) <| pp oLd <| pp oFAM <| rr oLdR <| pp oNeq <| nlD <| ?_
   refine cd hF (fun hF => ?_) (fun hF => ?_)
   · refine sk <| qs <| bl <| rg <| pp oMove <| pp oAdd <| pp oAssign <| nl <| qb <| ?_
     exact ln hF cutN'
   · refine ex <| qsE <| ?_
     exact lx hF cutN'
 · intro v1 hF
   refine qst <| ?_
   refine bb hF fun _ h12 hF => ?_
   have h12 : a0.Frames.2 ≤ a0.Frames.1.length := stk_le h12
   refine bb hF fun x9 h13 hF => ?_
   have hk4 := idx_nat h13
   refine qs <| sr <| pp oAssign <| nl <| sq <| sr <| pp oAssign <| nl <| ?_
   refine lp (fun (s : (Int × (List Int))) => stN 115 [(1, (I a1)), (2, (.mp [0, 2] 0 0)), (4, (.mp [0, 4] 0 0)), (5, (I (w64 ((a0.Frames.2 : Int) - 1)))), (6, (.mp [0, 6] 0 0)), (7, (.vp (cXApi_Block x3))), (9, (I v1)), (10, (.rs [0, 10] 0 s.2.length)), (11, (I s.1))] [([0, 2], [[(.sl ((a0.U.Globals).map cXApi_Global)), (.sl ((a0.U.Funcs).map cXApi_Func)), (.rs [2, 0, 2] 0 a0.Mem.length), (.sl ((a0.Input).map cInt_i64)), (.rs [4, 0, 2] 0 a0.Out.length), (.rs [5, 0, 2] 0 a0.Frames.2), (.rs [6, 0, 2] 0 a0.Counts.length), (I a0.State), (I a0.Value), (I a0.Steps)]]), ([2, 0, 2], (a0.Mem).map cInt_i64), ([4, 0, 2], (a0.Out).map cInt_i64), ([5, 0, 2], ((a0.Frames.1).map cXTurneryref2_Frame_SIIIOIe).set (((w64 ((a0.Frames.2 : Int) - 1))) : Int).toNat [(I x1.Fn), (I x1.Block), (I x1.At), (.rs [3, 0, 6] 0 x1.Regs.length), (I x1.Dst)]), ([6, 0, 2], (a0.Counts).map co_cInt_i64), ([0, 4], [[(.own (([] : List XApi_Global).map cXApi_Global) ([] : List XApi_Global).length), (.own (([] : List XApi_Func).map cXApi_Func) ([] : List XApi_Func).length), (.own (([] : List Int).map cInt_i64) ([] : List Int).length), (.own (([] : List Int).map cInt_i64) ([] : List Int).length), (.own (([] : List Int).map cInt_i64) ([] : List Int).length), (.own (([] : List XTurneryref2_Frame).map cXTurneryref2_Frame) 0), (.own (([] : List (List Int)).map cs_cInt_i64) ([] : List (List Int)).length), (I 0), (I 0), (I 0)]]), ([0, 6], [[(I x1.Fn), (I x1.Block), (I x1.At), (.rs [3, 0, 6] 0 x1.Regs.length), (I x1.Dst)]]), ([3, 0, 6], (x1.Regs).map cInt_i64), ([0, 10], (s.2).map cInt_i64)]) (fun (s : (List Int)) => stN 115 [(1, (I a1)), (2, (.mp [0, 2] 0 0)), (4, (.mp [0, 4] 0 0)), (5, (I (w64 ((a0.Frames.2 : Int) - 1)))), (6, (.mp [0, 6] 0 0)), (7, (.vp (cXApi_Block x3))), (10, (.rs [0, 10] 0 s.length))] [([0, 2], [[(.sl ((a0.U.Globals).map cXApi_Global)), (.sl ((a0.U.Funcs).map cXApi_Func)), (.rs [2, 0, 2] 0 a0.Mem.length), (.sl ((a0.Input).map cInt_i64)), (.rs [4, 0, 2] 0 a0.Out.length), (.rs [5, 0, 2] 0 a0.Frames.2), (.rs [6, 0, 2] 0 a0.Counts.length), (I a0.State), (I a0.Value), (I a0.Steps)]]), ([2, 0, 2], (a0.Mem).map cInt_i64), ([4, 0, 2], (a0.Out).map cInt_i64), ([5, 0, 2], ((a0.Frames.1).map cXTurneryref2_Frame_SIIIOIe).set (((w64 ((a0.Frames.2 : Int) - 1))) : Int).toNat [(I x1.Fn), (I x1.Block), (I x1.At), (.rs [3, 0, 6] 0 x1.Regs.length), (I x1.Dst)]), ([6, 0, 2], (a0.Counts).map co_cInt_i64), ([0, 4], [[(.own (([] : List XApi_Global).map cXApi_Global) ([] : List XApi_Global).length), (.own (([] : List XApi_Func).map cXApi_Func) ([] : List XApi_Func).length), (.own (([] : List Int).map cInt_i64) ([] : List Int).length), (.own (([] : List Int).map cInt_i64) ([] : List Int).length), (.own (([] : List Int).map cInt_i64) ([] : List Int).length), (.own (([] : List XTurneryref2_Frame).map cXTurneryref2_Frame) 0), (.own (([] : List (List Int)).map cs_cInt_i64) ([] : List (List Int)).length), (I 0), (I 0), (I 0)]]), ([0, 6], [[(I x1.Fn), (I x1.Block), (I x1.At), (.rs [3, 0, 6] 0 x1.Regs.length), (I x1.Dst)]]), ([3, 0, 6], (x1.Regs).map cInt_i64), ([0, 10], (s).map cInt_i64)]) hF cutN' ?_ ?_
   · rintro ⟨y75, y76⟩ z2 hF
     replace hF : ref2_Run_jump_L2 a0 x1 x3 v1 y75 y76 = some z2 := hF
     unfold ref2_Run_jump_L2 at hF
     refine stm <| ?_
     refine bb hF fun _ h16 hF => ?_
     have h16 : a0.Frames.2 ≤ a0.Frames.1.length := stk_le h16
     refine bb hF fun x11 h17 hF => ?_
     have hk6 := idx_nat h17
     refine sq <| sr <| pp oMove <| pp oFA <| pp oLd <| pp oLenSl <| pp oLss <| nl <| ?_
     refine cd hF (fun hF => ?_) (fun hF => ?_)
     · refine sk <| qs <| sq <| bl <| rgD <| pp oMove <| rr oLdRA <| pp oFA <| pp oLd <| pp oMove <| ?_
       refine bb hF fun x12 h18 hF => ?_
       refine pp (oIx h18) <| pp oFA <| pp oLd <| pp oMove <| ?_
       refine bb hF fun x13 h19 hF => ?_
       refine pp (oIx h19) <| pp oLdA <| ?_
       refine bb hF fun x14 h20 hF => ?_
       refine rr (oCallZ (T_ref2_Run_get h20)) <| pp oBSF <| ?_
       refine bb hF fun x15 h21 hF => ?_
       refine ww (oApp h21) <| pp oAssign <| nlD <| qb <| qs <| rg <| pp oMove <| pp oAdd <| pp oAssign <| nl <| ?_
       exact ln hF cutN'
     · refine ex <| qsE <| ?_
       exact lx hF cutN'
   · intro v2 hF
     refine qst <| ?_
     refine bb hF fun _ h22 hF => ?_
     have h22 : a0.Frames.2 ≤ a0.Frames.1.length := stk_le h22
     refine bb hF fun x16 h23 hF => ?_
     have hk7 := idx_nat h23
     refine qs <| sq <| sr <| pp oAssign <| nl <| ?_
     refine lp (fun (s : (Int × (List Int))) => stN 115 [(1, (I a1)), (2, (.mp [0, 2] 0 0)), (4, (.mp [0, 4] 0 0)), (5, (I (w64 ((a0.Frames.2 : Int) - 1)))), (6, (.mp [0, 6] 0 0)), (7, (.vp (cXApi_Block x3))), (10, (.rs [0, 10] 0 v2.length)), (12, (I s.1))] [([0, 2], [[(.sl ((a0.U.Globals).map cXApi_Global)), (.sl ((a0.U.Funcs).map cXApi_Func)), (.rs [2, 0, 2] 0 a0.Mem.length), (.sl ((a0.Input).map cInt_i64)), (.rs [4, 0, 2] 0 a0.Out.length), (.rs [5, 0, 2] 0 a0.Frames.2), (.rs [6, 0, 2] 0 a0.Counts.length), (I a0.State), (I a0.Value), (I a0.Steps)]]), ([2, 0, 2], (a0.Mem).map cInt_i64), ([4, 0, 2], (a0.Out).map cInt_i64), ([5, 0, 2], ((a0.Frames.1).map cXTurneryref2_Frame_SIIIOIe).set (((w64 ((a0.Frames.2 : Int) - 1))) : Int).toNat [(I x1.Fn), (I x1.Block), (I x1.At), (.rs [3, 0, 6] 0 s.2.length), (I x1.Dst)]), ([6, 0, 2], (a0.Counts).map co_cInt_i64), ([0, 4], [[(.own (([] : List XApi_Global).map cXApi_Global) ([] : List XApi_Global).length), (.own (([] : List XApi_Func).map cXApi_Func) ([] : List XApi_Func).length), (.own (([] : List Int).map cInt_i64) ([] : List Int).length), (.own (([] : List Int).map cInt_i64) ([] : List Int).length), (.own (([] : List Int).map cInt_i64) ([] : List Int).length), (.own (([] : List XTurneryref2_Frame).map cXTurneryref2_Frame) 0), (.own (([] : List (List Int)).map cs_cInt_i64) ([] : List (List Int)).length), (I 0), (I 0), (I 0)]]), ([0, 6], [[(I x1.Fn), (I x1.Block), (I x1.At), (.rs [3, 0, 6] 0 s.2.length), (I x1.Dst)]]), ([3, 0, 6], (s.2).map cInt_i64), ([0, 10], (v2).map cInt_i64)]) (fun (s : (List Int)) => stN 115 [(1, (I a1)), (2, (.mp [0, 2] 0 0)), (4, (.mp [0, 4] 0 0)), (5, (I (w64 ((a0.Frames.2 : Int) - 1)))), (6, (.mp [0, 6] 0 0))] [([0, 2], [[(.sl ((a0.U.Globals).map cXApi_Global)), (.sl ((a0.U.Funcs).map cXApi_Func)), (.rs [2, 0, 2] 0 a0.Mem.length), (.sl ((a0.Input).map cInt_i64)), (.rs [4, 0, 2] 0 a0.Out.length), (.rs [5, 0, 2] 0 a0.Frames.2), (.rs [6, 0, 2] 0 a0.Counts.length), (I a0.State), (I a0.Value), (I a0.Steps)]]), ([2, 0, 2], (a0.Mem).map cInt_i64), ([4, 0, 2], (a0.Out).map cInt_i64), ([5, 0, 2], ((a0.Frames.1).map cXTurneryref2_Frame_SIIIOIe).set (((w64 ((a0.Frames.2 : Int) - 1))) : Int).toNat [(I x1.Fn), (I x1.Block), (I x1.At), (.rs [3, 0, 6] 0 s.length), (I x1.Dst)]), ([6, 0, 2], (a0.Counts).map co_cInt_i64), ([0, 4], [[(.own (([] : List XApi_Global).map cXApi_Global) ([] : List XApi_Global).length), (.own (([] : List XApi_Func).map cXApi_Func) ([] : List XApi_Func).length), (.own (([] : List Int).map cInt_i64) ([] : List Int).length), (.own (([] : List Int).map cInt_i64) ([] : List Int).length), (.own (([] : List Int).map cInt_i64) ([] : List Int).length), (.own (([] : List XTurneryref2_Frame).map cXTurneryref2_Frame) 0), (.own (([] : List (List Int)).map cs_cInt_i64) ([] : List (List Int)).length), (I 0), (I 0), (I 0)]]), ([0, 6], [[(I x1.Fn), (I x1.Block), (I x1.At), (.rs [3, 0, 6] 0 s.length), (I x1.Dst)]]), ([3, 0, 6], (s).map cInt_i64)]) hF cutN' ?_ ?_
     · rintro ⟨y113, y114⟩ z3 hF
       replace hF : ref2_Run_jump_L3 a0 x3 v2 y113 y114 = some z3 := hF
       unfold ref2_Run_jump_L3 at hF
       refine stm <| ?_
       refine bb hF fun _ h26 hF => ?_
       have h26 : a0.Frames.2 ≤ a0.Frames.1.length := stk_le h26
       refine bb hF fun x18 h27 hF => ?_
       have hk9 := idx_nat h27
       refine sq <| sr <| pp oMove <| pp oFA <| pp oLd <| pp oLenSl <| pp oLss <| nl <| ?_
       refine cd hF (fun hF => ?_) (fun hF => ?_)
       · refine sk <| qs <| sq <| bl <| rgD <| pp oFAM <| rr oLdR <| pp oFA <| pp oLd <| pp oMove <| ?_
         refine bb hF fun x19 h28 hF => ?_
         refine pp (oIx h28) <| pp oFA <| pp oLd <| pp oMove <| pp oMove <| ?_
         refine bb hF fun x20 h29 hF => ?_
         refine rr (oIxM h29) <| rr (oLdM (idx_nat h29)) <| ?_
         refine bb hF fun x21 h30 hF => ?_
         refine rr (oIxM h30) <| ww (oStL (idx_nat h30) x20) <| nlD <| qb <| qs <| rg <| pp oMove <| pp oAdd <| pp oAssign <| nl <| ?_
         exact ln hF cutN'
       · refine ex <| qsE <| ?_
         exact lx hF cutN'
     · intro v3 hF
       refine qst <| ?_
       refine bb hF fun _ h31 hF => ?_
       have h31 : a0.Frames.2 ≤ a0.Frames.1.length := stk_le h31
       refine bb hF fun x22 h32 hF => ?_
       have hk10 := idx_nat h32
       refine qs <| sr <| pp oFAM <| rr oLdR <| pp oMove <| pp oMove <| ?_
       refine bb hF fun x23 h33 hF => ?_
       refine rr (oIxQ (idx_bt h33) (rowO hk10)) <| pp oFAM <| ww (oStQ (rowO hk10) setO) <| nl <| sr <| pp oFAM <| rr oLdR <| pp oMove <| ?_
       refine bb hF fun x24 h34 hF => ?_
       refine rr (oIxQ (idx_bt h34) (rowO hk10)) <| pp oFAM <| ww (oStQ (rowO hk10) setO) <| nl <| sr <| pp oFAM <| rr oLdR <| pp oFAM <| rr oLdR <| ?_
       refine bb hF fun x25 h35 hF => ?_
       refine rr (oIxM h35) <| ?_
       have hk11 := (idx_nat h35)
       refine ww (oLdY (rowM (idx_nat h35)) setM) <| pp oMove <| ?_
       refine bb hF fun x26 h36 hF => ?_
       refine rr (oIxM h36) <| rr (oLdM (idx_nat h36)) <| pp oAdd <| ?_
       refine bb hF fun x27 h37 hF => ?_
       refine rr (oIxM h37) <| ww (oStL (idx_nat h37) (w64 (x26 + 1))) <| nl <| sr <| rr oLdRA <| ww oStR <| nl <| rt <| ?_
       obtain rfl := inj hF
       exact fin1
noncomputable def ref2_Run_set_J1 (y1 : XTurneryref2_Run) : Option XTurneryref2_Run :=
 (stk (y1.Frames.1, y1.Frames.2)).bind fun _ =>
 some (XTurneryref2_Run.mk y1.U y1.Mem y1.Input y1.Out (y1.Frames.1, y1.Frames.2) y1.Counts y1.State y1.Value y1.Steps)
noncomputable def ref2_Run_set (a0 : XTurneryref2_Run) (a1 : Int) (a2 : Int) : Option XTurneryref2_Run :=
 (stk (a0.Frames.1, a0.Frames.2)).bind fun _ =>
 if (decide (0 ≤ a1)) then
 ((idx (List.take a0.Frames.2 a0.Frames.1) (w64 ((a0.Frames.2 : Int) - 1))).bind fun x1 =>
 (idx x1.Regs a1).bind fun x2 =>
 ref2_Run_set_J1 (XTurneryref2_Run.mk a0.U a0.Mem a0.Input a0.Out ((List.set a0.Frames.1 ((((w64 ((a0.Frames.2 : Int) - 1))) : Int).toNat) (XTurneryref2_Frame.mk x1.Fn x1.Block x1.At (List.set x1.Regs ((a1) : Int).toNat a2) x1.Dst)), a0.Frames.2) a0.Counts a0.State a0.Value a0.Steps))
 else
 (ref2_Run_set_J1 (XTurneryref2_Run.mk a0.U a0.Mem a0.Input a0.Out (a0.Frames.1, a0.Frames.2) a0.Counts a0.State a0.Value a0.Steps))
abbrev R_ref2_Run_set (r : XTurneryref2_Run) : AV := (.agg (cXTurneryref2_Run_SIOIOLSIIIOIeOOIIIe r))
set_option maxHeartbeats 4000000 in
theorem T_ref2_Run_set {nn : Nat} {a0 : XTurneryref2_Run} {a1 : Int} {a2 : Int} {r : XTurneryref2_Run} (hF : ref2_Run_set a0 a1 a2 = some r) : den cx (nn + 1) 57 [(.agg (cXTurneryref2_Run_SIOIOLSIIIOIeOOIIIe a0)), (I a1), (I a2)] = some (R_ref2_Run_set r, []) := by
 unfold ref2_Run_set at hF
 refine fnA Tryd.func57 Tryd.ntmps57 (by exact spine) (sl := [0, 1, 2]) ?_
 refine bb hF fun _ h1 hF => ?_
 have h1 : a0.Frames.2 ≤ a0.Frames.1.length := stk_le h1
 refine sr <| ww oBoxM <| ww oAlloc <| nl <| ?_
 refine sjn (r := r) (fun (s : XTurneryref2_Run) => mkSt 22 [3, 6] [(.ownp (cXTurneryref2_Run_SIOIOLSIIIOIeOOIIIe s)), (.ownp (cXTurneryref2_Run_SSOOeOOOLSIIIOIeOIIIe (XTurneryref2_Run.mk (XApi_Unit.mk [] []) [] [] [] ([], 0) [] 0 0 0)))]) (fun s => ref2_Run_set_J1 s) ?_ ?_
 · refine sr <| pp oMove <| pp oGeq <| nl <| ?_
   refine cd hF (fun hF => ?_) (fun hF => ?_)
   · refine rg <| pp oFAM <| rr oLdR <| pp oFAM <| rr oLdR <| pp (oLenRs (m := a0.Frames.2)) <| pp oSub <| ?_
     refine bb hF fun x1 h3 hF => ?_
     refine rr (oIxQ (idx_bt h3) (rowM (idx_take' h3))) <| pp oFAM <| ?_
     have hk1 := (idx_take' h3)
     have hk1t := idx_nat h3
     refine ww (oLdY (rowM (idx_take' h3)) setM) <| pp oMove <| pp oMove <| ?_
     refine bb hF fun x2 h4 hF => ?_
     refine rr (oIxM h4) <| ww (oStL (idx_nat h4) a2) <| nl <| ?_
     exact qj (XTurneryref2_Run.mk a0.U a0.Mem a0.Input a0.Out ((List.set a0.Frames.1 ((((w64 ((a0.Frames.2 : Int) - 1))) : Int).toNat) (XTurneryref2_Frame.mk x1.Fn x1.Block x1.At (List.set x1.Regs ((a1) : Int).toNat a2) x1.Dst)), a0.Frames.2) a0.Counts a0.State a0.Value a0.Steps) hF cutR'
   · refine sk <| ?_
     exact qj (XTurneryref2_Run.mk a0.U a0.Mem a0.Input a0.Out (a0.Frames.1, a0.Frames.2) a0.Counts a0.State a0.Value a0.Steps) hF cutR'
 · rintro y1 hF
   replace hF : ref2_Run_set_J1 y1 = some r := hF
   unfold ref2_Run_set_J1 at hF
   refine mk ?_
   refine bb hF fun _ h2 hF => ?_
   have h2 : y1.Frames.2 ≤ y1.Frames.1.length := stk_le h2
   refine sr <| rr oLdRA <| ww oStR <| nl <| rt <| ?_
   obtain rfl := inj hF
   exact fin1
noncomputable def ref2_Run_end (a0 : XTurneryref2_Run) (a1 : XApi_End) : Option XTurneryref2_Run :=
 (stk (a0.Frames.1, a0.Frames.2)).bind fun _ =>
 if (a1.Kind == 2) then
 ((idx a1.To 0).bind fun x1 =>
 (ref2_Run_jump (XTurneryref2_Run.mk a0.U a0.Mem a0.Input a0.Out (a0.Frames.1, a0.Frames.2) a0.Counts a0.State a0.Value a0.Steps) x1).bind fun x2 =>
 (stk (x2.Frames.1, x2.Frames.2)).bind fun _ =>
 some (XTurneryref2_Run.mk x2.U x2.Mem x2.Input x2.Out (x2.Frames.1, x2.Frames.2) x2.Counts x2.State x2.Value x2.Steps))
 else
 (if (a1.Kind == 3) then
 ((ref2_Run_get (XTurneryref2_Run.mk a0.U a0.Mem a0.Input a0.Out (a0.Frames.1, a0.Frames.2) a0.Counts a0.State a0.Value a0.Steps) a1.On).bind fun x3 =>
 if (x3 != 0) then
 ((idx a1.To 0).bind fun x4 =>
 (ref2_Run_jump (XTurneryref2_Run.mk a0.U a0.Mem a0.Input a0.Out (a0.Frames.1, a0.Frames.2) a0.Counts a0.State a0.Value a0.Steps) x4).bind fun x5 =>
 (stk (x5.Frames.1, x5.Frames.2)).bind fun _ =>
 some (XTurneryref2_Run.mk x5.U x5.Mem x5.Input x5.Out (x5.Frames.1, x5.Frames.2) x5.Counts x5.State x5.Value x5.Steps))
 else
 ((idx a1.To 1).bind fun x6 =>
 (ref2_Run_jump (XTurneryref2_Run.mk a0.U a0.Mem a0.Input a0.Out (a0.Frames.1, a0.Frames.2) a0.Counts a0.State a0.Value a0.Steps) x6).bind fun x7 =>
 (stk (x7.Frames.1, x7.Frames.2)).bind fun _ =>
 some (XTurneryref2_Run.mk x7.U x7.Mem x7.Input x7.Out (x7.Frames.1, x7.Frames.2) x7.Counts x7.State x7.Value x7.Steps)))
 else
 ((ref2_Run_get (XTurneryref2_Run.mk a0.U a0.Mem a0.Input a0.Out (a0.Frames.1, a0.Frames.2) a0.Counts a0.State a0.Value a0.Steps) a1.On).bind fun x8 =>
 (idx (List.take a0.Frames.2 a0.Frames.1) (w64 ((a0.Frames.2 : Int) - 1))).bind fun x9 =>
 (cutN a0.Frames.2 (w64 ((a0.Frames.2 : Int) - 1))).bind fun x10 =>
 if ((w64 ((a0.Frames.2 : Int) - 1)) == 0) then
 (some (XTurneryref2_Run.mk a0.U a0.Mem a0.Input a0.Out (a0.Frames.1, x10) a0.Counts 0 x8 a0.Steps))
 else
 ((ref2_Run_set (XTurneryref2_Run.mk a0.U a0.Mem a0.Input a0.Out (a0.Frames.1, x10) a0.Counts a0.State a0.Value a0.Steps) x9.Dst x8).bind fun x11 =>
 (stk (x11.Frames.1, x11.Frames.2)).bind fun _ =>
 some (XTurneryref2_Run.mk x11.U x11.Mem x11.Input x11.Out (x11.Frames.1, x11.Frames.2) x11.Counts x11.State x11.Value x11.Steps))))
abbrev R_ref2_Run_end (r : XTurneryref2_Run) : AV := (.agg (cXTurneryref2_Run_SIOIOLSIIIOIeOOIIIe r))
set_option maxHeartbeats 4000000 in
theorem T_ref2_Run_end {nn : Nat} {a0 : XTurneryref2_Run} {a1 : XApi_End} {r : XTurneryref2_Run} (hF : ref2_Run_end a0 a1 = some r) : den cx (nn + 3) 37 [(.agg (cXTurneryref2_Run_SIOIOLSIIIOIeOOIIIe a0)), (.agg (cXApi_End a1))] = some (R_ref2_Run_end r, []) := by
 unfold ref2_Run_end at hF
 refine fnA Tryd.func37 Tryd.ntmps37 (by exact spine) (sl := [0, 1]) ?_
 refine bb hF fun _ h1 hF => ?_
 have h1 : a0.Frames.2 ≤ a0.Frames.1.length := stk_le h1
 refine sr <| ww oBoxM <| pp oBoxF <| ww oAlloc <| nl <| sq <| sr <| pp oFA <| pp oLd <| pp oEql <| nl <| ?_
 refine cd hF (fun hF => ?_) (fun hF => ?_)
 · refine srD <| rr oLdRA <| pp oFA <| pp oLd <| ?_
   refine bb hF fun x1 h2 hF => ?_
   refine pp (oIx h2) <| pp oLd <| ?_
   refine bb hF fun x2 h3 hF => ?_
   refine ww (oCallT (T_ref2_Run_jump h3)) <| ?_
   refine bb hF fun _ h4 hF => ?_
   have h4 : x2.Frames.2 ≤ x2.Frames.1.length := stk_le h4
   refine ww oStR <| nlD <| rt <| qsR <| ?_
   obtain rfl := inj hF
   exact fin1
 · refine sk <| qs <| sq <| sr <| pp oFA <| pp oLd <| pp oEql <| nl <| ?_
   refine cd hF (fun hF => ?_) (fun hF => ?_)
   · refine sq <| sr <| rr oLdRA <| pp oFA <| pp oLdA <| ?_
     refine bb hF fun x3 h5 hF => ?_
     refine rr (oCallZ (T_ref2_Run_get h5)) <| pp oNeq <| nl <| ?_
     refine cd hF (fun hF => ?_) (fun hF => ?_)
     · refine srD <| rr oLdRA <| pp oFA <| pp oLd <| ?_
       refine bb hF fun x4 h6 hF => ?_
       refine pp (oIx h6) <| pp oLd <| ?_
       refine bb hF fun x5 h7 hF => ?_
       refine ww (oCallT (T_ref2_Run_jump h7)) <| ?_
       refine bb hF fun _ h8 hF => ?_
       have h8 : x5.Frames.2 ≤ x5.Frames.1.length := stk_le h8
       refine ww oStR <| nlD <| rt <| qsR <| qsR <| ?_
       obtain rfl := inj hF
       exact fin1
     · refine sk <| qs <| srD <| rr oLdRA <| pp oFA <| pp oLd <| ?_
       refine bb hF fun x6 h9 hF => ?_
       refine pp (oIx h9) <| pp oLd <| ?_
       refine bb hF fun x7 h10 hF => ?_
       refine ww (oCallT (T_ref2_Run_jump h10)) <| ?_
       refine bb hF fun _ h11 hF => ?_
       have h11 : x7.Frames.2 ≤ x7.Frames.1.length := stk_le h11
       refine ww oStR <| nlD <| rt <| qsR <| ?_
       obtain rfl := inj hF
       exact fin1
   · refine sk <| qs <| sr <| rr oLdRA <| pp oFA <| pp oLdA <| ?_
     refine bb hF fun x8 h12 hF => ?_
     refine rr (oCall (T_ref2_Run_get h12)) <| pp oAssign <| nl <| sr <| pp oFAM <| rr oLdR <| pp (oLenRs (m := a0.Frames.2)) <| pp oSub <| pp oAssign <| nl <| sr <| pp oFAM <| rr oLdR <| pp oMove <| ?_
     refine bb hF fun x9 h13 hF => ?_
     refine rr (oIxQ (idx_bt h13) (rowM (idx_take' h13))) <| pp oFAM <| rr (oLdQ (rowM (idx_take' h13))) <| pp oAssign <| nl <| sr <| pp oFAM <| rr oLdR <| pp oMove <| ?_
     refine bb hF fun x10 h14 hF => ?_
     refine rr (oCut h14) <| ?_
     have h15 : x10 ≤ a0.Frames.1.length := Nat.le_trans (cutN_le h14) lle
     refine pp oFAM <| ww oStR <| nl <| sq <| sr <| pp oMove <| pp oEql <| nl <| ?_
     refine cd hF (fun hF => ?_) (fun hF => ?_)
     · refine sr <| pp oFAM <| ww oStR <| nl <| sr <| pp oMove <| pp oFAM <| ww oStR <| nl <| sr <| rr oLdRA <| ww oStR <| nl <| rt <| ?_
       refine qsR <| ?_
       obtain rfl := inj hF
       exact fin1
     · refine sk <| qs <| sr <| rr oLdRA <| pp oMove <| pp oMove <| ?_
       refine bb hF fun x11 h16 hF => ?_
       refine ww (oCallT (T_ref2_Run_set h16)) <| ?_
       refine bb hF fun _ h17 hF => ?_
       have h17 : x11.Frames.2 ≤ x11.Frames.1.length := stk_le h17
       refine ww oStR <| nl <| rt <| ?_
       obtain rfl := inj hF
       exact fin1
noncomputable def ref1_truth (a0 : Bool) : Option Int :=
 if a0 then
 (some 1)
 else
 (some 0)
abbrev R_ref1_truth (r : Int) : AV := (I r)
set_option maxHeartbeats 4000000 in
theorem T_ref1_truth {nn : Nat} {a0 : Bool} {r : Int} (hF : ref1_truth a0 = some r) : den cx (nn + 1) 87 [(B a0)] = some (R_ref1_truth r, []) := by
 unfold ref1_truth at hF
 refine fnA Tryd.func87 Tryd.ntmps87 (by exact spine) (sl := [0]) ?_
 refine sr <| pp oAssign <| nl <| sq <| sr <| pp oMove <| nl <| ?_
 refine cd hF (fun hF => ?_) (fun hF => ?_)
 · refine sr <| pp oAssign <| nl <| rt <| qsR <| ?_
   obtain rfl := inj hF
   exact fin1
 · refine sk <| qs <| sr <| pp oAssign <| nl <| rt <| ?_
   obtain rfl := inj hF
   exact fin1
noncomputable def ref1_Two_J16 (y16 : Int) : Option (Int × Bool) :=
 some (y16, true)
noncomputable def ref1_Two_J15 (a0 : ByteArray) (a1 : Int) (a2 : Int) (y15 : Int) : Option (Int × Bool) :=
 if (a0.toList == (ByteArray.mk #[62, 61]).toList) then
 ((ref1_truth (decide (a2 ≤ a1))).bind fun x1 =>
 ref1_Two_J16 x1)
 else
 (ref1_Two_J16 y15)
noncomputable def ref1_Two_J14 (a0 : ByteArray) (a1 : Int) (a2 : Int) (y14 : Int) : Option (Int × Bool) :=
 if (a0.toList == (ByteArray.mk #[62]).toList) then
 ((ref1_truth (decide (a2 < a1))).bind fun x2 =>
 ref1_Two_J15 a0 a1 a2 x2)
 else
 (ref1_Two_J15 a0 a1 a2 y14)
noncomputable def ref1_Two_J13 (a0 : ByteArray) (a1 : Int) (a2 : Int) (y13 : Int) : Option (Int × Bool) :=
 if (a0.toList == (ByteArray.mk #[60, 61]).toList) then
 ((ref1_truth (decide (a1 ≤ a2))).bind fun x3 =>
 ref1_Two_J14 a0 a1 a2 x3)
 else
 (ref1_Two_J14 a0 a1 a2 y13)
noncomputable def ref1_Two_J12 (a0 : ByteArray) (a1 : Int) (a2 : Int) (y12 : Int) : Option (Int × Bool) :=
 if (a0.toList == (ByteArray.mk #[60]).toList) then
 ((ref1_truth (decide (a1 < a2))).bind fun x4 =>
 ref1_Two_J13 a0 a1 a2 x4)
 else
 (ref1_Two_J13 a0 a1 a2 y12)
noncomputable def ref1_Two_J11 (a0 : ByteArray) (a1 : Int) (a2 : Int) (y11 : Int) : Option (Int × Bool) :=
 if (a0.toList == (ByteArray.mk #[33, 61]).toList) then
 ((ref1_truth (a1 != a2)).bind fun x5 =>
 ref1_Two_J12 a0 a1 a2 x5)
 else
 (ref1_Two_J12 a0 a1 a2 y11)
noncomputable def ref1_Two_J10 (a0 : ByteArray) (a1 : Int) (a2 : Int) (y10 : Int) : Option (Int × Bool) :=
 if (a0.toList == (ByteArray.mk #[61, 61]).toList) then
 ((ref1_truth (a1 == a2)).bind fun x6 =>
 ref1_Two_J11 a0 a1 a2 x6)
 else
 (ref1_Two_J11 a0 a1 a2 y10)
noncomputable def ref1_Two_J9 (a0 : ByteArray) (a1 : Int) (a2 : Int) (y9 : Int) : Option (Int × Bool) :=
 if (a0.toList == (ByteArray.mk #[62, 62]).toList) then
 ((shrK .i64 a1 (IntKind.u64.wrap (andK .i64 a2 63))).bind fun x7 =>
 ref1_Two_J10 a0 a1 a2 x7)
 else
 (ref1_Two_J10 a0 a1 a2 y9)
noncomputable def ref1_Two_J8 (a0 : ByteArray) (a1 : Int) (a2 : Int) (y8 : Int) : Option (Int × Bool) :=
 if (a0.toList == (ByteArray.mk #[60, 60]).toList) then
 ((shlK .i64 a1 (IntKind.u64.wrap (andK .i64 a2 63))).bind fun x8 =>
 ref1_Two_J9 a0 a1 a2 x8)
 else
 (ref1_Two_J9 a0 a1 a2 y8)
noncomputable def ref1_Two_J7 (a0 : ByteArray) (a1 : Int) (a2 : Int) (y7 : Int) : Option (Int × Bool) :=
 if (a0.toList == (ByteArray.mk #[94]).toList) then
 (ref1_Two_J8 a0 a1 a2 (xorK .i64 a1 a2))
 else
 (ref1_Two_J8 a0 a1 a2 y7)
noncomputable def ref1_Two_J6 (a0 : ByteArray) (a1 : Int) (a2 : Int) (y6 : Int) : Option (Int × Bool) :=
 if (a0.toList == (ByteArray.mk #[124]).toList) then
 (ref1_Two_J7 a0 a1 a2 (orK .i64 a1 a2))
 else
 (ref1_Two_J7 a0 a1 a2 y6)
noncomputable def ref1_Two_J5 (a0 : ByteArray) (a1 : Int) (a2 : Int) (y5 : Int) : Option (Int × Bool) :=
 if (a0.toList == (ByteArray.mk #[38]).toList) then
 (ref1_Two_J6 a0 a1 a2 (andK .i64 a1 a2))
 else
 (ref1_Two_J6 a0 a1 a2 y5)
noncomputable def ref1_Two_J4 (a0 : ByteArray) (a1 : Int) (a2 : Int) (y4 : Int) : Option (Int × Bool) :=
 if (a0.toList == (ByteArray.mk #[37]).toList) then
 ((qrem a1 a2).bind fun x9 =>
 ref1_Two_J5 a0 a1 a2 x9)
 else
 (ref1_Two_J5 a0 a1 a2 y4)
noncomputable def ref1_Two_J3 (a0 : ByteArray) (a1 : Int) (a2 : Int) (y3 : Int) : Option (Int × Bool) :=
 if (a0.toList == (ByteArray.mk #[47]).toList) then
 ((qdiv .i64 a1 a2).bind fun x10 =>
 ref1_Two_J4 a0 a1 a2 x10)
 else
 (ref1_Two_J4 a0 a1 a2 y3)
noncomputable def ref1_Two_J2 (a0 : ByteArray) (a1 : Int) (a2 : Int) (y2 : Int) : Option (Int × Bool) :=
 if (a0.toList == (ByteArray.mk #[42]).toList) then
 (ref1_Two_J3 a0 a1 a2 (w64 (a1 * a2)))
 else
 (ref1_Two_J3 a0 a1 a2 y2)
noncomputable def ref1_Two_J1 (a0 : ByteArray) (a1 : Int) (a2 : Int) (y1 : Int) : Option (Int × Bool) :=
 if (a0.toList == (ByteArray.mk #[45]).toList) then
 (ref1_Two_J2 a0 a1 a2 (w64 (a1 - a2)))
 else
 (ref1_Two_J2 a0 a1 a2 y1)
noncomputable def ref1_Two (a0 : ByteArray) (a1 : Int) (a2 : Int) : Option (Int × Bool) :=
 if (if (if (a0.toList == (ByteArray.mk #[47]).toList) then true else (a0.toList == (ByteArray.mk #[37]).toList)) then (a2 == 0) else false) then
 (some (0, false))
 else
 (if (a0.toList == (ByteArray.mk #[43]).toList) then
 (ref1_Two_J1 a0 a1 a2 (w64 (a1 + a2)))
 else
 (ref1_Two_J1 a0 a1 a2 0))
abbrev R_ref1_Two (r : (Int × Bool)) : AV := (.tup [(I r.1), (B r.2)])
set_option maxHeartbeats 4000000 in
theorem T_ref1_Two {nn : Nat} {a0 : ByteArray} {a1 : Int} {a2 : Int} {r : (Int × Bool)} (hF : ref1_Two a0 a1 a2 = some r) : den cx (nn + 2) 75 [(AV.val (.string a0)), (I a1), (I a2)] = some (R_ref1_Two r, []) := by
 unfold ref1_Two at hF
 refine fnA Tryd.func75 Tryd.ntmps75 (by exact spine) (sl := [0, 1, 2]) ?_
 refine sr <| pp oAssign <| pp oAssign <| nl <| sq <| sr <| pp oMove <| pp oEqlS <| pp oMove <| pg ar oMove <| pg ar oEqlS <| pp oPick <| pp oMove <| pg ar oMove <| ?_
 refine pg ar oEql <| pp oPick <| nl <| ?_
 refine cd hF (fun hF => ?_) (fun hF => ?_)
 · refine sr <| pp oAssign <| pp oAssign <| nl <| rt <| qsR <| ?_
   obtain rfl := inj hF
   exact finT
 · refine sk <| qs <| sr <| pp oAssign <| nl <| ?_
   refine sjn (r := r) (fun (s : Int) => mkSt 110 [0, 1, 2, 8] [(AV.val (.string a0)), (I a1), (I a2), (I s)]) (fun s => ref1_Two_J1 a0 a1 a2 s) ?_ ?_
   · refine sr <| pp oMove <| pp oEqlS <| nl <| ?_
     refine cd hF (fun hF => ?_) (fun hF => ?_)
     · refine rg <| pp oMove <| pp oMove <| pp oAdd <| pp oAssign <| nl <| ?_
       exact qj (w64 (a1 + a2)) hF cutR'
     · refine sk <| ?_
       exact qj 0 hF cutR'
   · rintro y1 hF
     replace hF : ref1_Two_J1 a0 a1 a2 y1 = some r := hF
     unfold ref1_Two_J1 at hF
     refine mk ?_
     refine sjn (r := r) (fun (s : Int) => mkSt 110 [0, 1, 2, 8] [(AV.val (.string a0)), (I a1), (I a2), (I s)]) (fun s => ref1_Two_J2 a0 a1 a2 s) ?_ ?_
     · refine sr <| pp oMove <| pp oEqlS <| nl <| ?_
       refine cd hF (fun hF => ?_) (fun hF => ?_)
       · refine rg <| pp oMove <| pp oMove <| pp oSub <| pp oAssign <| nl <| ?_
         exact qj (w64 (a1 - a2)) hF cutR'
       · refine sk <| ?_
         exact qj y1 hF cutR'
     · rintro y2 hF
       replace hF : ref1_Two_J2 a0 a1 a2 y2 = some r := hF
       unfold ref1_Two_J2 at hF
       refine mk ?_
       refine sjn (r := r) (fun (s : Int) => mkSt 110 [0, 1, 2, 8] [(AV.val (.string a0)), (I a1), (I a2), (I s)]) (fun s => ref1_Two_J3 a0 a1 a2 s) ?_ ?_
       · refine sr <| pp oMove <| pp oEqlS <| nl <| ?_
         refine cd hF (fun hF => ?_) (fun hF => ?_)
         · refine rg <| pp oMove <| pp oMove <| pp oMul <| pp oAssign <| nl <| ?_
           exact qj (w64 (a1 * a2)) hF cutR'
         · refine sk <| ?_
           exact qj y2 hF cutR'
       · rintro y3 hF
         replace hF : ref1_Two_J3 a0 a1 a2 y3 = some r := hF
         unfold ref1_Two_J3 at hF
         refine mk ?_
         refine sjn (r := r) (fun (s : Int) => mkSt 110 [0, 1, 2, 8] [(AV.val (.string a0)), (I a1), (I a2), (I s)]) (fun s => ref1_Two_J4 a0 a1 a2 s) ?_ ?_
         · refine sr <| pp oMove <| pp oEqlS <| nl <| ?_
           refine cd hF (fun hF => ?_) (fun hF => ?_)
           · refine rg <| pp oMove <| pp oMove <| ?_
             refine bb hF fun x10 h10 hF => ?_
             refine pp (oQuo h10) <| pp oAssign <| nl <| ?_
             exact qj x10 hF cutR'
           · refine sk <| ?_
             exact qj y3 hF cutR'
         · rintro y4 hF
           replace hF : ref1_Two_J4 a0 a1 a2 y4 = some r := hF
           unfold ref1_Two_J4 at hF
           refine mk ?_
           refine sjn (r := r) (fun (s : Int) => mkSt 110 [0, 1, 2, 8] [(AV.val (.string a0)), (I a1), (I a2), (I s)]) (fun s => ref1_Two_J5 a0 a1 a2 s) ?_ ?_
           · refine sr <| pp oMove <| pp oEqlS <| nl <| ?_
             refine cd hF (fun hF => ?_) (fun hF => ?_)
             · refine rg <| pp oMove <| pp oMove <| ?_
               refine bb hF fun x9 h9 hF => ?_
               refine pp (oRem h9) <| pp oAssign <| nl <| ?_
               exact qj x9 hF cutR'
             · refine sk <| ?_
               exact qj y4 hF cutR'
           · rintro y5 hF
             replace hF : ref1_Two_J5 a0 a1 a2 y5 = some r := hF
             unfold ref1_Two_J5 at hF
             refine mk ?_
             refine sjn (r := r) (fun (s : Int) => mkSt 110 [0, 1, 2, 8] [(AV.val (.string a0)), (I a1), (I a2), (I s)]) (fun s => ref1_Two_J6 a0 a1 a2 s) ?_ ?_
             · refine sr <| pp oMove <| pp oEqlS <| nl <| ?_
               refine cd hF (fun hF => ?_) (fun hF => ?_)
               · refine rg <| pp oMove <| pp oMove <| pp oAnd <| pp oAssign <| nl <| ?_
                 exact qj (andK .i64 a1 a2) hF cutR'
               · refine sk <| ?_
                 exact qj y5 hF cutR'
             · rintro y6 hF
               replace hF : ref1_Two_J6 a0 a1 a2 y6 = some r := hF
               unfold ref1_Two_J6 at hF
               refine mk ?_
               refine sjn (r := r) (fun (s : Int) => mkSt 110 [0, 1, 2, 8] [(AV.val (.string a0)), (I a1), (I a2), (I s)]) (fun s => ref1_Two_J7 a0 a1 a2 s) ?_ ?_
               · refine sr <| pp oMove <| pp oEqlS <| nl <| ?_
                 refine cd hF (fun hF => ?_) (fun hF => ?_)
                 · refine rg <| pp oMove <| pp oMove <| pp oOr <| pp oAssign <| nl <| ?_
                   exact qj (orK .i64 a1 a2) hF cutR'
                 · refine sk <| ?_
                   exact qj y6 hF cutR'
               · rintro y7 hF
                 replace hF : ref1_Two_J7 a0 a1 a2 y7 = some r := hF
                 unfold ref1_Two_J7 at hF
                 refine mk ?_
                 refine sjn (r := r) (fun (s : Int) => mkSt 110 [0, 1, 2, 8] [(AV.val (.string a0)), (I a1), (I a2), (I s)]) (fun s => ref1_Two_J8 a0 a1 a2 s) ?_ ?_
                 · refine sr <| pp oMove <| pp oEqlS <| nl <| ?_
                   refine cd hF (fun hF => ?_) (fun hF => ?_)
                   · refine rg <| pp oMove <| pp oMove <| pp oXor <| pp oAssign <| nl <| ?_
                     exact qj (xorK .i64 a1 a2) hF cutR'
                   · refine sk <| ?_
                     exact qj y7 hF cutR'
                 · rintro y8 hF
                   replace hF : ref1_Two_J8 a0 a1 a2 y8 = some r := hF
                   unfold ref1_Two_J8 at hF
                   refine mk ?_
                   refine sjn (r := r) (fun (s : Int) => mkSt 110 [0, 1, 2, 8] [(AV.val (.string a0)), (I a1), (I a2), (I s)]) (fun s => ref1_Two_J9 a0 a1 a2 s) ?_ ?_
                   · refine sr <| pp oMove <| pp oEqlS <| nl <| ?_
                     refine cd hF (fun hF => ?_) (fun hF => ?_)
                     · refine rg <| pp oMove <| pp oMove <| pp oAnd <| pp oCvt <| ?_
                       refine bb hF fun x8 h8 hF => ?_
                       refine pp (oShl h8) <| pp oAssign <| nl <| ?_
                       exact qj x8 hF cutR'
                     · refine sk <| ?_
                       exact qj y8 hF cutR'
                   · rintro y9 hF
                     replace hF : ref1_Two_J9 a0 a1 a2 y9 = some r := hF
                     unfold ref1_Two_J9 at hF
                     refine mk ?_
                     refine sjn (r := r) (fun (s : Int) => mkSt 110 [0, 1, 2, 8] [(AV.val (.string a0)), (I a1), (I a2), (I s)]) (fun s => ref1_Two_J10 a0 a1 a2 s) ?_ ?_
                     · refine sr <| pp oMove <| pp oEqlS <| nl <| ?_
                       refine cd hF (fun hF => ?_) (fun hF => ?_)
                       · refine rg <| pp oMove <| pp oMove <| pp oAnd <| pp oCvt <| ?_
                         refine bb hF fun x7 h7 hF => ?_
                         refine pp (oShr h7) <| pp oAssign <| nl <| ?_
                         exact qj x7 hF cutR'
                       · refine sk <| ?_
                         exact qj y9 hF cutR'
                     · rintro y10 hF
                       replace hF : ref1_Two_J10 a0 a1 a2 y10 = some r := hF
                       unfold ref1_Two_J10 at hF
                       refine mk ?_
                       refine sjn (r := r) (fun (s : Int) => mkSt 110 [0, 1, 2, 8] [(AV.val (.string a0)), (I a1), (I a2), (I s)]) (fun s => ref1_Two_J11 a0 a1 a2 s) ?_ ?_
                       · refine sr <| pp oMove <| pp oEqlS <| nl <| ?_
                         refine cd hF (fun hF => ?_) (fun hF => ?_)
                         · refine rg <| pp oMove <| pp oMove <| pp oEql <| ?_
                           refine bb hF fun x6 h6 hF => ?_
                           refine pp (oCall (T_ref1_truth h6)) <| pp oAssign <| nl <| ?_
                           exact qj x6 hF cutR'
                         · refine sk <| ?_
                           exact qj y10 hF cutR'
                       · rintro y11 hF
                         replace hF : ref1_Two_J11 a0 a1 a2 y11 = some r := hF
                         unfold ref1_Two_J11 at hF
                         refine mk ?_
                         refine sjn (r := r) (fun (s : Int) => mkSt 110 [0, 1, 2, 8] [(AV.val (.string a0)), (I a1), (I a2), (I s)]) (fun s => ref1_Two_J12 a0 a1 a2 s) ?_ ?_
                         · refine sr <| pp oMove <| pp oEqlS <| nl <| ?_
                           refine cd hF (fun hF => ?_) (fun hF => ?_)
                           · refine rg <| pp oMove <| pp oMove <| pp oNeq <| ?_
                             refine bb hF fun x5 h5 hF => ?_
                             refine pp (oCall (T_ref1_truth h5)) <| pp oAssign <| nl <| ?_
                             exact qj x5 hF cutR'
                           · refine sk <| ?_
                             exact qj y11 hF cutR'
                         · rintro y12 hF
                           replace hF : ref1_Two_J12 a0 a1 a2 y12 = some r := hF
                           unfold ref1_Two_J12 at hF
                           refine mk ?_
                           refine sjn (r := r) (fun (s : Int) => mkSt 110 [0, 1, 2, 8] [(AV.val (.string a0)), (I a1), (I a2), (I s)]) (fun s => ref1_Two_J13 a0 a1 a2 s) ?_ ?_
                           · refine sr <| pp oMove <| pp oEqlS <| nl <| ?_
                             refine cd hF (fun hF => ?_) (fun hF => ?_)
                             · refine rg <| pp oMove <| pp oMove <| pp oLss <| ?_
                               refine bb hF fun x4 h4 hF => ?_
                               refine pp (oCall (T_ref1_truth h4)) <| pp oAssign <| nl <| ?_
                               exact qj x4 hF cutR'
                             · refine sk <| ?_
                               exact qj y12 hF cutR'
                           · rintro y13 hF
                             replace hF : ref1_Two_J13 a0 a1 a2 y13 = some r := hF
                             unfold ref1_Two_J13 at hF
                             refine mk ?_
                             refine sjn (r := r) (fun (s : Int) => mkSt 110 [0, 1, 2, 8] [(AV.val (.string a0)), (I a1), (I a2), (I s)]) (fun s => ref1_Two_J14 a0 a1 a2 s) ?_ ?_
                             · refine sr <| pp oMove <| pp oEqlS <| nl <| ?_
                               refine cd hF (fun hF => ?_) (fun hF => ?_)
                               · refine rg <| pp oMove <| pp oMove <| pp oLeq <| ?_
                                 refine bb hF fun x3 h3 hF => ?_
                                 refine pp (oCall (T_ref1_truth h3)) <| pp oAssign <| nl <| ?_
                                 exact qj x3 hF cutR'
                               · refine sk <| ?_
                                 exact qj y13 hF cutR'
                             · rintro y14 hF
                               replace hF : ref1_Two_J14 a0 a1 a2 y14 = some r := hF
                               unfold ref1_Two_J14 at hF
                               refine mk ?_
                               refine sjn (r := r) (fun (s : Int) => mkSt 110 [0, 1, 2, 8] [(AV.val (.string a0)), (I a1), (I a2), (I s)]) (fun s => ref1_Two_J15 a0 a1 a2 s) ?_ ?_
                               · refine sr <| pp oMove <| pp oEqlS <| nl <| ?_
                                 refine cd hF (fun hF => ?_) (fun hF => ?_)
                                 · refine rg <| pp oMove <| pp oMove <| pp oGtr <| ?_
                                   refine bb hF fun x2 h2 hF => ?_
                                   refine pp (oCall (T_ref1_truth h2)) <| pp oAssign <| nl <| ?_
                                   exact qj x2 hF cutR'
                                 · refine sk <| ?_
                                   exact qj y14 hF cutR'
                               · rintro y15 hF
                                 replace hF : ref1_Two_J15 a0 a1 a2 y15 = some r := hF
                                 unfold ref1_Two_J15 at hF
                                 refine mk ?_
                                 refine sjn (r := r) (fun (s : Int) => mkSt 110 [8] [(I s)]) (fun s => ref1_Two_J16 s) ?_ ?_
                                 · refine sr <| pp oMove <| pp oEqlS <| nl <| ?_
                                   refine cd hF (fun hF => ?_) (fun hF => ?_)
                                   · refine rg <| pp oMove <| pp oMove <| pp oGeq <| ?_
                                     refine bb hF fun x1 h1 hF => ?_
                                     refine pp (oCall (T_ref1_truth h1)) <| pp oAssign <| nl <| ?_
                                     exact qj x1 hF cutR'
                                   · refine sk <| ?_
                                     exact qj y15 hF cutR'
                                 · rintro y16 hF
                                   replace hF : ref1_Two_J16 y16 = some r := hF
                                   unfold ref1_Two_J16 at hF
                                   refine mk ?_
                                   refine sr <| pp oMove <| pp oAssign <| pp oAssign <| nl <| rt <| ?_
                                   obtain rfl := inj hF
                                   exact finT
end Go.Ab
