/-
  Functions of the program as functions on plain data (written by gen3.py).
-/
import Derived.Test.YtfciindiplokgaaDoorAbGen5
namespace Go.Ab
open Go Go.Proofs
noncomputable def ref2_Two (a0 : Int) (a1 : Int) (a2 : Int) : Option (Int × Bool) :=
 if (a0 == 1) then
 (some (a1, true))
 else
 (if (a0 == 16) then
 (some ((w64 (0 - a1)), true))
 else
 (if (a0 == 17) then
 (some ((w64 ((w64 (0 - a1)) - 1)), true))
 else
 ((idx ([(ByteArray.mk #[]), (ByteArray.mk #[]), (ByteArray.mk #[43]), (ByteArray.mk #[45]), (ByteArray.mk #[42]), (ByteArray.mk #[47]), (ByteArray.mk #[37]), (ByteArray.mk #[38]), (ByteArray.mk #[124]), (ByteArray.mk #[94]), (ByteArray.mk #[60, 60]), (ByteArray.mk #[62, 62]), (ByteArray.mk #[61, 61]), (ByteArray.mk #[33, 61]), (ByteArray.mk #[60]), (ByteArray.mk #[60, 61])] : List ByteArray) a0).bind fun x1 =>
 (ref1_Two x1 a1 a2).bind fun x2 =>
 some (x2.1, x2.2))))
abbrev R_ref2_Two (r : (Int × Bool)) : AV := (.tup [(I r.1), (B r.2)])
set_option maxHeartbeats 4000000 in
theorem T_ref2_Two {nn : Nat} {a0 : Int} {a1 : Int} {a2 : Int} {r : (Int × Bool)} (hF : ref2_Two a0 a1 a2 = some r) : den cx (nn + 3) 58 [(I a0), (I a1), (I a2)] = some (R_ref2_Two r, []) := by
 unfold ref2_Two at hF
 refine fnA Tryd.func58 Tryd.ntmps58 (by exact spine) (sl := [0, 1, 2]) ?_
 refine sr <| pp oAssign <| pp oAssign <| nl <| sq <| sr <| pp oMove <| pp oEql <| nl <| ?_
 refine cd hF (fun hF => ?_) (fun hF => ?_)
 · refine sr <| pp oMove <| pp oAssign <| pp oAssign <| nl <| rt <| qsR <| ?_
   obtain rfl := inj hF
   exact finT
 · refine sk <| qs <| sq <| sr <| pp oMove <| pp oEql <| nl <| ?_
   refine cd hF (fun hF => ?_) (fun hF => ?_)
   · refine sr <| pp oMove <| pp oNeg <| pp oAssign <| pp oAssign <| nl <| rt <| qsR <| ?_
     obtain rfl := inj hF
     exact finT
   · refine sk <| qs <| sq <| sr <| pp oMove <| pp oEql <| nl <| ?_
     refine cd hF (fun hF => ?_) (fun hF => ?_)
     · refine sr <| pp oMove <| pp oNeg <| pp oSub <| pp oAssign <| pp oAssign <| nl <| rt <| qsR <| ?_
       obtain rfl := inj hF
       exact finT
     · refine sk <| qs <| sr <| pp oBSF <| pp oMove <| ?_
       refine bb hF fun x1 h1 hF => ?_
       refine pp (oIx (c := cStr) h1) <| pp oLd <| pp oAssign <| nl <| sr <| pp oMove <| pp oMove <| pp oMove <| ?_
       refine bb hF fun x2 h2 hF => ?_
       refine pp (oCall (T_ref1_Two h2)) <| pp oExt <| pp oExt <| pp oAssign <| pp oAssign <| nl <| rt <| ?_
       obtain rfl := inj hF
       exact finT
noncomputable def ref2_Run_ins_L1 (a1 : XApi_Ins) (y6 : XTurneryref2_Run) (y7 : XTurneryref2_Run) (y8 : (List Int)) (y9 : Int) : Option (Lp (XTurneryref2_Run × XTurneryref2_Run × (List Int) × Int) (XTurneryref2_Run × XTurneryref2_Run × (List Int))) :=
 (stk (y6.Frames.1, y6.Frames.2)).bind fun _ =>
 (stk (y7.Frames.1, y7.Frames.2)).bind fun _ =>
 if (decide (y9 < (a1.Args.length : Int))) then
 ((idx a1.Args y9).bind fun x7 =>
 (ref2_Run_get (XTurneryref2_Run.mk y6.U y6.Mem y6.Input y6.Out (y6.Frames.1, y6.Frames.2) y6.Counts y6.State y6.Value y6.Steps) x7).bind fun x8 =>
 (app y8 ([x8] : List Int)).bind fun x9 =>
 some (.next ((XTurneryref2_Run.mk y6.U y6.Mem y6.Input y6.Out (y6.Frames.1, y6.Frames.2) y6.Counts y6.State y6.Value y6.Steps), (XTurneryref2_Run.mk y7.U y7.Mem y7.Input y7.Out (y7.Frames.1, y7.Frames.2) y7.Counts y7.State y7.Value y7.Steps), x9, (w64 (y9 + 1)))))
 else
 (some (.out ((XTurneryref2_Run.mk y6.U y6.Mem y6.Input y6.Out (y6.Frames.1, y6.Frames.2) y6.Counts y6.State y6.Value y6.Steps), (XTurneryref2_Run.mk y7.U y7.Mem y7.Input y7.Out (y7.Frames.1, y7.Frames.2) y7.Counts y7.State y7.Value y7.Steps), y8)))
noncomputable def ref2_Run_ins (a0 : XTurneryref2_Run) (a1 : XApi_Ins) : Option XTurneryref2_Run :=
 (stk (a0.Frames.1, a0.Frames.2)).bind fun _ =>
 (ref2_Run_get (XTurneryref2_Run.mk a0.U a0.Mem a0.Input a0.Out (a0.Frames.1, a0.Frames.2) a0.Counts a0.State a0.Value a0.Steps) a1.A).bind fun x1 =>
 (ref2_Run_get (XTurneryref2_Run.mk a0.U a0.Mem a0.Input a0.Out (a0.Frames.1, a0.Frames.2) a0.Counts a0.State a0.Value a0.Steps) a1.B).bind fun x2 =>
 if (if (a1.Op == 18) then true else (a1.Op == 19)) then
 ((ref2_in x1 0 (w64 ((a0.Mem.length : Int) - 1))).bind fun x3 =>
 if (!x3) then
 (some (XTurneryref2_Run.mk a0.U a0.Mem a0.Input a0.Out (a0.Frames.1, a0.Frames.2) a0.Counts 3 a0.Value a0.Steps))
 else
 (if (a1.Op == 18) then
 ((idx a0.Mem x1).bind fun x4 =>
 (ref2_Run_set (XTurneryref2_Run.mk a0.U a0.Mem a0.Input a0.Out (a0.Frames.1, a0.Frames.2) a0.Counts a0.State a0.Value a0.Steps) a1.Dst x4).bind fun x5 =>
 (stk (x5.Frames.1, x5.Frames.2)).bind fun _ =>
 some (XTurneryref2_Run.mk x5.U x5.Mem x5.Input x5.Out (x5.Frames.1, x5.Frames.2) x5.Counts x5.State x5.Value x5.Steps))
 else
 ((idx a0.Mem x1).bind fun x6 =>
 some (XTurneryref2_Run.mk a0.U (List.set a0.Mem ((x1) : Int).toNat x2) a0.Input a0.Out (a0.Frames.1, a0.Frames.2) a0.Counts a0.State a0.Value a0.Steps))))
 else
 (if (a1.Op == 20) then
 (if ((a0.Frames.2 : Int) == 30) then
 (some (XTurneryref2_Run.mk a0.U a0.Mem a0.Input a0.Out (a0.Frames.1, a0.Frames.2) a0.Counts 4 a0.Value a0.Steps))
 else
 ((Loop (fun (s : (XTurneryref2_Run × XTurneryref2_Run × (List Int) × Int)) => ref2_Run_ins_L1 a1 s.1 s.2.1 s.2.2.1 s.2.2.2) ((XTurneryref2_Run.mk a0.U a0.Mem a0.Input a0.Out (a0.Frames.1, a0.Frames.2) a0.Counts a0.State a0.Value a0.Steps), (XTurneryref2_Run.mk (XApi_Unit.mk [] []) [] [] [] ([], 0) [] 0 0 0), [], 0)).bind fun v1 =>
 (stk (v1.1.Frames.1, v1.1.Frames.2)).bind fun _ =>
 (stk (v1.2.1.Frames.1, v1.2.1.Frames.2)).bind fun _ =>
 (ref2_Run_enter (XTurneryref2_Run.mk v1.1.U v1.1.Mem v1.1.Input v1.1.Out (v1.1.Frames.1, v1.1.Frames.2) v1.1.Counts v1.1.State v1.1.Value v1.1.Steps) a1.Func a1.Dst v1.2.2).bind fun x10 =>
 (stk (x10.Frames.1, x10.Frames.2)).bind fun _ =>
 some (XTurneryref2_Run.mk x10.U x10.Mem x10.Input x10.Out (x10.Frames.1, x10.Frames.2) x10.Counts x10.State x10.Value x10.Steps)))
 else
 (if (a1.Op == 21) then
 (if ((a0.Input.length : Int) == 0) then
 ((ref2_Run_set (XTurneryref2_Run.mk a0.U a0.Mem a0.Input a0.Out (a0.Frames.1, a0.Frames.2) a0.Counts a0.State a0.Value a0.Steps) a1.Dst (-1)).bind fun x11 =>
 (stk (x11.Frames.1, x11.Frames.2)).bind fun _ =>
 some (XTurneryref2_Run.mk x11.U x11.Mem x11.Input x11.Out (x11.Frames.1, x11.Frames.2) x11.Counts x11.State x11.Value x11.Steps))
 else
 ((idx a0.Input 0).bind fun x12 =>
 (slc a0.Input (some 1) none).bind fun x13 =>
 (ref2_Run_set (XTurneryref2_Run.mk a0.U a0.Mem x13 a0.Out (a0.Frames.1, a0.Frames.2) a0.Counts a0.State a0.Value a0.Steps) a1.Dst x12).bind fun x14 =>
 (stk (x14.Frames.1, x14.Frames.2)).bind fun _ =>
 some (XTurneryref2_Run.mk x14.U x14.Mem x14.Input x14.Out (x14.Frames.1, x14.Frames.2) x14.Counts x14.State x14.Value x14.Steps)))
 else
 (if (a1.Op == 22) then
 (if ((a0.Out.length : Int) == 200) then
 (some (XTurneryref2_Run.mk a0.U a0.Mem a0.Input a0.Out (a0.Frames.1, a0.Frames.2) a0.Counts 5 a0.Value a0.Steps))
 else
 ((app a0.Out ([x1] : List Int)).bind fun x15 =>
 some (XTurneryref2_Run.mk a0.U a0.Mem a0.Input x15 (a0.Frames.1, a0.Frames.2) a0.Counts a0.State a0.Value a0.Steps)))
 else
 ((ref2_Two a1.Op x1 x2).bind fun x16 =>
 if (!x16.2) then
 (some (XTurneryref2_Run.mk a0.U a0.Mem a0.Input a0.Out (a0.Frames.1, a0.Frames.2) a0.Counts 2 a0.Value a0.Steps))
 else
 ((ref2_Run_set (XTurneryref2_Run.mk a0.U a0.Mem a0.Input a0.Out (a0.Frames.1, a0.Frames.2) a0.Counts a0.State a0.Value a0.Steps) a1.Dst x16.1).bind fun x17 =>
 (stk (x17.Frames.1, x17.Frames.2)).bind fun _ =>
 some (XTurneryref2_Run.mk x17.U x17.Mem x17.Input x17.Out (x17.Frames.1, x17.Frames.2) x17.Counts x17.State x17.Value x17.Steps))))))
abbrev R_ref2_Run_ins (r : XTurneryref2_Run) : AV := (.agg (cXTurneryref2_Run_SIOIOLSIIIOIeOOIIIe r))
set_option maxHeartbeats 4000000 in
theorem T_ref2_Run_ins {nn : Nat} {a0 : XTurneryref2_Run} {a1 : XApi_Ins} {r : XTurneryref2_Run} (hF : ref2_Run_ins a0 a1 = some r) : den cx (nn + 4) 38 [(.agg (cXTurneryref2_Run_SIOIOLSIIIOIeOOIIIe a0)), (.agg (cXApi_Ins a1))] = some (R_ref2_Run_ins r, []) := by
 unfold ref2_Run_ins at hF
 refine fnA Tryd.func38 Tryd.ntmps38 (by exact spine) (sl := [0, 1]) ?_
 refine bb hF fun _ h1 hF => ?_
 have h1 : a0.Frames.2 ≤ a0.Frames.1.length := stk_le h1
 refine sr <| ww oBoxM <| pp oBoxF <| ww oAlloc <| nl <| sr <| rr oLdRA <| pp oFA <| pp oLdA <| ?_
 refine bb hF fun x1 h2 hF => ?_
 refine rr (oCall (T_ref2_Run_get h2)) <| pp oAssign <| nl <| sr <| rr oLdRA <| pp oFA <| pp oLdA <| ?_
 refine bb hF fun x2 h3 hF => ?_
 refine rr (oCall (T_ref2_Run_get h3)) <| pp oAssign <| nl <| sq <| sr <| pp oFA <| pp oLd <| pp oEql <| pp oMove <| pg ar oFA <| pg ar oLd <| pg ar oEql <| pp oPick <| nl <| ?_
 refine cd hF (fun hF => ?_) (fun hF => ?_)
 · refine sq <| sr <| pp oMove <| pp oFAM <| rr oLdR <| pp (oLenRs (m := a0.Mem.length)) <| pp oSub <| ?_
   refine bb hF fun x3 h4 hF => ?_
   refine pp (oCallZ (T_ref2_in h4)) <| pp oNot <| nl <| ?_
   refine cd hF (fun hF => ?_) (fun hF => ?_)
   · refine sr <| pp oFAM <| ww oStR <| nl <| sr <| rr oLdRA <| ww oStR <| nl <| rt <| qsR <| qsR <| ?_
     obtain rfl := inj hF
     exact fin1
   · refine sk <| qs <| sq <| sr <| pp oFA <| pp oLd <| pp oEql <| nl <| ?_
     refine cd hF (fun hF => ?_) (fun hF => ?_)
     · refine srD <| rr oLdRA <| pp oFA <| pp oLd <| pp oFAM <| rr oLdR <| pp oMove <| ?_
       refine bb hF fun x4 h5 hF => ?_
       refine rr (oIxM h5) <| rr (oLdM (idx_nat h5)) <| ?_
       refine bb hF fun x5 h6 hF => ?_
       refine ww (oCallT (T_ref2_Run_set h6)) <| ?_
       refine bb hF fun _ h7 hF => ?_
       have h7 : x5.Frames.2 ≤ x5.Frames.1.length := stk_le h7
       refine ww oStR <| nlD <| rt <| qsR <| qsR <| ?_
       obtain rfl := inj hF
       exact fin1
     · refine sk <| qs <| sr <| pp oFAM <| rr oLdR <| pp oMove <| pp oMove <| ?_
       refine bb hF fun x6 h8 hF => ?_
       refine rr (oIxM h8) <| ww (oStL (idx_nat h8) x2) <| nl <| sr <| rr oLdRA <| ww oStR <| nl <| rt <| qsR <| ?_
       obtain rfl := inj hF
       exact fin1
 · refine sk <| qs <| sq <| sr <| pp oFA <| pp oLd <| pp oEql <| nl <| ?_
   refine cd hF (fun hF => ?_) (fun hF => ?_)
   · refine sq <| sr <| pp oFAM <| rr oLdR <| pp (oLenRs (m := a0.Frames.2)) <| pp oEql <| nl <| ?_
     refine cd hF (fun hF => ?_) (fun hF => ?_)
     · refine sr <| pp oFAM <| ww oStR <| nl <| sr <| rr oLdRA <| ww oStR <| nl <| rt <| qsR <| qsR <| ?_
       obtain rfl := inj hF
       exact fin1
     · refine sk <| qs <| sr <| pp oAssign <| nl <| sq <| sr <| pp oAssign <| nl <| ?_
       refine lp (fun (s : (XTurneryref2_Run × XTurneryref2_Run × (List Int) × Int)) => mkSt 145 [2, 3, 4, 7, 8] [(.ownp (cXTurneryref2_Run_SIOIOLSIIIOIeOOIIIe s.1)), (.vp (cXApi_Ins a1)), (.ownp (cXTurneryref2_Run_SSOOeOOOLSIIIOIeOIIIe s.2.1)), (.own ((s.2.2.1).map cInt_i64) (s.2.2.1).length), (I s.2.2.2)]) (fun (s : (XTurneryref2_Run × XTurneryref2_Run × (List Int))) => mkSt 145 [2, 3, 4, 7] [(.ownp (cXTurneryref2_Run_SIOIOLSIIIOIeOOIIIe s.1)), (.vp (cXApi_Ins a1)), (.ownp (cXTurneryref2_Run_SSOOeOOOLSIIIOIeOIIIe s.2.1)), (.own ((s.2.2).map cInt_i64) (s.2.2).length)]) hF cutR' ?_ ?_
       · rintro ⟨y6, y7, y8, y9⟩ z1 hF
         replace hF : ref2_Run_ins_L1 a1 y6 y7 y8 y9 = some z1 := hF
         unfold ref2_Run_ins_L1 at hF
         refine mk ?_
         refine bb hF fun _ h11 hF => ?_
         have h11 : y6.Frames.2 ≤ y6.Frames.1.length := stk_le h11
         refine bb hF fun _ h12 hF => ?_
         have h12 : y7.Frames.2 ≤ y7.Frames.1.length := stk_le h12
         refine sq <| sr <| pp oMove <| pp oFA <| pp oLd <| pp oLenSl <| pp oLss <| nl <| ?_
         refine cd hF (fun hF => ?_) (fun hF => ?_)
         · refine sk <| qs <| sq <| bl <| rgD <| pp oMove <| rr oLdRA <| pp oFA <| pp oLd <| pp oMove <| ?_
           refine bb hF fun x7 h13 hF => ?_
           refine pp (oIx h13) <| pp oLdA <| ?_
           refine bb hF fun x8 h14 hF => ?_
           refine rr (oCallZ (T_ref2_Run_get h14)) <| pp oBSF <| ?_
           refine bb hF fun x9 h15 hF => ?_
           refine ww (oApp h15) <| pp oAssign <| nlD <| qb <| qs <| rg <| pp oMove <| pp oAdd <| pp oAssign <| nl <| ?_
           exact ln hF cutR'
         · refine ex <| qsE <| ?_
           exact lx hF cutR'
       · intro v1 hF
         refine qmk ?_
         refine bb hF fun _ h16 hF => ?_
         have h16 : v1.1.Frames.2 ≤ v1.1.Frames.1.length := stk_le h16
         refine bb hF fun _ h17 hF => ?_
         have h17 : v1.2.1.Frames.2 ≤ v1.2.1.Frames.1.length := stk_le h17
         refine qs <| sr <| rr oLdRA <| pp oFA <| pp oLd <| pp oFA <| pp oLd <| pp oMove <| ?_
         refine bb hF fun x10 h18 hF => ?_
         refine ww (oCallT (T_ref2_Run_enter h18)) <| ?_
         refine bb hF fun _ h19 hF => ?_
         have h19 : x10.Frames.2 ≤ x10.Frames.1.length := stk_le h19
         refine ww oStR <| nl <| rt <| qsR <| ?_
         obtain rfl := inj hF
         exact fin1
   · refine sk <| qs <| sq <| sr <| pp oFA <| pp oLd <| pp oEql <| nl <| ?_
     refine cd hF (fun hF => ?_) (fun hF => ?_)
     · refine sq <| sr <| pp oFAM <| rr oLdR <| pp oLenSl <| pp oEql <| nl <| ?_
       refine cd hF (fun hF => ?_) (fun hF => ?_)
       · refine sr <| rr oLdRA <| pp oFA <| pp oLd <| ?_
         refine bb hF fun x11 h20 hF => ?_
         refine ww (oCallT (T_ref2_Run_set h20)) <| ?_
         refine bb hF fun _ h21 hF => ?_
         have h21 : x11.Frames.2 ≤ x11.Frames.1.length := stk_le h21
         refine ww oStR <| nl <| rt <| qsR <| qsR <| ?_
         obtain rfl := inj hF
         exact fin1
       · refine sk <| qs <| sr <| pp oFAM <| rr oLdR <| ?_
         refine bb hF fun x12 h22 hF => ?_
         refine pp (oIx h22) <| pp oLd <| pp oAssign <| nl <| sr <| pp oFAM <| rr oLdR <| ?_
         refine bb hF fun x13 h23 hF => ?_
         refine pp (oSlc h23) <| pp oFAM <| ww oStR <| nl <| sr <| rr oLdRA <| pp oFA <| pp oLd <| pp oMove <| ?_
         refine bb hF fun x14 h24 hF => ?_
         refine ww (oCallT (T_ref2_Run_set h24)) <| ?_
         refine bb hF fun _ h25 hF => ?_
         have h25 : x14.Frames.2 ≤ x14.Frames.1.length := stk_le h25
         refine ww oStR <| nl <| rt <| qsR <| ?_
         obtain rfl := inj hF
         exact fin1
     · refine sk <| qs <| sq <| sr <| pp oFA <| pp oLd <| pp oEql <| nl <| ?_
       refine cd hF (fun hF => ?_) (fun hF => ?_)
       · refine sq <| sr <| pp oFAM <| rr oLdR <| pp (oLenRs (m := a0.Out.length)) <| pp oEql <| nl <| ?_
         refine cd hF (fun hF => ?_) (fun hF => ?_)
         · refine sr <| pp oFAM <| ww oStR <| nl <| sr <| rr oLdRA <| ww oStR <| nl <| rt <| qsR <| qsR <| ?_
           obtain rfl := inj hF
           exact fin1
         · refine sk <| qs <| sr <| pp oFAM <| rr oLdR <| pp oMove <| pp oBSF <| ?_
           refine bb hF fun x15 h26 hF => ?_
           refine ww (oApp h26) <| pp oFAM <| ww oStR <| nl <| sr <| rr oLdRA <| ww oStR <| nl <| rt <| qsR <| ?_
           obtain rfl := inj hF
           exact fin1
       · refine sk <| qs <| sr <| pp oFA <| pp oLd <| pp oMove <| pp oMove <| ?_
         refine bb hF fun x16 h27 hF => ?_
         refine pp (oCallZ (T_ref2_Two h27)) <| pp oMove <| pp oExt <| pp oExt <| pp oAssign <| pp oAssign <| nl <| sq <| sr <| pp oMove <| pp oNot <| nl <| ?_
         refine cd hF (fun hF => ?_) (fun hF => ?_)
         · refine sr <| pp oFAM <| ww oStR <| nl <| sr <| rr oLdRA <| ww oStR <| nl <| rt <| qsR <| ?_
           obtain rfl := inj hF
           exact fin1
         · refine sk <| qs <| sr <| rr oLdRA <| pp oFA <| pp oLd <| pp oMove <| ?_
           refine bb hF fun x17 h28 hF => ?_
           refine ww (oCallT (T_ref2_Run_set h28)) <| ?_
           refine bb hF fun _ h29 hF => ?_
           have h29 : x17.Frames.2 ≤ x17.Frames.1.length := stk_le h29
           refine ww oStR <| nl <| rt <| ?_
           obtain rfl := inj hF
           exact fin1
noncomputable def ref2_Do_J1 (y15 : XApi_Outcome) (y16 : XTurneryref2_Run) (y17 : Int) (y18 : Int) : Option (Lp (XApi_Outcome × XTurneryref2_Run × Int) (XApi_Outcome × XTurneryref2_Run)) :=
 (stk ((y16.Frames.1, y16.Frames.2).1, (y16.Frames.1, y16.Frames.2).2)).bind fun _ =>
 (app y16.Mem ([y18] : List Int)).bind fun x2 =>
 some (.next (y15, (XTurneryref2_Run.mk y16.U x2 y16.Input y16.Out ((y16.Frames.1, y16.Frames.2).1, (y16.Frames.1, y16.Frames.2).2) y16.Counts y16.State y16.Value y16.Steps), (w64 (y17 + 1))))
noncomputable def ref2_Do_L2 (a0 : XApi_Unit) (y8 : Int) (y15 : XApi_Outcome) (y16 : XTurneryref2_Run) (y17 : Int) : Option (Lp (XApi_Outcome × XTurneryref2_Run × Int) (XApi_Outcome × XTurneryref2_Run)) :=
 (stk (y16.Frames.1, y16.Frames.2)).bind fun _ =>
 (idx a0.Globals y8).bind fun x1 =>
 if (decide (y17 < x1.Size)) then
 ((idx a0.Globals y8).bind fun x3 =>
 if (decide (y17 < (x3.Init.length : Int))) then
 ((idx a0.Globals y8).bind fun x4 =>
 (idx x4.Init y17).bind fun x5 =>
 ref2_Do_J1 y15 y16 y17 x5)
 else
 (ref2_Do_J1 y15 y16 y17 0))
 else
 (some (.out (y15, (XTurneryref2_Run.mk y16.U y16.Mem y16.Input y16.Out (y16.Frames.1, y16.Frames.2) y16.Counts y16.State y16.Value y16.Steps))))
noncomputable def ref2_Do_L1 (a0 : XApi_Unit) (y6 : XApi_Outcome) (y7 : XTurneryref2_Run) (y8 : Int) : Option (Lp (XApi_Outcome × XTurneryref2_Run × Int) (XApi_Outcome × XTurneryref2_Run)) :=
 (stk (y7.Frames.1, y7.Frames.2)).bind fun _ =>
 if (decide (y8 < (a0.Globals.length : Int))) then
 ((Loop (fun (s : (XApi_Outcome × XTurneryref2_Run × Int)) => ref2_Do_L2 a0 y8 s.1 s.2.1 s.2.2) (y6, (XTurneryref2_Run.mk y7.U y7.Mem y7.Input y7.Out (y7.Frames.1, y7.Frames.2) y7.Counts y7.State y7.Value y7.Steps), 0)).bind fun v1 =>
 (stk (v1.2.Frames.1, v1.2.Frames.2)).bind fun _ =>
 some (.next (v1.1, (XTurneryref2_Run.mk v1.2.U v1.2.Mem v1.2.Input v1.2.Out (v1.2.Frames.1, v1.2.Frames.2) v1.2.Counts v1.2.State v1.2.Value v1.2.Steps), (w64 (y8 + 1)))))
 else
 (some (.out (y6, (XTurneryref2_Run.mk y7.U y7.Mem y7.Input y7.Out (y7.Frames.1, y7.Frames.2) y7.Counts y7.State y7.Value y7.Steps))))
noncomputable def ref2_Do_L3 (a0 : XApi_Unit) (y24 : XApi_Outcome) (y25 : XTurneryref2_Run) (y26 : Int) : Option (Lp (XApi_Outcome × XTurneryref2_Run × Int) (XApi_Outcome × XTurneryref2_Run)) :=
 (stk (y25.Frames.1, y25.Frames.2)).bind fun _ =>
 if (decide (y26 < (a0.Funcs.length : Int))) then
 ((idx a0.Funcs y26).bind fun x6 =>
 (mks (x6.Blocks.length : Int) (0 : Int)).bind fun x7 =>
 (app (List.take y25.Counts.length y25.Counts) [x7]).bind fun x8 =>
 some (.next (y24, (XTurneryref2_Run.mk y25.U y25.Mem y25.Input y25.Out (y25.Frames.1, y25.Frames.2) (List.set x8 (((((((List.take y25.Counts.length y25.Counts)).length : Nat) : Int)) : Int).toNat) x7) y25.State y25.Value y25.Steps), (w64 (y26 + 1)))))
 else
 (some (.out (y24, (XTurneryref2_Run.mk y25.U y25.Mem y25.Input y25.Out (y25.Frames.1, y25.Frames.2) y25.Counts y25.State y25.Value y25.Steps))))
noncomputable def ref2_Do_L4 (a0 : XApi_Unit) (a2 : Int) (y31 : XApi_Outcome) (y32 : XTurneryref2_Run) : Option (Lp (XApi_Outcome × XTurneryref2_Run) (XApi_Outcome × XTurneryref2_Run)) :=
 (stk (y32.Frames.1, y32.Frames.2)).bind fun _ =>
 if (decide (y32.State < 0)) then
 (if (y32.Steps == a2) then
 (some (.out (y31, (XTurneryref2_Run.mk y32.U y32.Mem y32.Input y32.Out (y32.Frames.1, y32.Frames.2) y32.Counts 1 y32.Value y32.Steps))))
 else
 ((idx (List.take y32.Frames.2 y32.Frames.1) (w64 ((y32.Frames.2 : Int) - 1))).bind fun x11 =>
 (idx a0.Funcs x11.Fn).bind fun x12 =>
 (idx x12.Blocks x11.Block).bind fun x13 =>
 if (x11.At == (x13.List.length : Int)) then
 ((ref2_Run_end (XTurneryref2_Run.mk y32.U y32.Mem y32.Input y32.Out ((List.set y32.Frames.1 ((((w64 ((y32.Frames.2 : Int) - 1))) : Int).toNat) x11), y32.Frames.2) y32.Counts y32.State y32.Value (w64 (y32.Steps + 1))) x13.End).bind fun x14 =>
 (stk (x14.Frames.1, x14.Frames.2)).bind fun _ =>
 some (.next (y31, (XTurneryref2_Run.mk x14.U x14.Mem x14.Input x14.Out (x14.Frames.1, x14.Frames.2) x14.Counts x14.State x14.Value x14.Steps))))
 else
 ((idx (List.take y32.Frames.2 y32.Frames.1) (w64 ((y32.Frames.2 : Int) - 1))).bind fun x15 =>
 (idx (List.take y32.Frames.2 y32.Frames.1) (w64 ((y32.Frames.2 : Int) - 1))).bind fun x16 =>
 (idx x13.List x11.At).bind fun x17 =>
 (ref2_Run_ins (XTurneryref2_Run.mk y32.U y32.Mem y32.Input y32.Out ((List.set y32.Frames.1 ((((w64 ((y32.Frames.2 : Int) - 1))) : Int).toNat) (XTurneryref2_Frame.mk x11.Fn x11.Block (w64 (x11.At + 1)) x11.Regs x11.Dst)), y32.Frames.2) y32.Counts y32.State y32.Value (w64 (y32.Steps + 1))) x17).bind fun x18 =>
 (stk (x18.Frames.1, x18.Frames.2)).bind fun _ =>
 some (.next (y31, (XTurneryref2_Run.mk x18.U x18.Mem x18.Input x18.Out (x18.Frames.1, x18.Frames.2) x18.Counts x18.State x18.Value x18.Steps))))))
 else
 (some (.out (y31, (XTurneryref2_Run.mk y32.U y32.Mem y32.Input y32.Out (y32.Frames.1, y32.Frames.2) y32.Counts y32.State y32.Value y32.Steps))))
noncomputable def ref2_Do (a0 : XApi_Unit) (a1 : (List Int)) (a2 : Int) : Option ((List (List Int)) × XApi_Outcome) :=
 (Loop (fun (s : (XApi_Outcome × XTurneryref2_Run × Int)) => ref2_Do_L1 a0 s.1 s.2.1 s.2.2) ((XApi_Outcome.mk 0 0 [] 0), (XTurneryref2_Run.mk a0 [] a1 [] ([], 0) [] (-1) 0 0), 0)).bind fun v2 =>
 (stk (v2.2.Frames.1, v2.2.Frames.2)).bind fun _ =>
 (Loop (fun (s : (XApi_Outcome × XTurneryref2_Run × Int)) => ref2_Do_L3 a0 s.1 s.2.1 s.2.2) (v2.1, (XTurneryref2_Run.mk v2.2.U v2.2.Mem v2.2.Input v2.2.Out (v2.2.Frames.1, v2.2.Frames.2) v2.2.Counts v2.2.State v2.2.Value v2.2.Steps), 0)).bind fun v3 =>
 (stk (v3.2.Frames.1, v3.2.Frames.2)).bind fun _ =>
 (ref2_Main a0).bind fun x9 =>
 (ref2_Run_enter (XTurneryref2_Run.mk v3.2.U v3.2.Mem v3.2.Input v3.2.Out (v3.2.Frames.1, v3.2.Frames.2) v3.2.Counts v3.2.State v3.2.Value v3.2.Steps) x9 (-1) []).bind fun x10 =>
 (stk (x10.Frames.1, x10.Frames.2)).bind fun _ =>
 (Loop (fun (s : (XApi_Outcome × XTurneryref2_Run)) => ref2_Do_L4 a0 a2 s.1 s.2) (v3.1, (XTurneryref2_Run.mk x10.U x10.Mem x10.Input x10.Out (x10.Frames.1, x10.Frames.2) x10.Counts x10.State x10.Value x10.Steps))).bind fun v4 =>
 (stk (v4.2.Frames.1, v4.2.Frames.2)).bind fun _ =>
 some (v4.2.Counts, (XApi_Outcome.mk v4.2.State v4.2.Value v4.2.Out v4.2.Steps))
abbrev R_ref2_Do (r : ((List (List Int)) × XApi_Outcome)) : AV := (.tup [(.own ((r.1).map co_cInt_i64) (r.1).length), (.agg (cXApi_Outcome_SIIOIe r.2))])
set_option maxHeartbeats 4000000 in
theorem T_ref2_Do {nn : Nat} {a0 : XApi_Unit} {a1 : (List Int)} {a2 : Int} {r : ((List (List Int)) × XApi_Outcome)} (hF : ref2_Do a0 a1 a2 = some r) : den cx (nn + 5) 15 [(.agg (cXApi_Unit a0)), (.sl ((a1).map cInt_i64)), (I a2)] = some (R_ref2_Do r, []) := by
 unfold ref2_Do at hF
 refine fnA Tryd.func15 Tryd.ntmps15 (by exact spine) (sl := [0, 1, 2]) ?_
 refine sr <| pp oBoxF <| pp oAssign <| ww oAlloc <| nl <| sr <| pp oLdA <| pp oMove <| pp oBuild <| ww oAlloc <| ww oStR <| nl <| sq <| sr <| ?_
 refine pp oAssign <| nl <| ?_
 refine lp (fun (s : (XApi_Outcome × XTurneryref2_Run × Int)) => mkSt 154 [2, 3, 7, 8, 9] [(I a2), (.vp (cXApi_Unit a0)), (.ownp (cXApi_Outcome_SIIOIe s.1)), (.ownp (cXTurneryref2_Run_SIOIOLSIIIOIeOOIIIe s.2.1)), (I s.2.2)]) (fun (s : (XApi_Outcome × XTurneryref2_Run)) => mkSt 154 [2, 3, 7, 8] [(I a2), (.vp (cXApi_Unit a0)), (.ownp (cXApi_Outcome_SIIOIe s.1)), (.ownp (cXTurneryref2_Run_SIOIOLSIIIOIeOOIIIe s.2))]) hF cutR' ?_ ?_
 · rintro ⟨y6, y7, y8⟩ z1 hF
   replace hF : ref2_Do_L1 a0 y6 y7 y8 = some z1 := hF
   unfold ref2_Do_L1 at hF
   refine mk ?_
   refine bb hF fun _ h2 hF => ?_
   have h2 : y7.Frames.2 ≤ y7.Frames.1.length := stk_le h2
   refine sq <| sr <| pp oMove <| pp oFA <| pp oLd <| pp oLenSl <| pp oLss <| nl <| ?_
   refine cd hF (fun hF => ?_) (fun hF => ?_)
   · refine sk <| qs <| sq <| bl <| sr <| pp oAssign <| nl <| ?_
     refine lp (fun (s : (XApi_Outcome × XTurneryref2_Run × Int)) => mkSt 154 [2, 3, 7, 8, 9, 10] [(I a2), (.vp (cXApi_Unit a0)), (.ownp (cXApi_Outcome_SIIOIe s.1)), (.ownp (cXTurneryref2_Run_SIOIOLSIIIOIeOOIIIe s.2.1)), (I y8), (I s.2.2)]) (fun (s : (XApi_Outcome × XTurneryref2_Run)) => mkSt 154 [2, 3, 7, 8, 9] [(I a2), (.vp (cXApi_Unit a0)), (.ownp (cXApi_Outcome_SIIOIe s.1)), (.ownp (cXTurneryref2_Run_SIOIOLSIIIOIeOOIIIe s.2)), (I y8)]) hF cutR' ?_ ?_
     · rintro ⟨y15, y16, y17⟩ z2 hF
       replace hF : ref2_Do_L2 a0 y8 y15 y16 y17 = some z2 := hF
       unfold ref2_Do_L2 at hF
       refine mk ?_
       refine bb hF fun _ h4 hF => ?_
       have h4 : y16.Frames.2 ≤ y16.Frames.1.length := stk_le h4
       refine sq <| sr <| pp oMove <| pp oFA <| pp oLd <| pp oMove <| ?_
       refine bb hF fun x1 h5 hF => ?_
       refine pp (oIx h5) <| pp oFA <| pp oLd <| pp oLss <| nl <| ?_
       refine cd hF (fun hF => ?_) (fun hF => ?_)
       · refine sk <| qs <| sq <| bl <| sr <| pp oAssign <| nl <| ?_
         refine sjn (r := z2) (fun (s : Int) => mkSt 154 [2, 3, 7, 8, 9, 10, 11] [(I a2), (.vp (cXApi_Unit a0)), (.ownp (cXApi_Outcome_SIIOIe y15)), (.ownp (cXTurneryref2_Run_SIOIOLSIIIOIeOOIIIe (XTurneryref2_Run.mk y16.U y16.Mem y16.Input y16.Out (y16.Frames.1, y16.Frames.2) y16.Counts y16.State y16.Value y16.Steps))), (I y8), (I y17), (I s)]) (fun s => ref2_Do_J1 y15 y16 y17 s) ?_ ?_
         · refine sr <| pp oMove <| pp oFA <| pp oLd <| pp oMove <| ?_
           refine bb hF fun x3 h8 hF => ?_
           refine pp (oIx h8) <| pp oFA <| pp oLd <| pp oLenSl <| pp oLss <| nl <| ?_
           refine cd hF (fun hF => ?_) (fun hF => ?_)
           · refine rg <| pp oFA <| pp oLd <| pp oMove <| ?_
             refine bb hF fun x4 h9 hF => ?_
             refine pp (oIx h9) <| pp oFA <| pp oLd <| pp oMove <| ?_
             refine bb hF fun x5 h10 hF => ?_
             refine pp (oIx h10) <| pp oLd <| pp oAssign <| nl <| ?_
             exact qj x5 hF cutR'
           · refine sk <| ?_
             exact qj 0 hF cutR'
         · rintro y18 hF
           replace hF : ref2_Do_J1 y15 y16 y17 y18 = some z2 := hF
           unfold ref2_Do_J1 at hF
           refine mk ?_
           refine bb hF fun _ h6 hF => ?_
           have h6 : (y16.Frames.1, y16.Frames.2).2 ≤ ((y16.Frames.1, y16.Frames.2).1).length := stk_le h6
           refine rg <| pp oFAM <| rr oLdR <| pp oMove <| pp oBSF <| ?_
           refine bb hF fun x2 h7 hF => ?_
           refine ww (oApp h7) <| pp oFAM <| ww oStR <| nl <| qb <| qs <| rg <| pp oMove <| pp oAdd <| pp oAssign <| nl <| ?_
           exact ln hF cutR'
       · refine ex <| qsE <| ?_
         exact lx hF cutR'
     · intro v1 hF
       refine qmk ?_
       refine bb hF fun _ h11 hF => ?_
       have h11 : v1.2.Frames.2 ≤ v1.2.Frames.1.length := stk_le h11
       refine qb <| qs <| rg <| pp oMove <| pp oAdd <| pp oAssign <| nl <| ?_
       exact ln hF cutR'
   · refine ex <| qsE <| ?_
     exact lx hF cutR'
 · intro v2 hF
   refine qmk ?_
   refine bb hF fun _ h12 hF => ?_
   have h12 : v2.2.Frames.2 ≤ v2.2.Frames.1.length := stk_le h12
   refine qs <| sq <| sr <| pp oAssign <| nl <| ?_
   refine lp (fun (s : (XApi_Outcome × XTurneryref2_Run × Int)) => mkSt 154 [2, 3, 7, 8, 12] [(I a2), (.vp (cXApi_Unit a0)), (.ownp (cXApi_Outcome_SIIOIe s.1)), (.ownp (cXTurneryref2_Run_SIOIOLSIIIOIeOOIIIe s.2.1)), (I s.2.2)]) (fun (s : (XApi_Outcome × XTurneryref2_Run)) => mkSt 154 [2, 3, 7, 8] [(I a2), (.vp (cXApi_Unit a0)), (.ownp (cXApi_Outcome_SIIOIe s.1)), (.ownp (cXTurneryref2_Run_SIOIOLSIIIOIeOOIIIe s.2))]) hF cutR' ?_ ?_
   · rintro ⟨y24, y25, y26⟩ z3 hF
     replace hF : ref2_Do_L3 a0 y24 y25 y26 = some z3 := hF
     unfold ref2_Do_L3 at hF
     refine mk ?_
     refine bb hF fun _ h14 hF => ?_
     have h14 : y25.Frames.2 ≤ y25.Frames.1.length := stk_le h14
     refine sq <| sr <| pp oMove <| pp oFA <| pp oLd <| pp oLenSl <| pp oLss <| nl <| ?_
     refine cd hF (fun hF => ?_) (fun hF => ?_)
     · refine sk <| qs <| sq <| bl <| rgD <| pp oFAM <| rr oLdR <| pp oFA <| pp oLd <| pp oMove <| ?_
       refine bb hF fun x6 h15 hF => ?_
       refine pp (oIx h15) <| pp oFA <| pp oLd <| pp oLenSl <| ?_
       refine bb hF fun x7 h16 hF => ?_
       refine ww (oMake (c := cInt_i64) h16 rfl) <| ww oBSM <| ?_
       refine bb hF fun x8 h17 hF => ?_
       have hk1 := app_get h17
       refine ww (oAppO h17 lle) <| pp oFAM <| ww oStR <| nlD <| qb <| qs <| rg <| pp oMove <| pp oAdd <| pp oAssign <| nl <| ?_
       exact ln hF cutR'
     · refine ex <| qsE <| ?_
       exact lx hF cutR'
   · intro v3 hF
     refine qmk ?_
     refine bb hF fun _ h18 hF => ?_
     have h18 : v3.2.Frames.2 ≤ v3.2.Frames.1.length := stk_le h18
     refine qs <| srD <| rr oLdRA <| pp oLdA <| ?_
     refine bb hF fun x9 h19 hF => ?_
     refine pp (oCallZ (T_ref2_Main h19)) <| ?_
     refine bb hF fun x10 h20 hF => ?_
     refine ww (oCallT (T_ref2_Run_enter h20)) <| ?_
     refine bb hF fun _ h21 hF => ?_
     have h21 : x10.Frames.2 ≤ x10.Frames.1.length := stk_le h21
     refine ww oStR <| nlD <| sq <| ?_
     refine lp (fun (s : (XApi_Outcome × XTurneryref2_Run)) => mkSt 154 [2, 3, 7, 8] [(I a2), (.vp (cXApi_Unit a0)), (.ownp (cXApi_Outcome_SIIOIe s.1)), (.ownp (cXTurneryref2_Run_SIOIOLSIIIOIeOOIIIe s.2))]) (fun (s : (XApi_Outcome × XTurneryref2_Run)) => mkSt 154 [7, 8] [(.ownp (cXApi_Outcome_SIIOIe s.1)), (.ownp (cXTurneryref2_Run_SIOIOLSIIIOIeOOIIIe s.2))]) hF cutR' ?_ ?_
     · rintro ⟨y31, y32⟩ z4 hF
       replace hF : ref2_Do_L4 a0 a2 y31 y32 = some z4 := hF
       unfold ref2_Do_L4 at hF
       refine mk ?_
       refine bb hF fun _ h23 hF => ?_
       have h23 : y32.Frames.2 ≤ y32.Frames.1.length := stk_le h23
       refine sq <| sr <| pp oFAM <| rr oLdR <| pp oLss <| nl <| ?_
       refine cd hF (fun hF => ?_) (fun hF => ?_)
       · refine sk <| qs <| bl <| sq <| sr <| pp oFAM <| rr oLdR <| pp oMove <| pp oEql <| nl <| ?_
         refine cd hF (fun hF => ?_) (fun hF => ?_)
         · refine sr <| pp oFAM <| ww oStR <| nl <| ex <| qsE <| qbM <| ?_
           exact lx hF cutR'
         · refine sk <| qs <| sr <| pp oFAM <| rr oLdR <| pp oAdd <| pp oFAM <| ww oStR <| nl <| sr <| pp oFAM <| rr oLdR <| pp (oLenRs (m := y32.Frames.2)) <| pp oSub <| ?_
           refine pp oAssign <| nl <| sr <| pp oFAM <| rr oLdR <| pp oMove <| ?_
           refine bb hF fun x11 h24 hF => ?_
           refine rr (oIxQ (idx_bt h24) (rowM (idx_take' h24))) <| ?_
           have hk2 := (idx_take' h24)
           have hk2t := idx_nat h24
           refine ww (oLdYA (rowM (idx_take' h24)) setM) <| ww oAlloc <| ww oStR <| nl <| srD <| pp oFA <| pp oLd <| pp oFAM <| rr oLdR <| ?_
           refine bb hF fun x12 h25 hF => ?_
           refine pp (oIx h25) <| pp oFA <| pp oLd <| pp oFAM <| rr oLdR <| ?_
           refine bb hF fun x13 h26 hF => ?_
           refine pp (oIx h26) <| pp oLdA <| ww oAlloc <| ww oStF <| nlD <| sr <| pp oFAM <| rr oLdR <| pp oFA <| pp oLd <| pp oLenSl <| pp oEql <| nl <| ?_
           refine cd hF (fun hF => ?_) (fun hF => ?_)
           · refine rg <| rr oLdRA <| pp oFA <| pp oLdA <| ?_
             refine bb hF fun x14 h27 hF => ?_
             refine ww (oCallT (T_ref2_Run_end h27)) <| ?_
             refine bb hF fun _ h28 hF => ?_
             have h28 : x14.Frames.2 ≤ x14.Frames.1.length := stk_le h28
             refine ww oStR <| nl <| qb <| ?_
             exact ln hF cutR'
           · refine sr <| pp oFAM <| rr oLdR <| pp oMove <| ?_
             refine bb hF fun x15 h29 hF => ?_
             refine rr (oIxQ (idx_bt h29) (rowO hk2)) <| pp oFAM <| rr (oLdQ (rowO hk2)) <| pp oAdd <| ?_
             refine bb hF fun x16 h30 hF => ?_
             refine rr (oIxQ (idx_bt h30) (rowO hk2)) <| pp oFAM <| ww (oStQ (rowO hk2) setO) <| nl <| rgD <| rr oLdRA <| pp oFA <| pp oLd <| pp oFAM <| rr oLdR <| ?_
             refine bb hF fun x17 h31 hF => ?_
             refine pp (oIx h31) <| pp oLdA <| ?_
             refine bb hF fun x18 h32 hF => ?_
             refine ww (oCallT (T_ref2_Run_ins h32)) <| ?_
             refine bb hF fun _ h33 hF => ?_
             have h33 : x18.Frames.2 ≤ x18.Frames.1.length := stk_le h33
             refine ww oStR <| nlD <| qb <| ?_
             exact ln hF cutR'
       · refine ex <| qsE <| ?_
         exact lx hF cutR'
     · intro v4 hF
       refine qmk ?_
       refine bb hF fun _ h34 hF => ?_
       have h34 : v4.2.Frames.2 ≤ v4.2.Frames.1.length := stk_le h34
       refine qs <| srD <| pp oFAM <| rr oLdR <| pp oFAM <| rr oLdR <| pp oFAM <| rr oLdR <| pp oFAM <| rr oLdR <| pp oFAM <| rr oLdR <| pp oBuild <| pp oAssign <| ?_
       refine ww oStR <| nlD <| rt <| ?_
       obtain rfl := inj hF
       exact finT
noncomputable def same_Rows_L1 (a0 : (List (List Int))) (a1 : (List (List Int))) (y4 : Int) : Option (Lp Int (Br Unit Bool)) :=
 if (decide (y4 < (a0.length : Int))) then
 ((idx a0 y4).bind fun x1 =>
 (idx a1 y4).bind fun x2 =>
 (same_Ints x1 x2).bind fun x3 =>
 if (!x3) then
 (some (.out (.ret false)))
 else
 (some (.next (w64 (y4 + 1)))))
 else
 (some (.out (.brk ())))
noncomputable def same_Rows (a0 : (List (List Int))) (a1 : (List (List Int))) : Option Bool :=
 if ((a0.length : Int) != (a1.length : Int)) then
 (some false)
 else
 ((Loop (fun (s : Int) => same_Rows_L1 a0 a1 s) 0).bind (Br.go (fun _ =>
 some true) (fun r1 => some r1)))
abbrev R_same_Rows (r : Bool) : AV := (B r)
def RR_same_Rows (r : Bool) (x : Exit × St) : Prop := x.1 = .ret ∧ Fin cx [.tmp 4] [] (R_same_Rows r) [] x
set_option maxHeartbeats 4000000 in
theorem T_same_Rows {nn : Nat} {a0 : (List (List Int))} {a1 : (List (List Int))} {r : Bool} (hF : same_Rows a0 a1 = some r) : den cx (nn + 2) 16 [(.sl ((a0).map cs_cInt_i64)), (.sl ((a1).map cs_cInt_i64))] = some (R_same_Rows r, []) := by
 unfold same_Rows at hF
 refine fnA Tryd.func16 Tryd.ntmps16 (by exact spine) (sl := [0, 1]) ?_
 refine sr <| pp oAssign <| nl <| sq <| sr <| pp oMove <| pp oLenSl <| pp oMove <| pp oLenSl <| pp oNeq <| nl <| ?_
 refine cd hF (fun hF => ?_) (fun hF => ?_)
 · refine sr <| pp oAssign <| nl <| rt <| qsR <| ?_
   obtain rfl := inj hF
   exact fin1
 · refine sk <| qs <| sq <| sr <| pp oAssign <| nl <| ?_
   refine lpR (fun (s : Int) => mkSt 27 [0, 1, 5] [(.sl ((a0).map cs_cInt_i64)), (.sl ((a1).map cs_cInt_i64)), (I s)]) (fun (s : Unit) => mkSt 27 [] []) RR_same_Rows hF cutR' ?_ ?_ ?_
   · rintro y4 z1 hF
     replace hF : same_Rows_L1 a0 a1 y4 = some z1 := hF
     unfold same_Rows_L1 at hF
     refine mk ?_
     refine sq <| sr <| pp oMove <| pp oMove <| pp oLenSl <| pp oLss <| nl <| ?_
     refine cd hF (fun hF => ?_) (fun hF => ?_)
     · refine sk <| qs <| sq <| bl <| srD <| pp oMove <| pp oMove <| ?_
       refine bb hF fun x1 h1 hF => ?_
       refine pp (oIx h1) <| pp oLd <| pp oMove <| pp oMove <| ?_
       refine bb hF fun x2 h2 hF => ?_
       refine pp (oIx h2) <| pp oLd <| ?_
       refine bb hF fun x3 h3 hF => ?_
       refine pp (oCallZ (T_same_Ints h3)) <| pp oNot <| nlD <| ?_
       refine cd hF (fun hF => ?_) (fun hF => ?_)
       · refine sr <| pp oAssign <| nl <| rt <| qbR <| qsR <| ?_
         exact lr hF ⟨rfl, fin1⟩
       · refine sk <| qb <| qs <| rg <| pp oMove <| pp oAdd <| pp oAssign <| nl <| ?_
         exact ln hF cutR'
     · refine ex <| qsE <| ?_
       exact lxR hF cutR'
   · intro _ hF
     refine qmk ?_
     refine qs <| sr <| pp oAssign <| nl <| rt <| ?_
     obtain rfl := inj hF
     exact fin1
   · rintro r1 hF ⟨xe, xs⟩ ⟨hxe, hfin⟩
     obtain rfl : xe = Exit.ret := hxe
     obtain rfl := inj hF
     refine qbR <| qsR <| ?_
     exact hfin
noncomputable def law2_RunSays_J2 (a0 : XApi_Unit) (a1 : (List Int)) (a2 : Int) (y2 : XApi_Fault) : Option Bool :=
 (run_Do a0 a1 a2).bind fun x3 =>
 (run_Counts a0 a1 a2).bind fun x4 =>
 if (if (!((x3.2.Code == y2.Code) && ((x3.2.At == y2.At) && true))) then true else (!((x4.2.2.Code == y2.Code) && ((x4.2.2.At == y2.At) && true)))) then
 (some false)
 else
 (if (y2.Code != 0) then
 (((same_Outcomes x3.1 (XApi_Outcome.mk 0 0 [] 0)).bind fun x5 =>
 if x5 then
 ((same_Outcomes x4.2.1 (XApi_Outcome.mk 0 0 [] 0)).bind fun x6 =>
 some (if x6 then ((x4.1.length : Int) == 0) else false))
 else
 (some false)).bind fun p1 =>
 some p1)
 else
 ((ref2_Do a0 a1 a2).bind fun x7 =>
 ((same_Outcomes x3.1 x7.2).bind fun x8 =>
 if x8 then
 ((same_Outcomes x4.2.1 x7.2).bind fun x9 =>
 if x9 then
 ((same_Rows x4.1 x7.1).bind fun x10 =>
 some x10)
 else
 (some false))
 else
 (some false)).bind fun p2 =>
 some p2))
noncomputable def law2_RunSays_J1 (a0 : XApi_Unit) (a1 : (List Int)) (a2 : Int) (y1 : XApi_Fault) : Option Bool :=
 (if (y1.Code == 0) then
 ((law2_in a2 0 100000).bind fun x11 =>
 some (!x11))
 else
 (some false)).bind fun p3 =>
 if p3 then
 ((same_Fault 3 (-1)).bind fun x12 =>
 law2_RunSays_J2 a0 a1 a2 x12)
 else
 (law2_RunSays_J2 a0 a1 a2 y1)
noncomputable def law2_RunSays (a0 : XApi_Unit) (a1 : (List Int)) (a2 : Int) : Option Bool :=
 (law2_vast a0).bind fun x1 =>
 if (if x1 then true else (decide (4000 < a2))) then
 (some true)
 else
 ((ref2_Unit a0).bind fun x2 =>
 if (if (x2.Code == 0) then (decide (30 < (a1.length : Int))) else false) then
 ((same_Fault 2 (-1)).bind fun x13 =>
 law2_RunSays_J1 a0 a1 a2 x13)
 else
 (law2_RunSays_J1 a0 a1 a2 x2))
abbrev R_law2_RunSays (r : Bool) : AV := (B r)
set_option maxHeartbeats 4000000 in
theorem T_law2_RunSays {nn : Nat} {a0 : XApi_Unit} {a1 : (List Int)} {a2 : Int} {r : Bool} (hF : law2_RunSays a0 a1 a2 = some r) : den cx (nn + 11) 3 [(.agg (cXApi_Unit a0)), (.sl ((a1).map cInt_i64)), (I a2)] = some (R_law2_RunSays r, []) := by
 unfold law2_RunSays at hF
 refine fnA Tryd.func3 Tryd.ntmps3 (by exact spine) (sl := [0, 1, 2]) ?_
 refine sr <| pp oBoxF <| pp oAssign <| nl <| sq <| sr <| pp oLdA <| ?_
 refine bb hF fun x1 h1 hF => ?_
 refine pp (oCallZ (T_law2_vast h1)) <| pp oMove <| pg ar oMove <| pg ar oGtr <| pp oPick <| nl <| ?_
 refine cd hF (fun hF => ?_) (fun hF => ?_)
 · refine sr <| pp oAssign <| nl <| rt <| qsR <| ?_
   obtain rfl := inj hF
   exact fin1
 · refine sk <| qs <| sr <| pp oLdA <| ?_
   refine bb hF fun x2 h2 hF => ?_
   refine pp (oCallZ (T_ref2_Unit h2)) <| ww oAlloc <| ww oStR <| nl <| ?_
   refine sjn (r := r) (fun (s : XApi_Fault) => mkSt 100 [1, 2, 3, 7] [(.sl ((a1).map cInt_i64)), (I a2), (.vp (cXApi_Unit a0)), (.ownp (cXApi_Fault s))]) (fun s => law2_RunSays_J1 a0 a1 a2 s) ?_ ?_
   · refine sr <| pp oFAM <| rr oLdR <| pp oEql <| pp oMove <| pg ar oMove <| pg ar oLenSl <| pg ar oGtr <| pp oPick <| nl <| ?_
     refine cd hF (fun hF => ?_) (fun hF => ?_)
     · refine rg <| ?_
       refine bb hF fun x13 h13 hF => ?_
       refine pp (oCallZ (T_same_Fault h13)) <| ww oStR <| nl <| ?_
       exact qj x13 hF cutR'
     · refine sk <| ?_
       exact qj x2 hF cutR'
   · rintro y1 hF
     replace hF : law2_RunSays_J1 a0 a1 a2 y1 = some r := hF
     unfold law2_RunSays_J1 at hF
     refine mk ?_
     refine sjn (r := r) (fun (s : XApi_Fault) => mkSt 100 [1, 2, 3, 7] [(.sl ((a1).map cInt_i64)), (I a2), (.vp (cXApi_Unit a0)), (.ownp (cXApi_Fault s))]) (fun s => law2_RunSays_J2 a0 a1 a2 s) ?_ ?_
     · refine srC (fun (s : Bool) => mkSt 100 [1, 2, 3, 7, 39] [(.sl ((a1).map cInt_i64)), (I a2), (.vp (cXApi_Unit a0)), (.ownp (cXApi_Fault y1)), (B s)]) hF (fun z3 hF => ?_) (fun p3 hF => ?_)
       · refine pp oFAM <| rr oLdR <| pp oEql <| pp oMove <| ?_
         refine spl (d := 35) hF (fun hF => ?_) (fun hF => ?_)
         · refine pt ar oMove <| ?_
           refine bb hF fun x11 h11 hF => ?_
           refine pt ar (oCallZ (T_law2_in h11)) <| pt ar oNot <| pp oPickT <| ?_
           obtain rfl := inj hF
           exact nlC cutR'
         · refine no fun u16 k16 hk16 => ?_
           refine no fun u17 k17 hk17 => ?_
           refine no fun u18 k18 hk18 => ?_
           refine pp oPickF <| ?_
           obtain rfl := inj hF
           exact nlC cutR'
       · refine mk ?_
         refine cd hF (fun hF => ?_) (fun hF => ?_)
         · refine rg <| ?_
           refine bb hF fun x12 h12 hF => ?_
           refine pp (oCallZ (T_same_Fault h12)) <| ww oStR <| nl <| ?_
           exact qj x12 hF cutR'
         · refine sk <| ?_
           exact qj y1 hF cutR'
     · rintro y2 hF
       replace hF : law2_RunSays_J2 a0 a1 a2 y2 = some r := hF
       unfold law2_RunSays_J2 at hF
       refine mk ?_
       refine sr <| pp oLdA <| pp oMove <| pp oMove <| ?_
       refine bb hF fun x3 h3 hF => ?_
       refine pp (oCallZ (T_run_Do h3)) <| pp oMove <| pp oExt <| pp oExt <| ww oAlloc <| ww oAlloc <| ww oStF <| ww oStF <| nl <| sr <| pp oLdA <| pp oMove <| pp oMove <| ?_
       refine bb hF fun x4 h4 hF => ?_
       refine pp (oCallZ (T_run_Counts h4)) <| pp oMove <| pp oExt <| pp oExt <| pp oExt <| ww oAlloc <| ww oAlloc <| pp oAssign <| ww oStF <| ww oStF <| nl <| sq <| sr <| pp oLdA <| ?_
       refine rr oLdRA <| pp (oStq (eq29_neq ..)) <| pp oMove <| pg ar oLdA <| rgd ar oLdRA <| pg ar (oStq (eq29_neq ..)) <| pp oPick <| nl <| ?_
       refine cd hF (fun hF => ?_) (fun hF => ?_)
       · refine sr <| pp oAssign <| nl <| rt <| qsR <| ?_
         obtain rfl := inj hF
         exact fin1
       · refine sk <| qs <| sq <| sr <| pp oFAM <| rr oLdR <| pp oNeq <| nl <| ?_
         refine cd hF (fun hF => ?_) (fun hF => ?_)
         · refine srC (fun (s : Bool) => mkSt 100 [6] [(B s)]) hF (fun z1 hF => ?_) (fun p1 hF => ?_)
           · refine pp oLdA <| pp oBuild <| ?_
             refine bb hF fun x5 h5 hF => ?_
             refine pp (oCall (T_same_Outcomes h5)) <| pp oMove <| ?_
             refine spl (d := 70) hF (fun hF => ?_) (fun hF => ?_)
             · refine pt ar oLdA <| pt ar oBuild <| ?_
               refine bb hF fun x6 h6 hF => ?_
               refine pt ar (oCall (T_same_Outcomes h6)) <| pp oPickT <| pp oMove <| pg ar oMove <| pg ar oLenSl <| pg ar oEql <| pp oPick <| pp oAssign <| ?_
               obtain rfl := inj hF
               exact nlC cutR'
             · refine no fun u1 k1 hk1 => ?_
               refine no fun u2 k2 hk2 => ?_
               refine no fun u3 k3 hk3 => ?_
               refine pp oPickF <| pp oMove <| ?_
               refine no fun u4 k4 hk4 => ?_
               refine no fun u5 k5 hk5 => ?_
               refine no fun u6 k6 hk6 => ?_
               refine pp oPickF <| pp oAssign <| ?_
               obtain rfl := inj hF
               exact nlC cutR'
           · refine mk ?_
             refine rt <| qsR <| ?_
             obtain rfl := inj hF
             exact fin1
         · refine sk <| qs <| sr <| pp oLdA <| pp oMove <| pp oMove <| ?_
           refine bb hF fun x7 h7 hF => ?_
           refine pp (oCallZ (T_ref2_Do h7)) <| pp oMove <| pp oExt <| pp oExt <| ww oAlloc <| pp oAssign <| ww oStF <| nl <| ?_
           refine srC (fun (s : Bool) => mkSt 100 [6] [(B s)]) hF (fun z2 hF => ?_) (fun p2 hF => ?_)
           · refine pp oLdA <| pp oLdA <| ?_
             refine bb hF fun x8 h8 hF => ?_
             refine pp (oCall (T_same_Outcomes h8)) <| pp oMove <| ?_
             refine spl (d := 90) hF (fun hF => ?_) (fun hF => ?_)
             · refine pt ar oLdA <| pt ar oLdA <| ?_
               refine bb hF fun x9 h9 hF => ?_
               refine pt ar (oCall (T_same_Outcomes h9)) <| pp oPickT <| pp oMove <| ?_
               refine spl (d := 95) hF (fun hF => ?_) (fun hF => ?_)
               · refine pt ar oMove <| pt ar oMove <| ?_
                 refine bb hF fun x10 h10 hF => ?_
                 refine pt ar (oCall (T_same_Rows h10)) <| pp oPickT <| pp oAssign <| ?_
                 obtain rfl := inj hF
                 exact nlC cutR'
               · refine no fun u7 k7 hk7 => ?_
                 refine no fun u8 k8 hk8 => ?_
                 refine no fun u9 k9 hk9 => ?_
                 refine pp oPickF <| pp oAssign <| ?_
                 obtain rfl := inj hF
                 exact nlC cutR'
             · refine no fun u10 k10 hk10 => ?_
               refine no fun u11 k11 hk11 => ?_
               refine no fun u12 k12 hk12 => ?_
               refine pp oPickF <| pp oMove <| ?_
               refine no fun u13 k13 hk13 => ?_
               refine no fun u14 k14 hk14 => ?_
               refine no fun u15 k15 hk15 => ?_
               refine pp oPickF <| pp oAssign <| ?_
               obtain rfl := inj hF
               exact nlC cutR'
           · refine mk ?_
             refine rt <| ?_
             obtain rfl := inj hF
             exact fin1
noncomputable def law2_small  : Option XApi_Unit :=
 some (XApi_Unit.mk [] [(XApi_Func.mk (ByteArray.mk #[109, 97, 105, 110]) 0 0 [(XApi_Block.mk [] [(XApi_Ins.mk 22 (-1) (XApi_Val.mk false 5) (XApi_Val.mk false 0) 0 [])] (XApi_End.mk 1 (XApi_Val.mk false 7) []))])])
abbrev R_law2_small (r : XApi_Unit) : AV := (.agg (cXApi_Unit_SOOSIIIOSOOSIIIIIOeSIIOeeee r))
set_option maxHeartbeats 4000000 in
theorem T_law2_small {nn : Nat}  {r : XApi_Unit} (hF : law2_small = some r) : den cx (nn + 1) 39 [] = some (R_law2_small r, []) := by
 unfold law2_small at hF
 refine fnA Tryd.func39 Tryd.ntmps39 (by exact spine) (sl := []) ?_
 refine sr <| ww oAlloc <| nl <| sr <| pp oBuild <| pp oBuild <| ww oBSM <| pp oBuild <| pp oBuild <| pp oBuild <| ww oBSM <| pp oBuild <| ww oBSM <| pp oBuild <| ?_
 refine ww oStR <| nl <| rt <| ?_
 obtain rfl := inj hF
 exact fin1
noncomputable def law2_runFact  : Option Bool :=
 (law2_small).bind fun x1 =>
 (run_Do x1 [] 2).bind fun x2 =>
 (law2_small).bind fun x3 =>
 (run_Counts x3 [] 2).bind fun x4 =>
 (if (if (if (if (if (x2.2.Code == 0) then (x4.2.2.Code == 0) else false) then (x2.1.State == 0) else false) then (x2.1.Value == 7) else false) then (x2.1.Steps == 2) else false) then
 ((same_Ints x2.1.Out ([5] : List Int)).bind fun x5 =>
 if x5 then
 ((same_Rows x4.1 ([([1] : List Int)] : List (List Int))).bind fun x6 =>
 some x6)
 else
 (some false))
 else
 (some false)).bind fun p1 =>
 some p1
abbrev R_law2_runFact (r : Bool) : AV := (B r)
set_option maxHeartbeats 4000000 in
theorem T_law2_runFact {nn : Nat}  {r : Bool} (hF : law2_runFact = some r) : den cx (nn + 11) 17 [] = some (R_law2_runFact r, []) := by
 unfold law2_runFact at hF
 refine fnA Tryd.func17 Tryd.ntmps17 (by exact spine) (sl := []) ?_
 refine sr <| pp oAssign <| nl <| sr <| ?_
 refine bb hF fun x1 h1 hF => ?_
 refine pp (oCallZ (T_law2_small h1)) <| ?_
 refine bb hF fun x2 h2 hF => ?_
 refine pp (oCallZ (T_run_Do h2)) <| pp oMove <| pp oExt <| pp oExt <| ww oAlloc <| ww oAlloc <| ww oStF <| ww oStF <| nl <| sr <| ?_
 refine bb hF fun x3 h3 hF => ?_
 refine pp (oCallZ (T_law2_small h3)) <| ?_
 refine bb hF fun x4 h4 hF => ?_
 refine pp (oCallZ (T_run_Counts h4)) <| pp oMove <| pp oExt <| pp oExt <| pp oExt <| ww oAlloc <| ww oAlloc <| pp oAssign <| ww oStF <| ww oStF <| nl <| ?_
 refine srC (fun (s : Bool) => mkSt 52 [0] [(B s)]) hF (fun z1 hF => ?_) (fun p1 hF => ?_)
 · refine pp oFA <| pp oLd <| pp oEql <| pp oMove <| pg ar oFA <| pg ar oLd <| pg ar oEql <| pp oPick <| pp oMove <| pg ar oFA <| pg ar oLd <| pg ar oEql <| pp oPick <| pp oMove <| ?_
   refine pg ar oFA <| pg ar oLd <| pg ar oEql <| pp oPick <| pp oMove <| pg ar oFA <| pg ar oLd <| pg ar oEql <| pp oPick <| pp oMove <| ?_
   refine spl (d := 40) hF (fun hF => ?_) (fun hF => ?_)
   · refine pt ar oFA <| pt ar oLd <| pt ar oBSF <| ?_
     refine bb hF fun x5 h5 hF => ?_
     refine pt ar (oCall (T_same_Ints h5)) <| pp oPickT <| pp oMove <| ?_
     refine spl (d := 46) hF (fun hF => ?_) (fun hF => ?_)
     · refine pt ar oMove <| pt ar oBSF <| pt ar oBSF <| ?_
       refine bb hF fun x6 h6 hF => ?_
       refine pt ar (oCall (T_same_Rows h6)) <| pp oPickT <| pp oAssign <| ?_
       obtain rfl := inj hF
       exact nlC cutR'
     · refine no fun u1 k1 hk1 => ?_
       refine no fun u2 k2 hk2 => ?_
       refine no fun u3 k3 hk3 => ?_
       refine no fun u4 k4 hk4 => ?_
       refine pp oPickF <| pp oAssign <| ?_
       obtain rfl := inj hF
       exact nlC cutR'
   · refine no fun u5 k5 hk5 => ?_
     refine no fun u6 k6 hk6 => ?_
     refine no fun u7 k7 hk7 => ?_
     refine no fun u8 k8 hk8 => ?_
     refine pp oPickF <| pp oMove <| ?_
     refine no fun u9 k9 hk9 => ?_
     refine no fun u10 k10 hk10 => ?_
     refine no fun u11 k11 hk11 => ?_
     refine no fun u12 k12 hk12 => ?_
     refine pp oPickF <| pp oAssign <| ?_
     obtain rfl := inj hF
     exact nlC cutR'
 · refine mk ?_
   refine rt <| ?_
   obtain rfl := inj hF
   exact fin1
noncomputable def law2_RunMore (a0 : XApi_Unit) (a1 : (List Int)) (a2 : Int) (a3 : Int) : Option Bool :=
 (law2_runFact).bind fun x1 =>
 if (!x1) then
 (some false)
 else
 (((law2_in a2 0 2000).bind fun x2 =>
 if (!x2) then
 (some true)
 else
 ((law2_in a3 0 2000).bind fun x3 =>
 some (!x3))).bind fun p1 =>
 if p1 then
 (some true)
 else
 ((run_Do a0 a1 a2).bind fun x4 =>
 (run_Do a0 a1 (w64 (a2 + a3))).bind fun x5 =>
 if (if (x4.2.Code != 0) then true else (x5.2.Code != 0)) then
 (some ((x4.2.Code == x5.2.Code) && ((x4.2.At == x5.2.At) && true)))
 else
 (if (x4.1.State != 1) then
 ((same_Outcomes x4.1 x5.1).bind fun x6 =>
 some x6)
 else
 ((if (if (if (x4.1.Steps == a2) then (decide (a2 ≤ x5.1.Steps)) else false) then (decide ((x4.1.Out.length : Int) ≤ (x5.1.Out.length : Int))) else false) then
 ((slc x5.1.Out none (some (x4.1.Out.length : Int))).bind fun x7 =>
 (same_Ints x7 x4.1.Out).bind fun x8 =>
 some x8)
 else
 (some false)).bind fun p2 =>
 some p2))))
abbrev R_law2_RunMore (r : Bool) : AV := (B r)
set_option maxHeartbeats 4000000 in
theorem T_law2_RunMore {nn : Nat} {a0 : XApi_Unit} {a1 : (List Int)} {a2 : Int} {a3 : Int} {r : Bool} (hF : law2_RunMore a0 a1 a2 a3 = some r) : den cx (nn + 12) 4 [(.agg (cXApi_Unit a0)), (.sl ((a1).map cInt_i64)), (I a2), (I a3)] = some (R_law2_RunMore r, []) := by
 unfold law2_RunMore at hF
 refine fnA Tryd.func4 Tryd.ntmps4 (by exact spine) (sl := [0, 1, 2, 3]) ?_
 refine sr <| pp oBoxF <| pp oAssign <| nl <| sr <| ?_
 refine bb hF fun x1 h1 hF => ?_
 refine pp (oCallZ (T_law2_runFact h1)) <| pp oAssign <| nl <| sq <| sr <| pp oMove <| pp oNot <| nl <| ?_
 refine cd hF (fun hF => ?_) (fun hF => ?_)
 · refine sr <| pp oAssign <| nl <| rt <| qsR <| ?_
   obtain rfl := inj hF
   exact fin1
 · refine sk <| qs <| sq <| ?_
   refine srC (fun (s : Bool) => mkSt 88 [1, 2, 3, 4, 24] [(.sl ((a1).map cInt_i64)), (I a2), (I a3), (.vp (cXApi_Unit a0)), (B s)]) hF (fun z2 hF => ?_) (fun p1 hF => ?_)
   · refine pp oMove <| ?_
     refine bb hF fun x2 h2 hF => ?_
     refine pp (oCallZ (T_law2_in h2)) <| pp oNot <| pp oMove <| ?_
     refine spl (d := 20) hF (fun hF => ?_) (fun hF => ?_)
     · refine no fun u1 k1 hk1 => ?_
       refine no fun u2 k2 hk2 => ?_
       refine no fun u3 k3 hk3 => ?_
       refine pp oPickT <| ?_
       obtain rfl := inj hF
       exact nlC cutR'
     · refine pt ar oMove <| ?_
       refine bb hF fun x3 h3 hF => ?_
       refine pt ar (oCallZ (T_law2_in h3)) <| pt ar oNot <| pp oPickF <| ?_
       obtain rfl := inj hF
       exact nlC cutR'
   · refine mk ?_
     refine cd hF (fun hF => ?_) (fun hF => ?_)
     · refine sr <| pp oAssign <| nl <| rt <| qsR <| ?_
       obtain rfl := inj hF
       exact fin1
     · refine sk <| qs <| sr <| pp oLdA <| pp oMove <| pp oMove <| ?_
       refine bb hF fun x4 h4 hF => ?_
       refine pp (oCallZ (T_run_Do h4)) <| pp oMove <| pp oExt <| pp oExt <| ww oAlloc <| ww oAlloc <| ww oStF <| ww oStF <| nl <| sr <| pp oLdA <| pp oMove <| pp oMove <| pp oMove <| ?_
       refine pp oAdd <| ?_
       refine bb hF fun x5 h5 hF => ?_
       refine pp (oCallZ (T_run_Do h5)) <| pp oMove <| pp oExt <| pp oExt <| ww oAlloc <| ww oAlloc <| ww oStF <| ww oStF <| nl <| sq <| sr <| pp oFA <| pp oLd <| pp oNeq <| ?_
       refine pp oMove <| pg ar oFA <| pg ar oLd <| pg ar oNeq <| pp oPick <| nl <| ?_
       refine cd hF (fun hF => ?_) (fun hF => ?_)
       · refine sr <| pp oLdA <| pp oLdA <| pp (oStq (eq29_eql ..)) <| pp oAssign <| nl <| rt <| qsR <| ?_
         obtain rfl := inj hF
         exact fin1
       · refine sk <| qs <| sq <| sr <| pp oFA <| pp oLd <| pp oNeq <| nl <| ?_
         refine cd hF (fun hF => ?_) (fun hF => ?_)
         · refine sr <| pp oLdA <| pp oLdA <| ?_
           refine bb hF fun x6 h6 hF => ?_
           refine pp (oCall (T_same_Outcomes h6)) <| pp oAssign <| nl <| rt <| qsR <| ?_
           obtain rfl := inj hF
           exact fin1
         · refine sk <| qs <| ?_
           refine srC (fun (s : Bool) => mkSt 88 [8] [(B s)]) hF (fun z1 hF => ?_) (fun p2 hF => ?_)
           · refine pp oFA <| pp oLd <| pp oMove <| pp oEql <| pp oMove <| pg ar oFA <| pg ar oLd <| pg ar oMove <| pg ar oGeq <| pp oPick <| pp oMove <| pg ar oFA <| pg ar oLd <| pg ar oLenSl <| ?_
             refine pg ar oFA <| pg ar oLd <| pg ar oLenSl <| pg ar oGeq <| pp oPick <| pp oMove <| ?_
             refine spl (d := 77) hF (fun hF => ?_) (fun hF => ?_)
             · refine pt ar oFA <| pt ar oLd <| pt ar oFA <| pt ar oLd <| pt ar oLenSl <| ?_
               refine bb hF fun x7 h7 hF => ?_
               refine pt ar (oSlc h7) <| pt ar oFA <| pt ar oLd <| ?_
               refine bb hF fun x8 h8 hF => ?_
               refine pt ar (oCall (T_same_Ints h8)) <| pp oPickT <| pp oAssign <| ?_
               obtain rfl := inj hF
               exact nlCD cutR'
             · refine no fun u4 k4 hk4 => ?_
               refine no fun u5 k5 hk5 => ?_
               refine no fun u6 k6 hk6 => ?_
               refine no fun u7 k7 hk7 => ?_
               refine no fun u8 k8 hk8 => ?_
               refine no fun u9 k9 hk9 => ?_
               refine no fun u10 k10 hk10 => ?_
               refine no fun u11 k11 hk11 => ?_
               refine no fun u12 k12 hk12 => ?_
               refine pp oPickF <| pp oAssign <| ?_
               obtain rfl := inj hF
               exact nlCD (hf := rok) cutR'
           · refine mk ?_
             refine rt <| ?_
             obtain rfl := inj hF
             exact fin1
end Go.Ab
