/-
  Functions of the program as functions on plain data (written by gen3.py).
-/
import Derived.Test.YtfciindiplokgaaDoorAbGen3
namespace Go.Ab
open Go Go.Proofs
noncomputable def run_walker_jump_L1 (a0 : XRun_walker) (x4 : Int) (x6 : XApi_Block) (y21 : Int) (y22 : (List Int)) : Option (Lp (Int × (List Int)) (List Int)) :=
 (stk (a0.frames.1, a0.frames.2)).bind fun _ =>
 (idx a0.frames.1 (((a0.frames.2 : Nat) : Int) - 1)).bind fun x8 =>
 if (decide (y21 < (x6.Phis.length : Int))) then
 ((idx x6.Phis y21).bind fun x9 =>
 (idx x9.From x4).bind fun x10 =>
 (run_walker_val (XRun_walker.mk a0.u a0.ahead a0.mem a0.input a0.out (a0.frames.1, a0.frames.2) a0.counts) x10).bind fun x11 =>
 (app y22 ([x11] : List Int)).bind fun x12 =>
 some (.next ((w64 (y21 + 1)), x12)))
 else
 (some (.out y22))
noncomputable def run_walker_jump_L2 (a0 : XRun_walker) (x6 : XApi_Block) (v1 : (List Int)) (y41 : Int) (y42 : (List XRun_frame)) : Option (Lp (Int × (List XRun_frame)) (List XRun_frame)) :=
 (stk (y42, a0.frames.2)).bind fun _ =>
 (idx y42 (((a0.frames.2 : Nat) : Int) - 1)).bind fun x15 =>
 if (decide (y41 < (x6.Phis.length : Int))) then
 ((idx x6.Phis y41).bind fun x16 =>
 (idx v1 y41).bind fun x17 =>
 (idx x15.regs x16.Dst).bind fun x18 =>
 some (.next ((w64 (y41 + 1)), (List.set y42 ((((((a0.frames.2 : Nat) : Int) - 1)) : Int).toNat) (XRun_frame.mk x15.fn x15.block x15.at_ (List.set x15.regs ((x16.Dst) : Int).toNat x17) x15.dst)))))
 else
 (some (.out y42))
noncomputable def run_walker_jump (a0 : XRun_walker) (a1 : Int) : Option XRun_walker :=
 (stk (a0.frames.1, a0.frames.2)).bind fun _ =>
 (lastx a0.frames.1 (((a0.frames.2 : Nat) : Int) - 1)).bind fun x1 =>
 (idx a0.ahead x1.fn).bind fun x2 =>
 (idx x2 a1).bind fun x3 =>
 (slices_Index_int_int x3 x1.block).bind fun x4 =>
 (idx a0.u.Funcs x1.fn).bind fun x5 =>
 (idx x5.Blocks a1).bind fun x6 =>
 (Loop (fun (s : (Int × (List Int))) => run_walker_jump_L1 a0 x4 x6 s.1 s.2) (0, [])).bind fun v1 =>
 (stk (a0.frames.1, a0.frames.2)).bind fun _ =>
 (idx a0.frames.1 (((a0.frames.2 : Nat) : Int) - 1)).bind fun x13 =>
 (Loop (fun (s : (Int × (List XRun_frame))) => run_walker_jump_L2 a0 x6 v1 s.1 s.2) (0, a0.frames.1)).bind fun v2 =>
 (stk (v2, a0.frames.2)).bind fun _ =>
 (idx v2 (((a0.frames.2 : Nat) : Int) - 1)).bind fun x19 =>
 (idx a0.counts x19.fn).bind fun x20 =>
 (idx x20 a1).bind fun x21 =>
 (idx x20 a1).bind fun x22 =>
 some (XRun_walker.mk a0.u a0.ahead a0.mem a0.input a0.out ((List.set (List.set v2 (((((a0.frames.2 : Nat) : Int) - 1)) : Int).toNat (XRun_frame.mk x19.fn a1 x19.at_ x19.regs x19.dst)) (((((a0.frames.2 : Nat) : Int) - 1)) : Int).toNat (XRun_frame.mk x19.fn a1 0 x19.regs x19.dst)), a0.frames.2) (List.set a0.counts (((x19.fn) : Int).toNat) (List.set x20 ((a1) : Int).toNat (w64 (x21 + 1)))))
abbrev R_run_walker_jump (r : XRun_walker) : AV := (.tup [])
set_option maxHeartbeats 4000000 in
theorem T_run_walker_jump {nn : Nat} {a0 : XRun_walker} {a1 : Int} {r : XRun_walker} (hF : run_walker_jump a0 a1 = some r) : den cx (nn + 2) 71 [(.ownp (cXRun_walker_SIOOISIIOIeLSIIIOIeOOe a0)), (I a1)] = some (R_run_walker_jump r, [(.ownp (cXRun_walker_SIOOISIIOIeLSIIIOIeOOe r))]) := by
 unfold run_walker_jump at hF
 refine fnA Tryd.func71 Tryd.ntmps71 (by exact spine) (sl := [0, 1]) ?_
 refine bb hF fun _ h1 hF => ?_
 have h1 : a0.frames.2 ≤ a0.frames.1.length := stk_le h1
 refine sr <| pp oMove <| ?_
 refine bb hF fun x1 h2 hF => ?_
 refine rr (oLast h2) <| pp oAssign <| nl <| srD <| pp oMove <| pp oNil <| pp oFAM <| rr oLdR <| pp oMove <| pp oNil <| pp oFAM <| rr (oLdQ (rowM (lastx_nat h2))) <| ?_
 refine bb hF fun x2 h3 hF => ?_
 refine rr (oIxM h3) <| rr (oLdM (idx_nat h3)) <| pp oMove <| ?_
 refine bb hF fun x3 h4 hF => ?_
 refine pp (oIx h4) <| pp oLd <| pp oMove <| pp oNil <| pp oFAM <| rr (oLdQ (rowM (lastx_nat h2))) <| ?_
 refine bb hF fun x4 h5 hF => ?_
 refine pp (oCallZ (T_slices_Index_int_int h5)) <| pp oAssign <| nlD <| srD <| pp oMove <| pp oNil <| pp oFAM <| pp oFAM <| rr oLdR <| pp oMove <| pp oNil <| pp oFAM <| rr (oLdQ (rowM (lastx_nat h2))) <| ?_
 refine bb hF fun x5 h6 hF => ?_
 refine pp (oIx h6) <| pp oFA <| pp oLd <| pp oMove <| ?_
 refine bb hF fun x6 h7 hF => ?_
 refine pp (oIx h7) <| pp oFA <| pp oLd <| pp oAssign <| nlD <| sr <| pp oAssign <| nl <| sq <| sr <| pp oMove <| pp oLenSl <| pp oMove <| nl <| ?_
 refine lp (fun (s : (Int × (List Int))) => stN 106 [(0, (.mp [0, 0] 0 0)), (1, (I a1)), (4, (.mp [9, 0, 0] (((((a0.frames.2 : Nat) : Int) - 1)) : Int).toNat 0)), (5, (I x4)), (6, (.sl ((x6.Phis).map cXApi_Phi))), (7, (.rs [0, 7] 0 s.2.length)), (48, (.sl ((x6.Phis).map cXApi_Phi))), (49, (I (x6.Phis.length : Int))), (50, (I s.1))] [([0, 0], [[(.sl ((a0.u.Globals).map cXApi_Global)), (.sl ((a0.u.Funcs).map cXApi_Func)), (.rs [2, 0, 0] 0 a0.ahead.length), (.rs [3, 0, 0] 0 a0.mem.length), (.sl ((a0.input).map cInt_i64)), (I a0.out.State), (I a0.out.Value), (.rs [7, 0, 0] 0 a0.out.Out.length), (I a0.out.Steps), (.rs [9, 0, 0] 0 a0.frames.2), (.rs [10, 0, 0] 0 a0.counts.length)]]), ([2, 0, 0], (a0.ahead).map cs_cs_cInt_i64), ([3, 0, 0], (a0.mem).map cInt_i64), ([7, 0, 0], (a0.out.Out).map cInt_i64), ([9, 0, 0], (a0.frames.1).map cXRun_frame_SIIIOIe), ([10, 0, 0], (a0.counts).map co_cInt_i64), ([0, 7], (s.2).map cInt_i64)]) (fun (s : (List Int)) => stN 106 [(0, (.mp [0, 0] 0 0)), (1, (I a1)), (4, (.mp [9, 0, 0] (((((a0.frames.2 : Nat) : Int) - 1)) : Int).toNat 0)), (6, (.sl ((x6.Phis).map cXApi_Phi))), (7, (.rs [0, 7] 0 s.length))] [([0, 0], [[(.sl ((a0.u.Globals).map cXApi_Global)), (.sl ((a0.u.Funcs).map cXApi_Func)), (.rs [2, 0, 0] 0 a0.ahead.length), (.rs [3, 0, 0] 0 a0.mem.length), (.sl ((a0.input).map cInt_i64)), (I a0.out.State), (I a0.out.Value), (.rs [7, 0, 0] 0 a0.out.Out.length), (I a0.out.Steps), (.rs [9, 0, 0] 0 a0.frames.2), (.rs [10, 0, 0] 0 a0.counts.length)]]), ([2, 0, 0], (a0.ahead).map cs_cs_cInt_i64), ([3, 0, 0], (a0.mem).map cInt_i64), ([7, 0, 0], (a0.out.Out).map cInt_i64), ([9, 0, 0], (a0.frames.1).map cXRun_frame_SIIIOIe), ([10, 0, 0], (a0.counts).map co_cInt_i64), ([0, 7], (s).map cInt_i64)]) hF cutN' ?_ ?_
 · rintro ⟨y21, y22⟩ z1 hF
   replace hF : run_walker_jump_L1 a0 x4 x6 y21 y22 = some z1 := hF
   unfold run_walker_jump_L1 at hF
   refine stm <| ?_
   refine bb hF fun _ h10 hF => ?_
   have h10 : a0.frames.2 ≤ a0.frames.1.length := stk_le h10
   refine bb hF fun x8 h11 hF => ?_
   have hk2 := idx_nat h11
   refine sr <| pp oLss <| nl <| sq <| ?_
   refine cd hF (fun hF => ?_) (fun hF => ?_)
   · refine sk <| qs <| sq <| bl <| sr <| ?_
     refine bb hF fun x9 h12 hF => ?_
     refine pp (oIx h12) <| pp oLdA <| ww oAlloc <| ww oStF <| nl <| rg <| pp oMove <| pp oMove <| pp oFA <| pp oLd <| pp oMove <| ?_
     refine bb hF fun x10 h13 hF => ?_
     refine pp (oIx h13) <| pp oLdA <| ?_
     refine bb hF fun x11 h14 hF => ?_
     refine rr (oCall (T_run_walker_val h14)) <| pp oBSF <| ?_
     refine bb hF fun x12 h15 hF => ?_
     refine ww (oApp h15) <| pp oAssign <| nl <| qb <| qs <| rg <| pp oAdd <| pp oMove <| nl <| ?_
     exact ln hF cutN'
   · refine ex <| qsE <| ?_
     exact lx hF cutN'
 · intro v1 hF
   refine qst <| ?_
   refine bb hF fun _ h16 hF => ?_
   have h16 : a0.frames.2 ≤ a0.frames.1.length := stk_le h16
   refine bb hF fun x13 h17 hF => ?_
   have hk3 := idx_nat h17
   refine qs <| sq <| sr <| pp oMove <| pp oLenSl <| pp oMove <| nl <| ?_
   refine lp (fun (s : (Int × (List XRun_frame))) => stN 106 [(0, (.mp [0, 0] 0 0)), (1, (I a1)), (4, (.mp [9, 0, 0] (((((a0.frames.2 : Nat) : Int) - 1)) : Int).toNat 0)), (7, (.rs [0, 7] 0 v1.length)), (65, (.sl ((x6.Phis).map cXApi_Phi))), (66, (I (x6.Phis.length : Int))), (67, (I s.1))] [([0, 0], [[(.sl ((a0.u.Globals).map cXApi_Global)), (.sl ((a0.u.Funcs).map cXApi_Func)), (.rs [2, 0, 0] 0 a0.ahead.length), (.rs [3, 0, 0] 0 a0.mem.length), (.sl ((a0.input).map cInt_i64)), (I a0.out.State), (I a0.out.Value), (.rs [7, 0, 0] 0 a0.out.Out.length), (I a0.out.Steps), (.rs [9, 0, 0] 0 a0.frames.2), (.rs [10, 0, 0] 0 a0.counts.length)]]), ([2, 0, 0], (a0.ahead).map cs_cs_cInt_i64), ([3, 0, 0], (a0.mem).map cInt_i64), ([7, 0, 0], (a0.out.Out).map cInt_i64), ([9, 0, 0], (s.2).map cXRun_frame_SIIIOIe), ([10, 0, 0], (a0.counts).map co_cInt_i64), ([0, 7], (v1).map cInt_i64)]) (fun (s : (List XRun_frame)) => stN 106 [(0, (.mp [0, 0] 0 0)), (1, (I a1)), (4, (.mp [9, 0, 0] (((((a0.frames.2 : Nat) : Int) - 1)) : Int).toNat 0))] [([0, 0], [[(.sl ((a0.u.Globals).map cXApi_Global)), (.sl ((a0.u.Funcs).map cXApi_Func)), (.rs [2, 0, 0] 0 a0.ahead.length), (.rs [3, 0, 0] 0 a0.mem.length), (.sl ((a0.input).map cInt_i64)), (I a0.out.State), (I a0.out.Value), (.rs [7, 0, 0] 0 a0.out.Out.length), (I a0.out.Steps), (.rs [9, 0, 0] 0 a0.frames.2), (.rs [10, 0, 0] 0 a0.counts.length)]]), ([2, 0, 0], (a0.ahead).map cs_cs_cInt_i64), ([3, 0, 0], (a0.mem).map cInt_i64), ([7, 0, 0], (a0.out.Out).map cInt_i64), ([9, 0, 0], (s).map cXRun_frame_SIIIOIe), ([10, 0, 0], (a0.counts).map co_cInt_i64)]) hF cutN' ?_ ?_
   · rintro ⟨y41, y42⟩ z2 hF
     replace hF : run_walker_jump_L2 a0 x6 v1 y41 y42 = some z2 := hF
     unfold run_walker_jump_L2 at hF
     refine stm <| ?_
     refine bb hF fun _ h20 hF => ?_
     have h20 : a0.frames.2 ≤ y42.length := stk_le h20
     refine bb hF fun x15 h21 hF => ?_
     have hk5 := idx_nat h21
     refine sr <| pp oLss <| nl <| sq <| ?_
     refine cd hF (fun hF => ?_) (fun hF => ?_)
     · refine sk <| qs <| sq <| bl <| sr <| pp oMove <| ?_
       refine bb hF fun x16 h22 hF => ?_
       refine pp (oIx h22) <| pp oLdA <| ww oAlloc <| pp oAssign <| ww oStF <| nl <| rgD <| pp oMove <| pp oNil <| pp oFAM <| ?_
       have hk6 := hk5
       refine ww (oLdY (rowM hk5) setM) <| pp oFA <| pp oLd <| pp oMove <| pp oMove <| ?_
       refine bb hF fun x17 h23 hF => ?_
       refine rr (oIxM h23) <| rr (oLdM (idx_nat h23)) <| ?_
       refine bb hF fun x18 h24 hF => ?_
       refine rr (oIxM h24) <| ww (oStL (idx_nat h24) x17) <| nlD <| qb <| qs <| rg <| pp oAdd <| pp oMove <| nl <| ?_
       exact ln hF cutN'
     · refine ex <| qsE <| ?_
       exact lx hF cutN'
   · intro v2 hF
     refine qst <| ?_
     refine bb hF fun _ h25 hF => ?_
     have h25 : a0.frames.2 ≤ v2.length := stk_le h25
     refine bb hF fun x19 h26 hF => ?_
     have hk7 := idx_nat h26
     refine qs <| sr <| pp oMove <| pp oMove <| pp oMove <| pp oNil <| pp oFAM <| ww (oStL hk7 (XRun_frame.mk x19.fn a1 x19.at_ x19.regs x19.dst)) <| pp oNil <| pp oFAM <| ww (oStL (set_get hk7) (XRun_frame.mk x19.fn a1 0 x19.regs x19.dst)) <| nl <| rgD <| pp oMove <| ?_
     refine pp oNil <| pp oFAM <| rr oLdR <| pp oMove <| pp oNil <| pp oFAM <| rr (oLdQ (rowM (set_get (set_get hk7)))) <| ?_
     refine bb hF fun x20 h27 hF => ?_
     refine rr (oIxM h27) <| ?_
     have hk8 := (idx_nat h27)
     refine ww (oLdY (rowM (idx_nat h27)) setM) <| pp oMove <| ?_
     refine bb hF fun x21 h28 hF => ?_
     refine rr (oIxM h28) <| rr (oLdM (idx_nat h28)) <| pp oAdd <| ?_
     refine bb hF fun x22 h29 hF => ?_
     refine rr (oIxM h29) <| ww (oStL (idx_nat h29) (w64 (x21 + 1))) <| nlD <| ?_
     obtain rfl := inj hF
     exact fin0N
noncomputable def run_walker_set (a0 : XRun_walker) (a1 : Int) (a2 : Int) : Option XRun_walker :=
 (stk (a0.frames.1, a0.frames.2)).bind fun _ =>
 if (decide (0 ≤ a1)) then
 ((lastx a0.frames.1 (((a0.frames.2 : Nat) : Int) - 1)).bind fun x1 =>
 (idx x1.regs a1).bind fun x2 =>
 some (XRun_walker.mk a0.u a0.ahead a0.mem a0.input a0.out ((List.set a0.frames.1 ((((((a0.frames.2 : Nat) : Int) - 1)) : Int).toNat) (XRun_frame.mk x1.fn x1.block x1.at_ (List.set x1.regs ((a1) : Int).toNat a2) x1.dst)), a0.frames.2) a0.counts))
 else
 (some (XRun_walker.mk a0.u a0.ahead a0.mem a0.input a0.out (a0.frames.1, a0.frames.2) a0.counts))
abbrev R_run_walker_set (r : XRun_walker) : AV := (.tup [])
set_option maxHeartbeats 4000000 in
theorem T_run_walker_set {nn : Nat} {a0 : XRun_walker} {a1 : Int} {a2 : Int} {r : XRun_walker} (hF : run_walker_set a0 a1 a2 = some r) : den cx (nn + 1) 73 [(.ownp (cXRun_walker_SIOOISIIOIeLSIIIOIeOOe a0)), (I a1), (I a2)] = some (R_run_walker_set r, [(.ownp (cXRun_walker_SIOOISIIOIeLSIIIOIeOOe r))]) := by
 unfold run_walker_set at hF
 refine fnA Tryd.func73 Tryd.ntmps73 (by exact spine) (sl := [0, 1, 2]) ?_
 refine bb hF fun _ h1 hF => ?_
 have h1 : a0.frames.2 ≤ a0.frames.1.length := stk_le h1
 refine sr <| pp oMove <| pp oGeq <| nl <| ?_
 refine cd hF (fun hF => ?_) (fun hF => ?_)
 · refine rg <| pp oMove <| ?_
   refine bb hF fun x1 h2 hF => ?_
   refine rr (oLast h2) <| pp oNil <| pp oFAM <| ?_
   have hk1 := (lastx_nat h2)
   refine ww (oLdY (rowM (lastx_nat h2)) setM) <| pp oMove <| pp oMove <| ?_
   refine bb hF fun x2 h3 hF => ?_
   refine rr (oIxM h3) <| ww (oStL (idx_nat h3) a2) <| nl <| ?_
   obtain rfl := inj hF
   exact fin0N
 · refine sk <| ?_
   obtain rfl := inj hF
   exact fin0N
noncomputable def run_walker_end_J1 (y1 : XRun_walker) : Option (Bool × XRun_walker) :=
 (stk (y1.frames.1, y1.frames.2)).bind fun _ =>
 some (true, (XRun_walker.mk y1.u y1.ahead y1.mem y1.input y1.out (y1.frames.1, y1.frames.2) y1.counts))
noncomputable def run_walker_end (a0 : XRun_walker) (a1 : XApi_End) : Option (Bool × XRun_walker) :=
 (stk (a0.frames.1, a0.frames.2)).bind fun _ =>
 if (a1.Kind == 2) then
 ((idx a1.To 0).bind fun x1 =>
 (run_walker_jump (XRun_walker.mk a0.u a0.ahead a0.mem a0.input a0.out (a0.frames.1, a0.frames.2) a0.counts) x1).bind fun x2 =>
 run_walker_end_J1 x2)
 else
 (if (a1.Kind == 3) then
 ((run_walker_val (XRun_walker.mk a0.u a0.ahead a0.mem a0.input a0.out (a0.frames.1, a0.frames.2) a0.counts) a1.On).bind fun x3 =>
 if (x3 != 0) then
 ((idx a1.To 0).bind fun x4 =>
 (run_walker_jump (XRun_walker.mk a0.u a0.ahead a0.mem a0.input a0.out (a0.frames.1, a0.frames.2) a0.counts) x4).bind fun x5 =>
 run_walker_end_J1 x5)
 else
 ((idx a1.To 1).bind fun x6 =>
 (run_walker_jump (XRun_walker.mk a0.u a0.ahead a0.mem a0.input a0.out (a0.frames.1, a0.frames.2) a0.counts) x6).bind fun x7 =>
 run_walker_end_J1 x7))
 else
 (if (a1.Kind == 1) then
 ((run_walker_val (XRun_walker.mk a0.u a0.ahead a0.mem a0.input a0.out (a0.frames.1, a0.frames.2) a0.counts) a1.On).bind fun x8 =>
 (lastx a0.frames.1 (((a0.frames.2 : Nat) : Int) - 1)).bind fun x9 =>
 (cutN a0.frames.2 (w64 ((a0.frames.2 : Int) - 1))).bind fun x10 =>
 if ((x10 : Int) == 0) then
 ((run_walker_stop (XRun_walker.mk a0.u a0.ahead a0.mem a0.input (XApi_Outcome.mk a0.out.State x8 a0.out.Out a0.out.Steps) (a0.frames.1, x10) a0.counts) 0).bind fun x11 =>
 some (x11.1, x11.2))
 else
 ((run_walker_set (XRun_walker.mk a0.u a0.ahead a0.mem a0.input a0.out (a0.frames.1, x10) a0.counts) x9.dst x8).bind fun x12 =>
 run_walker_end_J1 x12))
 else
 (run_walker_end_J1 (XRun_walker.mk a0.u a0.ahead a0.mem a0.input a0.out (a0.frames.1, a0.frames.2) a0.counts))))
abbrev R_run_walker_end (r : (Bool × XRun_walker)) : AV := (B r.1)
set_option maxHeartbeats 4000000 in
theorem T_run_walker_end {nn : Nat} {a0 : XRun_walker} {a1 : XApi_End} {r : (Bool × XRun_walker)} (hF : run_walker_end a0 a1 = some r) : den cx (nn + 3) 53 [(.ownp (cXRun_walker_SIOOISIIOIeLSIIIOIeOOe a0)), (.agg (cXApi_End a1))] = some (R_run_walker_end r, [(.ownp (cXRun_walker_SIOOISIIOIeLSIIIOIeOOe r.2))]) := by
 unfold run_walker_end at hF
 refine fnA Tryd.func53 Tryd.ntmps53 (by exact spine) (sl := [0, 1]) ?_
 refine bb hF fun _ h1 hF => ?_
 have h1 : a0.frames.2 ≤ a0.frames.1.length := stk_le h1
 refine sr <| pp oBoxF <| pp oAssign <| nl <| ?_
 refine sjn (r := r) (fun (s : XRun_walker) => mkSt 78 [0] [(.ownp (cXRun_walker_SIOOISIIOIeLSIIIOIeOOe s))]) (fun s => run_walker_end_J1 s) ?_ ?_
 · refine sr <| pp oFA <| pp oLd <| nl <| bl <| sr <| pp oEql <| pp oAssign <| nl <| ?_
   refine cd hF (fun hF => ?_) (fun hF => ?_)
   · refine rg <| pp oMove <| pp oFA <| pp oLd <| ?_
     refine bb hF fun x1 h3 hF => ?_
     refine pp (oIx h3) <| pp oLd <| ?_
     refine bb hF fun x2 h4 hF => ?_
     refine ww (oCallTZ (T_run_walker_jump h4)) <| nl <| qb <| ?_
     exact qj x2 hF cutR'
   · refine sr <| pp oEql <| pp oAssign <| nl <| ?_
     refine cd hF (fun hF => ?_) (fun hF => ?_)
     · refine sr <| pp oMove <| pp oFA <| pp oLdA <| ?_
       refine bb hF fun x3 h5 hF => ?_
       refine rr (oCallZ (T_run_walker_val h5)) <| pp oNeq <| nl <| ?_
       refine cd hF (fun hF => ?_) (fun hF => ?_)
       · refine rg <| pp oMove <| pp oFA <| pp oLd <| ?_
         refine bb hF fun x4 h6 hF => ?_
         refine pp (oIx h6) <| pp oLd <| ?_
         refine bb hF fun x5 h7 hF => ?_
         refine ww (oCallTZ (T_run_walker_jump h7)) <| nl <| qb <| ?_
         exact qj x5 hF cutR'
       · refine rg <| pp oMove <| pp oFA <| pp oLd <| ?_
         refine bb hF fun x6 h8 hF => ?_
         refine pp (oIx h8) <| pp oLd <| ?_
         refine bb hF fun x7 h9 hF => ?_
         refine ww (oCallTZ (T_run_walker_jump h9)) <| nl <| qb <| ?_
         exact qj x7 hF cutR'
     · refine sr <| pp oEql <| pp oAssign <| nl <| ?_
       refine cd hF (fun hF => ?_) (fun hF => ?_)
       · refine srD <| pp oMove <| pp oFA <| pp oLdA <| ?_
         refine bb hF fun x8 h10 hF => ?_
         refine rr (oCallZ (T_run_walker_val h10)) <| pp oMove <| ?_
         refine bb hF fun x9 h11 hF => ?_
         refine rr (oLast h11) <| pp oNil <| pp oFAM <| rr (oLdQ (rowM (lastx_nat h11))) <| pp oAssign <| pp oAssign <| nlD <| srD <| pp oMove <| pp oMove <| pp oNil <| pp oFAM <| rr oLdR <| pp oMove <| ?_
         refine pp oNil <| pp oFAM <| rr oLdR <| pp (oLenRs (m := a0.frames.2)) <| pp oSub <| ?_
         refine bb hF fun x10 h12 hF => ?_
         refine rr (oCut h12) <| ?_
         have h13 : x10 ≤ a0.frames.1.length := Nat.le_trans (cutN_le h12) lle
         refine pp oNil <| pp oFAM <| ww oStR <| nlD <| sq <| sr <| pp oMove <| pp oNil <| pp oFAM <| rr oLdR <| pp (oLenRs (m := x10)) <| pp oEql <| nl <| ?_
         refine cd hF (fun hF => ?_) (fun hF => ?_)
         · refine sr <| pp oMove <| pp oMove <| pp oNil <| pp oFAM <| pp oFAM <| ww oStR <| nl <| sr <| pp oMove <| ?_
           refine bb hF fun x11 h14 hF => ?_
           refine ww (oCallT (T_run_walker_stop h14)) <| pp oAssign <| nl <| rt <| qsR <| qbR <| qjR <| ?_
           obtain rfl := inj hF
           exact fin1
         · refine sk <| qs <| rg <| pp oMove <| pp oMove <| pp oMove <| ?_
           refine bb hF fun x12 h15 hF => ?_
           refine ww (oCallTZ (T_run_walker_set h15)) <| nl <| qb <| ?_
           exact qj x12 hF cutR'
       · refine sk <| qb <| ?_
         exact qj (XRun_walker.mk a0.u a0.ahead a0.mem a0.input a0.out (a0.frames.1, a0.frames.2) a0.counts) hF cutR'
 · rintro y1 hF
   replace hF : run_walker_end_J1 y1 = some r := hF
   unfold run_walker_end_J1 at hF
   refine mk ?_
   refine bb hF fun _ h2 hF => ?_
   have h2 : y1.frames.2 ≤ y1.frames.1.length := stk_le h2
   refine sr <| pp oAssign <| nl <| rt <| ?_
   obtain rfl := inj hF
   exact fin1
noncomputable def core_Two_1 (a0 : Bool) : Option Int :=
 if a0 then
 (some 1)
 else
 (some 0)
abbrev R_core_Two_1 (r : Int) : AV := (I r)
set_option maxHeartbeats 4000000 in
theorem T_core_Two_1 {nn : Nat} {a0 : Bool} {r : Int} (hF : core_Two_1 a0 = some r) : den cx (nn + 1) 86 [(B a0)] = some (R_core_Two_1 r, []) := by
 unfold core_Two_1 at hF
 refine fnA Tryd.func86 Tryd.ntmps86 (by exact spine) (sl := [0]) ?_
 refine sr <| pp oAssign <| nl <| sq <| sr <| pp oMove <| nl <| ?_
 refine cd hF (fun hF => ?_) (fun hF => ?_)
 · refine sr <| pp oAssign <| nl <| rt <| qsR <| ?_
   obtain rfl := inj hF
   exact fin1
 · refine sk <| qs <| sr <| pp oAssign <| nl <| rt <| ?_
   obtain rfl := inj hF
   exact fin1
noncomputable def core_Two_J1 (a0 : Int) (a1 : Int) (a2 : Int) (y1 : Bool) : Option (Int × Bool) :=
 if y1 then
 (if (a2 == 0) then
 (some (0, false))
 else
 (if (a0 == 5) then
 ((qdiv .i64 a1 a2).bind fun x1 =>
 some (x1, true))
 else
 ((qrem a1 a2).bind fun x2 =>
 some (x2, true))))
 else
 (if (a0 == 7) then
 (some ((andK .i64 a1 a2), true))
 else
 (if (a0 == 8) then
 (some ((orK .i64 a1 a2), true))
 else
 (if (a0 == 9) then
 (some ((xorK .i64 a1 a2), true))
 else
 (if (a0 == 10) then
 ((shlK .i64 a1 (andK .i64 a2 63)).bind fun x3 =>
 some (x3, true))
 else
 (if (a0 == 11) then
 ((shrK .i64 a1 (andK .i64 a2 63)).bind fun x4 =>
 some (x4, true))
 else
 (if (a0 == 12) then
 ((core_Two_1 (a1 == a2)).bind fun x5 =>
 some (x5, true))
 else
 (if (a0 == 13) then
 ((core_Two_1 (a1 != a2)).bind fun x6 =>
 some (x6, true))
 else
 (if (a0 == 14) then
 ((core_Two_1 (decide (a1 < a2))).bind fun x7 =>
 some (x7, true))
 else
 (if (a0 == 15) then
 ((core_Two_1 (decide (a1 ≤ a2))).bind fun x8 =>
 some (x8, true))
 else
 (if (a0 == 16) then
 (some ((w64 (0 - a1)), true))
 else
 (if (a0 == 17) then
 (some ((xorK .i64 (-1) a1), true))
 else
 (some (0, true)))))))))))))
noncomputable def core_Two (a0 : Int) (a1 : Int) (a2 : Int) : Option (Int × Bool) :=
 if (a0 == 1) then
 (some (a1, true))
 else
 (if (a0 == 2) then
 (some ((w64 (a1 + a2)), true))
 else
 (if (a0 == 3) then
 (some ((w64 (a1 - a2)), true))
 else
 (if (a0 == 4) then
 (some ((w64 (a1 * a2)), true))
 else
 (if (a0 == 5) then
 (core_Two_J1 a0 a1 a2 (a0 == 5))
 else
 (core_Two_J1 a0 a1 a2 (a0 == 6))))))
abbrev R_core_Two (r : (Int × Bool)) : AV := (.tup [(I r.1), (B r.2)])
set_option maxHeartbeats 4000000 in
theorem T_core_Two {nn : Nat} {a0 : Int} {a1 : Int} {a2 : Int} {r : (Int × Bool)} (hF : core_Two a0 a1 a2 = some r) : den cx (nn + 2) 74 [(I a0), (I a1), (I a2)] = some (R_core_Two r, []) := by
 unfold core_Two at hF
 refine fnA Tryd.func74 Tryd.ntmps74 (by exact spine) (sl := [0, 1, 2]) ?_
 refine sr <| pp oAssign <| pp oAssign <| nl <| sr <| pp oAssign <| nl <| sq <| sr <| pp oMove <| nl <| bl <| sr <| pp oEql <| ?_
 refine pp oAssign <| nl <| ?_
 refine cd hF (fun hF => ?_) (fun hF => ?_)
 · refine sr <| pp oMove <| pp oAssign <| pp oAssign <| nl <| rt <| qbR <| qsR <| ?_
   obtain rfl := inj hF
   exact finT
 · refine sr <| pp oEql <| pp oAssign <| nl <| ?_
   refine cd hF (fun hF => ?_) (fun hF => ?_)
   · refine sr <| pp oMove <| pp oMove <| pp oAdd <| pp oAssign <| pp oAssign <| nl <| rt <| qbR <| qsR <| ?_
     obtain rfl := inj hF
     exact finT
   · refine sr <| pp oEql <| pp oAssign <| nl <| ?_
     refine cd hF (fun hF => ?_) (fun hF => ?_)
     · refine sr <| pp oMove <| pp oMove <| pp oSub <| pp oAssign <| pp oAssign <| nl <| rt <| qbR <| qsR <| ?_
       obtain rfl := inj hF
       exact finT
     · refine sr <| pp oEql <| pp oAssign <| nl <| ?_
       refine cd hF (fun hF => ?_) (fun hF => ?_)
       · refine sr <| pp oMove <| pp oMove <| pp oMul <| pp oAssign <| pp oAssign <| nl <| rt <| qbR <| qsR <| ?_
         obtain rfl := inj hF
         exact finT
       · refine sjn (r := r) (fun (s : Bool) => mkSt 104 [0, 1, 2, 8, 9, 28] [(I a0), (I a1), (I a2), (.fn (.func 86) [] []), (I a0), (B s)]) (fun s => core_Two_J1 a0 a1 a2 s) ?_ ?_
         · refine sr <| pp oEql <| pp oAssign <| nl <| ?_
           refine cd hF (fun hF => ?_) (fun hF => ?_)
           · refine sk <| ?_
             exact qj (a0 == 5) hF cutR'
           · refine rg <| pp oEql <| pp oAssign <| nl <| ?_
             exact qj (a0 == 6) hF cutR'
         · rintro y1 hF
           replace hF : core_Two_J1 a0 a1 a2 y1 = some r := hF
           unfold core_Two_J1 at hF
           refine mk ?_
           refine cd hF (fun hF => ?_) (fun hF => ?_)
           · refine sq <| sr <| pp oMove <| pp oEql <| nl <| ?_
             refine cd hF (fun hF => ?_) (fun hF => ?_)
             · refine sr <| pp oAssign <| pp oAssign <| nl <| rt <| qsR <| qbR <| qsR <| ?_
               obtain rfl := inj hF
               exact finT
             · refine sk <| qs <| sq <| sr <| pp oMove <| pp oEql <| nl <| ?_
               refine cd hF (fun hF => ?_) (fun hF => ?_)
               · refine sr <| pp oMove <| pp oMove <| ?_
                 refine bb hF fun x1 h1 hF => ?_
                 refine pp (oQuo h1) <| pp oAssign <| pp oAssign <| nl <| rt <| qsR <| qbR <| qsR <| ?_
                 obtain rfl := inj hF
                 exact finT
               · refine sk <| qs <| sr <| pp oMove <| pp oMove <| ?_
                 refine bb hF fun x2 h2 hF => ?_
                 refine pp (oRem h2) <| pp oAssign <| pp oAssign <| nl <| rt <| qbR <| qsR <| ?_
                 obtain rfl := inj hF
                 exact finT
           · refine sr <| pp oEql <| pp oAssign <| nl <| ?_
             refine cd hF (fun hF => ?_) (fun hF => ?_)
             · refine sr <| pp oMove <| pp oMove <| pp oAnd <| pp oAssign <| pp oAssign <| nl <| rt <| qbR <| qsR <| ?_
               obtain rfl := inj hF
               exact finT
             · refine sr <| pp oEql <| pp oAssign <| nl <| ?_
               refine cd hF (fun hF => ?_) (fun hF => ?_)
               · refine sr <| pp oMove <| pp oMove <| pp oOr <| pp oAssign <| pp oAssign <| nl <| rt <| qbR <| qsR <| ?_
                 obtain rfl := inj hF
                 exact finT
               · refine sr <| pp oEql <| pp oAssign <| nl <| ?_
                 refine cd hF (fun hF => ?_) (fun hF => ?_)
                 · refine sr <| pp oMove <| pp oMove <| pp oXor <| pp oAssign <| pp oAssign <| nl <| rt <| qbR <| qsR <| ?_
                   obtain rfl := inj hF
                   exact finT
                 · refine sr <| pp oEql <| pp oAssign <| nl <| ?_
                   refine cd hF (fun hF => ?_) (fun hF => ?_)
                   · refine sr <| pp oMove <| pp oMove <| pp oAnd <| ?_
                     refine bb hF fun x3 h3 hF => ?_
                     refine pp (oShl h3) <| pp oAssign <| pp oAssign <| nl <| rt <| qbR <| qsR <| ?_
                     obtain rfl := inj hF
                     exact finT
                   · refine sr <| pp oEql <| pp oAssign <| nl <| ?_
                     refine cd hF (fun hF => ?_) (fun hF => ?_)
                     · refine sr <| pp oMove <| pp oMove <| pp oAnd <| ?_
                       refine bb hF fun x4 h4 hF => ?_
                       refine pp (oShr h4) <| pp oAssign <| pp oAssign <| nl <| rt <| qbR <| qsR <| ?_
                       obtain rfl := inj hF
                       exact finT
                     · refine sr <| pp oEql <| pp oAssign <| nl <| ?_
                       refine cd hF (fun hF => ?_) (fun hF => ?_)
                       · refine sr <| pp oMove <| pp oMove <| pp oMove <| pp oEql <| ?_
                         refine bb hF fun x5 h5 hF => ?_
                         refine pp (oCall (T_core_Two_1 h5)) <| pp oAssign <| pp oAssign <| nl <| rt <| qbR <| qsR <| ?_
                         obtain rfl := inj hF
                         exact finT
                       · refine sr <| pp oEql <| pp oAssign <| nl <| ?_
                         refine cd hF (fun hF => ?_) (fun hF => ?_)
                         · refine sr <| pp oMove <| pp oMove <| pp oMove <| pp oNeq <| ?_
                           refine bb hF fun x6 h6 hF => ?_
                           refine pp (oCall (T_core_Two_1 h6)) <| pp oAssign <| pp oAssign <| nl <| rt <| qbR <| qsR <| ?_
                           obtain rfl := inj hF
                           exact finT
                         · refine sr <| pp oEql <| pp oAssign <| nl <| ?_
                           refine cd hF (fun hF => ?_) (fun hF => ?_)
                           · refine sr <| pp oMove <| pp oMove <| pp oMove <| pp oLss <| ?_
                             refine bb hF fun x7 h7 hF => ?_
                             refine pp (oCall (T_core_Two_1 h7)) <| pp oAssign <| pp oAssign <| nl <| rt <| qbR <| qsR <| ?_
                             obtain rfl := inj hF
                             exact finT
                           · refine sr <| pp oEql <| pp oAssign <| nl <| ?_
                             refine cd hF (fun hF => ?_) (fun hF => ?_)
                             · refine sr <| pp oMove <| pp oMove <| pp oMove <| pp oLeq <| ?_
                               refine bb hF fun x8 h8 hF => ?_
                               refine pp (oCall (T_core_Two_1 h8)) <| pp oAssign <| pp oAssign <| nl <| rt <| qbR <| qsR <| ?_
                               obtain rfl := inj hF
                               exact finT
                             · refine sr <| pp oEql <| pp oAssign <| nl <| ?_
                               refine cd hF (fun hF => ?_) (fun hF => ?_)
                               · refine sr <| pp oMove <| pp oNeg <| pp oAssign <| pp oAssign <| nl <| rt <| qbR <| qsR <| ?_
                                 obtain rfl := inj hF
                                 exact finT
                               · refine sr <| pp oEql <| pp oAssign <| nl <| ?_
                                 refine cd hF (fun hF => ?_) (fun hF => ?_)
                                 · refine sr <| pp oMove <| pp oCom <| pp oAssign <| pp oAssign <| nl <| rt <| qbR <| qsR <| ?_
                                   obtain rfl := inj hF
                                   exact finT
                                 · refine sk <| qb <| qs <| sr <| pp oAssign <| pp oAssign <| nl <| rt <| ?_
                                   obtain rfl := inj hF
                                   exact finT
noncomputable def run_walker_ins_J1 (y1 : XRun_walker) : Option (Bool × XRun_walker) :=
 (stk (y1.frames.1, y1.frames.2)).bind fun _ =>
 some (true, (XRun_walker.mk y1.u y1.ahead y1.mem y1.input y1.out (y1.frames.1, y1.frames.2) y1.counts))
noncomputable def run_walker_ins_L1 (a1 : XApi_Ins) (y9 : XRun_walker) (y10 : (List Int)) (y11 : Int) : Option (Lp (XRun_walker × (List Int) × Int) (XRun_walker × (List Int))) :=
 (stk (y9.frames.1, y9.frames.2)).bind fun _ =>
 if (decide (y11 < (a1.Args.length : Int))) then
 ((idx a1.Args y11).bind fun x9 =>
 (run_walker_val (XRun_walker.mk y9.u y9.ahead y9.mem y9.input y9.out (y9.frames.1, y9.frames.2) y9.counts) x9).bind fun x10 =>
 (app y10 ([x10] : List Int)).bind fun x11 =>
 some (.next ((XRun_walker.mk y9.u y9.ahead y9.mem y9.input y9.out (y9.frames.1, y9.frames.2) y9.counts), x11, (w64 (y11 + 1)))))
 else
 (some (.out ((XRun_walker.mk y9.u y9.ahead y9.mem y9.input y9.out (y9.frames.1, y9.frames.2) y9.counts), y10)))
noncomputable def run_walker_ins_J3 (a1 : XApi_Ins) (y12 : XRun_walker) (y13 : Int) : Option (Bool × XRun_walker) :=
 (stk (y12.frames.1, y12.frames.2)).bind fun _ =>
 (run_walker_set (XRun_walker.mk y12.u y12.ahead y12.mem y12.input y12.out (y12.frames.1, y12.frames.2) y12.counts) a1.Dst y13).bind fun x13 =>
 run_walker_ins_J1 x13
noncomputable def run_walker_ins_J2 (a0 : XRun_walker) (a1 : XApi_Ins) (x1 : Int) (x2 : Int) (y2 : Bool) : Option (Bool × XRun_walker) :=
 (stk ((a0.frames.1, a0.frames.2).1, (a0.frames.1, a0.frames.2).2)).bind fun _ =>
 if y2 then
 ((core_Within x1 0 (w64 ((a0.mem.length : Int) - 1))).bind fun x3 =>
 if (!x3) then
 ((run_walker_stop (XRun_walker.mk a0.u a0.ahead a0.mem a0.input a0.out ((a0.frames.1, a0.frames.2).1, (a0.frames.1, a0.frames.2).2) a0.counts) 3).bind fun x4 =>
 some (x4.1, x4.2))
 else
 (if (a1.Op == 19) then
 ((idx a0.mem x1).bind fun x5 =>
 run_walker_ins_J1 (XRun_walker.mk a0.u a0.ahead (List.set a0.mem ((x1) : Int).toNat x2) a0.input a0.out ((a0.frames.1, a0.frames.2).1, (a0.frames.1, a0.frames.2).2) a0.counts))
 else
 ((idx a0.mem x1).bind fun x6 =>
 (run_walker_set (XRun_walker.mk a0.u a0.ahead a0.mem a0.input a0.out ((a0.frames.1, a0.frames.2).1, (a0.frames.1, a0.frames.2).2) a0.counts) a1.Dst x6).bind fun x7 =>
 run_walker_ins_J1 x7)))
 else
 (if (a1.Op == 20) then
 (if (((a0.frames.1, a0.frames.2).2 : Int) == 30) then
 ((run_walker_stop (XRun_walker.mk a0.u a0.ahead a0.mem a0.input a0.out ((a0.frames.1, a0.frames.2).1, (a0.frames.1, a0.frames.2).2) a0.counts) 4).bind fun x8 =>
 some (x8.1, x8.2))
 else
 ((Loop (fun (s : (XRun_walker × (List Int) × Int)) => run_walker_ins_L1 a1 s.1 s.2.1 s.2.2) ((XRun_walker.mk a0.u a0.ahead a0.mem a0.input a0.out ((a0.frames.1, a0.frames.2).1, (a0.frames.1, a0.frames.2).2) a0.counts), [], 0)).bind fun v1 =>
 (stk (v1.1.frames.1, v1.1.frames.2)).bind fun _ =>
 (run_walker_enter (XRun_walker.mk v1.1.u v1.1.ahead v1.1.mem v1.1.input v1.1.out (v1.1.frames.1, v1.1.frames.2) v1.1.counts) a1.Func a1.Dst v1.2).bind fun x12 =>
 run_walker_ins_J1 x12))
 else
 (if (a1.Op == 21) then
 (if (decide (0 < (a0.input.length : Int))) then
 ((idx a0.input 0).bind fun x14 =>
 (slc a0.input (some 1) none).bind fun x15 =>
 run_walker_ins_J3 a1 (XRun_walker.mk a0.u a0.ahead a0.mem x15 a0.out ((a0.frames.1, a0.frames.2).1, (a0.frames.1, a0.frames.2).2) a0.counts) x14)
 else
 (run_walker_ins_J3 a1 (XRun_walker.mk a0.u a0.ahead a0.mem a0.input a0.out ((a0.frames.1, a0.frames.2).1, (a0.frames.1, a0.frames.2).2) a0.counts) (-1)))
 else
 (if (a1.Op == 22) then
 (if ((a0.out.Out.length : Int) == 200) then
 ((run_walker_stop (XRun_walker.mk a0.u a0.ahead a0.mem a0.input a0.out ((a0.frames.1, a0.frames.2).1, (a0.frames.1, a0.frames.2).2) a0.counts) 5).bind fun x16 =>
 some (x16.1, x16.2))
 else
 ((app a0.out.Out ([x1] : List Int)).bind fun x17 =>
 run_walker_ins_J1 (XRun_walker.mk a0.u a0.ahead a0.mem a0.input (XApi_Outcome.mk a0.out.State a0.out.Value x17 a0.out.Steps) ((a0.frames.1, a0.frames.2).1, (a0.frames.1, a0.frames.2).2) a0.counts)))
 else
 ((core_Two a1.Op x1 x2).bind fun x18 =>
 if (!x18.2) then
 ((run_walker_stop (XRun_walker.mk a0.u a0.ahead a0.mem a0.input a0.out ((a0.frames.1, a0.frames.2).1, (a0.frames.1, a0.frames.2).2) a0.counts) 2).bind fun x19 =>
 some (x19.1, x19.2))
 else
 ((run_walker_set (XRun_walker.mk a0.u a0.ahead a0.mem a0.input a0.out ((a0.frames.1, a0.frames.2).1, (a0.frames.1, a0.frames.2).2) a0.counts) a1.Dst x18.1).bind fun x20 =>
 run_walker_ins_J1 x20)))))
noncomputable def run_walker_ins (a0 : XRun_walker) (a1 : XApi_Ins) : Option (Bool × XRun_walker) :=
 (stk (a0.frames.1, a0.frames.2)).bind fun _ =>
 (run_walker_val (XRun_walker.mk a0.u a0.ahead a0.mem a0.input a0.out (a0.frames.1, a0.frames.2) a0.counts) a1.A).bind fun x1 =>
 (run_walker_val (XRun_walker.mk a0.u a0.ahead a0.mem a0.input a0.out (a0.frames.1, a0.frames.2) a0.counts) a1.B).bind fun x2 =>
 if (a1.Op == 18) then
 (run_walker_ins_J2 a0 a1 x1 x2 (a1.Op == 18))
 else
 (run_walker_ins_J2 a0 a1 x1 x2 (a1.Op == 19))
abbrev R_run_walker_ins (r : (Bool × XRun_walker)) : AV := (B r.1)
set_option maxHeartbeats 4000000 in
theorem T_run_walker_ins {nn : Nat} {a0 : XRun_walker} {a1 : XApi_Ins} {r : (Bool × XRun_walker)} (hF : run_walker_ins a0 a1 = some r) : den cx (nn + 3) 54 [(.ownp (cXRun_walker_SIOOISIIOIeLSIIIOIeOOe a0)), (.agg (cXApi_Ins a1))] = some (R_run_walker_ins r, [(.ownp (cXRun_walker_SIOOISIIOIeLSIIIOIeOOe r.2))]) := by
 unfold run_walker_ins at hF
 refine fnA Tryd.func54 Tryd.ntmps54 (by exact spine) (sl := [0, 1]) ?_
 refine bb hF fun _ h1 hF => ?_
 have h1 : a0.frames.2 ≤ a0.frames.1.length := stk_le h1
 refine sr <| pp oBoxF <| pp oAssign <| nl <| srD <| pp oMove <| pp oFA <| pp oLdA <| ?_
 refine bb hF fun x1 h2 hF => ?_
 refine rr (oCall (T_run_walker_val h2)) <| pp oMove <| pp oFA <| pp oLdA <| ?_
 refine bb hF fun x2 h3 hF => ?_
 refine rr (oCallZ (T_run_walker_val h3)) <| pp oAssign <| pp oAssign <| nlD <| ?_
 refine sjn (r := r) (fun (s : XRun_walker) => mkSt 156 [0] [(.ownp (cXRun_walker_SIOOISIIOIeLSIIIOIeOOe s))]) (fun s => run_walker_ins_J1 s) ?_ ?_
 · refine sr <| pp oFA <| pp oLd <| nl <| bl <| ?_
   refine sjn (r := r) (fun (s : Bool) => mkSt 156 [0, 3, 5, 6, 22, 40] [(.ownp (cXRun_walker_SIOOISIIOIeLSIIIOIeOOe (XRun_walker.mk a0.u a0.ahead a0.mem a0.input a0.out (a0.frames.1, a0.frames.2) a0.counts))), (.vp (cXApi_Ins a1)), (I x1), (I x2), (I a1.Op), (B s)]) (fun s => run_walker_ins_J2 a0 a1 x1 x2 s) ?_ ?_
   · refine sr <| pp oEql <| pp oAssign <| nl <| ?_
     refine cd hF (fun hF => ?_) (fun hF => ?_)
     · refine sk <| ?_
       exact qj (a1.Op == 18) hF cutR'
     · refine rg <| pp oEql <| pp oAssign <| nl <| ?_
       exact qj (a1.Op == 19) hF cutR'
   · rintro y2 hF
     replace hF : run_walker_ins_J2 a0 a1 x1 x2 y2 = some r := hF
     unfold run_walker_ins_J2 at hF
     refine mk ?_
     refine bb hF fun _ h5 hF => ?_
     have h5 : (a0.frames.1, a0.frames.2).2 ≤ ((a0.frames.1, a0.frames.2).1).length := stk_le h5
     refine cd hF (fun hF => ?_) (fun hF => ?_)
     · refine sq <| sr <| pp oMove <| pp oMove <| pp oNil <| pp oFAM <| rr oLdR <| pp (oLenRs (m := a0.mem.length)) <| pp oSub <| ?_
       refine bb hF fun x3 h6 hF => ?_
       refine pp (oCallZ (T_core_Within h6)) <| pp oNot <| nl <| ?_
       refine cd hF (fun hF => ?_) (fun hF => ?_)
       · refine sr <| pp oMove <| ?_
         refine bb hF fun x4 h7 hF => ?_
         refine ww (oCallT (T_run_walker_stop h7)) <| pp oAssign <| nl <| rt <| qsR <| qbR <| qjR <| ?_
         obtain rfl := inj hF
         exact fin1
       · refine sk <| qs <| sr <| pp oFA <| pp oLd <| pp oEql <| nl <| ?_
         refine cd hF (fun hF => ?_) (fun hF => ?_)
         · refine rg <| pp oMove <| pp oNil <| pp oFAM <| rr oLdR <| pp oMove <| pp oMove <| ?_
           refine bb hF fun x5 h8 hF => ?_
           refine rr (oIxM h8) <| ww (oStL (idx_nat h8) x2) <| nl <| qb <| ?_
           exact qj (XRun_walker.mk a0.u a0.ahead (List.set a0.mem ((x1) : Int).toNat x2) a0.input a0.out ((a0.frames.1, a0.frames.2).1, (a0.frames.1, a0.frames.2).2) a0.counts) hF cutR'
         · refine rgD <| pp oMove <| pp oFA <| pp oLd <| pp oMove <| pp oNil <| pp oFAM <| rr oLdR <| pp oMove <| ?_
           refine bb hF fun x6 h9 hF => ?_
           refine rr (oIxM h9) <| rr (oLdM (idx_nat h9)) <| ?_
           refine bb hF fun x7 h10 hF => ?_
           refine ww (oCallTZ (T_run_walker_set h10)) <| nlD <| qb <| ?_
           exact qj x7 hF cutR'
     · refine sr <| pp oEql <| pp oAssign <| nl <| ?_
       refine cd hF (fun hF => ?_) (fun hF => ?_)
       · refine sq <| sr <| pp oMove <| pp oNil <| pp oFAM <| rr oLdR <| pp (oLenRs (m := (a0.frames.1, a0.frames.2).2)) <| pp oEql <| nl <| ?_
         refine cd hF (fun hF => ?_) (fun hF => ?_)
         · refine sr <| pp oMove <| ?_
           refine bb hF fun x8 h11 hF => ?_
           refine ww (oCallT (T_run_walker_stop h11)) <| pp oAssign <| nl <| rt <| qsR <| qbR <| qjR <| ?_
           obtain rfl := inj hF
           exact fin1
         · refine sk <| qs <| sr <| pp oAssign <| nl <| sq <| sr <| pp oFA <| pp oLd <| pp oLenSl <| pp oMove <| nl <| ?_
           refine lp (fun (s : (XRun_walker × (List Int) × Int)) => mkSt 156 [0, 3, 7, 86, 87, 88] [(.ownp (cXRun_walker_SIOOISIIOIeLSIIIOIeOOe s.1)), (.vp (cXApi_Ins a1)), (.own ((s.2.1).map cInt_i64) (s.2.1).length), (.sl ((a1.Args).map cXApi_Val)), (I (a1.Args.length : Int)), (I s.2.2)]) (fun (s : (XRun_walker × (List Int))) => mkSt 156 [0, 3, 7] [(.ownp (cXRun_walker_SIOOISIIOIeLSIIIOIeOOe s.1)), (.vp (cXApi_Ins a1)), (.own ((s.2).map cInt_i64) (s.2).length)]) hF cutR' ?_ ?_
           · rintro ⟨y9, y10, y11⟩ z1 hF
             replace hF : run_walker_ins_L1 a1 y9 y10 y11 = some z1 := hF
             unfold run_walker_ins_L1 at hF
             refine mk ?_
             refine bb hF fun _ h13 hF => ?_
             have h13 : y9.frames.2 ≤ y9.frames.1.length := stk_le h13
             refine sr <| pp oLss <| nl <| sq <| ?_
             refine cd hF (fun hF => ?_) (fun hF => ?_)
             · refine sk <| qs <| sq <| bl <| sr <| ?_
               refine bb hF fun x9 h14 hF => ?_
               refine pp (oIx h14) <| pp oLdA <| ww oAlloc <| ww oStF <| nl <| rg <| pp oMove <| pp oMove <| pp oLdA <| ?_
               refine bb hF fun x10 h15 hF => ?_
               refine rr (oCallZ (T_run_walker_val h15)) <| pp oBSF <| ?_
               refine bb hF fun x11 h16 hF => ?_
               refine ww (oApp h16) <| pp oAssign <| nl <| qb <| qs <| rg <| pp oAdd <| pp oMove <| nl <| ?_
               exact ln hF cutR'
             · refine ex <| qsE <| ?_
               exact lx hF cutR'
           · intro v1 hF
             refine qmk ?_
             refine bb hF fun _ h17 hF => ?_
             have h17 : v1.1.frames.2 ≤ v1.1.frames.1.length := stk_le h17
             refine qs <| rg <| pp oMove <| pp oFA <| pp oLd <| pp oFA <| pp oLd <| pp oMove <| ?_
             refine bb hF fun x12 h18 hF => ?_
             refine ww (oCallTZ (T_run_walker_enter h18)) <| nl <| qb <| ?_
             exact qj x12 hF cutR'
       · refine sr <| pp oEql <| pp oAssign <| nl <| ?_
         refine cd hF (fun hF => ?_) (fun hF => ?_)
         · refine sr <| pp oAssign <| nl <| ?_
           refine sjn (r := r) (fun (s : (XRun_walker × Int)) => mkSt 156 [0, 3, 10] [(.ownp (cXRun_walker_SIOOISIIOIeLSIIIOIeOOe s.1)), (.vp (cXApi_Ins a1)), (I s.2)]) (fun s => run_walker_ins_J3 a1 s.1 s.2) ?_ ?_
           · refine sr <| pp oMove <| pp oNil <| pp oFAM <| rr oLdR <| pp oLenSl <| pp oGtr <| nl <| ?_
             refine cd hF (fun hF => ?_) (fun hF => ?_)
             · refine sr <| pp oMove <| pp oNil <| pp oFAM <| rr oLdR <| ?_
               refine bb hF fun x14 h21 hF => ?_
               refine pp (oIx h21) <| pp oLd <| pp oAssign <| nl <| rg <| pp oMove <| pp oMove <| pp oNil <| pp oFAM <| rr oLdR <| ?_
               refine bb hF fun x15 h22 hF => ?_
               refine pp (oSlc h22) <| pp oNil <| pp oFAM <| ww oStR <| nl <| ?_
               exact qj ((XRun_walker.mk a0.u a0.ahead a0.mem x15 a0.out ((a0.frames.1, a0.frames.2).1, (a0.frames.1, a0.frames.2).2) a0.counts), x14) hF cutR'
             · refine sk <| ?_
               exact qj ((XRun_walker.mk a0.u a0.ahead a0.mem a0.input a0.out ((a0.frames.1, a0.frames.2).1, (a0.frames.1, a0.frames.2).2) a0.counts), (-1)) hF cutR'
           · rintro ⟨y12, y13⟩ hF
             replace hF : run_walker_ins_J3 a1 y12 y13 = some r := hF
             unfold run_walker_ins_J3 at hF
             refine mk ?_
             refine bb hF fun _ h19 hF => ?_
             have h19 : y12.frames.2 ≤ y12.frames.1.length := stk_le h19
             refine rg <| pp oMove <| pp oFA <| pp oLd <| pp oMove <| ?_
             refine bb hF fun x13 h20 hF => ?_
             refine ww (oCallTZ (T_run_walker_set h20)) <| nl <| qb <| ?_
             exact qj x13 hF cutR'
         · refine sr <| pp oEql <| pp oAssign <| nl <| ?_
           refine cd hF (fun hF => ?_) (fun hF => ?_)
           · refine sq <| sr <| pp oMove <| pp oNil <| pp oFAM <| pp oFAM <| rr oLdR <| pp (oLenRs (m := a0.out.Out.length)) <| pp oEql <| nl <| ?_
             refine cd hF (fun hF => ?_) (fun hF => ?_)
             · refine sr <| pp oMove <| ?_
               refine bb hF fun x16 h23 hF => ?_
               refine ww (oCallT (T_run_walker_stop h23)) <| pp oAssign <| nl <| rt <| qsR <| qbR <| qjR <| ?_
               obtain rfl := inj hF
               exact fin1
             · refine sk <| qs <| rg <| pp oMove <| pp oMove <| pp oNil <| pp oFAM <| pp oFAM <| rr oLdR <| pp oMove <| pp oBSF <| ?_
               refine bb hF fun x17 h24 hF => ?_
               refine ww (oApp h24) <| pp oNil <| pp oFAM <| pp oFAM <| ww oStR <| nl <| qb <| ?_
               exact qj (XRun_walker.mk a0.u a0.ahead a0.mem a0.input (XApi_Outcome.mk a0.out.State a0.out.Value x17 a0.out.Steps) ((a0.frames.1, a0.frames.2).1, (a0.frames.1, a0.frames.2).2) a0.counts) hF cutR'
           · refine sr <| pp oFA <| pp oLd <| pp oMove <| pp oMove <| ?_
             refine bb hF fun x18 h25 hF => ?_
             refine pp (oCallZ (T_core_Two h25)) <| pp oMove <| pp oExt <| pp oExt <| pp oAssign <| pp oAssign <| nl <| sq <| sr <| pp oMove <| pp oNot <| nl <| ?_
             refine cd hF (fun hF => ?_) (fun hF => ?_)
             · refine sr <| pp oMove <| ?_
               refine bb hF fun x19 h26 hF => ?_
               refine ww (oCallT (T_run_walker_stop h26)) <| pp oAssign <| nl <| rt <| qsR <| qbR <| qjR <| ?_
               obtain rfl := inj hF
               exact fin1
             · refine sk <| qs <| rg <| pp oMove <| pp oFA <| pp oLd <| pp oMove <| ?_
               refine bb hF fun x20 h27 hF => ?_
               refine ww (oCallTZ (T_run_walker_set h27)) <| nl <| qb <| ?_
               exact qj x20 hF cutR'
 · rintro y1 hF
   replace hF : run_walker_ins_J1 y1 = some r := hF
   unfold run_walker_ins_J1 at hF
   refine mk ?_
   refine bb hF fun _ h4 hF => ?_
   have h4 : y1.frames.2 ≤ y1.frames.1.length := stk_le h4
   refine sr <| pp oAssign <| nl <| rt <| ?_
   obtain rfl := inj hF
   exact fin1
noncomputable def run_walker_step (a0 : XRun_walker) : Option (Bool × XRun_walker) :=
 (stk (a0.frames.1, a0.frames.2)).bind fun _ =>
 (lastx a0.frames.1 (((a0.frames.2 : Nat) : Int) - 1)).bind fun x1 =>
 (idx a0.u.Funcs x1.fn).bind fun x2 =>
 (idx x2.Blocks x1.block).bind fun x3 =>
 if (x1.at_ == (x3.List.length : Int)) then
 ((run_walker_end (XRun_walker.mk a0.u a0.ahead a0.mem a0.input (XApi_Outcome.mk a0.out.State a0.out.Value a0.out.Out (w64 (a0.out.Steps + 1))) (a0.frames.1, a0.frames.2) a0.counts) x3.End).bind fun x4 =>
 some (x4.1, x4.2))
 else
 ((idx x3.List (w64 ((w64 (x1.at_ + 1)) - 1))).bind fun x5 =>
 (run_walker_ins (XRun_walker.mk a0.u a0.ahead a0.mem a0.input (XApi_Outcome.mk a0.out.State a0.out.Value a0.out.Out (w64 (a0.out.Steps + 1))) ((List.set a0.frames.1 (((((a0.frames.2 : Nat) : Int) - 1)) : Int).toNat (XRun_frame.mk x1.fn x1.block (w64 (x1.at_ + 1)) x1.regs x1.dst)), a0.frames.2) a0.counts) x5).bind fun x6 =>
 some (x6.1, x6.2))
abbrev R_run_walker_step (r : (Bool × XRun_walker)) : AV := (B r.1)
set_option maxHeartbeats 4000000 in
theorem T_run_walker_step {nn : Nat} {a0 : XRun_walker} {r : (Bool × XRun_walker)} (hF : run_walker_step a0 = some r) : den cx (nn + 4) 34 [(.ownp (cXRun_walker_SIOOISIIOIeLSIIIOIeOOe a0))] = some (R_run_walker_step r, [(.ownp (cXRun_walker_SIOOISIIOIeLSIIIOIeOOe r.2))]) := by
 unfold run_walker_step at hF
 refine fnA Tryd.func34 Tryd.ntmps34 (by exact spine) (sl := [0]) ?_
 refine bb hF fun _ h1 hF => ?_
 have h1 : a0.frames.2 ≤ a0.frames.1.length := stk_le h1
 refine sr <| pp oAssign <| nl <| sr <| pp oMove <| ?_
 refine bb hF fun x1 h2 hF => ?_
 refine rr (oLast h2) <| pp oAssign <| nl <| srD <| pp oMove <| pp oNil <| pp oFAM <| pp oFAM <| rr oLdR <| pp oMove <| pp oNil <| pp oFAM <| rr (oLdQ (rowM (lastx_nat h2))) <| ?_
 refine bb hF fun x2 h3 hF => ?_
 refine pp (oIx h3) <| pp oFA <| pp oLd <| pp oMove <| pp oNil <| pp oFAM <| rr (oLdQ (rowM (lastx_nat h2))) <| ?_
 refine bb hF fun x3 h4 hF => ?_
 refine pp (oIx h4) <| pp oLdA <| ww oAlloc <| ww oStF <| nlD <| sr <| pp oMove <| pp oNil <| pp oFAM <| pp oFAM <| rr oLdR <| pp oAdd <| pp oNil <| pp oFAM <| ?_
 refine pp oFAM <| ww oStR <| nl <| sq <| srD <| pp oMove <| pp oNil <| pp oFAM <| rr (oLdQ (rowM (lastx_nat h2))) <| pp oFA <| pp oLd <| pp oLenSl <| pp oEql <| nlD <| ?_
 refine cd hF (fun hF => ?_) (fun hF => ?_)
 · refine sr <| pp oMove <| pp oFA <| pp oLdA <| ?_
   refine bb hF fun x4 h5 hF => ?_
   refine ww (oCallT (T_run_walker_end h5)) <| pp oAssign <| nl <| rt <| qsR <| ?_
   obtain rfl := inj hF
   exact fin1
 · refine sk <| qs <| sr <| pp oMove <| pp oNil <| pp oFAM <| rr (oLdQ (rowM (lastx_nat h2))) <| pp oAdd <| pp oNil <| pp oFAM <| ww (oStL (lastx_nat h2) (XRun_frame.mk x1.fn x1.block (w64 (x1.at_ + 1)) x1.regs x1.dst)) <| nl <| srD <| pp oMove <| ?_
   refine pp oFA <| pp oLd <| pp oMove <| pp oNil <| pp oFAM <| rr (oLdQ (rowM (set_get (lastx_nat h2)))) <| pp oSub <| ?_
   refine bb hF fun x5 h6 hF => ?_
   refine pp (oIx h6) <| pp oLdA <| ?_
   refine bb hF fun x6 h7 hF => ?_
   refine ww (oCallT (T_run_walker_ins h7)) <| pp oAssign <| nlD <| rt <| ?_
   obtain rfl := inj hF
   exact fin1
noncomputable def run_Counts_L1 (a0 : XApi_Unit) (y9 : XRun_walker) (y10 : Int) : Option (Lp (XRun_walker × Int) XRun_walker) :=
 (stk (y9.frames.1, y9.frames.2)).bind fun _ =>
 if (decide (y10 < (a0.Globals.length : Int))) then
 ((idx a0.Globals y10).bind fun x5 =>
 (app y9.mem x5.Init).bind fun x6 =>
 (zap x6 (w64 (x5.Size - (x5.Init.length : Int))) 0).bind fun x7 =>
 some (.next ((XRun_walker.mk y9.u y9.ahead x7 y9.input y9.out (y9.frames.1, y9.frames.2) y9.counts), (w64 (y10 + 1)))))
 else
 (some (.out (XRun_walker.mk y9.u y9.ahead y9.mem y9.input y9.out (y9.frames.1, y9.frames.2) y9.counts)))
noncomputable def run_Counts_L2 (a0 : XApi_Unit) (y19 : XRun_walker) (y20 : Int) : Option (Lp (XRun_walker × Int) XRun_walker) :=
 (stk (y19.frames.1, y19.frames.2)).bind fun _ =>
 if (decide (y20 < (a0.Funcs.length : Int))) then
 ((idx a0.Funcs y20).bind fun x8 =>
 (code_Ahead a0 y20).bind fun x9 =>
 (app y19.ahead ([x9.1] : List (List (List Int)))).bind fun x10 =>
 (mks (x8.Blocks.length : Int) (0 : Int)).bind fun x11 =>
 (app (List.take y19.counts.length y19.counts) [x11]).bind fun x12 =>
 some (.next ((XRun_walker.mk y19.u x10 y19.mem y19.input y19.out (y19.frames.1, y19.frames.2) (List.set x12 (((((((List.take y19.counts.length y19.counts)).length : Nat) : Int)) : Int).toNat) x11)), (w64 (y20 + 1)))))
 else
 (some (.out (XRun_walker.mk y19.u y19.ahead y19.mem y19.input y19.out (y19.frames.1, y19.frames.2) y19.counts)))
noncomputable def run_Counts_L3 (a2 : Int) (y25 : XRun_walker) : Option (Lp XRun_walker XRun_walker) :=
 (stk (y25.frames.1, y25.frames.2)).bind fun _ =>
 if (y25.out.Steps == a2) then
 ((run_walker_stop (XRun_walker.mk y25.u y25.ahead y25.mem y25.input y25.out (y25.frames.1, y25.frames.2) y25.counts) 1).bind fun x15 =>
 some (.out x15.2))
 else
 ((run_walker_step (XRun_walker.mk y25.u y25.ahead y25.mem y25.input y25.out (y25.frames.1, y25.frames.2) y25.counts)).bind fun x16 =>
 if (!x16.1) then
 (some (.out x16.2))
 else
 (some (.next x16.2)))
noncomputable def run_Counts (a0 : XApi_Unit) (a1 : (List Int)) (a2 : Int) : Option ((List (List Int)) × XApi_Outcome × XApi_Fault) :=
 (code_Check a0).bind fun x1 =>
 if (!((x1.Code == 0) && ((x1.At == 0) && true))) then
 (some ([], (XApi_Outcome.mk 0 0 [] 0), x1))
 else
 (if (decide (30 < (a1.length : Int))) then
 ((core_Fault 2 (-1)).bind fun x2 =>
 some ([], (XApi_Outcome.mk 0 0 [] 0), x2))
 else
 ((core_Within a2 0 100000).bind fun x3 =>
 if (!x3) then
 ((core_Fault 3 (-1)).bind fun x4 =>
 some ([], (XApi_Outcome.mk 0 0 [] 0), x4))
 else
 ((Loop (fun (s : (XRun_walker × Int)) => run_Counts_L1 a0 s.1 s.2) ((XRun_walker.mk a0 [] [] a1 (XApi_Outcome.mk 0 0 [] 0) ([], 0) []), 0)).bind fun v1 =>
 (stk (v1.frames.1, v1.frames.2)).bind fun _ =>
 (Loop (fun (s : (XRun_walker × Int)) => run_Counts_L2 a0 s.1 s.2) ((XRun_walker.mk v1.u v1.ahead v1.mem v1.input v1.out (v1.frames.1, v1.frames.2) v1.counts), 0)).bind fun v2 =>
 (stk (v2.frames.1, v2.frames.2)).bind fun _ =>
 (slices_IndexFunc_api_Func_api_Func__f32 a0.Funcs).bind fun x13 =>
 (run_walker_enter (XRun_walker.mk v2.u v2.ahead v2.mem v2.input v2.out (v2.frames.1, v2.frames.2) v2.counts) x13 (-1) []).bind fun x14 =>
 (Loop (fun (s : XRun_walker) => run_Counts_L3 a2 s) x14).bind fun v3 =>
 (stk (v3.frames.1, v3.frames.2)).bind fun _ =>
 some (v3.counts, v3.out, (XApi_Fault.mk 0 0)))))
abbrev R_run_Counts (r : ((List (List Int)) × XApi_Outcome × XApi_Fault)) : AV := (.tup [(.own ((r.1).map co_cInt_i64) (r.1).length), (.agg (cXApi_Outcome_SIIOIe r.2.1)), (.agg (cXApi_Fault r.2.2))])
set_option maxHeartbeats 4000000 in
theorem T_run_Counts {nn : Nat} {a0 : XApi_Unit} {a1 : (List Int)} {a2 : Int} {r : ((List (List Int)) × XApi_Outcome × XApi_Fault)} (hF : run_Counts a0 a1 a2 = some r) : den cx (nn + 9) 13 [(.agg (cXApi_Unit a0)), (.sl ((a1).map cInt_i64)), (I a2)] = some (R_run_Counts r, []) := by
 unfold run_Counts at hF
 refine fnA Tryd.func13 Tryd.ntmps13 (by exact spine) (sl := [0, 1, 2]) ?_
 refine sr <| pp oBoxF <| pp oAssign <| ww oAlloc <| ww oAlloc <| nl <| sq <| sr <| pp oLdA <| ?_
 refine bb hF fun x1 h1 hF => ?_
 refine pp (oCall (T_code_Check h1)) <| ww oAlloc <| ww oStF <| nl <| sr <| pp oLdA <| pp oBuild <| pp (oStq (eq29_neq ..)) <| nl <| ?_
 refine cd hF (fun hF => ?_) (fun hF => ?_)
 · refine srD <| pp oBuild <| pp oLdA <| pp oAssign <| ww oStR <| ww oStR <| nlD <| rt <| qsR <| ?_
   obtain rfl := inj hF
   exact finT
 · refine sk <| qs <| sq <| sr <| pp oMove <| pp oLenSl <| pp oGtr <| nl <| ?_
   refine cd hF (fun hF => ?_) (fun hF => ?_)
   · refine sr <| pp oBuild <| ?_
     refine bb hF fun x2 h2 hF => ?_
     refine pp (oCall (T_core_Fault h2)) <| pp oAssign <| ww oStR <| ww oStR <| nl <| rt <| qsR <| ?_
     obtain rfl := inj hF
     exact finT
   · refine sk <| qs <| sq <| sr <| pp oMove <| ?_
     refine bb hF fun x3 h3 hF => ?_
     refine pp (oCallZ (T_core_Within h3)) <| pp oNot <| nl <| ?_
     refine cd hF (fun hF => ?_) (fun hF => ?_)
     · refine sr <| pp oBuild <| ?_
       refine bb hF fun x4 h4 hF => ?_
       refine pp (oCall (T_core_Fault h4)) <| pp oAssign <| ww oStR <| ww oStR <| nl <| rt <| qsR <| ?_
       obtain rfl := inj hF
       exact finT
     · refine sk <| qs <| sr <| pp oLdA <| pp oMove <| pp oBuild <| ww oBoxM <| pp oAssign <| nl <| sq <| sr <| pp oFA <| pp oLd <| pp oLenSl <| ?_
       refine pp oMove <| nl <| ?_
       refine lp (fun (s : (XRun_walker × Int)) => mkSt 134 [2, 3, 7, 8, 10, 39, 40, 41] [(I a2), (.vp (cXApi_Unit a0)), (.ownp (cXApi_Outcome_SIIOIe (XApi_Outcome.mk 0 0 [] 0))), (.ownp (cXApi_Fault (XApi_Fault.mk 0 0))), (.ownp (cXRun_walker_SIOOISIIOIeLSIIIOIeOOe s.1)), (.sl ((a0.Globals).map cXApi_Global)), (I (a0.Globals.length : Int)), (I s.2)]) (fun (s : XRun_walker) => mkSt 134 [2, 3, 7, 8, 10] [(I a2), (.vp (cXApi_Unit a0)), (.ownp (cXApi_Outcome_SIIOIe (XApi_Outcome.mk 0 0 [] 0))), (.ownp (cXApi_Fault (XApi_Fault.mk 0 0))), (.ownp (cXRun_walker_SIOOISIIOIeLSIIIOIeOOe s))]) hF cutR' ?_ ?_
       · rintro ⟨y9, y10⟩ z1 hF
         replace hF : run_Counts_L1 a0 y9 y10 = some z1 := hF
         unfold run_Counts_L1 at hF
         refine mk ?_
         refine bb hF fun _ h6 hF => ?_
         have h6 : y9.frames.2 ≤ y9.frames.1.length := stk_le h6
         refine sr <| pp oLss <| nl <| sq <| ?_
         refine cd hF (fun hF => ?_) (fun hF => ?_)
         · refine sk <| qs <| sq <| bl <| sr <| ?_
           refine bb hF fun x5 h7 hF => ?_
           refine pp (oIx h7) <| pp oLdA <| ww oAlloc <| ww oStF <| nl <| srD <| pp oMove <| pp oMove <| pp oNil <| pp oFAM <| rr oLdR <| pp oFA <| pp oLd <| ?_
           refine bb hF fun x6 h8 hF => ?_
           refine ww (oApp h8) <| pp oNil <| pp oFAM <| ww oStR <| nlD <| rgD <| pp oMove <| pp oMove <| pp oNil <| pp oFAM <| rr oLdR <| pp oFA <| pp oLd <| pp oFA <| ?_
           refine pp oLd <| pp oLenSl <| pp oSub <| ?_
           refine bb hF fun x7 h9 hF => ?_
           refine ww (oApZ (c := cInt_i64) (ki := .i64) h9 rfl) <| pp oNil <| pp oFAM <| ww oStR <| nlD <| qb <| qs <| rg <| pp oAdd <| pp oMove <| nl <| ?_
           exact ln hF cutR'
         · refine ex <| qsE <| ?_
           exact lx hF cutR'
       · intro v1 hF
         refine qmk ?_
         refine bb hF fun _ h10 hF => ?_
         have h10 : v1.frames.2 ≤ v1.frames.1.length := stk_le h10
         refine qs <| sq <| sr <| pp oFA <| pp oLd <| pp oLenSl <| pp oMove <| nl <| ?_
         refine lp (fun (s : (XRun_walker × Int)) => mkSt 134 [2, 3, 7, 8, 10, 71, 72, 73] [(I a2), (.vp (cXApi_Unit a0)), (.ownp (cXApi_Outcome_SIIOIe (XApi_Outcome.mk 0 0 [] 0))), (.ownp (cXApi_Fault (XApi_Fault.mk 0 0))), (.ownp (cXRun_walker_SIOOISIIOIeLSIIIOIeOOe s.1)), (.sl ((a0.Funcs).map cXApi_Func)), (I (a0.Funcs.length : Int)), (I s.2)]) (fun (s : XRun_walker) => mkSt 134 [2, 3, 7, 8, 10] [(I a2), (.vp (cXApi_Unit a0)), (.ownp (cXApi_Outcome_SIIOIe (XApi_Outcome.mk 0 0 [] 0))), (.ownp (cXApi_Fault (XApi_Fault.mk 0 0))), (.ownp (cXRun_walker_SIOOISIIOIeLSIIIOIeOOe s))]) hF cutR' ?_ ?_
         · rintro ⟨y19, y20⟩ z2 hF
           replace hF : run_Counts_L2 a0 y19 y20 = some z2 := hF
           unfold run_Counts_L2 at hF
           refine mk ?_
           refine bb hF fun _ h12 hF => ?_
           have h12 : y19.frames.2 ≤ y19.frames.1.length := stk_le h12
           refine sr <| pp oLss <| nl <| sq <| ?_
           refine cd hF (fun hF => ?_) (fun hF => ?_)
           · refine sk <| qs <| sq <| bl <| sr <| pp oMove <| ?_
             refine bb hF fun x8 h13 hF => ?_
             refine pp (oIx h13) <| pp oLdA <| ww oAlloc <| pp oAssign <| ww oStF <| nl <| sr <| pp oLdA <| pp oMove <| ?_
             refine bb hF fun x9 h14 hF => ?_
             refine pp (oCallZ (T_code_Ahead h14)) <| pp oMove <| pp oExt <| pp oExt <| ww oAlloc <| pp oAssign <| ww oStF <| nl <| sr <| pp oMove <| pp oMove <| pp oNil <| pp oFAM <| rr oLdR <| ?_
             refine pp oMove <| pp oBSF <| ?_
             refine bb hF fun x10 h15 hF => ?_
             refine ww (oApp h15) <| pp oNil <| pp oFAM <| ww oStR <| nl <| rgD <| pp oMove <| pp oMove <| pp oNil <| pp oFAM <| rr oLdR <| pp oFA <| pp oLd <| pp oLenSl <| ?_
             refine bb hF fun x11 h16 hF => ?_
             refine ww (oMake (c := cInt_i64) h16 rfl) <| ww oBSM <| ?_
             refine bb hF fun x12 h17 hF => ?_
             have hk1 := app_get h17
             refine ww (oAppO h17 lle) <| pp oNil <| pp oFAM <| ww oStR <| nlD <| qb <| qs <| rg <| pp oAdd <| pp oMove <| nl <| ?_
             exact ln hF cutR'
           · refine ex <| qsE <| ?_
             exact lx hF cutR'
         · intro v2 hF
           refine qmk ?_
           refine bb hF fun _ h18 hF => ?_
           have h18 : v2.frames.2 ≤ v2.frames.1.length := stk_le h18
           refine qs <| sr <| pp oMove <| pp oFA <| pp oLd <| ?_
           refine bb hF fun x13 h19 hF => ?_
           refine pp (oCallZ (T_slices_IndexFunc_api_Func_api_Func__f32 h19)) <| ?_
           refine bb hF fun x14 h20 hF => ?_
           refine ww (oCallTZ (T_run_walker_enter h20)) <| nl <| sq <| ?_
           refine lp (fun (s : XRun_walker) => mkSt 134 [2, 7, 8, 10] [(I a2), (.ownp (cXApi_Outcome_SIIOIe (XApi_Outcome.mk 0 0 [] 0))), (.ownp (cXApi_Fault (XApi_Fault.mk 0 0))), (.ownp (cXRun_walker_SIOOISIIOIeLSIIIOIeOOe s))]) (fun (s : XRun_walker) => mkSt 134 [7, 8, 10] [(.ownp (cXApi_Outcome_SIIOIe (XApi_Outcome.mk 0 0 [] 0))), (.ownp (cXApi_Fault (XApi_Fault.mk 0 0))), (.ownp (cXRun_walker_SIOOISIIOIeLSIIIOIeOOe s))]) hF cutR' ?_ ?_
           · rintro y25 z3 hF
             replace hF : run_Counts_L3 a2 y25 = some z3 := hF
             unfold run_Counts_L3 at hF
             refine mk ?_
             refine bb hF fun _ h22 hF => ?_
             have h22 : y25.frames.2 ≤ y25.frames.1.length := stk_le h22
             refine bl <| sq <| sr <| pp oMove <| pp oNil <| pp oFAM <| pp oFAM <| rr oLdR <| pp oMove <| pp oEql <| nl <| ?_
             refine cd hF (fun hF => ?_) (fun hF => ?_)
             · refine sr <| pp oMove <| ?_
               refine bb hF fun x15 h23 hF => ?_
               refine ww (oCallTZ (T_run_walker_stop h23)) <| nl <| ex <| qsE <| qbM <| ?_
               exact lx hF cutR'
             · refine sk <| qs <| sr <| pp oMove <| ?_
               refine bb hF fun x16 h24 hF => ?_
               refine ww (oCallTZ (T_run_walker_step h24)) <| pp oNot <| nl <| ?_
               refine cd hF (fun hF => ?_) (fun hF => ?_)
               · refine ex <| qbM <| ?_
                 exact lx hF cutR'
               · refine sk <| qb <| ?_
                 exact ln hF cutR'
           · intro v3 hF
             refine qmk ?_
             refine bb hF fun _ h25 hF => ?_
             have h25 : v3.frames.2 ≤ v3.frames.1.length := stk_le h25
             refine qs <| srD <| pp oMove <| pp oNil <| pp oFAM <| rr oLdR <| pp oMove <| pp oNil <| pp oFAM <| rr oLdRA <| pp oBuild <| pp oAssign <| ww oStR <| ww oStR <| ?_
             refine nlD <| rt <| ?_
             obtain rfl := inj hF
             exact finT
end Go.Ab
