/-
  Functions of the program as functions on plain data (written by gen.py).
-/
import Derived.Test.YtbgakafgplbbnaaDoorAbGen1
namespace Go.Ab
open Go Go.Proofs
/-! turnery/turneryref2.ins -/

noncomputable def turneryref2_ins (a0 : XApi_Unit) (a1 : XApi_Func) (a2 : XApi_Ins) : Option Int :=
  (turneryref2_in a2.Op 1 22).bind fun x440 =>
  if (!x440) then
  (some 4)
  else
  ((turneryref2_Dst a2.Op).bind fun x444 =>
  (if (if (!x444) then (a2.Dst != (-1)) else false) then some true else (turneryref2_SpeaksA a2.Op).bind fun x475 =>
  some (if (!x475) then (!((a2.A.Reg == false) && ((a2.A.N == 0) && true))) else false)).bind fun p446 =>
  (if p446 then some true else (turneryref2_SpeaksB a2.Op).bind fun x515 =>
  some (if (!x515) then (!((a2.B.Reg == false) && ((a2.B.N == 0) && true))) else false)).bind fun p486 =>
  if (if p486 then true else (if (!(a2.Op == 20)) then (if (a2.Func != 0) then true else (decide (0 < (a2.Args.length : Int)))) else false)) then
  (some 5)
  else
  ((turneryref2_Dst a2.Op).bind fun x526 =>
  (if x526 then (turneryref2_in a2.Dst 0 (w64 (a1.Regs - 1))).bind fun x531 =>
  some (!x531) else some false).bind fun p528 =>
  if (if p528 then (if (!(a2.Op == 20)) then true else (a2.Dst != (-1))) else false) then
  (some 3)
  else
  ((turneryref2_val a1 a2.A).bind fun x548 =>
  (if (!x548) then some true else (turneryref2_val a1 a2.B).bind fun x559 =>
  some (!x559)).bind fun p550 =>
  if p550 then
  (some 3)
  else
  (if (!(a2.Op == 20)) then
  (some 0)
  else
  ((turneryref2_in a2.Func 0 (w64 ((a0.Funcs.length : Int) - 1))).bind fun x570 =>
  if (!x570) then
  (some 3)
  else
  ((idx a0.Funcs a2.Func).bind fun x572 =>
  if ((a2.Args.length : Int) != x572.Params) then
  (some 9)
  else
  ((turneryref2_vals a1 a2.Args).bind fun x574 =>
  if (!x574) then
  (some 3)
  else
  (some 0))))))))
abbrev RV56 : List ResultVar := [.tmp 6]
def R_turneryref2_ins (r : Int) : AV := (I r)
set_option maxHeartbeats 2000000 in
theorem T_turneryref2_ins (nn : Nat) (a0 : XApi_Unit) (a1 : XApi_Func) (a2 : XApi_Ins) (r : Int) (hF : turneryref2_ins a0 a1 a2 = some r) : den cx (nn + 4) 56 [(AV.agg (cXApi_Unit a0)), (AV.agg (cXApi_Func a1)), (AV.agg (cXApi_Ins a2))] = some (R_turneryref2_ins r, []) := by
  unfold turneryref2_ins at hF
  refine fn_of (nn := (nn + 3)) (rv := RV56) (cxE _) Tryd.func56 rfl rfl Tryd.ntmps56 (cxL _) rfl ?_
  show W cx 56 _ _ ⟨122, (upd (upd (upd (fun _ => AV.junk) 2 (AV.agg (cXApi_Ins a2))) 1 (AV.agg (cXApi_Func a1))) 0 (AV.agg (cXApi_Unit a0))), (fun _ => none)⟩ _
  refine v_seq ?_
  refine w_reg ?_
  refine rw_p (ov_boxF (cs := cXApi_Unit a0) (cs' := cXApi_Unit a0) ag25 fz56 rfl rfl rfl rfl rfl) rfl ?_
  refine rw_p (ov_boxF (cs := cXApi_Func a1) (cs' := cXApi_Func a1) ag37 fz56 rfl rfl rfl rfl rfl) rfl ?_
  refine rw_p (ov_boxF (cs := cXApi_Ins a2) (cs' := cXApi_Ins a2) ag56 fz56 rfl rfl rfl rfl rfl) rfl ?_
  refine rw_p (ov_assign (v := (I 0)) rfl) rfl ?_
  refine rw_nil ?_
  refine q_seq ?_
  refine v_seq ?_
  refine v_seq ?_
  refine w_reg ?_
  refine rw_p (ov_fieldAddr (cells' := (cXApi_Ins a2)) fd56_0 rfl rfl rfl rfl) rfl ?_
  refine rw_p (ov_load (v := (I a2.Op)) ag3 sz3 rfl rfl rfl) rfl ?_
  obtain ⟨x440, hx441, hF⟩ := bindS hF
  refine rw_p (ov_call (args := [(I a2.Op), (I 1), (I 22)]) (r := (R_turneryref2_in x440)) (v := (B x440)) rfl (cons_eq rfl (cons_eq rfl (cons_eq rfl rfl))) rfl rfl (T_turneryref2_in (nn + 2) a2.Op 1 22 x440 hx441) fz56 rfl rfl) rfl ?_
  refine rw_p (ov_not (p := x440) rfl) rfl ?_
  refine rw_nil ?_
  refine q_seq ?_
  refine w_if (p := (!x440)) hF rfl (fun hb583 hF => ?_) (fun hb583 hF => ?_)
  · refine v_seq ?_
    refine w_reg ?_
    refine rw_p (ov_assign (v := (I 4)) rfl) rfl ?_
    refine rw_nil ?_
    refine q_seq ?_
    refine w_ret ?_
    refine q_seqR ?_
    obtain rfl := Option.some.inj hF
    exact (fin_ret (res_tmp (pk_of (v := (I 4)) rfl rfl) res_nil) rfl rfl)
  · refine w_skip ?_
    refine q_seq ?_
    refine v_seq ?_
    refine w_reg ?_
    refine rw_p (ov_fieldAddr (cells' := (cXApi_Ins a2)) fd56_0 rfl rfl rfl rfl) rfl ?_
    refine rw_p (ov_load (v := (I a2.Op)) ag3 sz3 rfl rfl rfl) rfl ?_
    refine rw_p (ov_eql (k := .i64) (a := a2.Op) (b := 20) rfl rfl) rfl ?_
    refine rw_p (ov_assign (v := (B (a2.Op == 20))) rfl) rfl ?_
    refine rw_nil ?_
    refine q_seq ?_
    refine v_seq ?_
    refine v_seq ?_
    refine w_reg ?_
    refine rw_p (ov_fieldAddr (cells' := (cXApi_Ins a2)) fd56_0 rfl rfl rfl rfl) rfl ?_
    refine rw_p (ov_load (v := (I a2.Op)) ag3 sz3 rfl rfl rfl) rfl ?_
    obtain ⟨x444, hx445, hF⟩ := bindS hF
    refine rw_p (ov_call (args := [(I a2.Op)]) (r := (R_turneryref2_Dst x444)) (v := (B x444)) rfl (cons_eq rfl rfl) rfl rfl (T_turneryref2_Dst (nn + 1) a2.Op x444 hx445) fz56 rfl rfl) rfl ?_
    refine rw_p (ov_not (p := x444) rfl) rfl ?_
    refine rw_p (ov_move (v := (B (!x444))) rfl) rfl ?_
    refine rw_g rfl (ov_fieldAddr (cells' := ((cXApi_Ins a2).drop 1)) fd56_1 rfl rfl rfl rfl) rfl ?_
    refine rw_g rfl (ov_load (v := (I a2.Dst)) ag3 sz3 (un_self _) rfl rfl) rfl ?_
    refine rw_g rfl (ov_neq (k := .i64) (a := a2.Dst) (b := (-1)) (un_self _) rfl) rfl ?_
    refine rw_p (ov_pickB (p := (!x444)) (q := (a2.Dst != (-1))) (r := false) rfl (un_imp (by generalize (!x444) = u0; cases u0 <;> rfl)) rfl) rfl ?_
    refine rw_p (ov_move (v := (B (if (!x444) then (a2.Dst != (-1)) else false))) rfl) rfl ?_
    refine rw_g rfl (ov_fieldAddr (cells' := (cXApi_Ins a2)) fd56_0 rfl rfl rfl rfl) rfl ?_
    refine rw_g rfl (ov_load (v := (I a2.Op)) ag3 sz3 (un_self _) rfl rfl) rfl ?_
    obtain ⟨p446, hG447, hF⟩ := bindS hF
    refine rw_join 9 (fun t h => t 3 = (AV.vp (cXApi_Unit a0)) ∧ t 4 = (AV.vp (cXApi_Func a1)) ∧ t 5 = (AV.vp (cXApi_Ins a2)) ∧ t 7 = (B (a2.Op == 20)) ∧ t 35 = (B p446)) ?_ ?_
    · refine if_elim hG447 (fun hb448 hG447 => ?_) (fun hb448 hG447 => ?_)
      · refine rw_no ((rfl).trans (congrArg some (by simp only [hb448]; first | rfl | simp))) rfl (fun u449 k450 hk451 => ?_)
        refine rw_no ((rfl).trans (congrArg some (by simp only [hb448]; first | rfl | simp))) rfl (fun u452 k453 hk454 => ?_)
        refine rw_no ((rfl).trans (congrArg some (by simp only [hb448]; first | rfl | simp))) rfl (fun u455 k456 hk457 => ?_)
        refine rw_no (guardV_gvf _ _) rfl (fun u458 k459 hk460 => ?_)
        refine rw_no (guardV_gvf _ _) rfl (fun u461 k462 hk463 => ?_)
        refine rw_no (guardV_gvf _ _) rfl (fun u464 k465 hk466 => ?_)
        refine rw_no (guardV_gvf _ _) rfl (fun u467 k468 hk469 => ?_)
        refine rw_no ((rfl).trans (congrArg some (by simp only [hb448]; first | rfl | simp))) rfl (fun u470 k471 hk472 => ?_)
        refine rw_p (ov_pickT ((rfl : _ = _).trans (congrArg (fun b => AV.val (.bool b)) hb448)) rfl) rfl ?_
        obtain rfl := Option.some.inj hG447
        refine rw_nil ⟨⟨(k450 ++ (k453 ++ (k456 ++ (k459 ++ (k462 ++ (k465 ++ (k468 ++ k471))))))), by simp only [List.append_assoc], by simp only [readsOnly_append, hk451, hk454, hk457, hk460, hk463, hk466, hk469, hk472, Bool.and_self]⟩, _, _, rfl, rfl, rfl, rfl, rfl, rfl⟩
      · obtain ⟨x475, hx476, hG447⟩ := bindS hG447
        refine rw_gt rfl (by simp only [hb448]; rfl) (ov_call (args := [(I a2.Op)]) (r := (R_turneryref2_SpeaksA x475)) (v := (B x475)) rfl (cons_eq (un_imp (by simp only [hb448]; rfl)) rfl) rfl rfl (T_turneryref2_SpeaksA (nn + 1) a2.Op x475 hx476) fz56 rfl rfl) rfl ?_
        refine rw_gt rfl (by simp only [hb448]; rfl) (ov_not (p := x475) (un_self _)) rfl ?_
        refine rw_gt rfl (by simp only [hb448]; rfl) (ov_move (v := (B (!x475))) (un_self _)) rfl ?_
        refine rw_g rfl (ov_fieldAddr (cells' := ((cXApi_Ins a2).drop 2)) fd56_2 rfl rfl rfl rfl) rfl ?_
        refine rw_g rfl (ov_load (v := (AV.agg (cXApi_Val a2.A))) ag47 sz47 (un_self _) rfl rfl) rfl ?_
        refine rw_g rfl (ov_build (ps := []) (cs := cXApi_Val (XApi_Val.mk false 0)) zc47 pl47  rfl rfl) rfl ?_
        refine rw_g rfl (ov_bin (un_self _) (un_self _) rfl rfl (eq47_neq _ _ a2.A.Reg false a2.A.N 0) rfl) rfl ?_
        refine rw_gt rfl (by simp only [hb448]; rfl) (ov_pickB (p := (!x475)) (q := (!((a2.A.Reg == false) && ((a2.A.N == 0) && true)))) (r := false) (un_self _) (un_imp (by generalize (!x475) = u0; cases u0 <;> rfl)) rfl) rfl ?_
        refine rw_p (ov_pickF ((rfl : _ = _).trans (congrArg (fun b => AV.val (.bool b)) hb448)) rfl) rfl ?_
        obtain rfl := Option.some.inj hG447
        refine rw_nil ⟨⟨[], (List.append_nil _).symm, rfl⟩, _, _, rfl, rfl, rfl, rfl, rfl, rfl⟩
    · rintro k484 t477 h478 hk485 ⟨e479, e480, e481, e482, e483⟩
      refine rw_p (ov_move (v := (B p446)) (congrArg (un _) e483)) rfl ?_
      refine rw_g rfl (ov_fieldAddr (cells' := (cXApi_Ins a2)) fd56_0 rfl (congrArg (un _) e481) rfl rfl) rfl ?_
      refine rw_g rfl (ov_load (v := (I a2.Op)) ag3 sz3 (un_self _) rfl rfl) rfl ?_
      obtain ⟨p486, hG487, hF⟩ := bindS hF
      refine rw_join 9 (fun t h => t 3 = (AV.vp (cXApi_Unit a0)) ∧ t 4 = (AV.vp (cXApi_Func a1)) ∧ t 5 = (AV.vp (cXApi_Ins a2)) ∧ t 7 = (B (a2.Op == 20)) ∧ t 47 = (B p486)) ?_ ?_
      · refine if_elim hG487 (fun hb488 hG487 => ?_) (fun hb488 hG487 => ?_)
        · refine rw_no ((rfl).trans (congrArg some (by simp only [hb488]; first | rfl | simp))) rfl (fun u489 k490 hk491 => ?_)
          refine rw_no ((rfl).trans (congrArg some (by simp only [hb488]; first | rfl | simp))) rfl (fun u492 k493 hk494 => ?_)
          refine rw_no ((rfl).trans (congrArg some (by simp only [hb488]; first | rfl | simp))) rfl (fun u495 k496 hk497 => ?_)
          refine rw_no (guardV_gvf _ _) rfl (fun u498 k499 hk500 => ?_)
          refine rw_no (guardV_gvf _ _) rfl (fun u501 k502 hk503 => ?_)
          refine rw_no (guardV_gvf _ _) rfl (fun u504 k505 hk506 => ?_)
          refine rw_no (guardV_gvf _ _) rfl (fun u507 k508 hk509 => ?_)
          refine rw_no ((rfl).trans (congrArg some (by simp only [hb488]; first | rfl | simp))) rfl (fun u510 k511 hk512 => ?_)
          refine rw_p (ov_pickT ((rfl : _ = _).trans (congrArg (fun b => AV.val (.bool b)) hb488)) rfl) rfl ?_
          obtain rfl := Option.some.inj hG487
          refine rw_nil ⟨⟨(k490 ++ (k493 ++ (k496 ++ (k499 ++ (k502 ++ (k505 ++ (k508 ++ k511))))))), by simp only [List.append_assoc], by simp only [readsOnly_append, hk491, hk494, hk497, hk500, hk503, hk506, hk509, hk512, Bool.and_self]⟩, _, _, rfl, e479, e480, e481, e482, rfl⟩
        · obtain ⟨x515, hx516, hG487⟩ := bindS hG487
          refine rw_gt rfl (by simp only [hb488]; rfl) (ov_call (args := [(I a2.Op)]) (r := (R_turneryref2_SpeaksB x515)) (v := (B x515)) rfl (cons_eq (un_imp (by simp only [hb488]; rfl)) rfl) rfl rfl (T_turneryref2_SpeaksB (nn + 1) a2.Op x515 hx516) fz56 rfl rfl) rfl ?_
          refine rw_gt rfl (by simp only [hb488]; rfl) (ov_not (p := x515) (un_self _)) rfl ?_
          refine rw_gt rfl (by simp only [hb488]; rfl) (ov_move (v := (B (!x515))) (un_self _)) rfl ?_
          refine rw_g rfl (ov_fieldAddr (cells' := ((cXApi_Ins a2).drop 4)) fd56_3 rfl (congrArg (un _) e481) rfl rfl) rfl ?_
          refine rw_g rfl (ov_load (v := (AV.agg (cXApi_Val a2.B))) ag47 sz47 (un_self _) rfl rfl) rfl ?_
          refine rw_g rfl (ov_build (ps := []) (cs := cXApi_Val (XApi_Val.mk false 0)) zc47 pl47  rfl rfl) rfl ?_
          refine rw_g rfl (ov_bin (un_self _) (un_self _) rfl rfl (eq47_neq _ _ a2.B.Reg false a2.B.N 0) rfl) rfl ?_
          refine rw_gt rfl (by simp only [hb488]; rfl) (ov_pickB (p := (!x515)) (q := (!((a2.B.Reg == false) && ((a2.B.N == 0) && true)))) (r := false) (un_self _) (un_imp (by generalize (!x515) = u0; cases u0 <;> rfl)) rfl) rfl ?_
          refine rw_p (ov_pickF ((rfl : _ = _).trans (congrArg (fun b => AV.val (.bool b)) hb488)) rfl) rfl ?_
          obtain rfl := Option.some.inj hG487
          refine rw_nil ⟨⟨[], (List.append_nil _).symm, rfl⟩, _, _, rfl, e479, e480, e481, e482, rfl⟩
      · rintro k524 t517 h518 hk525 ⟨e519, e520, e521, e522, e523⟩
        refine rw_p (ov_move (v := (B p486)) (congrArg (un _) e523)) rfl ?_
        refine rw_g rfl (ov_move (v := (B (a2.Op == 20))) (congrArg (un _) e522)) rfl ?_
        refine rw_g rfl (ov_not (p := (a2.Op == 20)) (un_self _)) rfl ?_
        refine rw_g rfl (ov_move (v := (B (!(a2.Op == 20)))) (un_self _)) rfl ?_
        refine rw_g rfl (ov_fieldAddr (cells' := ((cXApi_Ins a2).drop 6)) fd56_4 rfl (congrArg (un _) e521) rfl rfl) rfl ?_
        refine rw_g rfl (ov_load (v := (I a2.Func)) ag3 sz3 (un_self _) rfl rfl) rfl ?_
        refine rw_g rfl (ov_neq (k := .i64) (a := a2.Func) (b := 0) (un_self _) rfl) rfl ?_
        refine rw_g rfl (ov_move (v := (B (a2.Func != 0))) (un_self _)) rfl ?_
        refine rw_g rfl (ov_fieldAddr (cells' := ((cXApi_Ins a2).drop 7)) fd56_5 rfl (congrArg (un _) e521) rfl rfl) rfl ?_
        refine rw_g rfl (ov_load (v := (AV.sl ((a2.Args).map cXApi_Val))) ag54 sz54 (un_self _) rfl rfl) rfl ?_
        refine rw_g rfl (ov_lenSl (m := a2.Args.length) Tryd.underlying54 rfl rfl (un_self _) (List.length_map _)) rfl ?_
        refine rw_g rfl (ov_gtr (k := .i64) (a := (a2.Args.length : Int)) (b := 0) (un_self _) rfl) rfl ?_
        refine rw_g rfl (ov_pickB (p := (a2.Func != 0)) (q := true) (r := (decide (0 < (a2.Args.length : Int)))) (un_self _) rfl (un_imp (by generalize (!(a2.Op == 20)) = u0; generalize (a2.Func != 0) = u1; generalize p486 = u2; cases u0 <;> cases u1 <;> cases u2 <;> rfl))) rfl ?_
        refine rw_g rfl (ov_pickB (p := (!(a2.Op == 20))) (q := (if (a2.Func != 0) then true else (decide (0 < (a2.Args.length : Int))))) (r := false) (un_self _) (un_imp (by generalize (!(a2.Op == 20)) = u0; generalize p486 = u1; cases u0 <;> cases u1 <;> rfl)) rfl) rfl ?_
        refine rw_p (ov_pickB (p := p486) (q := true) (r := (if (!(a2.Op == 20)) then (if (a2.Func != 0) then true else (decide (0 < (a2.Args.length : Int)))) else false)) rfl rfl (un_imp (by generalize p486 = u0; cases u0 <;> rfl))) rfl ?_
        refine rw_nil ?_
        refine q_seq ?_
        refine w_if (p := (if p486 then true else (if (!(a2.Op == 20)) then (if (a2.Func != 0) then true else (decide (0 < (a2.Args.length : Int)))) else false))) hF rfl (fun hb582 hF => ?_) (fun hb582 hF => ?_)
        · refine v_seq ?_
          refine w_reg ?_
          refine rw_p (ov_assign (v := (I 5)) rfl) rfl ?_
          refine rw_nil ?_
          refine q_seq ?_
          refine w_ret ?_
          refine q_seqR ?_
          obtain rfl := Option.some.inj hF
          exact (fin_ret (res_tmp (pk_of (v := (I 5)) rfl rfl) res_nil) rfl rfl)
        · refine w_skip ?_
          refine q_seq ?_
          refine v_seq ?_
          refine v_seq ?_
          refine w_reg ?_
          refine rw_p (ov_fieldAddr (cells' := (cXApi_Ins a2)) fd56_0 rfl (congrArg (un _) e521) rfl rfl) rfl ?_
          refine rw_p (ov_load (v := (I a2.Op)) ag3 sz3 rfl rfl rfl) rfl ?_
          obtain ⟨x526, hx527, hF⟩ := bindS hF
          refine rw_p (ov_call (args := [(I a2.Op)]) (r := (R_turneryref2_Dst x526)) (v := (B x526)) rfl (cons_eq rfl rfl) rfl rfl (T_turneryref2_Dst (nn + 1) a2.Op x526 hx527) fz56 rfl rfl) rfl ?_
          refine rw_p (ov_move (v := (B x526)) rfl) rfl ?_
          refine rw_g rfl (ov_fieldAddr (cells' := ((cXApi_Ins a2).drop 1)) fd56_1 rfl (congrArg (un _) e521) rfl rfl) rfl ?_
          refine rw_g rfl (ov_load (v := (I a2.Dst)) ag3 sz3 (un_self _) rfl rfl) rfl ?_
          refine rw_g rfl (ov_fieldAddr (cells' := ((cXApi_Func a1).drop 2)) fd37_2 rfl (congrArg (un _) e520) rfl rfl) rfl ?_
          refine rw_g rfl (ov_load (v := (I a1.Regs)) ag3 sz3 (un_self _) rfl rfl) rfl ?_
          refine rw_g rfl (ov_sub (k := .i64) (a := a1.Regs) (b := 1) (un_self _) rfl) rfl ?_
          obtain ⟨p528, hG529, hF⟩ := bindS hF
          refine rw_join 3 (fun t h => t 3 = (AV.vp (cXApi_Unit a0)) ∧ t 4 = (AV.vp (cXApi_Func a1)) ∧ t 5 = (AV.vp (cXApi_Ins a2)) ∧ t 7 = (B (a2.Op == 20)) ∧ t 74 = (B p528)) ?_ ?_
          · refine if_elim hG529 (fun hb530 hG529 => ?_) (fun hb530 hG529 => ?_)
            · obtain ⟨x531, hx532, hG529⟩ := bindS hG529
              refine rw_gt rfl (by simp only [hb530]; rfl) (ov_call (args := [(I a2.Dst), (I 0), (I (w64 (a1.Regs - 1)))]) (r := (R_turneryref2_in x531)) (v := (B x531)) rfl (cons_eq (un_imp (by simp only [hb530]; rfl)) (cons_eq rfl (cons_eq (un_imp (by simp only [hb530]; rfl)) rfl))) rfl rfl (T_turneryref2_in (nn + 2) a2.Dst 0 (w64 (a1.Regs - 1)) x531 hx532) fz56 rfl rfl) rfl ?_
              refine rw_gt rfl (by simp only [hb530]; rfl) (ov_not (p := x531) (un_self _)) rfl ?_
              refine rw_p (ov_pickT ((rfl : _ = _).trans (congrArg (fun b => AV.val (.bool b)) hb530)) rfl) rfl ?_
              obtain rfl := Option.some.inj hG529
              refine rw_nil ⟨⟨[], (List.append_nil _).symm, rfl⟩, _, _, rfl, e519, e520, e521, e522, rfl⟩
            · refine rw_no ((rfl).trans (congrArg some (by simp only [hb530]; first | rfl | simp))) rfl (fun u533 k534 hk535 => ?_)
              refine rw_no ((rfl).trans (congrArg some (by simp only [hb530]; first | rfl | simp))) rfl (fun u536 k537 hk538 => ?_)
              refine rw_p (ov_pickF ((rfl : _ = _).trans (congrArg (fun b => AV.val (.bool b)) hb530)) rfl) rfl ?_
              obtain rfl := Option.some.inj hG529
              refine rw_nil ⟨⟨(k534 ++ k537), by simp only [List.append_assoc], by simp only [readsOnly_append, hk535, hk538, Bool.and_self]⟩, _, _, rfl, e519, e520, e521, e522, rfl⟩
          · rintro k546 t539 h540 hk547 ⟨e541, e542, e543, e544, e545⟩
            refine rw_p (ov_move (v := (B p528)) (congrArg (un _) e545)) rfl ?_
            refine rw_g rfl (ov_move (v := (B (a2.Op == 20))) (congrArg (un _) e544)) rfl ?_
            refine rw_g rfl (ov_not (p := (a2.Op == 20)) (un_self _)) rfl ?_
            refine rw_g rfl (ov_move (v := (B (!(a2.Op == 20)))) (un_self _)) rfl ?_
            refine rw_g rfl (ov_fieldAddr (cells' := ((cXApi_Ins a2).drop 1)) fd56_1 rfl (congrArg (un _) e543) rfl rfl) rfl ?_
            refine rw_g rfl (ov_load (v := (I a2.Dst)) ag3 sz3 (un_self _) rfl rfl) rfl ?_
            refine rw_g rfl (ov_neq (k := .i64) (a := a2.Dst) (b := (-1)) (un_self _) rfl) rfl ?_
            refine rw_g rfl (ov_pickB (p := (!(a2.Op == 20))) (q := true) (r := (a2.Dst != (-1))) (un_self _) rfl (un_imp (by generalize (!(a2.Op == 20)) = u0; generalize p528 = u1; cases u0 <;> cases u1 <;> rfl))) rfl ?_
            refine rw_p (ov_pickB (p := p528) (q := (if (!(a2.Op == 20)) then true else (a2.Dst != (-1)))) (r := false) rfl (un_imp (by generalize p528 = u0; cases u0 <;> rfl)) rfl) rfl ?_
            refine rw_nil ?_
            refine q_seq ?_
            refine w_if (p := (if p528 then (if (!(a2.Op == 20)) then true else (a2.Dst != (-1))) else false)) hF rfl (fun hb581 hF => ?_) (fun hb581 hF => ?_)
            · refine v_seq ?_
              refine w_reg ?_
              refine rw_p (ov_assign (v := (I 3)) rfl) rfl ?_
              refine rw_nil ?_
              refine q_seq ?_
              refine w_ret ?_
              refine q_seqR ?_
              obtain rfl := Option.some.inj hF
              exact (fin_ret (res_tmp (pk_of (v := (I 3)) rfl rfl) res_nil) rfl rfl)
            · refine w_skip ?_
              refine q_seq ?_
              refine v_seq ?_
              refine v_seq ?_
              refine w_reg ?_
              refine rw_p (ov_load (v := (AV.agg (cXApi_Func a1))) ag37 sz37 (congrArg (un _) e542) rfl rfl) rfl ?_
              refine rw_p (ov_fieldAddr (cells' := ((cXApi_Ins a2).drop 2)) fd56_2 rfl (congrArg (un _) e543) rfl rfl) rfl ?_
              refine rw_p (ov_load (v := (AV.agg (cXApi_Val a2.A))) ag47 sz47 rfl rfl rfl) rfl ?_
              obtain ⟨x548, hx549, hF⟩ := bindS hF
              refine rw_p (ov_call (args := [(AV.agg (cXApi_Func a1)), (AV.agg (cXApi_Val a2.A))]) (r := (R_turneryref2_val x548)) (v := (B x548)) rfl (cons_eq rfl (cons_eq rfl rfl)) rfl rfl (T_turneryref2_val (nn + 1) a1 a2.A x548 hx549) fz56 rfl rfl) rfl ?_
              refine rw_p (ov_not (p := x548) rfl) rfl ?_
              refine rw_p (ov_move (v := (B (!x548))) rfl) rfl ?_
              refine rw_g rfl (ov_load (v := (AV.agg (cXApi_Func a1))) ag37 sz37 (congrArg (un _) e542) rfl rfl) rfl ?_
              refine rw_g rfl (ov_fieldAddr (cells' := ((cXApi_Ins a2).drop 4)) fd56_3 rfl (congrArg (un _) e543) rfl rfl) rfl ?_
              refine rw_g rfl (ov_load (v := (AV.agg (cXApi_Val a2.B))) ag47 sz47 (un_self _) rfl rfl) rfl ?_
              obtain ⟨p550, hG551, hF⟩ := bindS hF
              refine rw_join 3 (fun t h => t 3 = (AV.vp (cXApi_Unit a0)) ∧ t 4 = (AV.vp (cXApi_Func a1)) ∧ t 5 = (AV.vp (cXApi_Ins a2)) ∧ t 7 = (B (a2.Op == 20)) ∧ t 95 = (B p550)) ?_ ?_
              · refine if_elim hG551 (fun hb552 hG551 => ?_) (fun hb552 hG551 => ?_)
                · refine rw_no ((rfl).trans (congrArg some (by simp only [hb552]; first | rfl | simp))) rfl (fun u553 k554 hk555 => ?_)
                  refine rw_no ((rfl).trans (congrArg some (by simp only [hb552]; first | rfl | simp))) rfl (fun u556 k557 hk558 => ?_)
                  refine rw_p (ov_pickT ((rfl : _ = _).trans (congrArg (fun b => AV.val (.bool b)) hb552)) rfl) rfl ?_
                  obtain rfl := Option.some.inj hG551
                  refine rw_nil ⟨⟨(k554 ++ k557), by simp only [List.append_assoc], by simp only [readsOnly_append, hk555, hk558, Bool.and_self]⟩, _, _, rfl, e541, e542, e543, e544, rfl⟩
                · obtain ⟨x559, hx560, hG551⟩ := bindS hG551
                  refine rw_gt rfl (by simp only [hb552]; rfl) (ov_call (args := [(AV.agg (cXApi_Func a1)), (AV.agg (cXApi_Val a2.B))]) (r := (R_turneryref2_val x559)) (v := (B x559)) rfl (cons_eq (un_imp (by simp only [hb552]; rfl)) (cons_eq (un_imp (by simp only [hb552]; rfl)) rfl)) rfl rfl (T_turneryref2_val (nn + 1) a1 a2.B x559 hx560) fz56 rfl rfl) rfl ?_
                  refine rw_gt rfl (by simp only [hb552]; rfl) (ov_not (p := x559) (un_self _)) rfl ?_
                  refine rw_p (ov_pickF ((rfl : _ = _).trans (congrArg (fun b => AV.val (.bool b)) hb552)) rfl) rfl ?_
                  obtain rfl := Option.some.inj hG551
                  refine rw_nil ⟨⟨[], (List.append_nil _).symm, rfl⟩, _, _, rfl, e541, e542, e543, e544, rfl⟩
              · rintro k568 t561 h562 hk569 ⟨e563, e564, e565, e566, e567⟩
                refine rw_nil ?_
                refine q_seq ?_
                refine w_if (p := p550) hF (congrArg (un _) e567) (fun hb580 hF => ?_) (fun hb580 hF => ?_)
                · refine v_seq ?_
                  refine w_reg ?_
                  refine rw_p (ov_assign (v := (I 3)) rfl) rfl ?_
                  refine rw_nil ?_
                  refine q_seq ?_
                  refine w_ret ?_
                  refine q_seqR ?_
                  obtain rfl := Option.some.inj hF
                  exact (fin_ret (res_tmp (pk_of (v := (I 3)) rfl rfl) res_nil) rfl rfl)
                · refine w_skip ?_
                  refine q_seq ?_
                  refine v_seq ?_
                  refine v_seq ?_
                  refine w_reg ?_
                  refine rw_p (ov_move (v := (B (a2.Op == 20))) (congrArg (un _) e566)) rfl ?_
                  refine rw_p (ov_not (p := (a2.Op == 20)) rfl) rfl ?_
                  refine rw_nil ?_
                  refine q_seq ?_
                  refine w_if (p := (!(a2.Op == 20))) hF rfl (fun hb579 hF => ?_) (fun hb579 hF => ?_)
                  · refine v_seq ?_
                    refine w_reg ?_
                    refine rw_p (ov_assign (v := (I 0)) rfl) rfl ?_
                    refine rw_nil ?_
                    refine q_seq ?_
                    refine w_ret ?_
                    refine q_seqR ?_
                    obtain rfl := Option.some.inj hF
                    exact (fin_ret (res_tmp (pk_of (v := (I 0)) rfl rfl) res_nil) rfl rfl)
                  · refine w_skip ?_
                    refine q_seq ?_
                    refine v_seq ?_
                    refine v_seq ?_
                    refine w_reg ?_
                    refine rw_p (ov_fieldAddr (cells' := ((cXApi_Ins a2).drop 6)) fd56_4 rfl (congrArg (un _) e565) rfl rfl) rfl ?_
                    refine rw_p (ov_load (v := (I a2.Func)) ag3 sz3 rfl rfl rfl) rfl ?_
                    refine rw_p (ov_fieldAddr (cells' := ((cXApi_Unit a0).drop 1)) fd25_1 rfl (congrArg (un _) e563) rfl rfl) rfl ?_
                    refine rw_p (ov_load (v := (AV.sl ((a0.Funcs).map cXApi_Func))) ag23 sz23 rfl rfl rfl) rfl ?_
                    refine rw_p (ov_lenSl (m := a0.Funcs.length) Tryd.underlying23 rfl rfl rfl (List.length_map _)) rfl ?_
                    refine rw_p (ov_sub (k := .i64) (a := (a0.Funcs.length : Int)) (b := 1) rfl rfl) rfl ?_
                    obtain ⟨x570, hx571, hF⟩ := bindS hF
                    refine rw_p (ov_call (args := [(I a2.Func), (I 0), (I (w64 ((a0.Funcs.length : Int) - 1)))]) (r := (R_turneryref2_in x570)) (v := (B x570)) rfl (cons_eq rfl (cons_eq rfl (cons_eq rfl rfl))) rfl rfl (T_turneryref2_in (nn + 2) a2.Func 0 (w64 ((a0.Funcs.length : Int) - 1)) x570 hx571) fz56 rfl rfl) rfl ?_
                    refine rw_p (ov_not (p := x570) rfl) rfl ?_
                    refine rw_nil ?_
                    refine q_seq ?_
                    refine w_if (p := (!x570)) hF rfl (fun hb578 hF => ?_) (fun hb578 hF => ?_)
                    · refine v_seq ?_
                      refine w_reg ?_
                      refine rw_p (ov_assign (v := (I 3)) rfl) rfl ?_
                      refine rw_nil ?_
                      refine q_seq ?_
                      refine w_ret ?_
                      refine q_seqR ?_
                      obtain rfl := Option.some.inj hF
                      exact (fin_ret (res_tmp (pk_of (v := (I 3)) rfl rfl) res_nil) rfl rfl)
                    · refine w_skip ?_
                      refine q_seq ?_
                      refine v_seq ?_
                      refine v_seq ?_
                      refine w_regD ?_
                      refine rw_p (ov_fieldAddr (cells' := ((cXApi_Ins a2).drop 7)) fd56_5 rfl (congrArg (un _) e565) rfl rfl) rfl ?_
                      refine rw_p (ov_load (v := (AV.sl ((a2.Args).map cXApi_Val))) ag54 sz54 rfl rfl rfl) rfl ?_
                      refine rw_p (ov_lenSl (m := a2.Args.length) Tryd.underlying54 rfl rfl rfl (List.length_map _)) rfl ?_
                      refine rw_p (ov_fieldAddr (cells' := ((cXApi_Unit a0).drop 1)) fd25_1 rfl (congrArg (un _) e563) rfl rfl) rfl ?_
                      refine rw_p (ov_load (v := (AV.sl ((a0.Funcs).map cXApi_Func))) ag23 sz23 rfl rfl rfl) rfl ?_
                      refine rw_p (ov_fieldAddr (cells' := ((cXApi_Ins a2).drop 6)) fd56_4 rfl (congrArg (un _) e565) rfl rfl) rfl ?_
                      refine rw_p (ov_load (v := (I a2.Func)) ag3 sz3 rfl rfl rfl) rfl ?_
                      obtain ⟨x572, hx573, hF⟩ := bindS hF
                      refine rw_p (ov_indexAddr (k := .i64) (c := cXApi_Func) (q := a0.Funcs) (i := a2.Func) Tryd.underlying23 sz37 rfl rfl rfl hx573 rfl) rfl ?_
                      refine rw_p (ov_fieldAddr (cells' := ((cXApi_Func x572).drop 1)) fd37_1 rfl rfl rfl rfl) rfl ?_
                      refine rw_p (ov_load (v := (I x572.Params)) ag3 sz3 rfl rfl rfl) rfl ?_
                      refine rw_p (ov_neq (k := .i64) (a := (a2.Args.length : Int)) (b := x572.Params) rfl rfl) rfl ?_
                      refine rw_nil ⟨rfl, ?_⟩
                      refine q_seq ?_
                      refine w_if (p := ((a2.Args.length : Int) != x572.Params)) hF rfl (fun hb577 hF => ?_) (fun hb577 hF => ?_)
                      · refine v_seq ?_
                        refine w_reg ?_
                        refine rw_p (ov_assign (v := (I 9)) rfl) rfl ?_
                        refine rw_nil ?_
                        refine q_seq ?_
                        refine w_ret ?_
                        refine q_seqR ?_
                        obtain rfl := Option.some.inj hF
                        exact (fin_ret (res_tmp (pk_of (v := (I 9)) rfl rfl) res_nil) rfl rfl)
                      · refine w_skip ?_
                        refine q_seq ?_
                        refine v_seq ?_
                        refine v_seq ?_
                        refine w_reg ?_
                        refine rw_p (ov_load (v := (AV.agg (cXApi_Func a1))) ag37 sz37 (congrArg (un _) e564) rfl rfl) rfl ?_
                        refine rw_p (ov_fieldAddr (cells' := ((cXApi_Ins a2).drop 7)) fd56_5 rfl (congrArg (un _) e565) rfl rfl) rfl ?_
                        refine rw_p (ov_load (v := (AV.sl ((a2.Args).map cXApi_Val))) ag54 sz54 rfl rfl rfl) rfl ?_
                        obtain ⟨x574, hx575, hF⟩ := bindS hF
                        refine rw_p (ov_call (args := [(AV.agg (cXApi_Func a1)), (AV.sl ((a2.Args).map cXApi_Val))]) (r := (R_turneryref2_vals x574)) (v := (B x574)) rfl (cons_eq rfl (cons_eq rfl rfl)) rfl rfl (T_turneryref2_vals nn a1 a2.Args x574 hx575) fz56 rfl rfl) rfl ?_
                        refine rw_p (ov_not (p := x574) rfl) rfl ?_
                        refine rw_nil ?_
                        refine q_seq ?_
                        refine w_if (p := (!x574)) hF rfl (fun hb576 hF => ?_) (fun hb576 hF => ?_)
                        · refine v_seq ?_
                          refine w_reg ?_
                          refine rw_p (ov_assign (v := (I 3)) rfl) rfl ?_
                          refine rw_nil ?_
                          refine q_seq ?_
                          refine w_ret ?_
                          refine q_seqR ?_
                          obtain rfl := Option.some.inj hF
                          exact (fin_ret (res_tmp (pk_of (v := (I 3)) rfl rfl) res_nil) rfl rfl)
                        · refine w_skip ?_
                          refine q_seq ?_
                          refine v_seq ?_
                          refine w_reg ?_
                          refine rw_p (ov_assign (v := (I 0)) rfl) rfl ?_
                          refine rw_nil ?_
                          refine q_seq ?_
                          refine w_ret ?_
                          obtain rfl := Option.some.inj hF
                          exact (fin_ret (res_tmp (pk_of (v := (I 0)) rfl rfl) res_nil) rfl rfl)

/-! turnery/turneryref2.body -/
noncomputable def turneryref2_body_L1 (a1 : XApi_Func) (y257 : Int) : Option (Lp Int (Br Unit Int)) :=
  if (decide (y257 < (a1.Blocks.length : Int))) then
  ((idx a1.Blocks y257).bind fun x259 =>
  (turneryref2_end a1 x259.End).bind fun x335 =>
  if (x335 != 0) then
  (some (.out (.ret x335)))
  else
  (some (.next (w64 (y257 + 1)))))
  else
  (some (.out (.brk ())))
noncomputable def turneryref2_body_L3 (a1 : XApi_Func) (y346 : Int) (x348 : XApi_Block) (y350 : Int) : Option (Lp Int (Br Unit Int)) :=
  if (decide (y350 < (x348.Phis.length : Int))) then
  ((idx x348.Phis y350).bind fun x352 =>
  (turneryref2_phi a1 y346 x352).bind fun x423 =>
  if (x423 != 0) then
  (some (.out (.ret x423)))
  else
  (some (.next (w64 (y350 + 1)))))
  else
  (some (.out (.brk ())))
noncomputable def turneryref2_body_L4 (a0 : XApi_Unit) (a1 : XApi_Func) (x348 : XApi_Block) (y436 : Int) : Option (Lp Int (Br Unit Int)) :=
  if (decide (y436 < (x348.List.length : Int))) then
  ((idx x348.List y436).bind fun x438 =>
  (turneryref2_ins a0 a1 x438).bind fun x584 =>
  if (x584 != 0) then
  (some (.out (.ret x584)))
  else
  (some (.next (w64 (y436 + 1)))))
  else
  (some (.out (.brk ())))
noncomputable def turneryref2_body_L2 (a0 : XApi_Unit) (a1 : XApi_Func) (y346 : Int) : Option (Lp Int (Br Unit Int)) :=
  if (decide (y346 < (a1.Blocks.length : Int))) then
  ((idx a1.Blocks y346).bind fun x348 =>
  (Loop (fun (s : Int) => turneryref2_body_L3 a1 y346 x348 s) 0).bind fun o427 => match o427 with
  | .ret r601 => some (.out (.ret r601))
  | .brk b429 =>
  (Loop (fun (s : Int) => turneryref2_body_L4 a0 a1 x348 s) 0).bind fun o588 => match o588 with
  | .ret r598 => some (.out (.ret r598))
  | .brk b590 =>
  some (.next (w64 (y346 + 1))))
  else
  (some (.out (.brk ())))
noncomputable def turneryref2_body (a0 : XApi_Unit) (a1 : XApi_Func) : Option Int :=
  (Loop (fun (s : Int) => turneryref2_body_L1 a1 s) 0).bind fun o339 => match o339 with
  | .ret r613 => some r613
  | .brk b341 =>
  (Loop (fun (s : Int) => turneryref2_body_L2 a0 a1 s) 0).bind fun o603 => match o603 with
  | .ret r610 => some r610
  | .brk b605 =>
  some 0
abbrev RV31 : List ResultVar := [.tmp 4]
def R_turneryref2_body (r : Int) : AV := (I r)
set_option maxHeartbeats 2000000 in
theorem T_turneryref2_body (nn : Nat) (a0 : XApi_Unit) (a1 : XApi_Func) (r : Int) (hF : turneryref2_body a0 a1 = some r) : den cx (nn + 5) 31 [(AV.agg (cXApi_Unit a0)), (AV.agg (cXApi_Func a1))] = some (R_turneryref2_body r, []) := by
  unfold turneryref2_body at hF
  refine fn_of (nn := (nn + 4)) (rv := RV31) (cxE _) Tryd.func31 rfl rfl Tryd.ntmps31 (cxL _) rfl ?_
  show W cx 31 _ _ ⟨79, (upd (upd (fun _ => AV.junk) 1 (AV.agg (cXApi_Func a1))) 0 (AV.agg (cXApi_Unit a0))), (fun _ => none)⟩ _
  refine v_seq ?_
  refine w_reg ?_
  refine rw_p (ov_boxF (cs := cXApi_Unit a0) (cs' := cXApi_Unit a0) ag25 fz31 rfl rfl rfl rfl rfl) rfl ?_
  refine rw_p (ov_boxF (cs := cXApi_Func a1) (cs' := cXApi_Func a1) ag37 fz31 rfl rfl rfl rfl rfl) rfl ?_
  refine rw_p (ov_assign (v := (I 0)) rfl) rfl ?_
  refine rw_nil ?_
  refine q_seq ?_
  refine v_seq ?_
  refine v_seq ?_
  refine w_reg ?_
  refine rw_p (ov_assign (v := (I 0)) rfl) rfl ?_
  refine rw_nil ?_
  refine q_seq ?_
  refine v_block ?_
  obtain ⟨o339, hL340, hF⟩ := bindS hF
  refine v_loop (fun (s : Int) => [(AV.vp (cXApi_Unit a0)), (AV.vp (cXApi_Func a1)), (I s)]) (RelO (fun (s : Unit) x => ∃ t h, x = (Exit.exit 0, ⟨79, t, h⟩) ∧ t 2 = (AV.vp (cXApi_Unit a0)) ∧ t 3 = (AV.vp (cXApi_Func a1))) (fun r x => x.1 = Exit.ret ∧ Fin cx RV31 (R_turneryref2_body r) x)) hL340 lv31_2 (renorm_of (packL_mk (pk_of (v := (AV.vp (cXApi_Unit a0))) rfl rfl) (packL_mk (pk_of (v := (AV.vp (cXApi_Func a1))) rfl rfl) (packL_mk (pk_of (v := (I 0)) rfl rfl) packL_0))) rfl) ?_ ?_
  · rintro y257 z258 hF
    replace hF : turneryref2_body_L1 a1 y257 = some z258 := hF
    unfold turneryref2_body_L1 at hF
    show W cx 31 _ _ ⟨79, (upd (upd (upd (fun _ => AV.junk) 5 (I y257)) 3 (AV.vp (cXApi_Func a1))) 2 (AV.vp (cXApi_Unit a0))), (fun _ => none)⟩ _
    refine v_seq ?_
    refine v_seq ?_
    refine w_reg ?_
    refine rw_p (ov_move (v := (I y257)) rfl) rfl ?_
    refine rw_p (ov_fieldAddr (cells' := ((cXApi_Func a1).drop 3)) fd37_3 rfl rfl rfl rfl) rfl ?_
    refine rw_p (ov_load (v := (AV.sl ((a1.Blocks).map cXApi_Block))) ag35 sz35 rfl rfl rfl) rfl ?_
    refine rw_p (ov_lenSl (m := a1.Blocks.length) Tryd.underlying35 rfl rfl rfl (List.length_map _)) rfl ?_
    refine rw_p (ov_lss (k := .i64) (a := y257) (b := (a1.Blocks.length : Int)) rfl rfl) rfl ?_
    refine rw_nil ?_
    refine q_seq ?_
    refine w_if (p := (decide (y257 < (a1.Blocks.length : Int)))) hF rfl (fun hb338 hF => ?_) (fun hb338 hF => ?_)
    · refine w_skip ?_
      refine q_seq ?_
      refine v_seq ?_
      refine v_block ?_
      refine v_seq ?_
      refine w_regD ?_
      refine rw_p (ov_load (v := (AV.agg (cXApi_Func a1))) ag37 sz37 rfl rfl rfl) rfl ?_
      refine rw_p (ov_fieldAddr (cells' := ((cXApi_Func a1).drop 3)) fd37_3 rfl rfl rfl rfl) rfl ?_
      refine rw_p (ov_load (v := (AV.sl ((a1.Blocks).map cXApi_Block))) ag35 sz35 rfl rfl rfl) rfl ?_
      refine rw_p (ov_move (v := (I y257)) rfl) rfl ?_
      obtain ⟨x259, hx260, hF⟩ := bindS hF
      refine rw_p (ov_indexAddr (k := .i64) (c := cXApi_Block) (q := a1.Blocks) (i := y257) Tryd.underlying35 sz53 rfl rfl rfl hx260 rfl) rfl ?_
      refine rw_p (ov_fieldAddr (cells' := ((cXApi_Block x259).drop 2)) fd53_2 rfl rfl rfl rfl) rfl ?_
      refine rw_p (ov_load (v := (AV.agg (cXApi_End x259.End))) ag49 sz49 rfl rfl rfl) rfl ?_
      obtain ⟨x335, hx336, hF⟩ := bindS hF
      refine rw_p (ov_call (args := [(AV.agg (cXApi_Func a1)), (AV.agg (cXApi_End x259.End))]) (r := (R_turneryref2_end x335)) (v := (I x335)) rfl (cons_eq rfl (cons_eq rfl rfl)) rfl rfl (T_turneryref2_end (nn + 1) a1 x259.End x335 hx336) fz31 rfl rfl) rfl ?_
      refine rw_p (ov_assign (v := (I x335)) rfl) rfl ?_
      refine rw_nil ⟨rfl, ?_⟩
      refine q_seq ?_
      refine v_seq ?_
      refine w_reg ?_
      refine rw_p (ov_move (v := (I x335)) rfl) rfl ?_
      refine rw_p (ov_neq (k := .i64) (a := x335) (b := 0) rfl rfl) rfl ?_
      refine rw_nil ?_
      refine q_seq ?_
      refine w_if (p := (x335 != 0)) hF rfl (fun hb337 hF => ?_) (fun hb337 hF => ?_)
      · refine v_seq ?_
        refine w_reg ?_
        refine rw_p (ov_move (v := (I x335)) rfl) rfl ?_
        refine rw_p (ov_assign (v := (I x335)) rfl) rfl ?_
        refine rw_nil ?_
        refine q_seq ?_
        refine w_ret ?_
        refine q_blkR ?_
        refine q_seqR ?_
        obtain rfl := Option.some.inj hF
        exact q_outR (relR ⟨rfl, (fin_ret (res_tmp (pk_of (v := (I x335)) rfl rfl) res_nil) rfl rfl)⟩)
      · refine w_skip ?_
        refine q_blk ?_
        refine q_seq ?_
        refine w_reg ?_
        refine rw_p (ov_move (v := (I y257)) rfl) rfl ?_
        refine rw_p (ov_add (k := .i64) (a := y257) (b := 1) rfl rfl) rfl ?_
        refine rw_p (ov_assign (v := (I (w64 (y257 + 1)))) rfl) rfl ?_
        refine rw_nil ?_
        obtain rfl := Option.some.inj hF
        exact q_next (renorm_of (packL_mk (pk_of (v := (AV.vp (cXApi_Unit a0))) rfl rfl) (packL_mk (pk_of (v := (AV.vp (cXApi_Func a1))) rfl rfl) (packL_mk (pk_of (v := (I (w64 (y257 + 1)))) rfl rfl) packL_0))) rfl)
    · refine w_exit ?_
      refine q_seqE ?_
      obtain rfl := Option.some.inj hF
      refine q_out (relB ?_)
      exact ⟨_, _, rfl, rfl, rfl⟩
  · rintro x611 hr612
    cases o339 with
    | ret r613 =>
      replace hF : some r613 = some r := hF
      obtain rfl := Option.some.inj hF
      obtain ⟨xe, xs⟩ := x611
      obtain ⟨hxe, hfin⟩ := hr612
      obtain rfl : xe = Exit.ret := hxe
      refine q_blkR ?_
      refine q_seqR ?_
      exact hfin
    | brk b341 =>
      obtain ⟨t342, h343, rfl, e344, e345⟩ := hr612
      refine q_blkH ?_
      refine q_seq ?_
      refine v_seq ?_
      refine v_seq ?_
      refine w_reg ?_
      refine rw_p (ov_assign (v := (I 0)) rfl) rfl ?_
      refine rw_nil ?_
      refine q_seq ?_
      refine v_block ?_
      obtain ⟨o603, hL604, hF⟩ := bindS hF
      refine v_loop (fun (s : Int) => [(AV.vp (cXApi_Unit a0)), (AV.vp (cXApi_Func a1)), (I s)]) (RelO (fun (s : Unit) x => ∃ t h, x = (Exit.exit 2, ⟨79, t, h⟩) ∧ True) (fun r x => x.1 = Exit.ret ∧ Fin cx RV31 (R_turneryref2_body r) x)) hL604 lv31_8 (renorm_of (packL_mk (pk_of (v := (AV.vp (cXApi_Unit a0))) e344 rfl) (packL_mk (pk_of (v := (AV.vp (cXApi_Func a1))) e345 rfl) (packL_mk (pk_of (v := (I 0)) rfl rfl) packL_0))) rfl) ?_ ?_
      · rintro y346 z347 hF
        replace hF : turneryref2_body_L2 a0 a1 y346 = some z347 := hF
        unfold turneryref2_body_L2 at hF
        show W cx 31 _ _ ⟨79, (upd (upd (upd (fun _ => AV.junk) 7 (I y346)) 3 (AV.vp (cXApi_Func a1))) 2 (AV.vp (cXApi_Unit a0))), (fun _ => none)⟩ _
        refine v_seq ?_
        refine v_seq ?_
        refine w_reg ?_
        refine rw_p (ov_move (v := (I y346)) rfl) rfl ?_
        refine rw_p (ov_fieldAddr (cells' := ((cXApi_Func a1).drop 3)) fd37_3 rfl rfl rfl rfl) rfl ?_
        refine rw_p (ov_load (v := (AV.sl ((a1.Blocks).map cXApi_Block))) ag35 sz35 rfl rfl rfl) rfl ?_
        refine rw_p (ov_lenSl (m := a1.Blocks.length) Tryd.underlying35 rfl rfl rfl (List.length_map _)) rfl ?_
        refine rw_p (ov_lss (k := .i64) (a := y346) (b := (a1.Blocks.length : Int)) rfl rfl) rfl ?_
        refine rw_nil ?_
        refine q_seq ?_
        refine w_if (p := (decide (y346 < (a1.Blocks.length : Int)))) hF rfl (fun hb602 hF => ?_) (fun hb602 hF => ?_)
        · refine w_skip ?_
          refine q_seq ?_
          refine v_seq ?_
          refine v_block ?_
          refine v_seq ?_
          refine w_reg ?_
          refine rw_p (ov_fieldAddr (cells' := ((cXApi_Func a1).drop 3)) fd37_3 rfl rfl rfl rfl) rfl ?_
          refine rw_p (ov_load (v := (AV.sl ((a1.Blocks).map cXApi_Block))) ag35 sz35 rfl rfl rfl) rfl ?_
          refine rw_p (ov_move (v := (I y346)) rfl) rfl ?_
          obtain ⟨x348, hx349, hF⟩ := bindS hF
          refine rw_p (ov_indexAddr (k := .i64) (c := cXApi_Block) (q := a1.Blocks) (i := y346) Tryd.underlying35 sz53 rfl rfl rfl hx349 rfl) rfl ?_
          refine rw_p (ov_load (v := (AV.agg (cXApi_Block x348))) ag53 sz53 rfl rfl rfl) rfl ?_
          refine rw_w (ov_alloc zm53 rfl) rfl ?_
          refine rw_w (ov_storeF (v := (AV.agg (cXApi_Block x348))) (cs := cXApi_Block x348) (cs' := cXApi_Block x348) ag53 sz53 rfl rfl rfl rfl rfl rfl fz31 rfl rfl rfl) rfl ?_
          refine rw_nil ?_
          refine q_seq ?_
          refine v_seq ?_
          refine v_seq ?_
          refine w_reg ?_
          refine rw_p (ov_assign (v := (I 0)) rfl) rfl ?_
          refine rw_nil ?_
          refine q_seq ?_
          refine v_block ?_
          obtain ⟨o427, hL428, hF⟩ := bindS hF
          refine v_loop (fun (s : Int) => [(AV.vp (cXApi_Unit a0)), (AV.vp (cXApi_Func a1)), (I y346), (AV.vp (cXApi_Block x348)), (I s)]) (RelO (fun (s : Unit) x => ∃ t h, x = (Exit.exit 4, ⟨79, t, h⟩) ∧ t 2 = (AV.vp (cXApi_Unit a0)) ∧ t 3 = (AV.vp (cXApi_Func a1)) ∧ t 7 = (I y346) ∧ t 8 = (AV.vp (cXApi_Block x348))) (fun r x => x.1 = Exit.ret ∧ Fin cx RV31 (R_turneryref2_body r) x)) hL428 lv31_12 (renorm_of (packL_mk (pk_of (v := (AV.vp (cXApi_Unit a0))) rfl rfl) (packL_mk (pk_of (v := (AV.vp (cXApi_Func a1))) rfl rfl) (packL_mk (pk_of (v := (I y346)) rfl rfl) (packL_mk (pk_of (v := (AV.vp (cXApi_Block x348))) rfl rfl) (packL_mk (pk_of (v := (I 0)) rfl rfl) packL_0))))) rfl) ?_ ?_
          · rintro y350 z351 hF
            replace hF : turneryref2_body_L3 a1 y346 x348 y350 = some z351 := hF
            unfold turneryref2_body_L3 at hF
            show W cx 31 _ _ ⟨79, (upd (upd (upd (upd (upd (fun _ => AV.junk) 9 (I y350)) 8 (AV.vp (cXApi_Block x348))) 7 (I y346)) 3 (AV.vp (cXApi_Func a1))) 2 (AV.vp (cXApi_Unit a0))), (fun _ => none)⟩ _
            refine v_seq ?_
            refine v_seq ?_
            refine w_reg ?_
            refine rw_p (ov_move (v := (I y350)) rfl) rfl ?_
            refine rw_p (ov_fieldAddr (cells' := (cXApi_Block x348)) fd53_0 rfl rfl rfl rfl) rfl ?_
            refine rw_p (ov_load (v := (AV.sl ((x348.Phis).map cXApi_Phi))) ag50 sz50 rfl rfl rfl) rfl ?_
            refine rw_p (ov_lenSl (m := x348.Phis.length) Tryd.underlying50 rfl rfl rfl (List.length_map _)) rfl ?_
            refine rw_p (ov_lss (k := .i64) (a := y350) (b := (x348.Phis.length : Int)) rfl rfl) rfl ?_
            refine rw_nil ?_
            refine q_seq ?_
            refine w_if (p := (decide (y350 < (x348.Phis.length : Int)))) hF rfl (fun hb426 hF => ?_) (fun hb426 hF => ?_)
            · refine w_skip ?_
              refine q_seq ?_
              refine v_seq ?_
              refine v_block ?_
              refine v_seq ?_
              refine w_regD ?_
              refine rw_p (ov_load (v := (AV.agg (cXApi_Func a1))) ag37 sz37 rfl rfl rfl) rfl ?_
              refine rw_p (ov_move (v := (I y346)) rfl) rfl ?_
              refine rw_p (ov_fieldAddr (cells' := (cXApi_Block x348)) fd53_0 rfl rfl rfl rfl) rfl ?_
              refine rw_p (ov_load (v := (AV.sl ((x348.Phis).map cXApi_Phi))) ag50 sz50 rfl rfl rfl) rfl ?_
              refine rw_p (ov_move (v := (I y350)) rfl) rfl ?_
              obtain ⟨x352, hx353, hF⟩ := bindS hF
              refine rw_p (ov_indexAddr (k := .i64) (c := cXApi_Phi) (q := x348.Phis) (i := y350) Tryd.underlying50 sz107 rfl rfl rfl hx353 rfl) rfl ?_
              refine rw_p (ov_load (v := (AV.agg (cXApi_Phi x352))) ag107 sz107 rfl rfl rfl) rfl ?_
              obtain ⟨x423, hx424, hF⟩ := bindS hF
              refine rw_p (ov_call (args := [(AV.agg (cXApi_Func a1)), (I y346), (AV.agg (cXApi_Phi x352))]) (r := (R_turneryref2_phi x423)) (v := (I x423)) rfl (cons_eq rfl (cons_eq rfl (cons_eq rfl rfl))) rfl rfl (T_turneryref2_phi nn a1 y346 x352 x423 hx424) fz31 rfl rfl) rfl ?_
              refine rw_p (ov_assign (v := (I x423)) rfl) rfl ?_
              refine rw_nil ⟨rfl, ?_⟩
              refine q_seq ?_
              refine v_seq ?_
              refine w_reg ?_
              refine rw_p (ov_move (v := (I x423)) rfl) rfl ?_
              refine rw_p (ov_neq (k := .i64) (a := x423) (b := 0) rfl rfl) rfl ?_
              refine rw_nil ?_
              refine q_seq ?_
              refine w_if (p := (x423 != 0)) hF rfl (fun hb425 hF => ?_) (fun hb425 hF => ?_)
              · refine v_seq ?_
                refine w_reg ?_
                refine rw_p (ov_move (v := (I x423)) rfl) rfl ?_
                refine rw_p (ov_assign (v := (I x423)) rfl) rfl ?_
                refine rw_nil ?_
                refine q_seq ?_
                refine w_ret ?_
                refine q_blkR ?_
                refine q_seqR ?_
                obtain rfl := Option.some.inj hF
                exact q_outR (relR ⟨rfl, (fin_ret (res_tmp (pk_of (v := (I x423)) rfl rfl) res_nil) rfl rfl)⟩)
              · refine w_skip ?_
                refine q_blk ?_
                refine q_seq ?_
                refine w_reg ?_
                refine rw_p (ov_move (v := (I y350)) rfl) rfl ?_
                refine rw_p (ov_add (k := .i64) (a := y350) (b := 1) rfl rfl) rfl ?_
                refine rw_p (ov_assign (v := (I (w64 (y350 + 1)))) rfl) rfl ?_
                refine rw_nil ?_
                obtain rfl := Option.some.inj hF
                exact q_next (renorm_of (packL_mk (pk_of (v := (AV.vp (cXApi_Unit a0))) rfl rfl) (packL_mk (pk_of (v := (AV.vp (cXApi_Func a1))) rfl rfl) (packL_mk (pk_of (v := (I y346)) rfl rfl) (packL_mk (pk_of (v := (AV.vp (cXApi_Block x348))) rfl rfl) (packL_mk (pk_of (v := (I (w64 (y350 + 1)))) rfl rfl) packL_0))))) rfl)
            · refine w_exit ?_
              refine q_seqE ?_
              obtain rfl := Option.some.inj hF
              refine q_out (relB ?_)
              exact ⟨_, _, rfl, rfl, rfl, rfl, rfl⟩
          · rintro x599 hr600
            cases o427 with
            | ret r601 =>
              replace hF : some (.out (.ret r601)) = some z347 := hF
              obtain rfl := Option.some.inj hF
              obtain ⟨xe, xs⟩ := x599
              obtain ⟨hxe, hfin⟩ := hr600
              obtain rfl : xe = Exit.ret := hxe
              refine q_blkR ?_
              refine q_seqR ?_
              refine q_blkR ?_
              refine q_seqR ?_
              exact q_outR (relR ⟨rfl, hfin⟩)
            | brk b429 =>
              obtain ⟨t430, h431, rfl, e432, e433, e434, e435⟩ := hr600
              refine q_blkH ?_
              refine q_seq ?_
              refine v_seq ?_
              refine w_reg ?_
              refine rw_p (ov_assign (v := (I 0)) rfl) rfl ?_
              refine rw_nil ?_
              refine q_seq ?_
              refine v_block ?_
              obtain ⟨o588, hL589, hF⟩ := bindS hF
              refine v_loop (fun (s : Int) => [(AV.vp (cXApi_Unit a0)), (AV.vp (cXApi_Func a1)), (I y346), (AV.vp (cXApi_Block x348)), (I s)]) (RelO (fun (s : Unit) x => ∃ t h, x = (Exit.exit 6, ⟨79, t, h⟩) ∧ t 2 = (AV.vp (cXApi_Unit a0)) ∧ t 3 = (AV.vp (cXApi_Func a1)) ∧ t 7 = (I y346)) (fun r x => x.1 = Exit.ret ∧ Fin cx RV31 (R_turneryref2_body r) x)) hL589 lv31_18 (renorm_of (packL_mk (pk_of (v := (AV.vp (cXApi_Unit a0))) e432 rfl) (packL_mk (pk_of (v := (AV.vp (cXApi_Func a1))) e433 rfl) (packL_mk (pk_of (v := (I y346)) e434 rfl) (packL_mk (pk_of (v := (AV.vp (cXApi_Block x348))) e435 rfl) (packL_mk (pk_of (v := (I 0)) rfl rfl) packL_0))))) rfl) ?_ ?_
              · rintro y436 z437 hF
                replace hF : turneryref2_body_L4 a0 a1 x348 y436 = some z437 := hF
                unfold turneryref2_body_L4 at hF
                show W cx 31 _ _ ⟨79, (upd (upd (upd (upd (upd (fun _ => AV.junk) 11 (I y436)) 8 (AV.vp (cXApi_Block x348))) 7 (I y346)) 3 (AV.vp (cXApi_Func a1))) 2 (AV.vp (cXApi_Unit a0))), (fun _ => none)⟩ _
                refine v_seq ?_
                refine v_seq ?_
                refine w_reg ?_
                refine rw_p (ov_move (v := (I y436)) rfl) rfl ?_
                refine rw_p (ov_fieldAddr (cells' := ((cXApi_Block x348).drop 1)) fd53_1 rfl rfl rfl rfl) rfl ?_
                refine rw_p (ov_load (v := (AV.sl ((x348.List).map cXApi_Ins))) ag51 sz51 rfl rfl rfl) rfl ?_
                refine rw_p (ov_lenSl (m := x348.List.length) Tryd.underlying51 rfl rfl rfl (List.length_map _)) rfl ?_
                refine rw_p (ov_lss (k := .i64) (a := y436) (b := (x348.List.length : Int)) rfl rfl) rfl ?_
                refine rw_nil ?_
                refine q_seq ?_
                refine w_if (p := (decide (y436 < (x348.List.length : Int)))) hF rfl (fun hb587 hF => ?_) (fun hb587 hF => ?_)
                · refine w_skip ?_
                  refine q_seq ?_
                  refine v_seq ?_
                  refine v_block ?_
                  refine v_seq ?_
                  refine w_regD ?_
                  refine rw_p (ov_load (v := (AV.agg (cXApi_Unit a0))) ag25 sz25 rfl rfl rfl) rfl ?_
                  refine rw_p (ov_load (v := (AV.agg (cXApi_Func a1))) ag37 sz37 rfl rfl rfl) rfl ?_
                  refine rw_p (ov_fieldAddr (cells' := ((cXApi_Block x348).drop 1)) fd53_1 rfl rfl rfl rfl) rfl ?_
                  refine rw_p (ov_load (v := (AV.sl ((x348.List).map cXApi_Ins))) ag51 sz51 rfl rfl rfl) rfl ?_
                  refine rw_p (ov_move (v := (I y436)) rfl) rfl ?_
                  obtain ⟨x438, hx439, hF⟩ := bindS hF
                  refine rw_p (ov_indexAddr (k := .i64) (c := cXApi_Ins) (q := x348.List) (i := y436) Tryd.underlying51 sz56 rfl rfl rfl hx439 rfl) rfl ?_
                  refine rw_p (ov_load (v := (AV.agg (cXApi_Ins x438))) ag56 sz56 rfl rfl rfl) rfl ?_
                  obtain ⟨x584, hx585, hF⟩ := bindS hF
                  refine rw_p (ov_call (args := [(AV.agg (cXApi_Unit a0)), (AV.agg (cXApi_Func a1)), (AV.agg (cXApi_Ins x438))]) (r := (R_turneryref2_ins x584)) (v := (I x584)) rfl (cons_eq rfl (cons_eq rfl (cons_eq rfl rfl))) rfl rfl (T_turneryref2_ins nn a0 a1 x438 x584 hx585) fz31 rfl rfl) rfl ?_
                  refine rw_p (ov_assign (v := (I x584)) rfl) rfl ?_
                  refine rw_nil ⟨rfl, ?_⟩
                  refine q_seq ?_
                  refine v_seq ?_
                  refine w_reg ?_
                  refine rw_p (ov_move (v := (I x584)) rfl) rfl ?_
                  refine rw_p (ov_neq (k := .i64) (a := x584) (b := 0) rfl rfl) rfl ?_
                  refine rw_nil ?_
                  refine q_seq ?_
                  refine w_if (p := (x584 != 0)) hF rfl (fun hb586 hF => ?_) (fun hb586 hF => ?_)
                  · refine v_seq ?_
                    refine w_reg ?_
                    refine rw_p (ov_move (v := (I x584)) rfl) rfl ?_
                    refine rw_p (ov_assign (v := (I x584)) rfl) rfl ?_
                    refine rw_nil ?_
                    refine q_seq ?_
                    refine w_ret ?_
                    refine q_blkR ?_
                    refine q_seqR ?_
                    obtain rfl := Option.some.inj hF
                    exact q_outR (relR ⟨rfl, (fin_ret (res_tmp (pk_of (v := (I x584)) rfl rfl) res_nil) rfl rfl)⟩)
                  · refine w_skip ?_
                    refine q_blk ?_
                    refine q_seq ?_
                    refine w_reg ?_
                    refine rw_p (ov_move (v := (I y436)) rfl) rfl ?_
                    refine rw_p (ov_add (k := .i64) (a := y436) (b := 1) rfl rfl) rfl ?_
                    refine rw_p (ov_assign (v := (I (w64 (y436 + 1)))) rfl) rfl ?_
                    refine rw_nil ?_
                    obtain rfl := Option.some.inj hF
                    exact q_next (renorm_of (packL_mk (pk_of (v := (AV.vp (cXApi_Unit a0))) rfl rfl) (packL_mk (pk_of (v := (AV.vp (cXApi_Func a1))) rfl rfl) (packL_mk (pk_of (v := (I y346)) rfl rfl) (packL_mk (pk_of (v := (AV.vp (cXApi_Block x348))) rfl rfl) (packL_mk (pk_of (v := (I (w64 (y436 + 1)))) rfl rfl) packL_0))))) rfl)
                · refine w_exit ?_
                  refine q_seqE ?_
                  obtain rfl := Option.some.inj hF
                  refine q_out (relB ?_)
                  exact ⟨_, _, rfl, rfl, rfl, rfl⟩
              · rintro x596 hr597
                cases o588 with
                | ret r598 =>
                  replace hF : some (.out (.ret r598)) = some z347 := hF
                  obtain rfl := Option.some.inj hF
                  obtain ⟨xe, xs⟩ := x596
                  obtain ⟨hxe, hfin⟩ := hr597
                  obtain rfl : xe = Exit.ret := hxe
                  refine q_blkR ?_
                  refine q_blkR ?_
                  refine q_seqR ?_
                  exact q_outR (relR ⟨rfl, hfin⟩)
                | brk b590 =>
                  obtain ⟨t591, h592, rfl, e593, e594, e595⟩ := hr597
                  refine q_blkH ?_
                  refine q_blk ?_
                  refine q_seq ?_
                  refine w_reg ?_
                  refine rw_p (ov_move (v := (I y346)) (congrArg (un _) e595)) rfl ?_
                  refine rw_p (ov_add (k := .i64) (a := y346) (b := 1) rfl rfl) rfl ?_
                  refine rw_p (ov_assign (v := (I (w64 (y346 + 1)))) rfl) rfl ?_
                  refine rw_nil ?_
                  obtain rfl := Option.some.inj hF
                  exact q_next (renorm_of (packL_mk (pk_of (v := (AV.vp (cXApi_Unit a0))) e593 rfl) (packL_mk (pk_of (v := (AV.vp (cXApi_Func a1))) e594 rfl) (packL_mk (pk_of (v := (I (w64 (y346 + 1)))) rfl rfl) packL_0))) rfl)
        · refine w_exit ?_
          refine q_seqE ?_
          obtain rfl := Option.some.inj hF
          refine q_out (relB ?_)
          exact ⟨_, _, rfl, trivial⟩
      · rintro x608 hr609
        cases o603 with
        | ret r610 =>
          replace hF : some r610 = some r := hF
          obtain rfl := Option.some.inj hF
          obtain ⟨xe, xs⟩ := x608
          obtain ⟨hxe, hfin⟩ := hr609
          obtain rfl : xe = Exit.ret := hxe
          refine q_blkR ?_
          refine q_seqR ?_
          exact hfin
        | brk b605 =>
          obtain ⟨t606, h607, rfl, _⟩ := hr609
          refine q_blkH ?_
          refine q_seq ?_
          refine v_seq ?_
          refine w_reg ?_
          refine rw_p (ov_assign (v := (I 0)) rfl) rfl ?_
          refine rw_nil ?_
          refine q_seq ?_
          refine w_ret ?_
          obtain rfl := Option.some.inj hF
          exact (fin_ret (res_tmp (pk_of (v := (I 0)) rfl rfl) res_nil) rfl rfl)

/-! turnery/turneryref2.Main -/
noncomputable def turneryref2_Main_L1 (a0 : XApi_Unit) (y630 : Int) : Option (Lp Int (Br Unit Int)) :=
  if (decide (y630 < (a0.Funcs.length : Int))) then
  ((idx a0.Funcs y630).bind fun x632 =>
  if (x632.Name.toList == (ByteArray.mk #[109, 97, 105, 110]).toList) then
  (some (.out (.ret y630)))
  else
  (some (.next (w64 (y630 + 1)))))
  else
  (some (.out (.brk ())))
noncomputable def turneryref2_Main (a0 : XApi_Unit) : Option Int :=
  (Loop (fun (s : Int) => turneryref2_Main_L1 a0 s) 0).bind fun o636 => match o636 with
  | .ret r643 => some r643
  | .brk b638 =>
  some (-1)
abbrev RV32 : List ResultVar := [.tmp 2]
def R_turneryref2_Main (r : Int) : AV := (I r)
set_option maxHeartbeats 2000000 in
theorem T_turneryref2_Main (nn : Nat) (a0 : XApi_Unit) (r : Int) (hF : turneryref2_Main a0 = some r) : den cx (nn + 1) 32 [(AV.agg (cXApi_Unit a0))] = some (R_turneryref2_Main r, []) := by
  unfold turneryref2_Main at hF
  refine fn_of (nn := nn) (rv := RV32) (cxE _) Tryd.func32 rfl rfl Tryd.ntmps32 (cxL _) rfl ?_
  show W cx 32 _ _ ⟨19, (upd (fun _ => AV.junk) 0 (AV.agg (cXApi_Unit a0))), (fun _ => none)⟩ _
  refine v_seq ?_
  refine w_reg ?_
  refine rw_p (ov_boxF (cs := cXApi_Unit a0) (cs' := cXApi_Unit a0) ag25 fz32 rfl rfl rfl rfl rfl) rfl ?_
  refine rw_p (ov_assign (v := (I 0)) rfl) rfl ?_
  refine rw_nil ?_
  refine q_seq ?_
  refine v_seq ?_
  refine v_seq ?_
  refine w_reg ?_
  refine rw_p (ov_assign (v := (I 0)) rfl) rfl ?_
  refine rw_nil ?_
  refine q_seq ?_
  refine v_block ?_
  obtain ⟨o636, hL637, hF⟩ := bindS hF
  refine v_loop (fun (s : Int) => [(AV.vp (cXApi_Unit a0)), (I s)]) (RelO (fun (s : Unit) x => ∃ t h, x = (Exit.exit 0, ⟨19, t, h⟩) ∧ True) (fun r x => x.1 = Exit.ret ∧ Fin cx RV32 (R_turneryref2_Main r) x)) hL637 lv32_2 (renorm_of (packL_mk (pk_of (v := (AV.vp (cXApi_Unit a0))) rfl rfl) (packL_mk (pk_of (v := (I 0)) rfl rfl) packL_0)) rfl) ?_ ?_
  · rintro y630 z631 hF
    replace hF : turneryref2_Main_L1 a0 y630 = some z631 := hF
    unfold turneryref2_Main_L1 at hF
    show W cx 32 _ _ ⟨19, (upd (upd (fun _ => AV.junk) 3 (I y630)) 1 (AV.vp (cXApi_Unit a0))), (fun _ => none)⟩ _
    refine v_seq ?_
    refine v_seq ?_
    refine w_reg ?_
    refine rw_p (ov_move (v := (I y630)) rfl) rfl ?_
    refine rw_p (ov_fieldAddr (cells' := ((cXApi_Unit a0).drop 1)) fd25_1 rfl rfl rfl rfl) rfl ?_
    refine rw_p (ov_load (v := (AV.sl ((a0.Funcs).map cXApi_Func))) ag23 sz23 rfl rfl rfl) rfl ?_
    refine rw_p (ov_lenSl (m := a0.Funcs.length) Tryd.underlying23 rfl rfl rfl (List.length_map _)) rfl ?_
    refine rw_p (ov_lss (k := .i64) (a := y630) (b := (a0.Funcs.length : Int)) rfl rfl) rfl ?_
    refine rw_nil ?_
    refine q_seq ?_
    refine w_if (p := (decide (y630 < (a0.Funcs.length : Int)))) hF rfl (fun hb635 hF => ?_) (fun hb635 hF => ?_)
    · refine w_skip ?_
      refine q_seq ?_
      refine v_seq ?_
      refine v_block ?_
      refine v_seq ?_
      refine w_reg ?_
      refine rw_p (ov_fieldAddr (cells' := ((cXApi_Unit a0).drop 1)) fd25_1 rfl rfl rfl rfl) rfl ?_
      refine rw_p (ov_load (v := (AV.sl ((a0.Funcs).map cXApi_Func))) ag23 sz23 rfl rfl rfl) rfl ?_
      refine rw_p (ov_move (v := (I y630)) rfl) rfl ?_
      obtain ⟨x632, hx633, hF⟩ := bindS hF
      refine rw_p (ov_indexAddr (k := .i64) (c := cXApi_Func) (q := a0.Funcs) (i := y630) Tryd.underlying23 sz37 rfl rfl rfl hx633 rfl) rfl ?_
      refine rw_p (ov_fieldAddr (cells' := (cXApi_Func x632)) fd37_0 rfl rfl rfl rfl) rfl ?_
      refine rw_p (ov_load (v := (AV.val (.string x632.Name))) ag9 sz9 rfl rfl rfl) rfl ?_
      refine rw_p (ov_eqlS rfl rfl) rfl ?_
      refine rw_nil ?_
      refine q_seq ?_
      refine w_if (p := (x632.Name.toList == (ByteArray.mk #[109, 97, 105, 110]).toList)) hF rfl (fun hb634 hF => ?_) (fun hb634 hF => ?_)
      · refine v_seq ?_
        refine w_reg ?_
        refine rw_p (ov_move (v := (I y630)) rfl) rfl ?_
        refine rw_p (ov_assign (v := (I y630)) rfl) rfl ?_
        refine rw_nil ?_
        refine q_seq ?_
        refine w_ret ?_
        refine q_blkR ?_
        refine q_seqR ?_
        obtain rfl := Option.some.inj hF
        exact q_outR (relR ⟨rfl, (fin_ret (res_tmp (pk_of (v := (I y630)) rfl rfl) res_nil) rfl rfl)⟩)
      · refine w_skip ?_
        refine q_blk ?_
        refine q_seq ?_
        refine w_reg ?_
        refine rw_p (ov_move (v := (I y630)) rfl) rfl ?_
        refine rw_p (ov_add (k := .i64) (a := y630) (b := 1) rfl rfl) rfl ?_
        refine rw_p (ov_assign (v := (I (w64 (y630 + 1)))) rfl) rfl ?_
        refine rw_nil ?_
        obtain rfl := Option.some.inj hF
        exact q_next (renorm_of (packL_mk (pk_of (v := (AV.vp (cXApi_Unit a0))) rfl rfl) (packL_mk (pk_of (v := (I (w64 (y630 + 1)))) rfl rfl) packL_0)) rfl)
    · refine w_exit ?_
      refine q_seqE ?_
      obtain rfl := Option.some.inj hF
      refine q_out (relB ?_)
      exact ⟨_, _, rfl, trivial⟩
  · rintro x641 hr642
    cases o636 with
    | ret r643 =>
      replace hF : some r643 = some r := hF
      obtain rfl := Option.some.inj hF
      obtain ⟨xe, xs⟩ := x641
      obtain ⟨hxe, hfin⟩ := hr642
      obtain rfl : xe = Exit.ret := hxe
      refine q_blkR ?_
      refine q_seqR ?_
      exact hfin
    | brk b638 =>
      obtain ⟨t639, h640, rfl, _⟩ := hr642
      refine q_blkH ?_
      refine q_seq ?_
      refine v_seq ?_
      refine w_reg ?_
      refine rw_p (ov_assign (v := (I (-1))) rfl) rfl ?_
      refine rw_nil ?_
      refine q_seq ?_
      refine w_ret ?_
      obtain rfl := Option.some.inj hF
      exact (fin_ret (res_tmp (pk_of (v := (I (-1))) rfl rfl) res_nil) rfl rfl)

/-! turnery/turneryref2.Unit -/
noncomputable def turneryref2_Unit_L1 (a0 : XApi_Unit) (y59 : XApi_Fault) (y60 : Int) (y61 : Int) : Option (Lp (XApi_Fault × Int × Int) (Br XApi_Fault XApi_Fault)) :=
  if (decide (y61 < (a0.Globals.length : Int))) then
  ((turneryref2_global a0 y61 y60).bind fun x168 =>
  if (x168 != 0) then
  ((turneryref2_fault x168 y61).bind fun x170 =>
  some (.out (.ret x170)))
  else
  ((idx a0.Globals y61).bind fun x172 =>
  some (.next (y59, (w64 (y60 + x172.Size)), (w64 (y61 + 1))))))
  else
  (some (.out (.brk y59)))
noncomputable def turneryref2_Unit_L2 (a0 : XApi_Unit) (y186 : XApi_Fault) (y187 : Int) : Option (Lp (XApi_Fault × Int) (Br XApi_Fault XApi_Fault)) :=
  if (decide (y187 < (a0.Funcs.length : Int))) then
  ((turneryref2_head a0 y187).bind fun x236 =>
  if (x236 != 0) then
  ((turneryref2_fault x236 y187).bind fun x238 =>
  some (.out (.ret x238)))
  else
  (some (.next (y186, (w64 (y187 + 1))))))
  else
  (some (.out (.brk y186)))
noncomputable def turneryref2_Unit_L3 (a0 : XApi_Unit) (y252 : XApi_Fault) (y253 : Int) : Option (Lp (XApi_Fault × Int) (Br XApi_Fault XApi_Fault)) :=
  if (decide (y253 < (a0.Funcs.length : Int))) then
  ((idx a0.Funcs y253).bind fun x255 =>
  (turneryref2_body a0 x255).bind fun x614 =>
  if (x614 != 0) then
  ((turneryref2_fault x614 y253).bind fun x616 =>
  some (.out (.ret x616)))
  else
  (some (.next (y252, (w64 (y253 + 1))))))
  else
  (some (.out (.brk y252)))
noncomputable def turneryref2_Unit (a0 : XApi_Unit) : Option XApi_Fault :=
  if (if (decide (10 < (a0.Globals.length : Int))) then true else (decide (10 < (a0.Funcs.length : Int)))) then
  ((turneryref2_fault 2 0).bind fun x57 =>
  some x57)
  else
  ((Loop (fun (s : (XApi_Fault × Int × Int)) => turneryref2_Unit_L1 a0 s.1 s.2.1 s.2.2) ((XApi_Fault.mk 0 0), 0, 0)).bind fun o176 => match o176 with
  | .ret r662 => some r662
  | .brk b178 =>
  (Loop (fun (s : (XApi_Fault × Int)) => turneryref2_Unit_L2 a0 s.1 s.2) (b178, 0)).bind fun o242 => match o242 with
  | .ret r659 => some r659
  | .brk b244 =>
  (Loop (fun (s : (XApi_Fault × Int)) => turneryref2_Unit_L3 a0 s.1 s.2) (b244, 0)).bind fun o620 => match o620 with
  | .ret r656 => some r656
  | .brk b622 =>
  (turneryref2_Main a0).bind fun x644 =>
  if (decide (x644 < 0)) then
  ((turneryref2_fault 6 0).bind fun x646 =>
  some x646)
  else
  ((idx a0.Funcs x644).bind fun x648 =>
  if (decide (0 < x648.Params)) then
  ((turneryref2_fault 5 x644).bind fun x650 =>
  some x650)
  else
  (some (XApi_Fault.mk 0 0))))
abbrev RV12 : List ResultVar := [.cell 2 28]
def R_turneryref2_Unit (r : XApi_Fault) : AV := (.agg (cXApi_Fault r))
set_option maxHeartbeats 2000000 in
theorem T_turneryref2_Unit (nn : Nat) (a0 : XApi_Unit) (r : XApi_Fault) (hF : turneryref2_Unit a0 = some r) : den cx (nn + 6) 12 [(AV.agg (cXApi_Unit a0))] = some (R_turneryref2_Unit r, []) := by
  unfold turneryref2_Unit at hF
  refine fn_of (nn := (nn + 5)) (rv := RV12) (cxE _) Tryd.func12 rfl rfl Tryd.ntmps12 (cxL _) rfl ?_
  show W cx 12 _ _ ⟨95, (upd (fun _ => AV.junk) 0 (AV.agg (cXApi_Unit a0))), (fun _ => none)⟩ _
  refine v_seq ?_
  refine w_reg ?_
  refine rw_p (ov_boxF (cs := cXApi_Unit a0) (cs' := cXApi_Unit a0) ag25 fz12 rfl rfl rfl rfl rfl) rfl ?_
  refine rw_w (ov_alloc zm28 rfl) rfl ?_
  refine rw_nil ?_
  refine q_seq ?_
  refine v_seq ?_
  refine v_seq ?_
  refine w_reg ?_
  refine rw_p (ov_fieldAddr (cells' := (cXApi_Unit a0)) fd25_0 rfl rfl rfl rfl) rfl ?_
  refine rw_p (ov_load (v := (AV.sl ((a0.Globals).map cXApi_Global))) ag22 sz22 rfl rfl rfl) rfl ?_
  refine rw_p (ov_lenSl (m := a0.Globals.length) Tryd.underlying22 rfl rfl rfl (List.length_map _)) rfl ?_
  refine rw_p (ov_gtr (k := .i64) (a := (a0.Globals.length : Int)) (b := 10) rfl rfl) rfl ?_
  refine rw_p (ov_move (v := (B (decide (10 < (a0.Globals.length : Int))))) rfl) rfl ?_
  refine rw_g rfl (ov_fieldAddr (cells' := ((cXApi_Unit a0).drop 1)) fd25_1 rfl rfl rfl rfl) rfl ?_
  refine rw_g rfl (ov_load (v := (AV.sl ((a0.Funcs).map cXApi_Func))) ag23 sz23 (un_self _) rfl rfl) rfl ?_
  refine rw_g rfl (ov_lenSl (m := a0.Funcs.length) Tryd.underlying23 rfl rfl (un_self _) (List.length_map _)) rfl ?_
  refine rw_g rfl (ov_gtr (k := .i64) (a := (a0.Funcs.length : Int)) (b := 10) (un_self _) rfl) rfl ?_
  refine rw_p (ov_pickB (p := (decide (10 < (a0.Globals.length : Int)))) (q := true) (r := (decide (10 < (a0.Funcs.length : Int)))) rfl rfl (un_imp (by generalize (decide (10 < (a0.Globals.length : Int))) = u0; cases u0 <;> rfl))) rfl ?_
  refine rw_nil ?_
  refine q_seq ?_
  refine w_if (p := (if (decide (10 < (a0.Globals.length : Int))) then true else (decide (10 < (a0.Funcs.length : Int))))) hF rfl (fun hb663 hF => ?_) (fun hb663 hF => ?_)
  · refine v_seq ?_
    refine w_reg ?_
    obtain ⟨x57, hx58, hF⟩ := bindS hF
    refine rw_p (ov_call (args := [(I 2), (I 0)]) (r := (R_turneryref2_fault x57)) (v := (AV.agg (cXApi_Fault x57))) rfl (cons_eq rfl (cons_eq rfl rfl)) rfl rfl (T_turneryref2_fault (nn + 4) 2 0 x57 hx58) fz12 rfl rfl) rfl ?_
    refine rw_w (ov_storeM (c := cXApi_Fault) (q := [(XApi_Fault.mk 0 0)]) (r := (XApi_Fault.mk 0 0)) (r' := x57) (v := (AV.agg (cXApi_Fault x57))) (cs := cXApi_Fault x57) ag28 sz28 rfl rfl rfl rfl rfl rfl rfl fz12 rfl rfl) rfl ?_
    refine rw_nil ?_
    refine q_seq ?_
    refine w_ret ?_
    refine q_seqR ?_
    obtain rfl := Option.some.inj hF
    exact (fin_ret (res_cellM (v := (AV.agg (cXApi_Fault x57))) (v' := (AV.agg (cXApi_Fault x57))) ag28 sz28 rfl rfl rfl rfl rfl rfl res_nil) rfl rfl)
  · refine w_skip ?_
    refine q_seq ?_
    refine v_seq ?_
    refine w_reg ?_
    refine rw_p (ov_assign (v := (I 0)) rfl) rfl ?_
    refine rw_nil ?_
    refine q_seq ?_
    refine v_seq ?_
    refine v_seq ?_
    refine w_reg ?_
    refine rw_p (ov_assign (v := (I 0)) rfl) rfl ?_
    refine rw_nil ?_
    refine q_seq ?_
    refine v_block ?_
    obtain ⟨o176, hL177, hF⟩ := bindS hF
    refine v_loop (fun (s : (XApi_Fault × Int × Int)) => [(AV.vp (cXApi_Unit a0)), (AV.ownp (cXApi_Fault s.1)), (I s.2.1), (I s.2.2)]) (RelO (fun (s : XApi_Fault) x => ∃ t h, x = (Exit.exit 0, ⟨95, t, h⟩) ∧ t 1 = (AV.vp (cXApi_Unit a0)) ∧ t 2 = (AV.mp [2] 0 0) ∧ h [2] = some (some ([s].map cXApi_Fault)) ∧ h [84] = none ∧ h [93] = none) (fun r x => x.1 = Exit.ret ∧ Fin cx RV12 (R_turneryref2_Unit r) x)) hL177 lv12_5 (renorm_of (packL_mk (pk_of (v := (AV.vp (cXApi_Unit a0))) rfl rfl) (packL_mk (pk_mpT (cs := cXApi_Fault (XApi_Fault.mk 0 0)) rfl rfl (fl_cXApi_Fault _)) (packL_mk (pk_of (v := (I 0)) rfl rfl) (packL_mk (pk_of (v := (I 0)) rfl rfl) packL_0)))) rfl) ?_ ?_
    · rintro ⟨y59, y60, y61⟩ z62 hF
      replace hF : turneryref2_Unit_L1 a0 y59 y60 y61 = some z62 := hF
      unfold turneryref2_Unit_L1 at hF
      show W cx 12 _ _ ⟨95, (upd (upd (upd (upd (fun _ => AV.junk) 4 (I y61)) 3 (I y60)) 2 (AV.mp [2] 0 0)) 1 (AV.vp (cXApi_Unit a0))), (upd (fun _ => none) [2] (some (some [cXApi_Fault y59])))⟩ _
      refine v_seq ?_
      refine v_seq ?_
      refine w_reg ?_
      refine rw_p (ov_move (v := (I y61)) rfl) rfl ?_
      refine rw_p (ov_fieldAddr (cells' := (cXApi_Unit a0)) fd25_0 rfl rfl rfl rfl) rfl ?_
      refine rw_p (ov_load (v := (AV.sl ((a0.Globals).map cXApi_Global))) ag22 sz22 rfl rfl rfl) rfl ?_
      refine rw_p (ov_lenSl (m := a0.Globals.length) Tryd.underlying22 rfl rfl rfl (List.length_map _)) rfl ?_
      refine rw_p (ov_lss (k := .i64) (a := y61) (b := (a0.Globals.length : Int)) rfl rfl) rfl ?_
      refine rw_nil ?_
      refine q_seq ?_
      refine w_if (p := (decide (y61 < (a0.Globals.length : Int)))) hF rfl (fun hb175 hF => ?_) (fun hb175 hF => ?_)
      · refine w_skip ?_
        refine q_seq ?_
        refine v_seq ?_
        refine v_block ?_
        refine v_seq ?_
        refine w_reg ?_
        refine rw_p (ov_load (v := (AV.agg (cXApi_Unit a0))) ag25 sz25 rfl rfl rfl) rfl ?_
        refine rw_p (ov_move (v := (I y61)) rfl) rfl ?_
        refine rw_p (ov_move (v := (I y60)) rfl) rfl ?_
        obtain ⟨x168, hx169, hF⟩ := bindS hF
        refine rw_p (ov_call (args := [(AV.agg (cXApi_Unit a0)), (I y61), (I y60)]) (r := (R_turneryref2_global x168)) (v := (I x168)) rfl (cons_eq rfl (cons_eq rfl (cons_eq rfl rfl))) rfl rfl (T_turneryref2_global (nn + 2) a0 y61 y60 x168 hx169) fz12 rfl rfl) rfl ?_
        refine rw_p (ov_assign (v := (I x168)) rfl) rfl ?_
        refine rw_nil ?_
        refine q_seq ?_
        refine v_seq ?_
        refine v_seq ?_
        refine w_reg ?_
        refine rw_p (ov_move (v := (I x168)) rfl) rfl ?_
        refine rw_p (ov_neq (k := .i64) (a := x168) (b := 0) rfl rfl) rfl ?_
        refine rw_nil ?_
        refine q_seq ?_
        refine w_if (p := (x168 != 0)) hF rfl (fun hb174 hF => ?_) (fun hb174 hF => ?_)
        · refine v_seq ?_
          refine w_reg ?_
          refine rw_p (ov_move (v := (I x168)) rfl) rfl ?_
          refine rw_p (ov_move (v := (I y61)) rfl) rfl ?_
          obtain ⟨x170, hx171, hF⟩ := bindS hF
          refine rw_p (ov_call (args := [(I x168), (I y61)]) (r := (R_turneryref2_fault x170)) (v := (AV.agg (cXApi_Fault x170))) rfl (cons_eq rfl (cons_eq rfl rfl)) rfl rfl (T_turneryref2_fault (nn + 4) x168 y61 x170 hx171) fz12 rfl rfl) rfl ?_
          refine rw_w (ov_storeM (c := cXApi_Fault) (q := [y59]) (r := y59) (r' := x170) (v := (AV.agg (cXApi_Fault x170))) (cs := cXApi_Fault x170) ag28 sz28 rfl rfl rfl rfl rfl rfl rfl fz12 rfl rfl) rfl ?_
          refine rw_nil ?_
          refine q_seq ?_
          refine w_ret ?_
          refine q_seqR ?_
          refine q_blkR ?_
          refine q_seqR ?_
          obtain rfl := Option.some.inj hF
          exact q_outR (relR ⟨rfl, (fin_ret (res_cellM (v := (AV.agg (cXApi_Fault x170))) (v' := (AV.agg (cXApi_Fault x170))) ag28 sz28 rfl rfl rfl rfl rfl rfl res_nil) rfl rfl)⟩)
        · refine w_skip ?_
          refine q_seq ?_
          refine w_reg ?_
          refine rw_p (ov_move (v := (I y60)) rfl) rfl ?_
          refine rw_p (ov_fieldAddr (cells' := (cXApi_Unit a0)) fd25_0 rfl rfl rfl rfl) rfl ?_
          refine rw_p (ov_load (v := (AV.sl ((a0.Globals).map cXApi_Global))) ag22 sz22 rfl rfl rfl) rfl ?_
          refine rw_p (ov_move (v := (I y61)) rfl) rfl ?_
          obtain ⟨x172, hx173, hF⟩ := bindS hF
          refine rw_p (ov_indexAddr (k := .i64) (c := cXApi_Global) (q := a0.Globals) (i := y61) Tryd.underlying22 sz73 rfl rfl rfl hx173 rfl) rfl ?_
          refine rw_p (ov_fieldAddr (cells' := ((cXApi_Global x172).drop 1)) fd73_1 rfl rfl rfl rfl) rfl ?_
          refine rw_p (ov_load (v := (I x172.Size)) ag3 sz3 rfl rfl rfl) rfl ?_
          refine rw_p (ov_add (k := .i64) (a := y60) (b := x172.Size) rfl rfl) rfl ?_
          refine rw_p (ov_assign (v := (I (w64 (y60 + x172.Size)))) rfl) rfl ?_
          refine rw_nil ?_
          refine q_blk ?_
          refine q_seq ?_
          refine w_reg ?_
          refine rw_p (ov_move (v := (I y61)) rfl) rfl ?_
          refine rw_p (ov_add (k := .i64) (a := y61) (b := 1) rfl rfl) rfl ?_
          refine rw_p (ov_assign (v := (I (w64 (y61 + 1)))) rfl) rfl ?_
          refine rw_nil ?_
          obtain rfl := Option.some.inj hF
          exact q_next (renorm_of (packL_mk (pk_of (v := (AV.vp (cXApi_Unit a0))) rfl rfl) (packL_mk (pk_mpT (cs := cXApi_Fault y59) rfl rfl (fl_cXApi_Fault _)) (packL_mk (pk_of (v := (I (w64 (y60 + x172.Size)))) rfl rfl) (packL_mk (pk_of (v := (I (w64 (y61 + 1)))) rfl rfl) packL_0)))) rfl)
      · refine w_exit ?_
        refine q_seqE ?_
        obtain rfl := Option.some.inj hF
        refine q_out (relB ?_)
        exact ⟨_, _, rfl, rfl, rfl, rfl, rfl, rfl⟩
    · rintro x660 hr661
      cases o176 with
      | ret r662 =>
        replace hF : some r662 = some r := hF
        obtain rfl := Option.some.inj hF
        obtain ⟨xe, xs⟩ := x660
        obtain ⟨hxe, hfin⟩ := hr661
        obtain rfl : xe = Exit.ret := hxe
        refine q_blkR ?_
        refine q_seqR ?_
        exact hfin
      | brk b178 =>
        obtain ⟨t179, h180, rfl, e181, e182, e183, e184, e185⟩ := hr661
        refine q_blkH ?_
        refine q_seq ?_
        refine v_seq ?_
        refine v_seq ?_
        refine w_reg ?_
        refine rw_p (ov_assign (v := (I 0)) rfl) rfl ?_
        refine rw_nil ?_
        refine q_seq ?_
        refine v_block ?_
        obtain ⟨o242, hL243, hF⟩ := bindS hF
        refine v_loop (fun (s : (XApi_Fault × Int)) => [(AV.vp (cXApi_Unit a0)), (AV.ownp (cXApi_Fault s.1)), (I s.2)]) (RelO (fun (s : XApi_Fault) x => ∃ t h, x = (Exit.exit 2, ⟨95, t, h⟩) ∧ t 1 = (AV.vp (cXApi_Unit a0)) ∧ t 2 = (AV.mp [2] 0 0) ∧ h [2] = some (some ([s].map cXApi_Fault)) ∧ h [84] = none ∧ h [93] = none) (fun r x => x.1 = Exit.ret ∧ Fin cx RV12 (R_turneryref2_Unit r) x)) hL243 lv12_12 (renorm_of (packL_mk (pk_of (v := (AV.vp (cXApi_Unit a0))) e181 rfl) (packL_mk (pk_mpT (cs := cXApi_Fault b178) e182 e183 (fl_cXApi_Fault _)) (packL_mk (pk_of (v := (I 0)) rfl rfl) packL_0))) rfl) ?_ ?_
        · rintro ⟨y186, y187⟩ z188 hF
          replace hF : turneryref2_Unit_L2 a0 y186 y187 = some z188 := hF
          unfold turneryref2_Unit_L2 at hF
          show W cx 12 _ _ ⟨95, (upd (upd (upd (fun _ => AV.junk) 6 (I y187)) 2 (AV.mp [2] 0 0)) 1 (AV.vp (cXApi_Unit a0))), (upd (fun _ => none) [2] (some (some [cXApi_Fault y186])))⟩ _
          refine v_seq ?_
          refine v_seq ?_
          refine w_reg ?_
          refine rw_p (ov_move (v := (I y187)) rfl) rfl ?_
          refine rw_p (ov_fieldAddr (cells' := ((cXApi_Unit a0).drop 1)) fd25_1 rfl rfl rfl rfl) rfl ?_
          refine rw_p (ov_load (v := (AV.sl ((a0.Funcs).map cXApi_Func))) ag23 sz23 rfl rfl rfl) rfl ?_
          refine rw_p (ov_lenSl (m := a0.Funcs.length) Tryd.underlying23 rfl rfl rfl (List.length_map _)) rfl ?_
          refine rw_p (ov_lss (k := .i64) (a := y187) (b := (a0.Funcs.length : Int)) rfl rfl) rfl ?_
          refine rw_nil ?_
          refine q_seq ?_
          refine w_if (p := (decide (y187 < (a0.Funcs.length : Int)))) hF rfl (fun hb241 hF => ?_) (fun hb241 hF => ?_)
          · refine w_skip ?_
            refine q_seq ?_
            refine v_seq ?_
            refine v_block ?_
            refine v_seq ?_
            refine w_reg ?_
            refine rw_p (ov_load (v := (AV.agg (cXApi_Unit a0))) ag25 sz25 rfl rfl rfl) rfl ?_
            refine rw_p (ov_move (v := (I y187)) rfl) rfl ?_
            obtain ⟨x236, hx237, hF⟩ := bindS hF
            refine rw_p (ov_call (args := [(AV.agg (cXApi_Unit a0)), (I y187)]) (r := (R_turneryref2_head x236)) (v := (I x236)) rfl (cons_eq rfl (cons_eq rfl rfl)) rfl rfl (T_turneryref2_head (nn + 2) a0 y187 x236 hx237) fz12 rfl rfl) rfl ?_
            refine rw_p (ov_assign (v := (I x236)) rfl) rfl ?_
            refine rw_nil ?_
            refine q_seq ?_
            refine v_seq ?_
            refine w_reg ?_
            refine rw_p (ov_move (v := (I x236)) rfl) rfl ?_
            refine rw_p (ov_neq (k := .i64) (a := x236) (b := 0) rfl rfl) rfl ?_
            refine rw_nil ?_
            refine q_seq ?_
            refine w_if (p := (x236 != 0)) hF rfl (fun hb240 hF => ?_) (fun hb240 hF => ?_)
            · refine v_seq ?_
              refine w_reg ?_
              refine rw_p (ov_move (v := (I x236)) rfl) rfl ?_
              refine rw_p (ov_move (v := (I y187)) rfl) rfl ?_
              obtain ⟨x238, hx239, hF⟩ := bindS hF
              refine rw_p (ov_call (args := [(I x236), (I y187)]) (r := (R_turneryref2_fault x238)) (v := (AV.agg (cXApi_Fault x238))) rfl (cons_eq rfl (cons_eq rfl rfl)) rfl rfl (T_turneryref2_fault (nn + 4) x236 y187 x238 hx239) fz12 rfl rfl) rfl ?_
              refine rw_w (ov_storeM (c := cXApi_Fault) (q := [y186]) (r := y186) (r' := x238) (v := (AV.agg (cXApi_Fault x238))) (cs := cXApi_Fault x238) ag28 sz28 rfl rfl rfl rfl rfl rfl rfl fz12 rfl rfl) rfl ?_
              refine rw_nil ?_
              refine q_seq ?_
              refine w_ret ?_
              refine q_blkR ?_
              refine q_seqR ?_
              obtain rfl := Option.some.inj hF
              exact q_outR (relR ⟨rfl, (fin_ret (res_cellM (v := (AV.agg (cXApi_Fault x238))) (v' := (AV.agg (cXApi_Fault x238))) ag28 sz28 rfl rfl rfl rfl rfl rfl res_nil) rfl rfl)⟩)
            · refine w_skip ?_
              refine q_blk ?_
              refine q_seq ?_
              refine w_reg ?_
              refine rw_p (ov_move (v := (I y187)) rfl) rfl ?_
              refine rw_p (ov_add (k := .i64) (a := y187) (b := 1) rfl rfl) rfl ?_
              refine rw_p (ov_assign (v := (I (w64 (y187 + 1)))) rfl) rfl ?_
              refine rw_nil ?_
              obtain rfl := Option.some.inj hF
              exact q_next (renorm_of (packL_mk (pk_of (v := (AV.vp (cXApi_Unit a0))) rfl rfl) (packL_mk (pk_mpT (cs := cXApi_Fault y186) rfl rfl (fl_cXApi_Fault _)) (packL_mk (pk_of (v := (I (w64 (y187 + 1)))) rfl rfl) packL_0))) rfl)
          · refine w_exit ?_
            refine q_seqE ?_
            obtain rfl := Option.some.inj hF
            refine q_out (relB ?_)
            exact ⟨_, _, rfl, rfl, rfl, rfl, rfl, rfl⟩
        · rintro x657 hr658
          cases o242 with
          | ret r659 =>
            replace hF : some r659 = some r := hF
            obtain rfl := Option.some.inj hF
            obtain ⟨xe, xs⟩ := x657
            obtain ⟨hxe, hfin⟩ := hr658
            obtain rfl : xe = Exit.ret := hxe
            refine q_blkR ?_
            refine q_seqR ?_
            exact hfin
          | brk b244 =>
            obtain ⟨t245, h246, rfl, e247, e248, e249, e250, e251⟩ := hr658
            refine q_blkH ?_
            refine q_seq ?_
            refine v_seq ?_
            refine v_seq ?_
            refine w_reg ?_
            refine rw_p (ov_assign (v := (I 0)) rfl) rfl ?_
            refine rw_nil ?_
            refine q_seq ?_
            refine v_block ?_
            obtain ⟨o620, hL621, hF⟩ := bindS hF
            refine v_loop (fun (s : (XApi_Fault × Int)) => [(AV.vp (cXApi_Unit a0)), (AV.ownp (cXApi_Fault s.1)), (I s.2)]) (RelO (fun (s : XApi_Fault) x => ∃ t h, x = (Exit.exit 4, ⟨95, t, h⟩) ∧ t 1 = (AV.vp (cXApi_Unit a0)) ∧ t 2 = (AV.mp [2] 0 0) ∧ h [2] = some (some ([s].map cXApi_Fault)) ∧ h [84] = none ∧ h [93] = none) (fun r x => x.1 = Exit.ret ∧ Fin cx RV12 (R_turneryref2_Unit r) x)) hL621 lv12_18 (renorm_of (packL_mk (pk_of (v := (AV.vp (cXApi_Unit a0))) e247 rfl) (packL_mk (pk_mpT (cs := cXApi_Fault b244) e248 e249 (fl_cXApi_Fault _)) (packL_mk (pk_of (v := (I 0)) rfl rfl) packL_0))) rfl) ?_ ?_
            · rintro ⟨y252, y253⟩ z254 hF
              replace hF : turneryref2_Unit_L3 a0 y252 y253 = some z254 := hF
              unfold turneryref2_Unit_L3 at hF
              show W cx 12 _ _ ⟨95, (upd (upd (upd (fun _ => AV.junk) 8 (I y253)) 2 (AV.mp [2] 0 0)) 1 (AV.vp (cXApi_Unit a0))), (upd (fun _ => none) [2] (some (some [cXApi_Fault y252])))⟩ _
              refine v_seq ?_
              refine v_seq ?_
              refine w_reg ?_
              refine rw_p (ov_move (v := (I y253)) rfl) rfl ?_
              refine rw_p (ov_fieldAddr (cells' := ((cXApi_Unit a0).drop 1)) fd25_1 rfl rfl rfl rfl) rfl ?_
              refine rw_p (ov_load (v := (AV.sl ((a0.Funcs).map cXApi_Func))) ag23 sz23 rfl rfl rfl) rfl ?_
              refine rw_p (ov_lenSl (m := a0.Funcs.length) Tryd.underlying23 rfl rfl rfl (List.length_map _)) rfl ?_
              refine rw_p (ov_lss (k := .i64) (a := y253) (b := (a0.Funcs.length : Int)) rfl rfl) rfl ?_
              refine rw_nil ?_
              refine q_seq ?_
              refine w_if (p := (decide (y253 < (a0.Funcs.length : Int)))) hF rfl (fun hb619 hF => ?_) (fun hb619 hF => ?_)
              · refine w_skip ?_
                refine q_seq ?_
                refine v_seq ?_
                refine v_block ?_
                refine v_seq ?_
                refine w_regD ?_
                refine rw_p (ov_load (v := (AV.agg (cXApi_Unit a0))) ag25 sz25 rfl rfl rfl) rfl ?_
                refine rw_p (ov_fieldAddr (cells' := ((cXApi_Unit a0).drop 1)) fd25_1 rfl rfl rfl rfl) rfl ?_
                refine rw_p (ov_load (v := (AV.sl ((a0.Funcs).map cXApi_Func))) ag23 sz23 rfl rfl rfl) rfl ?_
                refine rw_p (ov_move (v := (I y253)) rfl) rfl ?_
                obtain ⟨x255, hx256, hF⟩ := bindS hF
                refine rw_p (ov_indexAddr (k := .i64) (c := cXApi_Func) (q := a0.Funcs) (i := y253) Tryd.underlying23 sz37 rfl rfl rfl hx256 rfl) rfl ?_
                refine rw_p (ov_load (v := (AV.agg (cXApi_Func x255))) ag37 sz37 rfl rfl rfl) rfl ?_
                obtain ⟨x614, hx615, hF⟩ := bindS hF
                refine rw_p (ov_call (args := [(AV.agg (cXApi_Unit a0)), (AV.agg (cXApi_Func x255))]) (r := (R_turneryref2_body x614)) (v := (I x614)) rfl (cons_eq rfl (cons_eq rfl rfl)) rfl rfl (T_turneryref2_body nn a0 x255 x614 hx615) fz12 rfl rfl) rfl ?_
                refine rw_p (ov_assign (v := (I x614)) rfl) rfl ?_
                refine rw_nil ⟨rfl, ?_⟩
                refine q_seq ?_
                refine v_seq ?_
                refine w_reg ?_
                refine rw_p (ov_move (v := (I x614)) rfl) rfl ?_
                refine rw_p (ov_neq (k := .i64) (a := x614) (b := 0) rfl rfl) rfl ?_
                refine rw_nil ?_
                refine q_seq ?_
                refine w_if (p := (x614 != 0)) hF rfl (fun hb618 hF => ?_) (fun hb618 hF => ?_)
                · refine v_seq ?_
                  refine w_reg ?_
                  refine rw_p (ov_move (v := (I x614)) rfl) rfl ?_
                  refine rw_p (ov_move (v := (I y253)) rfl) rfl ?_
                  obtain ⟨x616, hx617, hF⟩ := bindS hF
                  refine rw_p (ov_call (args := [(I x614), (I y253)]) (r := (R_turneryref2_fault x616)) (v := (AV.agg (cXApi_Fault x616))) rfl (cons_eq rfl (cons_eq rfl rfl)) rfl rfl (T_turneryref2_fault (nn + 4) x614 y253 x616 hx617) fz12 rfl rfl) rfl ?_
                  refine rw_w (ov_storeM (c := cXApi_Fault) (q := [y252]) (r := y252) (r' := x616) (v := (AV.agg (cXApi_Fault x616))) (cs := cXApi_Fault x616) ag28 sz28 rfl rfl rfl rfl rfl rfl rfl fz12 rfl rfl) rfl ?_
                  refine rw_nil ?_
                  refine q_seq ?_
                  refine w_ret ?_
                  refine q_blkR ?_
                  refine q_seqR ?_
                  obtain rfl := Option.some.inj hF
                  exact q_outR (relR ⟨rfl, (fin_ret (res_cellM (v := (AV.agg (cXApi_Fault x616))) (v' := (AV.agg (cXApi_Fault x616))) ag28 sz28 rfl rfl rfl rfl rfl rfl res_nil) rfl rfl)⟩)
                · refine w_skip ?_
                  refine q_blk ?_
                  refine q_seq ?_
                  refine w_reg ?_
                  refine rw_p (ov_move (v := (I y253)) rfl) rfl ?_
                  refine rw_p (ov_add (k := .i64) (a := y253) (b := 1) rfl rfl) rfl ?_
                  refine rw_p (ov_assign (v := (I (w64 (y253 + 1)))) rfl) rfl ?_
                  refine rw_nil ?_
                  obtain rfl := Option.some.inj hF
                  exact q_next (renorm_of (packL_mk (pk_of (v := (AV.vp (cXApi_Unit a0))) rfl rfl) (packL_mk (pk_mpT (cs := cXApi_Fault y252) rfl rfl (fl_cXApi_Fault _)) (packL_mk (pk_of (v := (I (w64 (y253 + 1)))) rfl rfl) packL_0))) rfl)
              · refine w_exit ?_
                refine q_seqE ?_
                obtain rfl := Option.some.inj hF
                refine q_out (relB ?_)
                exact ⟨_, _, rfl, rfl, rfl, rfl, rfl, rfl⟩
            · rintro x654 hr655
              cases o620 with
              | ret r656 =>
                replace hF : some r656 = some r := hF
                obtain rfl := Option.some.inj hF
                obtain ⟨xe, xs⟩ := x654
                obtain ⟨hxe, hfin⟩ := hr655
                obtain rfl : xe = Exit.ret := hxe
                refine q_blkR ?_
                refine q_seqR ?_
                exact hfin
              | brk b622 =>
                obtain ⟨t623, h624, rfl, e625, e626, e627, e628, e629⟩ := hr655
                refine q_blkH ?_
                refine q_seq ?_
                refine v_seq ?_
                refine w_reg ?_
                refine rw_p (ov_load (v := (AV.agg (cXApi_Unit a0))) ag25 sz25 (congrArg (un _) e625) rfl rfl) rfl ?_
                obtain ⟨x644, hx645, hF⟩ := bindS hF
                refine rw_p (ov_call (args := [(AV.agg (cXApi_Unit a0))]) (r := (R_turneryref2_Main x644)) (v := (I x644)) rfl (cons_eq rfl rfl) rfl rfl (T_turneryref2_Main (nn + 4) a0 x644 hx645) fz12 rfl rfl) rfl ?_
                refine rw_p (ov_assign (v := (I x644)) rfl) rfl ?_
                refine rw_nil ?_
                refine q_seq ?_
                refine v_seq ?_
                refine v_seq ?_
                refine w_reg ?_
                refine rw_p (ov_move (v := (I x644)) rfl) rfl ?_
                refine rw_p (ov_lss (k := .i64) (a := x644) (b := 0) rfl rfl) rfl ?_
                refine rw_nil ?_
                refine q_seq ?_
                refine w_if (p := (decide (x644 < 0))) hF rfl (fun hb653 hF => ?_) (fun hb653 hF => ?_)
                · refine v_seq ?_
                  refine w_reg ?_
                  obtain ⟨x646, hx647, hF⟩ := bindS hF
                  refine rw_p (ov_call (args := [(I 6), (I 0)]) (r := (R_turneryref2_fault x646)) (v := (AV.agg (cXApi_Fault x646))) rfl (cons_eq rfl (cons_eq rfl rfl)) rfl rfl (T_turneryref2_fault (nn + 4) 6 0 x646 hx647) fz12 rfl rfl) rfl ?_
                  refine rw_w (ov_storeM (c := cXApi_Fault) (q := [b622]) (r := b622) (r' := x646) (v := (AV.agg (cXApi_Fault x646))) (cs := cXApi_Fault x646) ag28 sz28 (congrArg (un _) e626) rfl rfl rfl e627 rfl rfl fz12 rfl rfl) rfl ?_
                  refine rw_nil ?_
                  refine q_seq ?_
                  refine w_ret ?_
                  refine q_seqR ?_
                  obtain rfl := Option.some.inj hF
                  exact (fin_ret (res_cellM (v := (AV.agg (cXApi_Fault x646))) (v' := (AV.agg (cXApi_Fault x646))) ag28 sz28 (congrArg (un _) e626) rfl rfl rfl rfl rfl res_nil) rfl rfl)
                · refine w_skip ?_
                  refine q_seq ?_
                  refine v_seq ?_
                  refine v_seq ?_
                  refine w_reg ?_
                  refine rw_p (ov_fieldAddr (cells' := ((cXApi_Unit a0).drop 1)) fd25_1 rfl (congrArg (un _) e625) rfl rfl) rfl ?_
                  refine rw_p (ov_load (v := (AV.sl ((a0.Funcs).map cXApi_Func))) ag23 sz23 rfl rfl rfl) rfl ?_
                  refine rw_p (ov_move (v := (I x644)) rfl) rfl ?_
                  obtain ⟨x648, hx649, hF⟩ := bindS hF
                  refine rw_p (ov_indexAddr (k := .i64) (c := cXApi_Func) (q := a0.Funcs) (i := x644) Tryd.underlying23 sz37 rfl rfl rfl hx649 rfl) rfl ?_
                  refine rw_p (ov_fieldAddr (cells' := ((cXApi_Func x648).drop 1)) fd37_1 rfl rfl rfl rfl) rfl ?_
                  refine rw_p (ov_load (v := (I x648.Params)) ag3 sz3 rfl rfl rfl) rfl ?_
                  refine rw_p (ov_gtr (k := .i64) (a := x648.Params) (b := 0) rfl rfl) rfl ?_
                  refine rw_nil ?_
                  refine q_seq ?_
                  refine w_if (p := (decide (0 < x648.Params))) hF rfl (fun hb652 hF => ?_) (fun hb652 hF => ?_)
                  · refine v_seq ?_
                    refine w_reg ?_
                    refine rw_p (ov_move (v := (I x644)) rfl) rfl ?_
                    obtain ⟨x650, hx651, hF⟩ := bindS hF
                    refine rw_p (ov_call (args := [(I 5), (I x644)]) (r := (R_turneryref2_fault x650)) (v := (AV.agg (cXApi_Fault x650))) rfl (cons_eq rfl (cons_eq rfl rfl)) rfl rfl (T_turneryref2_fault (nn + 4) 5 x644 x650 hx651) fz12 rfl rfl) rfl ?_
                    refine rw_w (ov_storeM (c := cXApi_Fault) (q := [b622]) (r := b622) (r' := x650) (v := (AV.agg (cXApi_Fault x650))) (cs := cXApi_Fault x650) ag28 sz28 (congrArg (un _) e626) rfl rfl rfl e627 rfl rfl fz12 rfl rfl) rfl ?_
                    refine rw_nil ?_
                    refine q_seq ?_
                    refine w_ret ?_
                    refine q_seqR ?_
                    obtain rfl := Option.some.inj hF
                    exact (fin_ret (res_cellM (v := (AV.agg (cXApi_Fault x650))) (v' := (AV.agg (cXApi_Fault x650))) ag28 sz28 (congrArg (un _) e626) rfl rfl rfl rfl rfl res_nil) rfl rfl)
                  · refine w_skip ?_
                    refine q_seq ?_
                    refine v_seq ?_
                    refine w_reg ?_
                    refine rw_p (ov_build (ps := []) (cs := cXApi_Fault (XApi_Fault.mk 0 0)) zc28 pl28  rfl rfl) rfl ?_
                    refine rw_w (ov_storeM (c := cXApi_Fault) (q := [b622]) (r := b622) (r' := (XApi_Fault.mk 0 0)) (v := (AV.agg (cXApi_Fault (XApi_Fault.mk 0 0)))) (cs := cXApi_Fault (XApi_Fault.mk 0 0)) ag28 sz28 (congrArg (un _) e626) rfl rfl rfl e627 rfl rfl fz12 rfl rfl) rfl ?_
                    refine rw_nil ?_
                    refine q_seq ?_
                    refine w_ret ?_
                    obtain rfl := Option.some.inj hF
                    exact (fin_ret (res_cellM (v := (AV.agg (cXApi_Fault (XApi_Fault.mk 0 0)))) (v' := (AV.agg (cXApi_Fault (XApi_Fault.mk 0 0)))) ag28 sz28 (congrArg (un _) e626) rfl rfl rfl rfl rfl res_nil) rfl rfl)

/-! turnery/core.Fault -/

noncomputable def core_Fault (a0 : Int) (a1 : Int) : Option XApi_Fault :=
  some (XApi_Fault.mk a0 a1)
abbrev RV34 : List ResultVar := [.cell 4 28]
def R_core_Fault (r : XApi_Fault) : AV := (.agg (cXApi_Fault r))
set_option maxHeartbeats 2000000 in
theorem T_core_Fault (nn : Nat) (a0 : Int) (a1 : Int) (r : XApi_Fault) (hF : core_Fault a0 a1 = some r) : den cx (nn + 1) 34 [(I a0), (I a1)] = some (R_core_Fault r, []) := by
  unfold core_Fault at hF
  refine fn_of (nn := nn) (rv := RV34) (cxE _) Tryd.func34 rfl rfl Tryd.ntmps34 (cxL _) rfl ?_
  show W cx 34 _ _ ⟨8, (upd (upd (fun _ => AV.junk) 1 (I a1)) 0 (I a0)), (fun _ => none)⟩ _
  refine v_seq ?_
  refine w_reg ?_
  refine rw_w (ov_alloc zm28 rfl) rfl ?_
  refine rw_nil ?_
  refine q_seq ?_
  refine v_seq ?_
  refine w_reg ?_
  refine rw_p (ov_move (v := (I a0)) rfl) rfl ?_
  refine rw_p (ov_move (v := (I a1)) rfl) rfl ?_
  refine rw_p (ov_build (ps := [(0, (I a0)), (1, (I a1))]) (cs := cXApi_Fault (XApi_Fault.mk a0 a1)) zc28 pl28 (cons_eqp rfl (cons_eqp rfl rfl)) rfl) rfl ?_
  refine rw_w (ov_storeM (c := cXApi_Fault) (q := [(XApi_Fault.mk 0 0)]) (r := (XApi_Fault.mk 0 0)) (r' := (XApi_Fault.mk a0 a1)) (v := (AV.agg (cXApi_Fault (XApi_Fault.mk a0 a1)))) (cs := cXApi_Fault (XApi_Fault.mk a0 a1)) ag28 sz28 rfl rfl rfl rfl rfl rfl rfl fz34 rfl rfl) rfl ?_
  refine rw_nil ?_
  refine q_seq ?_
  refine w_ret ?_
  obtain rfl := Option.some.inj hF
  exact (fin_ret (res_cellM (v := (AV.agg (cXApi_Fault (XApi_Fault.mk a0 a1)))) (v' := (AV.agg (cXApi_Fault (XApi_Fault.mk a0 a1)))) ag28 sz28 rfl rfl rfl rfl rfl rfl res_nil) rfl rfl)

/-! turnery/core.Name -/
noncomputable def core_Name_L1 (a0 : ByteArray) (y673 : Int) : Option (Lp Int (Br Unit Bool)) :=
  if (decide (y673 < (a0.size : Int))) then
  ((sidx a0 y673).bind fun x675 =>
  if (!(if (if (if (if (decide (97 ≤ (x675.toNat : Int))) then (decide ((x675.toNat : Int) ≤ 122)) else false) then true else (if (decide (65 ≤ (x675.toNat : Int))) then (decide ((x675.toNat : Int) ≤ 90)) else false)) then true else ((x675.toNat : Int) == 95)) then true else (if (if (decide (0 < y673)) then (decide (48 ≤ (x675.toNat : Int))) else false) then (decide ((x675.toNat : Int) ≤ 57)) else false))) then
  (some (.out (.ret false)))
  else
  (some (.next (w64 (y673 + 1)))))
  else
  (some (.out (.brk ())))
noncomputable def core_Name (a0 : ByteArray) : Option Bool :=
  if (if (decide ((a0.size : Int) < 1)) then true else (decide (12 < (a0.size : Int)))) then
  (some false)
  else
  ((Loop (fun (s : Int) => core_Name_L1 a0 s) 0).bind fun o679 => match o679 with
  | .ret r686 => some r686
  | .brk b681 =>
  some true)
abbrev RV36 : List ResultVar := [.tmp 2]
def R_core_Name (r : Bool) : AV := (B r)
set_option maxHeartbeats 2000000 in
theorem T_core_Name (nn : Nat) (a0 : ByteArray) (r : Bool) (hF : core_Name a0 = some r) : den cx (nn + 1) 36 [(AV.val (.string a0))] = some (R_core_Name r, []) := by
  unfold core_Name at hF
  refine fn_of (nn := nn) (rv := RV36) (cxE _) Tryd.func36 rfl rfl Tryd.ntmps36 (cxL _) rfl ?_
  show W cx 36 _ _ ⟨53, (upd (fun _ => AV.junk) 0 (AV.val (.string a0))), (fun _ => none)⟩ _
  refine v_seq ?_
  refine w_reg ?_
  refine rw_p (ov_assign (v := (B false)) rfl) rfl ?_
  refine rw_nil ?_
  refine q_seq ?_
  refine v_seq ?_
  refine v_seq ?_
  refine w_reg ?_
  refine rw_p (ov_move (v := (AV.val (.string a0))) rfl) rfl ?_
  refine rw_p (ov_lenStr Tryd.underlying9 rfl rfl rfl) rfl ?_
  refine rw_p (ov_lss (k := .i64) (a := (a0.size : Int)) (b := 1) rfl rfl) rfl ?_
  refine rw_p (ov_move (v := (B (decide ((a0.size : Int) < 1)))) rfl) rfl ?_
  refine rw_g rfl (ov_move (v := (AV.val (.string a0))) rfl) rfl ?_
  refine rw_g rfl (ov_lenStr Tryd.underlying9 rfl rfl (un_self _)) rfl ?_
  refine rw_g rfl (ov_gtr (k := .i64) (a := (a0.size : Int)) (b := 12) (un_self _) rfl) rfl ?_
  refine rw_p (ov_pickB (p := (decide ((a0.size : Int) < 1))) (q := true) (r := (decide (12 < (a0.size : Int)))) rfl rfl (un_imp (by generalize (decide ((a0.size : Int) < 1)) = u0; cases u0 <;> rfl))) rfl ?_
  refine rw_nil ?_
  refine q_seq ?_
  refine w_if (p := (if (decide ((a0.size : Int) < 1)) then true else (decide (12 < (a0.size : Int))))) hF rfl (fun hb687 hF => ?_) (fun hb687 hF => ?_)
  · refine v_seq ?_
    refine w_reg ?_
    refine rw_p (ov_assign (v := (B false)) rfl) rfl ?_
    refine rw_nil ?_
    refine q_seq ?_
    refine w_ret ?_
    refine q_seqR ?_
    obtain rfl := Option.some.inj hF
    exact (fin_ret (res_tmp (pk_of (v := (B false)) rfl rfl) res_nil) rfl rfl)
  · refine w_skip ?_
    refine q_seq ?_
    refine v_seq ?_
    refine v_seq ?_
    refine w_reg ?_
    refine rw_p (ov_move (v := (AV.val (.string a0))) rfl) rfl ?_
    refine rw_p (ov_lenStr Tryd.underlying9 rfl rfl rfl) rfl ?_
    refine rw_p (ov_move (v := (I 0)) rfl) rfl ?_
    refine rw_nil ?_
    refine q_seq ?_
    refine v_block ?_
    obtain ⟨o679, hL680, hF⟩ := bindS hF
    refine v_loop (fun (s : Int) => [(AV.val (.string a0)), (I (a0.size : Int)), (I s)]) (RelO (fun (s : Unit) x => ∃ t h, x = (Exit.exit 0, ⟨53, t, h⟩) ∧ True) (fun r x => x.1 = Exit.ret ∧ Fin cx RV36 (R_core_Name r) x)) hL680 lv36_4 (renorm_of (packL_mk (pk_of (v := (AV.val (.string a0))) rfl rfl) (packL_mk (pk_of (v := (I (a0.size : Int))) rfl rfl) (packL_mk (pk_of (v := (I 0)) rfl rfl) packL_0))) rfl) ?_ ?_
    · rintro y673 z674 hF
      replace hF : core_Name_L1 a0 y673 = some z674 := hF
      unfold core_Name_L1 at hF
      show W cx 36 _ _ ⟨53, (upd (upd (upd (fun _ => AV.junk) 15 (I y673)) 14 (I (a0.size : Int))) 0 (AV.val (.string a0))), (fun _ => none)⟩ _
      refine v_seq ?_
      refine w_reg ?_
      refine rw_p (ov_lss (k := .i64) (a := y673) (b := (a0.size : Int)) rfl rfl) rfl ?_
      refine rw_nil ?_
      refine q_seq ?_
      refine v_seq ?_
      refine w_if (p := (decide (y673 < (a0.size : Int)))) hF rfl (fun hb678 hF => ?_) (fun hb678 hF => ?_)
      · refine w_skip ?_
        refine q_seq ?_
        refine v_seq ?_
        refine v_block ?_
        refine v_seq ?_
        refine w_reg ?_
        refine rw_p (ov_move (v := (I y673)) rfl) rfl ?_
        refine rw_p (ov_assign (v := (I y673)) rfl) rfl ?_
        refine rw_nil ?_
        refine q_seq ?_
        refine v_seq ?_
        refine w_reg ?_
        refine rw_p (ov_move (v := (AV.val (.string a0))) rfl) rfl ?_
        refine rw_p (ov_move (v := (I y673)) rfl) rfl ?_
        obtain ⟨x675, hx676, hF⟩ := bindS hF
        refine rw_p (ov_indexStr (k := .i64) (s := a0) (i := y673) (r := x675) Tryd.underlying9 rfl rfl hx676) rfl ?_
        refine rw_p (ov_assign (v := (AV.val (.int .u8 (x675.toNat : Int)))) rfl) rfl ?_
        refine rw_nil ?_
        refine q_seq ?_
        refine v_seq ?_
        refine w_reg ?_
        refine rw_p (ov_move (v := (AV.val (.int .u8 (x675.toNat : Int)))) rfl) rfl ?_
        refine rw_p (ov_geq (k := .u8) (a := (x675.toNat : Int)) (b := 97) rfl rfl) rfl ?_
        refine rw_p (ov_move (v := (B (decide (97 ≤ (x675.toNat : Int))))) rfl) rfl ?_
        refine rw_g rfl (ov_move (v := (AV.val (.int .u8 (x675.toNat : Int)))) rfl) rfl ?_
        refine rw_g rfl (ov_leq (k := .u8) (a := (x675.toNat : Int)) (b := 122) (un_self _) rfl) rfl ?_
        refine rw_p (ov_pickB (p := (decide (97 ≤ (x675.toNat : Int)))) (q := (decide ((x675.toNat : Int) ≤ 122))) (r := false) rfl (un_imp (by generalize (decide (97 ≤ (x675.toNat : Int))) = u0; cases u0 <;> rfl)) rfl) rfl ?_
        refine rw_p (ov_move (v := (B (if (decide (97 ≤ (x675.toNat : Int))) then (decide ((x675.toNat : Int) ≤ 122)) else false))) rfl) rfl ?_
        refine rw_g rfl (ov_move (v := (AV.val (.int .u8 (x675.toNat : Int)))) rfl) rfl ?_
        refine rw_g rfl (ov_geq (k := .u8) (a := (x675.toNat : Int)) (b := 65) (un_self _) rfl) rfl ?_
        refine rw_g rfl (ov_move (v := (B (decide (65 ≤ (x675.toNat : Int))))) (un_self _)) rfl ?_
        refine rw_g rfl (ov_move (v := (AV.val (.int .u8 (x675.toNat : Int)))) rfl) rfl ?_
        refine rw_g rfl (ov_leq (k := .u8) (a := (x675.toNat : Int)) (b := 90) (un_self _) rfl) rfl ?_
        refine rw_g rfl (ov_pickB (p := (decide (65 ≤ (x675.toNat : Int)))) (q := (decide ((x675.toNat : Int) ≤ 90))) (r := false) (un_self _) (un_imp (by generalize (if (decide (97 ≤ (x675.toNat : Int))) then (decide ((x675.toNat : Int) ≤ 122)) else false) = u0; generalize (decide (65 ≤ (x675.toNat : Int))) = u1; cases u0 <;> cases u1 <;> rfl)) rfl) rfl ?_
        refine rw_p (ov_pickB (p := (if (decide (97 ≤ (x675.toNat : Int))) then (decide ((x675.toNat : Int) ≤ 122)) else false)) (q := true) (r := (if (decide (65 ≤ (x675.toNat : Int))) then (decide ((x675.toNat : Int) ≤ 90)) else false)) rfl rfl (un_imp (by generalize (if (decide (97 ≤ (x675.toNat : Int))) then (decide ((x675.toNat : Int) ≤ 122)) else false) = u0; cases u0 <;> rfl))) rfl ?_
        refine rw_p (ov_move (v := (B (if (if (decide (97 ≤ (x675.toNat : Int))) then (decide ((x675.toNat : Int) ≤ 122)) else false) then true else (if (decide (65 ≤ (x675.toNat : Int))) then (decide ((x675.toNat : Int) ≤ 90)) else false)))) rfl) rfl ?_
        refine rw_g rfl (ov_move (v := (AV.val (.int .u8 (x675.toNat : Int)))) rfl) rfl ?_
        refine rw_g rfl (ov_eql (k := .u8) (a := (x675.toNat : Int)) (b := 95) (un_self _) rfl) rfl ?_
        refine rw_p (ov_pickB (p := (if (if (decide (97 ≤ (x675.toNat : Int))) then (decide ((x675.toNat : Int) ≤ 122)) else false) then true else (if (decide (65 ≤ (x675.toNat : Int))) then (decide ((x675.toNat : Int) ≤ 90)) else false))) (q := true) (r := ((x675.toNat : Int) == 95)) rfl rfl (un_imp (by generalize (if (if (decide (97 ≤ (x675.toNat : Int))) then (decide ((x675.toNat : Int) ≤ 122)) else false) then true else (if (decide (65 ≤ (x675.toNat : Int))) then (decide ((x675.toNat : Int) ≤ 90)) else false)) = u0; cases u0 <;> rfl))) rfl ?_
        refine rw_p (ov_move (v := (B (if (if (if (decide (97 ≤ (x675.toNat : Int))) then (decide ((x675.toNat : Int) ≤ 122)) else false) then true else (if (decide (65 ≤ (x675.toNat : Int))) then (decide ((x675.toNat : Int) ≤ 90)) else false)) then true else ((x675.toNat : Int) == 95)))) rfl) rfl ?_
        refine rw_g rfl (ov_move (v := (I y673)) rfl) rfl ?_
        refine rw_g rfl (ov_gtr (k := .i64) (a := y673) (b := 0) (un_self _) rfl) rfl ?_
        refine rw_g rfl (ov_move (v := (B (decide (0 < y673)))) (un_self _)) rfl ?_
        refine rw_g rfl (ov_move (v := (AV.val (.int .u8 (x675.toNat : Int)))) rfl) rfl ?_
        refine rw_g rfl (ov_geq (k := .u8) (a := (x675.toNat : Int)) (b := 48) (un_self _) rfl) rfl ?_
        refine rw_g rfl (ov_pickB (p := (decide (0 < y673))) (q := (decide (48 ≤ (x675.toNat : Int)))) (r := false) (un_self _) (un_imp (by generalize (if (if (if (decide (97 ≤ (x675.toNat : Int))) then (decide ((x675.toNat : Int) ≤ 122)) else false) then true else (if (decide (65 ≤ (x675.toNat : Int))) then (decide ((x675.toNat : Int) ≤ 90)) else false)) then true else ((x675.toNat : Int) == 95)) = u0; generalize (decide (0 < y673)) = u1; cases u0 <;> cases u1 <;> rfl)) rfl) rfl ?_
        refine rw_g rfl (ov_move (v := (B (if (decide (0 < y673)) then (decide (48 ≤ (x675.toNat : Int))) else false))) (un_self _)) rfl ?_
        refine rw_g rfl (ov_move (v := (AV.val (.int .u8 (x675.toNat : Int)))) rfl) rfl ?_
        refine rw_g rfl (ov_leq (k := .u8) (a := (x675.toNat : Int)) (b := 57) (un_self _) rfl) rfl ?_
        refine rw_g rfl (ov_pickB (p := (if (decide (0 < y673)) then (decide (48 ≤ (x675.toNat : Int))) else false)) (q := (decide ((x675.toNat : Int) ≤ 57))) (r := false) (un_self _) (un_imp (by generalize (if (if (if (decide (97 ≤ (x675.toNat : Int))) then (decide ((x675.toNat : Int) ≤ 122)) else false) then true else (if (decide (65 ≤ (x675.toNat : Int))) then (decide ((x675.toNat : Int) ≤ 90)) else false)) then true else ((x675.toNat : Int) == 95)) = u0; generalize (if (decide (0 < y673)) then (decide (48 ≤ (x675.toNat : Int))) else false) = u1; cases u0 <;> cases u1 <;> rfl)) rfl) rfl ?_
        refine rw_p (ov_pickB (p := (if (if (if (decide (97 ≤ (x675.toNat : Int))) then (decide ((x675.toNat : Int) ≤ 122)) else false) then true else (if (decide (65 ≤ (x675.toNat : Int))) then (decide ((x675.toNat : Int) ≤ 90)) else false)) then true else ((x675.toNat : Int) == 95))) (q := true) (r := (if (if (decide (0 < y673)) then (decide (48 ≤ (x675.toNat : Int))) else false) then (decide ((x675.toNat : Int) ≤ 57)) else false)) rfl rfl (un_imp (by generalize (if (if (if (decide (97 ≤ (x675.toNat : Int))) then (decide ((x675.toNat : Int) ≤ 122)) else false) then true else (if (decide (65 ≤ (x675.toNat : Int))) then (decide ((x675.toNat : Int) ≤ 90)) else false)) then true else ((x675.toNat : Int) == 95)) = u0; cases u0 <;> rfl))) rfl ?_
        refine rw_p (ov_not (p := (if (if (if (if (decide (97 ≤ (x675.toNat : Int))) then (decide ((x675.toNat : Int) ≤ 122)) else false) then true else (if (decide (65 ≤ (x675.toNat : Int))) then (decide ((x675.toNat : Int) ≤ 90)) else false)) then true else ((x675.toNat : Int) == 95)) then true else (if (if (decide (0 < y673)) then (decide (48 ≤ (x675.toNat : Int))) else false) then (decide ((x675.toNat : Int) ≤ 57)) else false))) rfl) rfl ?_
        refine rw_nil ?_
        refine q_seq ?_
        refine w_if (p := (!(if (if (if (if (decide (97 ≤ (x675.toNat : Int))) then (decide ((x675.toNat : Int) ≤ 122)) else false) then true else (if (decide (65 ≤ (x675.toNat : Int))) then (decide ((x675.toNat : Int) ≤ 90)) else false)) then true else ((x675.toNat : Int) == 95)) then true else (if (if (decide (0 < y673)) then (decide (48 ≤ (x675.toNat : Int))) else false) then (decide ((x675.toNat : Int) ≤ 57)) else false)))) hF rfl (fun hb677 hF => ?_) (fun hb677 hF => ?_)
        · refine v_seq ?_
          refine w_reg ?_
          refine rw_p (ov_assign (v := (B false)) rfl) rfl ?_
          refine rw_nil ?_
          refine q_seq ?_
          refine w_ret ?_
          refine q_blkR ?_
          refine q_seqR ?_
          obtain rfl := Option.some.inj hF
          exact q_outR (relR ⟨rfl, (fin_ret (res_tmp (pk_of (v := (B false)) rfl rfl) res_nil) rfl rfl)⟩)
        · refine w_skip ?_
          refine q_blk ?_
          refine q_seq ?_
          refine w_reg ?_
          refine rw_p (ov_add (k := .i64) (a := y673) (b := 1) rfl rfl) rfl ?_
          refine rw_p (ov_move (v := (I (w64 (y673 + 1)))) rfl) rfl ?_
          refine rw_nil ?_
          obtain rfl := Option.some.inj hF
          exact q_next (renorm_of (packL_mk (pk_of (v := (AV.val (.string a0))) rfl rfl) (packL_mk (pk_of (v := (I (a0.size : Int))) rfl rfl) (packL_mk (pk_of (v := (I (w64 (y673 + 1)))) rfl rfl) packL_0))) rfl)
      · refine w_exit ?_
        refine q_seqE ?_
        obtain rfl := Option.some.inj hF
        refine q_out (relB ?_)
        exact ⟨_, _, rfl, trivial⟩
    · rintro x684 hr685
      cases o679 with
      | ret r686 =>
        replace hF : some r686 = some r := hF
        obtain rfl := Option.some.inj hF
        obtain ⟨xe, xs⟩ := x684
        obtain ⟨hxe, hfin⟩ := hr685
        obtain rfl : xe = Exit.ret := hxe
        refine q_blkR ?_
        refine q_seqR ?_
        exact hfin
      | brk b681 =>
        obtain ⟨t682, h683, rfl, _⟩ := hr685
        refine q_blkH ?_
        refine q_seq ?_
        refine v_seq ?_
        refine w_reg ?_
        refine rw_p (ov_assign (v := (B true)) rfl) rfl ?_
        refine rw_nil ?_
        refine q_seq ?_
        refine w_ret ?_
        obtain rfl := Option.some.inj hF
        exact (fin_ret (res_tmp (pk_of (v := (B true)) rfl rfl) res_nil) rfl rfl)

/-! slices.Index[[]string,string] -/
noncomputable def slices_Index_string_string_L1 (a0 : (List ByteArray)) (a1 : ByteArray) (y690 : Int) : Option (Lp Int (Br Unit Int)) :=
  if (decide (y690 < (a0.length : Int))) then
  ((idx a0 y690).bind fun x692 =>
  if (a1.toList == x692.toList) then
  (some (.out (.ret y690)))
  else
  (some (.next (w64 (y690 + 1)))))
  else
  (some (.out (.brk ())))
noncomputable def slices_Index_string_string (a0 : (List ByteArray)) (a1 : ByteArray) : Option Int :=
  (Loop (fun (s : Int) => slices_Index_string_string_L1 a0 a1 s) 0).bind fun o696 => match o696 with
  | .ret r703 => some r703
  | .brk b698 =>
  some (-1)
abbrev RV57 : List ResultVar := [.tmp 4]
def R_slices_Index_string_string (r : Int) : AV := (I r)
set_option maxHeartbeats 2000000 in
theorem T_slices_Index_string_string (nn : Nat) (a0 : (List ByteArray)) (a1 : ByteArray) (r : Int) (hF : slices_Index_string_string a0 a1 = some r) : den cx (nn + 1) 57 [(AV.sl ((a0).map cStr)), (AV.val (.string a1))] = some (R_slices_Index_string_string r, []) := by
  unfold slices_Index_string_string at hF
  refine fn_of (nn := nn) (rv := RV57) (cxE _) Tryd.func57 rfl rfl Tryd.ntmps57 (cxL _) rfl ?_
  show W cx 57 _ _ ⟨19, (upd (upd (fun _ => AV.junk) 1 (AV.val (.string a1))) 0 (AV.sl ((a0).map cStr))), (fun _ => none)⟩ _
  refine v_seq ?_
  refine w_reg ?_
  refine rw_p (ov_assign (v := (I 0)) rfl) rfl ?_
  refine rw_nil ?_
  refine q_seq ?_
  refine v_seq ?_
  refine v_seq ?_
  refine w_reg ?_
  refine rw_p (ov_move (v := (AV.sl ((a0).map cStr))) rfl) rfl ?_
  refine rw_p (ov_lenSl (m := a0.length) Tryd.underlying78 rfl rfl rfl (List.length_map _)) rfl ?_
  refine rw_p (ov_move (v := (I 0)) rfl) rfl ?_
  refine rw_nil ?_
  refine q_seq ?_
  refine v_block ?_
  obtain ⟨o696, hL697, hF⟩ := bindS hF
  refine v_loop (fun (s : Int) => [(AV.sl ((a0).map cStr)), (AV.val (.string a1)), (I (a0.length : Int)), (I s)]) (RelO (fun (s : Unit) x => ∃ t h, x = (Exit.exit 0, ⟨19, t, h⟩) ∧ True) (fun r x => x.1 = Exit.ret ∧ Fin cx RV57 (R_slices_Index_string_string r) x)) hL697 lv57_2 (renorm_of (packL_mk (pk_of (v := (AV.sl ((a0).map cStr))) rfl rfl) (packL_mk (pk_of (v := (AV.val (.string a1))) rfl rfl) (packL_mk (pk_of (v := (I (a0.length : Int))) rfl rfl) (packL_mk (pk_of (v := (I 0)) rfl rfl) packL_0)))) rfl) ?_ ?_
  · rintro y690 z691 hF
    replace hF : slices_Index_string_string_L1 a0 a1 y690 = some z691 := hF
    unfold slices_Index_string_string_L1 at hF
    show W cx 57 _ _ ⟨19, (upd (upd (upd (upd (fun _ => AV.junk) 8 (I y690)) 7 (I (a0.length : Int))) 1 (AV.val (.string a1))) 0 (AV.sl ((a0).map cStr))), (fun _ => none)⟩ _
    refine v_seq ?_
    refine w_reg ?_
    refine rw_p (ov_lss (k := .i64) (a := y690) (b := (a0.length : Int)) rfl rfl) rfl ?_
    refine rw_nil ?_
    refine q_seq ?_
    refine v_seq ?_
    refine w_if (p := (decide (y690 < (a0.length : Int)))) hF rfl (fun hb695 hF => ?_) (fun hb695 hF => ?_)
    · refine w_skip ?_
      refine q_seq ?_
      refine v_seq ?_
      refine v_block ?_
      refine v_seq ?_
      refine w_reg ?_
      refine rw_p (ov_move (v := (I y690)) rfl) rfl ?_
      refine rw_p (ov_assign (v := (I y690)) rfl) rfl ?_
      refine rw_nil ?_
      refine q_seq ?_
      refine v_seq ?_
      refine w_reg ?_
      refine rw_p (ov_move (v := (AV.val (.string a1))) rfl) rfl ?_
      refine rw_p (ov_move (v := (AV.sl ((a0).map cStr))) rfl) rfl ?_
      refine rw_p (ov_move (v := (I y690)) rfl) rfl ?_
      obtain ⟨x692, hx693, hF⟩ := bindS hF
      refine rw_p (ov_indexAddr (k := .i64) (c := cStr) (q := a0) (i := y690) Tryd.underlying78 sz9 rfl rfl rfl hx693 rfl) rfl ?_
      refine rw_p (ov_load (v := (AV.val (.string x692))) ag9 sz9 rfl rfl rfl) rfl ?_
      refine rw_p (ov_eqlS rfl rfl) rfl ?_
      refine rw_nil ?_
      refine q_seq ?_
      refine w_if (p := (a1.toList == x692.toList)) hF rfl (fun hb694 hF => ?_) (fun hb694 hF => ?_)
      · refine v_seq ?_
        refine w_reg ?_
        refine rw_p (ov_move (v := (I y690)) rfl) rfl ?_
        refine rw_p (ov_assign (v := (I y690)) rfl) rfl ?_
        refine rw_nil ?_
        refine q_seq ?_
        refine w_ret ?_
        refine q_blkR ?_
        refine q_seqR ?_
        obtain rfl := Option.some.inj hF
        exact q_outR (relR ⟨rfl, (fin_ret (res_tmp (pk_of (v := (I y690)) rfl rfl) res_nil) rfl rfl)⟩)
      · refine w_skip ?_
        refine q_blk ?_
        refine q_seq ?_
        refine w_reg ?_
        refine rw_p (ov_add (k := .i64) (a := y690) (b := 1) rfl rfl) rfl ?_
        refine rw_p (ov_move (v := (I (w64 (y690 + 1)))) rfl) rfl ?_
        refine rw_nil ?_
        obtain rfl := Option.some.inj hF
        exact q_next (renorm_of (packL_mk (pk_of (v := (AV.sl ((a0).map cStr))) rfl rfl) (packL_mk (pk_of (v := (AV.val (.string a1))) rfl rfl) (packL_mk (pk_of (v := (I (a0.length : Int))) rfl rfl) (packL_mk (pk_of (v := (I (w64 (y690 + 1)))) rfl rfl) packL_0)))) rfl)
    · refine w_exit ?_
      refine q_seqE ?_
      obtain rfl := Option.some.inj hF
      refine q_out (relB ?_)
      exact ⟨_, _, rfl, trivial⟩
  · rintro x701 hr702
    cases o696 with
    | ret r703 =>
      replace hF : some r703 = some r := hF
      obtain rfl := Option.some.inj hF
      obtain ⟨xe, xs⟩ := x701
      obtain ⟨hxe, hfin⟩ := hr702
      obtain rfl : xe = Exit.ret := hxe
      refine q_blkR ?_
      refine q_seqR ?_
      exact hfin
    | brk b698 =>
      obtain ⟨t699, h700, rfl, _⟩ := hr702
      refine q_blkH ?_
      refine q_seq ?_
      refine v_seq ?_
      refine w_reg ?_
      refine rw_p (ov_assign (v := (I (-1))) rfl) rfl ?_
      refine rw_nil ?_
      refine q_seq ?_
      refine w_ret ?_
      obtain rfl := Option.some.inj hF
      exact (fin_ret (res_tmp (pk_of (v := (I (-1))) rfl rfl) res_nil) rfl rfl)

/-! slices.Contains[[]string,string] -/

noncomputable def slices_Contains_string_string (a0 : (List ByteArray)) (a1 : ByteArray) : Option Bool :=
  (slices_Index_string_string a0 a1).bind fun x704 =>
  some (decide (0 ≤ x704))
abbrev RV37 : List ResultVar := [.tmp 4]
def R_slices_Contains_string_string (r : Bool) : AV := (B r)
set_option maxHeartbeats 2000000 in
theorem T_slices_Contains_string_string (nn : Nat) (a0 : (List ByteArray)) (a1 : ByteArray) (r : Bool) (hF : slices_Contains_string_string a0 a1 = some r) : den cx (nn + 2) 37 [(AV.sl ((a0).map cStr)), (AV.val (.string a1))] = some (R_slices_Contains_string_string r, []) := by
  unfold slices_Contains_string_string at hF
  refine fn_of (nn := (nn + 1)) (rv := RV37) (cxE _) Tryd.func37 rfl rfl Tryd.ntmps37 (cxL _) rfl ?_
  show W cx 37 _ _ ⟨9, (upd (upd (fun _ => AV.junk) 1 (AV.val (.string a1))) 0 (AV.sl ((a0).map cStr))), (fun _ => none)⟩ _
  refine v_seq ?_
  refine w_reg ?_
  refine rw_p (ov_assign (v := (B false)) rfl) rfl ?_
  refine rw_nil ?_
  refine q_seq ?_
  refine v_seq ?_
  refine w_reg ?_
  refine rw_p (ov_move (v := (AV.sl ((a0).map cStr))) rfl) rfl ?_
  refine rw_p (ov_move (v := (AV.val (.string a1))) rfl) rfl ?_
  obtain ⟨x704, hx705, hF⟩ := bindS hF
  refine rw_p (ov_call (args := [(AV.sl ((a0).map cStr)), (AV.val (.string a1))]) (r := (R_slices_Index_string_string x704)) (v := (I x704)) rfl (cons_eq rfl (cons_eq rfl rfl)) rfl rfl (T_slices_Index_string_string nn a0 a1 x704 hx705) fz37 rfl rfl) rfl ?_
  refine rw_p (ov_geq (k := .i64) (a := x704) (b := 0) rfl rfl) rfl ?_
  refine rw_p (ov_assign (v := (B (decide (0 ≤ x704)))) rfl) rfl ?_
  refine rw_nil ?_
  refine q_seq ?_
  refine w_ret ?_
  obtain rfl := Option.some.inj hF
  exact (fin_ret (res_tmp (pk_of (v := (B (decide (0 ≤ x704)))) rfl rfl) res_nil) rfl rfl)

/-! turnery/core.Within -/

noncomputable def core_Within (a0 : Int) (a1 : Int) (a2 : Int) : Option Bool :=
  some (if (decide (a1 ≤ a0)) then (decide (a0 ≤ a2)) else false)
abbrev RV33 : List ResultVar := [.tmp 6]
def R_core_Within (r : Bool) : AV := (B r)
set_option maxHeartbeats 2000000 in
theorem T_core_Within (nn : Nat) (a0 : Int) (a1 : Int) (a2 : Int) (r : Bool) (hF : core_Within a0 a1 a2 = some r) : den cx (nn + 1) 33 [(I a0), (I a1), (I a2)] = some (R_core_Within r, []) := by
  unfold core_Within at hF
  refine fn_of (nn := nn) (rv := RV33) (cxE _) Tryd.func33 rfl rfl Tryd.ntmps33 (cxL _) rfl ?_
  show W cx 33 _ _ ⟨15, (upd (upd (upd (fun _ => AV.junk) 2 (I a2)) 1 (I a1)) 0 (I a0)), (fun _ => none)⟩ _
  refine v_seq ?_
  refine w_reg ?_
  refine rw_p (ov_assign (v := (B false)) rfl) rfl ?_
  refine rw_nil ?_
  refine q_seq ?_
  refine v_seq ?_
  refine w_reg ?_
  refine rw_p (ov_move (v := (I a0)) rfl) rfl ?_
  refine rw_p (ov_move (v := (I a1)) rfl) rfl ?_
  refine rw_p (ov_geq (k := .i64) (a := a0) (b := a1) rfl rfl) rfl ?_
  refine rw_p (ov_move (v := (B (decide (a1 ≤ a0)))) rfl) rfl ?_
  refine rw_g rfl (ov_move (v := (I a0)) rfl) rfl ?_
  refine rw_g rfl (ov_move (v := (I a2)) rfl) rfl ?_
  refine rw_g rfl (ov_leq (k := .i64) (a := a0) (b := a2) (un_self _) (un_self _)) rfl ?_
  refine rw_p (ov_pickB (p := (decide (a1 ≤ a0))) (q := (decide (a0 ≤ a2))) (r := false) rfl (un_imp (by generalize (decide (a1 ≤ a0)) = u0; cases u0 <;> rfl)) rfl) rfl ?_
  refine rw_p (ov_assign (v := (B (if (decide (a1 ≤ a0)) then (decide (a0 ≤ a2)) else false))) rfl) rfl ?_
  refine rw_nil ?_
  refine q_seq ?_
  refine w_ret ?_
  obtain rfl := Option.some.inj hF
  exact (fin_ret (res_tmp (pk_of (v := (B (if (decide (a1 ≤ a0)) then (decide (a0 ≤ a2)) else false))) rfl rfl) res_nil) rfl rfl)

end Go.Ab
