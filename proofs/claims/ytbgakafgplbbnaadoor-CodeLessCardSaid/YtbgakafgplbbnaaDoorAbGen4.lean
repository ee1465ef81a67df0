/-
  Functions of the program as functions on plain data (written by gen.py).
-/
import Derived.Test.YtbgakafgplbbnaaDoorAbGen3
namespace Go.Ab
open Go Go.Proofs
/-! (turnery/code.checker).ins -/
noncomputable def code_checker_ins_J1 (a0 : XCode_checker) (a1 : XApi_Ins) : Option Int :=
  (code_first__f82_f83_f84 a0 a1 a0 a1 (a1.Op == 20) a1 a0).bind fun x1120 =>
  some x1120
noncomputable def code_checker_ins (a0 : XCode_checker) (a1 : XApi_Ins) : Option Int :=
  (core_Within a1.Op 1 22).bind fun x1049 =>
  if (!x1049) then
  (some 4)
  else
  ((core_Shapes a1.Op).bind fun x1056 =>
  if (if (if (if (if (!x1056.Dst) then (a1.Dst != (-1)) else false) then true else (if (!x1056.A) then (!((a1.A.Reg == false) && ((a1.A.N == 0) && true))) else false)) then true else (if (!x1056.B) then (!((a1.B.Reg == false) && ((a1.B.N == 0) && true))) else false)) then true else (if (!(a1.Op == 20)) then (if (a1.Func != 0) then true else (decide (0 < (a1.Args.length : Int)))) else false)) then
  (some 5)
  else
  (if (if x1056.Dst then (!(if (a1.Op == 20) then (a1.Dst == (-1)) else false)) else false) then
  ((code_checker_dst a0 a1.Dst).bind fun x1122 =>
  if (x1122 != 0) then
  (some x1122)
  else
  (code_checker_ins_J1 a0 a1))
  else
  (code_checker_ins_J1 a0 a1)))
abbrev RV60 : List ResultVar := [.tmp 4]
def R_code_checker_ins (r : Int) : AV := (I r)
set_option maxHeartbeats 2000000 in
theorem T_code_checker_ins (nn : Nat) (a0 : XCode_checker) (a1 : XApi_Ins) (r : Int) (hF : code_checker_ins a0 a1 = some r) : den cx (nn + 5) 60 [(AV.agg (cXCode_checker a0)), (AV.agg (cXApi_Ins a1))] = some (R_code_checker_ins r, []) := by
  unfold code_checker_ins at hF
  refine fn_of (nn := (nn + 4)) (rv := RV60) (cxE _) Tryd.func60 rfl rfl Tryd.ntmps60 (cxL _) rfl ?_
  show W cx 60 _ _ ⟨86, (upd (upd (fun _ => AV.junk) 1 (AV.agg (cXApi_Ins a1))) 0 (AV.agg (cXCode_checker a0))), (fun _ => none)⟩ _
  refine v_seq ?_
  refine w_reg ?_
  refine rw_p (ov_boxF (cs := cXCode_checker a0) (cs' := cXCode_checker a0) ag82 fz60 rfl rfl rfl rfl rfl) rfl ?_
  refine rw_p (ov_boxF (cs := cXApi_Ins a1) (cs' := cXApi_Ins a1) ag56 fz60 rfl rfl rfl rfl rfl) rfl ?_
  refine rw_p (ov_assign (v := (I 0)) rfl) rfl ?_
  refine rw_nil ?_
  refine q_seq ?_
  refine v_seq ?_
  refine v_seq ?_
  refine w_reg ?_
  refine rw_p (ov_fieldAddr (cells' := (cXApi_Ins a1)) fd56_0 rfl rfl rfl rfl) rfl ?_
  refine rw_p (ov_load (v := (I a1.Op)) ag3 sz3 rfl rfl rfl) rfl ?_
  obtain ⟨x1049, hx1050, hF⟩ := bindS hF
  refine rw_p (ov_call (args := [(I a1.Op), (I 1), (I 22)]) (r := (R_core_Within x1049)) (v := (B x1049)) rfl (cons_eq rfl (cons_eq rfl (cons_eq rfl rfl))) rfl rfl (T_core_Within (nn + 3) a1.Op 1 22 x1049 hx1050) fz60 rfl rfl) rfl ?_
  refine rw_p (ov_not (p := x1049) rfl) rfl ?_
  refine rw_nil ?_
  refine q_seq ?_
  refine w_if (p := (!x1049)) hF rfl (fun hb1127 hF => ?_) (fun hb1127 hF => ?_)
  · refine v_seq ?_
    refine w_reg ?_
    refine rw_p (ov_assign (v := (I 4)) rfl) rfl ?_
    refine rw_nil ?_
    refine q_seq ?_
    refine w_ret ?_
    refine q_seqR ?_
    obtain rfl := Option.some.inj hF
    exact (fin_ret (res_tmp (pk_of (v := (I 4)) rfl rfl) res_nil) rfl rfl)
  · refine w_skip ?_
    refine q_seq ?_
    refine v_seq ?_
    refine w_reg ?_
    refine rw_p (ov_fieldAddr (cells' := (cXApi_Ins a1)) fd56_0 rfl rfl rfl rfl) rfl ?_
    refine rw_p (ov_load (v := (I a1.Op)) ag3 sz3 rfl rfl rfl) rfl ?_
    obtain ⟨x1056, hx1057, hF⟩ := bindS hF
    refine rw_p (ov_call (args := [(I a1.Op)]) (r := (R_core_Shapes x1056)) (v := (AV.agg (cXCore_Shape x1056))) rfl (cons_eq rfl rfl) rfl rfl (T_core_Shapes (nn + 3) a1.Op x1056 hx1057) fz60 rfl rfl) rfl ?_
    refine rw_w (ov_alloc zm131 rfl) rfl ?_
    refine rw_w (ov_storeF (v := (AV.agg (cXCore_Shape x1056))) (cs := cXCore_Shape x1056) (cs' := cXCore_Shape x1056) ag131 sz131 rfl rfl rfl rfl rfl rfl fz60 rfl rfl rfl) rfl ?_
    refine rw_nil ?_
    refine q_seq ?_
    refine v_seq ?_
    refine w_reg ?_
    refine rw_p (ov_fieldAddr (cells' := (cXApi_Ins a1)) fd56_0 rfl rfl rfl rfl) rfl ?_
    refine rw_p (ov_load (v := (I a1.Op)) ag3 sz3 rfl rfl rfl) rfl ?_
    refine rw_p (ov_eql (k := .i64) (a := a1.Op) (b := 20) rfl rfl) rfl ?_
    refine rw_w (ov_alloc zm4 rfl) rfl ?_
    refine rw_w (ov_storeF (v := (B (a1.Op == 20))) (cs := cBool (a1.Op == 20)) (cs' := cBool (a1.Op == 20)) ag4 sz4 rfl rfl rfl rfl rfl rfl fz60 rfl rfl rfl) rfl ?_
    refine rw_nil ?_
    refine q_seq ?_
    refine v_seq ?_
    refine v_seq ?_
    refine w_reg ?_
    refine rw_p (ov_fieldAddr (cells' := (cXCore_Shape x1056)) fd131_0 rfl rfl rfl rfl) rfl ?_
    refine rw_p (ov_load (v := (B x1056.Dst)) ag4 sz4 rfl rfl rfl) rfl ?_
    refine rw_p (ov_not (p := x1056.Dst) rfl) rfl ?_
    refine rw_p (ov_move (v := (B (!x1056.Dst))) rfl) rfl ?_
    refine rw_g rfl (ov_fieldAddr (cells' := ((cXApi_Ins a1).drop 1)) fd56_1 rfl rfl rfl rfl) rfl ?_
    refine rw_g rfl (ov_load (v := (I a1.Dst)) ag3 sz3 (un_self _) rfl rfl) rfl ?_
    refine rw_g rfl (ov_neq (k := .i64) (a := a1.Dst) (b := (-1)) (un_self _) rfl) rfl ?_
    refine rw_p (ov_pickB (p := (!x1056.Dst)) (q := (a1.Dst != (-1))) (r := false) rfl (un_imp (by generalize (!x1056.Dst) = u0; cases u0 <;> rfl)) rfl) rfl ?_
    refine rw_p (ov_move (v := (B (if (!x1056.Dst) then (a1.Dst != (-1)) else false))) rfl) rfl ?_
    refine rw_g rfl (ov_fieldAddr (cells' := ((cXCore_Shape x1056).drop 1)) fd131_1 rfl rfl rfl rfl) rfl ?_
    refine rw_g rfl (ov_load (v := (B x1056.A)) ag4 sz4 (un_self _) rfl rfl) rfl ?_
    refine rw_g rfl (ov_not (p := x1056.A) (un_self _)) rfl ?_
    refine rw_g rfl (ov_move (v := (B (!x1056.A))) (un_self _)) rfl ?_
    refine rw_g rfl (ov_fieldAddr (cells' := ((cXApi_Ins a1).drop 2)) fd56_2 rfl rfl rfl rfl) rfl ?_
    refine rw_g rfl (ov_load (v := (AV.agg (cXApi_Val a1.A))) ag47 sz47 (un_self _) rfl rfl) rfl ?_
    refine rw_g rfl (ov_build (ps := []) (cs := cXApi_Val (XApi_Val.mk false 0)) zc47 pl47  rfl rfl) rfl ?_
    refine rw_g rfl (ov_bin (un_self _) (un_self _) rfl rfl (eq47_neq _ _ a1.A.Reg false a1.A.N 0) rfl) rfl ?_
    refine rw_g rfl (ov_pickB (p := (!x1056.A)) (q := (!((a1.A.Reg == false) && ((a1.A.N == 0) && true)))) (r := false) (un_self _) (un_imp (by generalize (if (!x1056.Dst) then (a1.Dst != (-1)) else false) = u0; generalize (!x1056.A) = u1; cases u0 <;> cases u1 <;> rfl)) rfl) rfl ?_
    refine rw_p (ov_pickB (p := (if (!x1056.Dst) then (a1.Dst != (-1)) else false)) (q := true) (r := (if (!x1056.A) then (!((a1.A.Reg == false) && ((a1.A.N == 0) && true))) else false)) rfl rfl (un_imp (by generalize (if (!x1056.Dst) then (a1.Dst != (-1)) else false) = u0; cases u0 <;> rfl))) rfl ?_
    refine rw_p (ov_move (v := (B (if (if (!x1056.Dst) then (a1.Dst != (-1)) else false) then true else (if (!x1056.A) then (!((a1.A.Reg == false) && ((a1.A.N == 0) && true))) else false)))) rfl) rfl ?_
    refine rw_g rfl (ov_fieldAddr (cells' := ((cXCore_Shape x1056).drop 2)) fd131_2 rfl rfl rfl rfl) rfl ?_
    refine rw_g rfl (ov_load (v := (B x1056.B)) ag4 sz4 (un_self _) rfl rfl) rfl ?_
    refine rw_g rfl (ov_not (p := x1056.B) (un_self _)) rfl ?_
    refine rw_g rfl (ov_move (v := (B (!x1056.B))) (un_self _)) rfl ?_
    refine rw_g rfl (ov_fieldAddr (cells' := ((cXApi_Ins a1).drop 4)) fd56_3 rfl rfl rfl rfl) rfl ?_
    refine rw_g rfl (ov_load (v := (AV.agg (cXApi_Val a1.B))) ag47 sz47 (un_self _) rfl rfl) rfl ?_
    refine rw_g rfl (ov_build (ps := []) (cs := cXApi_Val (XApi_Val.mk false 0)) zc47 pl47  rfl rfl) rfl ?_
    refine rw_g rfl (ov_bin (un_self _) (un_self _) rfl rfl (eq47_neq _ _ a1.B.Reg false a1.B.N 0) rfl) rfl ?_
    refine rw_g rfl (ov_pickB (p := (!x1056.B)) (q := (!((a1.B.Reg == false) && ((a1.B.N == 0) && true)))) (r := false) (un_self _) (un_imp (by generalize (if (if (!x1056.Dst) then (a1.Dst != (-1)) else false) then true else (if (!x1056.A) then (!((a1.A.Reg == false) && ((a1.A.N == 0) && true))) else false)) = u0; generalize (!x1056.B) = u1; cases u0 <;> cases u1 <;> rfl)) rfl) rfl ?_
    refine rw_p (ov_pickB (p := (if (if (!x1056.Dst) then (a1.Dst != (-1)) else false) then true else (if (!x1056.A) then (!((a1.A.Reg == false) && ((a1.A.N == 0) && true))) else false))) (q := true) (r := (if (!x1056.B) then (!((a1.B.Reg == false) && ((a1.B.N == 0) && true))) else false)) rfl rfl (un_imp (by generalize (if (if (!x1056.Dst) then (a1.Dst != (-1)) else false) then true else (if (!x1056.A) then (!((a1.A.Reg == false) && ((a1.A.N == 0) && true))) else false)) = u0; cases u0 <;> rfl))) rfl ?_
    refine rw_p (ov_move (v := (B (if (if (if (!x1056.Dst) then (a1.Dst != (-1)) else false) then true else (if (!x1056.A) then (!((a1.A.Reg == false) && ((a1.A.N == 0) && true))) else false)) then true else (if (!x1056.B) then (!((a1.B.Reg == false) && ((a1.B.N == 0) && true))) else false)))) rfl) rfl ?_
    refine rw_g rfl (ov_load (v := (B (a1.Op == 20))) ag4 sz4 rfl rfl rfl) rfl ?_
    refine rw_g rfl (ov_not (p := (a1.Op == 20)) (un_self _)) rfl ?_
    refine rw_g rfl (ov_move (v := (B (!(a1.Op == 20)))) (un_self _)) rfl ?_
    refine rw_g rfl (ov_fieldAddr (cells' := ((cXApi_Ins a1).drop 6)) fd56_4 rfl rfl rfl rfl) rfl ?_
    refine rw_g rfl (ov_load (v := (I a1.Func)) ag3 sz3 (un_self _) rfl rfl) rfl ?_
    refine rw_g rfl (ov_neq (k := .i64) (a := a1.Func) (b := 0) (un_self _) rfl) rfl ?_
    refine rw_g rfl (ov_move (v := (B (a1.Func != 0))) (un_self _)) rfl ?_
    refine rw_g rfl (ov_fieldAddr (cells' := ((cXApi_Ins a1).drop 7)) fd56_5 rfl rfl rfl rfl) rfl ?_
    refine rw_g rfl (ov_load (v := (AV.sl ((a1.Args).map cXApi_Val))) ag54 sz54 (un_self _) rfl rfl) rfl ?_
    refine rw_g rfl (ov_lenSl (m := a1.Args.length) Tryd.underlying54 rfl rfl (un_self _) (List.length_map _)) rfl ?_
    refine rw_g rfl (ov_gtr (k := .i64) (a := (a1.Args.length : Int)) (b := 0) (un_self _) rfl) rfl ?_
    refine rw_g rfl (ov_pickB (p := (a1.Func != 0)) (q := true) (r := (decide (0 < (a1.Args.length : Int)))) (un_self _) rfl (un_imp (by generalize (if (if (if (!x1056.Dst) then (a1.Dst != (-1)) else false) then true else (if (!x1056.A) then (!((a1.A.Reg == false) && ((a1.A.N == 0) && true))) else false)) then true else (if (!x1056.B) then (!((a1.B.Reg == false) && ((a1.B.N == 0) && true))) else false)) = u0; generalize (!(a1.Op == 20)) = u1; generalize (a1.Func != 0) = u2; cases u0 <;> cases u1 <;> cases u2 <;> rfl))) rfl ?_
    refine rw_g rfl (ov_pickB (p := (!(a1.Op == 20))) (q := (if (a1.Func != 0) then true else (decide (0 < (a1.Args.length : Int))))) (r := false) (un_self _) (un_imp (by generalize (if (if (if (!x1056.Dst) then (a1.Dst != (-1)) else false) then true else (if (!x1056.A) then (!((a1.A.Reg == false) && ((a1.A.N == 0) && true))) else false)) then true else (if (!x1056.B) then (!((a1.B.Reg == false) && ((a1.B.N == 0) && true))) else false)) = u0; generalize (!(a1.Op == 20)) = u1; cases u0 <;> cases u1 <;> rfl)) rfl) rfl ?_
    refine rw_p (ov_pickB (p := (if (if (if (!x1056.Dst) then (a1.Dst != (-1)) else false) then true else (if (!x1056.A) then (!((a1.A.Reg == false) && ((a1.A.N == 0) && true))) else false)) then true else (if (!x1056.B) then (!((a1.B.Reg == false) && ((a1.B.N == 0) && true))) else false))) (q := true) (r := (if (!(a1.Op == 20)) then (if (a1.Func != 0) then true else (decide (0 < (a1.Args.length : Int)))) else false)) rfl rfl (un_imp (by generalize (if (if (if (!x1056.Dst) then (a1.Dst != (-1)) else false) then true else (if (!x1056.A) then (!((a1.A.Reg == false) && ((a1.A.N == 0) && true))) else false)) then true else (if (!x1056.B) then (!((a1.B.Reg == false) && ((a1.B.N == 0) && true))) else false)) = u0; cases u0 <;> rfl))) rfl ?_
    refine rw_nil ?_
    refine q_seq ?_
    refine w_if (p := (if (if (if (if (!x1056.Dst) then (a1.Dst != (-1)) else false) then true else (if (!x1056.A) then (!((a1.A.Reg == false) && ((a1.A.N == 0) && true))) else false)) then true else (if (!x1056.B) then (!((a1.B.Reg == false) && ((a1.B.N == 0) && true))) else false)) then true else (if (!(a1.Op == 20)) then (if (a1.Func != 0) then true else (decide (0 < (a1.Args.length : Int)))) else false))) hF rfl (fun hb1126 hF => ?_) (fun hb1126 hF => ?_)
    · refine v_seq ?_
      refine w_reg ?_
      refine rw_p (ov_assign (v := (I 5)) rfl) rfl ?_
      refine rw_nil ?_
      refine q_seq ?_
      refine w_ret ?_
      refine q_seqR ?_
      obtain rfl := Option.some.inj hF
      exact (fin_ret (res_tmp (pk_of (v := (I 5)) rfl rfl) res_nil) rfl rfl)
    · refine w_skip ?_
      refine q_seq ?_
      refine v_join (σ := Unit) (r := r) 86 (fun s t h => t 2 = (AV.vp (cXCode_checker a0)) ∧ t 3 = (AV.vp (cXApi_Ins a1)) ∧ t 6 = (AV.vp (cBool (a1.Op == 20))) ∧ h [85] = none) (fun s => code_checker_ins_J1 a0 a1) ?_ ?_
      · refine v_seq ?_
        refine w_reg ?_
        refine rw_p (ov_fieldAddr (cells' := (cXCore_Shape x1056)) fd131_0 rfl rfl rfl rfl) rfl ?_
        refine rw_p (ov_load (v := (B x1056.Dst)) ag4 sz4 rfl rfl rfl) rfl ?_
        refine rw_p (ov_move (v := (B x1056.Dst)) rfl) rfl ?_
        refine rw_g rfl (ov_load (v := (B (a1.Op == 20))) ag4 sz4 rfl rfl rfl) rfl ?_
        refine rw_g rfl (ov_move (v := (B (a1.Op == 20))) (un_self _)) rfl ?_
        refine rw_g rfl (ov_fieldAddr (cells' := ((cXApi_Ins a1).drop 1)) fd56_1 rfl rfl rfl rfl) rfl ?_
        refine rw_g rfl (ov_load (v := (I a1.Dst)) ag3 sz3 (un_self _) rfl rfl) rfl ?_
        refine rw_g rfl (ov_eql (k := .i64) (a := a1.Dst) (b := (-1)) (un_self _) rfl) rfl ?_
        refine rw_g rfl (ov_pickB (p := (a1.Op == 20)) (q := (a1.Dst == (-1))) (r := false) (un_self _) (un_imp (by generalize (a1.Op == 20) = u0; generalize x1056.Dst = u1; cases u0 <;> cases u1 <;> rfl)) rfl) rfl ?_
        refine rw_g rfl (ov_not (p := (if (a1.Op == 20) then (a1.Dst == (-1)) else false)) (un_self _)) rfl ?_
        refine rw_p (ov_pickB (p := x1056.Dst) (q := (!(if (a1.Op == 20) then (a1.Dst == (-1)) else false))) (r := false) rfl (un_imp (by generalize x1056.Dst = u0; cases u0 <;> rfl)) rfl) rfl ?_
        refine rw_nil ?_
        refine q_seq ?_
        refine w_if (p := (if x1056.Dst then (!(if (a1.Op == 20) then (a1.Dst == (-1)) else false)) else false)) hF rfl (fun hb1125 hF => ?_) (fun hb1125 hF => ?_)
        · refine v_seq ?_
          refine w_reg ?_
          refine rw_p (ov_load (v := (AV.agg (cXCode_checker a0))) ag82 sz82 rfl rfl rfl) rfl ?_
          refine rw_p (ov_fieldAddr (cells' := ((cXApi_Ins a1).drop 1)) fd56_1 rfl rfl rfl rfl) rfl ?_
          refine rw_p (ov_load (v := (I a1.Dst)) ag3 sz3 rfl rfl rfl) rfl ?_
          obtain ⟨x1122, hx1123, hF⟩ := bindS hF
          refine rw_p (ov_call (args := [(AV.agg (cXCode_checker a0)), (I a1.Dst)]) (r := (R_code_checker_dst x1122)) (v := (I x1122)) rfl (cons_eq rfl (cons_eq rfl rfl)) rfl rfl (T_code_checker_dst (nn + 2) a0 a1.Dst x1122 hx1123) fz60 rfl rfl) rfl ?_
          refine rw_p (ov_assign (v := (I x1122)) rfl) rfl ?_
          refine rw_nil ?_
          refine q_seq ?_
          refine v_seq ?_
          refine w_reg ?_
          refine rw_p (ov_move (v := (I x1122)) rfl) rfl ?_
          refine rw_p (ov_neq (k := .i64) (a := x1122) (b := 0) rfl rfl) rfl ?_
          refine rw_nil ?_
          refine q_seq ?_
          refine w_if (p := (x1122 != 0)) hF rfl (fun hb1124 hF => ?_) (fun hb1124 hF => ?_)
          · refine v_seq ?_
            refine w_reg ?_
            refine rw_p (ov_move (v := (I x1122)) rfl) rfl ?_
            refine rw_p (ov_assign (v := (I x1122)) rfl) rfl ?_
            refine rw_nil ?_
            refine q_seq ?_
            refine w_ret ?_
            refine q_joinR ?_
            obtain rfl := Option.some.inj hF
            exact (fin_ret (res_tmp (pk_of (v := (I x1122)) rfl rfl) res_nil) rfl rfl)
          · refine w_skip ?_
            refine q_join ?_
            exact ⟨(), _, _, rfl, ⟨rfl, rfl, rfl, rfl⟩, hF⟩
        · refine w_skip ?_
          refine q_join ?_
          exact ⟨(), _, _, rfl, ⟨rfl, rfl, rfl, rfl⟩, hF⟩
      · rintro _ t1062 h1063 ⟨e1064, e1065, e1066, e1067⟩ hF
        replace hF : code_checker_ins_J1 a0 a1  = some r := hF
        unfold code_checker_ins_J1 at hF
        refine v_seq ?_
        refine w_reg ?_
        refine rw_p (ov_func (fa := []) (fb := [(AV.vp (cXCode_checker a0)), (AV.vp (cXApi_Ins a1))]) rfl (cons_eq (congrArg (un _) e1064) (cons_eq (congrArg (un _) e1065) rfl))) rfl ?_
        refine rw_p (ov_func (fa := []) (fb := [(AV.vp (cXCode_checker a0)), (AV.vp (cXApi_Ins a1))]) rfl (cons_eq (congrArg (un _) e1064) (cons_eq (congrArg (un _) e1065) rfl))) rfl ?_
        refine rw_p (ov_func (fa := []) (fb := [(AV.vp (cBool (a1.Op == 20))), (AV.vp (cXApi_Ins a1)), (AV.vp (cXCode_checker a0))]) rfl (cons_eq (congrArg (un _) e1066) (cons_eq (congrArg (un _) e1065) (cons_eq (congrArg (un _) e1064) rfl)))) rfl ?_
        refine rw_p (ov_buildSliceF (ps := [(0, (AV.fn (.func 82) [] [(AV.vp (cXCode_checker a0)), (AV.vp (cXApi_Ins a1))])), (1, (AV.fn (.func 83) [] [(AV.vp (cXCode_checker a0)), (AV.vp (cXApi_Ins a1))])), (2, (AV.fn (.func 84) [] [(AV.vp (cBool (a1.Op == 20))), (AV.vp (cXApi_Ins a1)), (AV.vp (cXCode_checker a0))]))]) (rows := (([0, 1, 2] : List Nat)).map (fun k => [sel [(AV.fn (.func 82) [] [(AV.vp (cXCode_checker a0)), (AV.vp (cXApi_Ins a1))]), (AV.fn (.func 83) [] [(AV.vp (cXCode_checker a0)), (AV.vp (cXApi_Ins a1))]), (AV.fn (.func 84) [] [(AV.vp (cBool (a1.Op == 20))), (AV.vp (cXApi_Ins a1)), (AV.vp (cXCode_checker a0))])] k])) (rows' := (([0, 1, 2] : List Nat)).map (fun k => [sel [(AV.fn (.func 82) [] [(AV.vp (cXCode_checker a0)), (AV.vp (cXApi_Ins a1))]), (AV.fn (.func 83) [] [(AV.vp (cXCode_checker a0)), (AV.vp (cXApi_Ins a1))]), (AV.fn (.func 84) [] [(AV.vp (cBool (a1.Op == 20))), (AV.vp (cXApi_Ins a1)), (AV.vp (cXCode_checker a0))])] k])) Tryd.underlying138 zc84 ag84 sz84 rfl (cons_eqp rfl (cons_eqp rfl (cons_eqp rfl rfl))) rfl fz60 rfl rfl rfl) rfl ?_
        obtain ⟨x1120, hx1121, hF⟩ := bindS hF
        refine rw_p (ov_call (args := [(AV.sl ((([0, 1, 2] : List Nat)).map (fun k => [sel [(AV.fn (.func 82) [] [(AV.vp (cXCode_checker a0)), (AV.vp (cXApi_Ins a1))]), (AV.fn (.func 83) [] [(AV.vp (cXCode_checker a0)), (AV.vp (cXApi_Ins a1))]), (AV.fn (.func 84) [] [(AV.vp (cBool (a1.Op == 20))), (AV.vp (cXApi_Ins a1)), (AV.vp (cXCode_checker a0))])] k])))]) (r := (R_code_first__f82_f83_f84 x1120)) (v := (I x1120)) rfl (cons_eq rfl rfl) rfl rfl (T_code_first__f82_f83_f84 nn a0 a1 a0 a1 (a1.Op == 20) a1 a0 x1120 hx1121) fz60 rfl rfl) rfl ?_
        refine rw_p (ov_assign (v := (I x1120)) rfl) rfl ?_
        refine rw_nil ?_
        refine q_seq ?_
        refine w_ret ?_
        obtain rfl := Option.some.inj hF
        exact (fin_ret (res_tmp (pk_of (v := (I x1120)) rfl rfl) res_nil) rfl rfl)

/-! (turnery/code.checker).body -/
noncomputable def code_checker_body_L1 (a0 : XCode_checker) (y837 : XCode_checker) (y838 : Int) : Option (Lp (XCode_checker × Int) (Br XCode_checker Int)) :=
  if (decide (y838 < (a0.f.Blocks.length : Int))) then
  ((idx a0.f.Blocks y838).bind fun x840 =>
  (code_checker_end y837 x840.End).bind fun x927 =>
  if (x927 != 0) then
  (some (.out (.ret x927)))
  else
  (some (.next (y837, (w64 (y838 + 1))))))
  else
  (some (.out (.brk y837)))
noncomputable def code_checker_body_L3 (y994 : Int) (x996 : XApi_Block) (y998 : XCode_checker) (y999 : Int) : Option (Lp (XCode_checker × Int) (Br XCode_checker Int)) :=
  if (decide (y999 < (x996.Phis.length : Int))) then
  ((idx x996.Phis y999).bind fun x1001 =>
  (code_checker_phi y998 y994 x1001).bind fun x1029 =>
  if (x1029 != 0) then
  (some (.out (.ret x1029)))
  else
  (some (.next (y998, (w64 (y999 + 1))))))
  else
  (some (.out (.brk y998)))
noncomputable def code_checker_body_L4 (x996 : XApi_Block) (y1044 : XCode_checker) (y1045 : Int) : Option (Lp (XCode_checker × Int) (Br XCode_checker Int)) :=
  if (decide (y1045 < (x996.List.length : Int))) then
  ((idx x996.List y1045).bind fun x1047 =>
  (code_checker_ins y1044 x1047).bind fun x1128 =>
  if (x1128 != 0) then
  (some (.out (.ret x1128)))
  else
  (some (.next (y1044, (w64 (y1045 + 1))))))
  else
  (some (.out (.brk y1044)))
noncomputable def code_checker_body_L2 (b933 : XCode_checker) (y993 : XCode_checker) (y994 : Int) : Option (Lp (XCode_checker × Int) (Br Unit Int)) :=
  if (decide (y994 < (b933.f.Blocks.length : Int))) then
  ((idx b933.f.Blocks y994).bind fun x996 =>
  (Loop (fun (s : (XCode_checker × Int)) => code_checker_body_L3 y994 x996 s.1 s.2) (y993, 0)).bind fun o1033 => match o1033 with
  | .ret r1147 => some (.out (.ret r1147))
  | .brk b1035 =>
  (Loop (fun (s : (XCode_checker × Int)) => code_checker_body_L4 x996 s.1 s.2) (b1035, 0)).bind fun o1132 => match o1132 with
  | .ret r1144 => some (.out (.ret r1144))
  | .brk b1134 =>
  some (.next (b1134, (w64 (y994 + 1)))))
  else
  (some (.out (.brk ())))
noncomputable def code_checker_body (a0 : XCode_checker) : Option Int :=
  (Loop (fun (s : (XCode_checker × Int)) => code_checker_body_L1 a0 s.1 s.2) (a0, 0)).bind fun o931 => match o931 with
  | .ret r1159 => some r1159
  | .brk b933 =>
  (code_ahead b933.f).bind fun x991 =>
  (Loop (fun (s : (XCode_checker × Int)) => code_checker_body_L2 b933 s.1 s.2) ((XCode_checker.mk b933.u b933.f x991), 0)).bind fun o1149 => match o1149 with
  | .ret r1156 => some r1156
  | .brk b1151 =>
  some 0
abbrev RV39 : List ResultVar := [.tmp 2]
def R_code_checker_body (r : Int) : AV := (I r)
set_option maxHeartbeats 2000000 in
theorem T_code_checker_body (nn : Nat) (a0 : XCode_checker) (r : Int) (hF : code_checker_body a0 = some r) : den cx (nn + 6) 39 [(AV.agg (cXCode_checker a0))] = some (R_code_checker_body r, []) := by
  unfold code_checker_body at hF
  refine fn_of (nn := (nn + 5)) (rv := RV39) (cxE _) Tryd.func39 rfl rfl Tryd.ntmps39 (cxL _) rfl ?_
  show W cx 39 _ _ ⟨73, (upd (fun _ => AV.junk) 0 (AV.agg (cXCode_checker a0))), (fun _ => none)⟩ _
  refine v_seq ?_
  refine w_reg ?_
  refine rw_w (ov_boxM (cs := cXCode_checker a0) ag82 fz39 rfl rfl rfl rfl) rfl ?_
  refine rw_p (ov_assign (v := (I 0)) rfl) rfl ?_
  refine rw_nil ?_
  refine q_seq ?_
  refine v_seq ?_
  refine v_seq ?_
  refine w_reg ?_
  refine rw_p (ov_fieldAddrM fd82_1 rfl rfl) rfl ?_
  refine rw_p (ov_fieldAddrM fd37_3 rfl rfl) rfl ?_
  refine rw_r (ov_loadM (c := cXCode_checker) (q := [a0]) (r := a0) (cs := cs_cXApi_Block a0.f.Blocks) (v := (AV.sl ((a0.f.Blocks).map cXApi_Block))) ag35 sz35 rfl rfl rfl rfl rfl rfl) rfl ?_
  refine rw_p (ov_lenSl (m := a0.f.Blocks.length) Tryd.underlying35 rfl rfl rfl (List.length_map _)) rfl ?_
  refine rw_p (ov_move (v := (I 0)) rfl) rfl ?_
  refine rw_nil ?_
  refine q_seq ?_
  refine v_block ?_
  obtain ⟨o931, hL932, hF⟩ := bindS hF
  refine v_loop (fun (s : (XCode_checker × Int)) => [(AV.ownp (cXCode_checker s.1)), (AV.sl ((a0.f.Blocks).map cXApi_Block)), (I (a0.f.Blocks.length : Int)), (I s.2)]) (RelO (fun (s : XCode_checker) x => ∃ t h, x = (Exit.exit 0, ⟨73, t, h⟩) ∧ t 1 = (AV.mp [1] 0 0) ∧ h [1] = some (some ([s].map cXCode_checker))) (fun r x => x.1 = Exit.ret ∧ Fin cx RV39 (R_code_checker_body r) x)) hL932 lv39_2 (renorm_of (packL_mk (pk_mpT (cs := cXCode_checker a0) rfl rfl (fl_cXCode_checker _)) (packL_mk (pk_of (v := (AV.sl ((a0.f.Blocks).map cXApi_Block))) rfl rfl) (packL_mk (pk_of (v := (I (a0.f.Blocks.length : Int))) rfl rfl) (packL_mk (pk_of (v := (I 0)) rfl rfl) packL_0)))) rfl) ?_ ?_
  · rintro ⟨y837, y838⟩ z839 hF
    replace hF : code_checker_body_L1 a0 y837 y838 = some z839 := hF
    unfold code_checker_body_L1 at hF
    show W cx 39 _ _ ⟨73, (upd (upd (upd (upd (fun _ => AV.junk) 18 (I y838)) 17 (I (a0.f.Blocks.length : Int))) 16 (AV.sl ((a0.f.Blocks).map cXApi_Block))) 1 (AV.mp [1] 0 0)), (upd (fun _ => none) [1] (some (some [cXCode_checker y837])))⟩ _
    refine v_seq ?_
    refine w_reg ?_
    refine rw_p (ov_lss (k := .i64) (a := y838) (b := (a0.f.Blocks.length : Int)) rfl rfl) rfl ?_
    refine rw_nil ?_
    refine q_seq ?_
    refine v_seq ?_
    refine w_if (p := (decide (y838 < (a0.f.Blocks.length : Int)))) hF rfl (fun hb930 hF => ?_) (fun hb930 hF => ?_)
    · refine w_skip ?_
      refine q_seq ?_
      refine v_seq ?_
      refine v_block ?_
      refine v_seq ?_
      refine w_reg ?_
      obtain ⟨x840, hx841, hF⟩ := bindS hF
      refine rw_p (ov_indexAddr (k := .i64) (c := cXApi_Block) (q := a0.f.Blocks) (i := y838) Tryd.underlying35 sz53 rfl rfl rfl hx841 rfl) rfl ?_
      refine rw_p (ov_load (v := (AV.agg (cXApi_Block x840))) ag53 sz53 rfl rfl rfl) rfl ?_
      refine rw_w (ov_alloc zm53 rfl) rfl ?_
      refine rw_w (ov_storeF (v := (AV.agg (cXApi_Block x840))) (cs := cXApi_Block x840) (cs' := cXApi_Block x840) ag53 sz53 rfl rfl rfl rfl rfl rfl fz39 rfl rfl rfl) rfl ?_
      refine rw_nil ?_
      refine q_seq ?_
      refine v_seq ?_
      refine w_reg ?_
      refine rw_r (ov_loadM (c := cXCode_checker) (q := [y837]) (r := y837) (cs := cXCode_checker y837) (v := (AV.agg (cXCode_checker y837))) ag82 sz82 rfl rfl rfl rfl rfl rfl) rfl ?_
      refine rw_p (ov_fieldAddr (cells' := ((cXApi_Block x840).drop 2)) fd53_2 rfl rfl rfl rfl) rfl ?_
      refine rw_p (ov_load (v := (AV.agg (cXApi_End x840.End))) ag49 sz49 rfl rfl rfl) rfl ?_
      obtain ⟨x927, hx928, hF⟩ := bindS hF
      refine rw_p (ov_call (args := [(AV.agg (cXCode_checker y837)), (AV.agg (cXApi_End x840.End))]) (r := (R_code_checker_end x927)) (v := (I x927)) rfl (cons_eq rfl (cons_eq rfl rfl)) rfl rfl (T_code_checker_end nn y837 x840.End x927 hx928) fz39 rfl rfl) rfl ?_
      refine rw_p (ov_assign (v := (I x927)) rfl) rfl ?_
      refine rw_nil ?_
      refine q_seq ?_
      refine v_seq ?_
      refine w_reg ?_
      refine rw_p (ov_move (v := (I x927)) rfl) rfl ?_
      refine rw_p (ov_neq (k := .i64) (a := x927) (b := 0) rfl rfl) rfl ?_
      refine rw_nil ?_
      refine q_seq ?_
      refine w_if (p := (x927 != 0)) hF rfl (fun hb929 hF => ?_) (fun hb929 hF => ?_)
      · refine v_seq ?_
        refine w_reg ?_
        refine rw_p (ov_move (v := (I x927)) rfl) rfl ?_
        refine rw_p (ov_assign (v := (I x927)) rfl) rfl ?_
        refine rw_nil ?_
        refine q_seq ?_
        refine w_ret ?_
        refine q_blkR ?_
        refine q_seqR ?_
        obtain rfl := Option.some.inj hF
        exact q_outR (relR ⟨rfl, (fin_ret (res_tmp (pk_of (v := (I x927)) rfl rfl) res_nil) rfl rfl)⟩)
      · refine w_skip ?_
        refine q_blk ?_
        refine q_seq ?_
        refine w_reg ?_
        refine rw_p (ov_add (k := .i64) (a := y838) (b := 1) rfl rfl) rfl ?_
        refine rw_p (ov_move (v := (I (w64 (y838 + 1)))) rfl) rfl ?_
        refine rw_nil ?_
        obtain rfl := Option.some.inj hF
        exact q_next (renorm_of (packL_mk (pk_mpT (cs := cXCode_checker y837) rfl rfl (fl_cXCode_checker _)) (packL_mk (pk_of (v := (AV.sl ((a0.f.Blocks).map cXApi_Block))) rfl rfl) (packL_mk (pk_of (v := (I (a0.f.Blocks.length : Int))) rfl rfl) (packL_mk (pk_of (v := (I (w64 (y838 + 1)))) rfl rfl) packL_0)))) rfl)
    · refine w_exit ?_
      refine q_seqE ?_
      obtain rfl := Option.some.inj hF
      refine q_out (relB ?_)
      exact ⟨_, _, rfl, rfl, rfl⟩
  · rintro x1157 hr1158
    cases o931 with
    | ret r1159 =>
      replace hF : some r1159 = some r := hF
      obtain rfl := Option.some.inj hF
      obtain ⟨xe, xs⟩ := x1157
      obtain ⟨hxe, hfin⟩ := hr1158
      obtain rfl : xe = Exit.ret := hxe
      refine q_blkR ?_
      refine q_seqR ?_
      exact hfin
    | brk b933 =>
      obtain ⟨t934, h935, rfl, e936, e937⟩ := hr1158
      refine q_blkH ?_
      refine q_seq ?_
      refine v_seq ?_
      refine w_reg ?_
      refine rw_p (ov_fieldAddrM fd82_1 rfl (congrArg (un _) e936)) rfl ?_
      refine rw_r (ov_loadM (c := cXCode_checker) (q := [b933]) (r := b933) (cs := cXApi_Func b933.f) (v := (AV.agg (cXApi_Func b933.f))) ag37 sz37 rfl e937 rfl rfl rfl rfl) rfl ?_
      obtain ⟨x991, hx992, hF⟩ := bindS hF
      refine rw_p (ov_call (args := [(AV.agg (cXApi_Func b933.f))]) (r := (R_code_ahead x991)) (v := (AV.sl ((x991).map cs_cInt_i64))) rfl (cons_eq rfl rfl) rfl rfl (T_code_ahead (nn + 4) b933.f x991 hx992) fz39 (by rw [if_pos (by rfl)]; exact (fz_map _ _ fzl_co_cInt_i64 _)) rfl) rfl ?_
      refine rw_p (ov_fieldAddrM fd82_2 rfl (congrArg (un _) e936)) rfl ?_
      refine rw_w (ov_storeM (c := cXCode_checker) (q := [b933]) (r := b933) (r' := (XCode_checker.mk b933.u b933.f x991)) (v := (AV.sl ((x991).map cs_cInt_i64))) (cs := cs_cs_cInt_i64 x991) ag32 sz32 rfl rfl rfl rfl e937 rfl rfl fz39 rfl rfl) rfl ?_
      refine rw_nil ?_
      refine q_seq ?_
      refine v_seq ?_
      refine v_seq ?_
      refine w_reg ?_
      refine rw_p (ov_fieldAddrM fd82_1 rfl (congrArg (un _) e936)) rfl ?_
      refine rw_p (ov_fieldAddrM fd37_3 rfl rfl) rfl ?_
      refine rw_r (ov_loadM (c := cXCode_checker) (q := [(XCode_checker.mk b933.u b933.f x991)]) (r := (XCode_checker.mk b933.u b933.f x991)) (cs := cs_cXApi_Block b933.f.Blocks) (v := (AV.sl ((b933.f.Blocks).map cXApi_Block))) ag35 sz35 rfl rfl rfl rfl rfl rfl) rfl ?_
      refine rw_p (ov_lenSl (m := b933.f.Blocks.length) Tryd.underlying35 rfl rfl rfl (List.length_map _)) rfl ?_
      refine rw_p (ov_move (v := (I 0)) rfl) rfl ?_
      refine rw_nil ?_
      refine q_seq ?_
      refine v_block ?_
      obtain ⟨o1149, hL1150, hF⟩ := bindS hF
      refine v_loop (fun (s : (XCode_checker × Int)) => [(AV.ownp (cXCode_checker s.1)), (AV.sl ((b933.f.Blocks).map cXApi_Block)), (I (b933.f.Blocks.length : Int)), (I s.2)]) (RelO (fun (s : Unit) x => ∃ t h, x = (Exit.exit 2, ⟨73, t, h⟩) ∧ True) (fun r x => x.1 = Exit.ret ∧ Fin cx RV39 (R_code_checker_body r) x)) hL1150 lv39_10 (renorm_of (packL_mk (pk_mpT (cs := cXCode_checker (XCode_checker.mk b933.u b933.f x991)) e936 rfl (fl_cXCode_checker _)) (packL_mk (pk_of (v := (AV.sl ((b933.f.Blocks).map cXApi_Block))) rfl rfl) (packL_mk (pk_of (v := (I (b933.f.Blocks.length : Int))) rfl rfl) (packL_mk (pk_of (v := (I 0)) rfl rfl) packL_0)))) rfl) ?_ ?_
      · rintro ⟨y993, y994⟩ z995 hF
        replace hF : code_checker_body_L2 b933 y993 y994 = some z995 := hF
        unfold code_checker_body_L2 at hF
        show W cx 39 _ _ ⟨73, (upd (upd (upd (upd (fun _ => AV.junk) 38 (I y994)) 37 (I (b933.f.Blocks.length : Int))) 36 (AV.sl ((b933.f.Blocks).map cXApi_Block))) 1 (AV.mp [1] 0 0)), (upd (fun _ => none) [1] (some (some [cXCode_checker y993])))⟩ _
        refine v_seq ?_
        refine w_reg ?_
        refine rw_p (ov_lss (k := .i64) (a := y994) (b := (b933.f.Blocks.length : Int)) rfl rfl) rfl ?_
        refine rw_nil ?_
        refine q_seq ?_
        refine v_seq ?_
        refine w_if (p := (decide (y994 < (b933.f.Blocks.length : Int)))) hF rfl (fun hb1148 hF => ?_) (fun hb1148 hF => ?_)
        · refine w_skip ?_
          refine q_seq ?_
          refine v_seq ?_
          refine v_block ?_
          refine v_seq ?_
          refine w_reg ?_
          refine rw_p (ov_move (v := (I y994)) rfl) rfl ?_
          obtain ⟨x996, hx997, hF⟩ := bindS hF
          refine rw_p (ov_indexAddr (k := .i64) (c := cXApi_Block) (q := b933.f.Blocks) (i := y994) Tryd.underlying35 sz53 rfl rfl rfl hx997 rfl) rfl ?_
          refine rw_p (ov_load (v := (AV.agg (cXApi_Block x996))) ag53 sz53 rfl rfl rfl) rfl ?_
          refine rw_w (ov_alloc zm53 rfl) rfl ?_
          refine rw_p (ov_assign (v := (I y994)) rfl) rfl ?_
          refine rw_w (ov_storeF (v := (AV.agg (cXApi_Block x996))) (cs := cXApi_Block x996) (cs' := cXApi_Block x996) ag53 sz53 rfl rfl rfl rfl rfl rfl fz39 rfl rfl rfl) rfl ?_
          refine rw_nil ?_
          refine q_seq ?_
          refine v_seq ?_
          refine v_seq ?_
          refine w_reg ?_
          refine rw_p (ov_fieldAddr (cells' := (cXApi_Block x996)) fd53_0 rfl rfl rfl rfl) rfl ?_
          refine rw_p (ov_load (v := (AV.sl ((x996.Phis).map cXApi_Phi))) ag50 sz50 rfl rfl rfl) rfl ?_
          refine rw_p (ov_lenSl (m := x996.Phis.length) Tryd.underlying50 rfl rfl rfl (List.length_map _)) rfl ?_
          refine rw_p (ov_move (v := (I 0)) rfl) rfl ?_
          refine rw_nil ?_
          refine q_seq ?_
          refine v_block ?_
          obtain ⟨o1033, hL1034, hF⟩ := bindS hF
          refine v_loop (fun (s : (XCode_checker × Int)) => [(AV.ownp (cXCode_checker s.1)), (I y994), (AV.vp (cXApi_Block x996)), (AV.sl ((b933.f.Blocks).map cXApi_Block)), (I (b933.f.Blocks.length : Int)), (I y994), (AV.sl ((x996.Phis).map cXApi_Phi)), (I (x996.Phis.length : Int)), (I s.2)]) (RelO (fun (s : XCode_checker) x => ∃ t h, x = (Exit.exit 4, ⟨73, t, h⟩) ∧ t 1 = (AV.mp [1] 0 0) ∧ h [1] = some (some ([s].map cXCode_checker)) ∧ t 7 = (AV.vp (cXApi_Block x996)) ∧ t 36 = (AV.sl ((b933.f.Blocks).map cXApi_Block)) ∧ t 37 = (I (b933.f.Blocks.length : Int)) ∧ t 38 = (I y994)) (fun r x => x.1 = Exit.ret ∧ Fin cx RV39 (R_code_checker_body r) x)) hL1034 lv39_13 (renorm_of (packL_mk (pk_mpT (cs := cXCode_checker y993) rfl rfl (fl_cXCode_checker _)) (packL_mk (pk_of (v := (I y994)) rfl rfl) (packL_mk (pk_of (v := (AV.vp (cXApi_Block x996))) rfl rfl) (packL_mk (pk_of (v := (AV.sl ((b933.f.Blocks).map cXApi_Block))) rfl rfl) (packL_mk (pk_of (v := (I (b933.f.Blocks.length : Int))) rfl rfl) (packL_mk (pk_of (v := (I y994)) rfl rfl) (packL_mk (pk_of (v := (AV.sl ((x996.Phis).map cXApi_Phi))) rfl rfl) (packL_mk (pk_of (v := (I (x996.Phis.length : Int))) rfl rfl) (packL_mk (pk_of (v := (I 0)) rfl rfl) packL_0))))))))) rfl) ?_ ?_
          · rintro ⟨y998, y999⟩ z1000 hF
            replace hF : code_checker_body_L3 y994 x996 y998 y999 = some z1000 := hF
            unfold code_checker_body_L3 at hF
            show W cx 39 _ _ ⟨73, (upd (upd (upd (upd (upd (upd (upd (upd (upd (fun _ => AV.junk) 46 (I y999)) 45 (I (x996.Phis.length : Int))) 44 (AV.sl ((x996.Phis).map cXApi_Phi))) 38 (I y994)) 37 (I (b933.f.Blocks.length : Int))) 36 (AV.sl ((b933.f.Blocks).map cXApi_Block))) 7 (AV.vp (cXApi_Block x996))) 6 (I y994)) 1 (AV.mp [1] 0 0)), (upd (fun _ => none) [1] (some (some [cXCode_checker y998])))⟩ _
            refine v_seq ?_
            refine w_reg ?_
            refine rw_p (ov_lss (k := .i64) (a := y999) (b := (x996.Phis.length : Int)) rfl rfl) rfl ?_
            refine rw_nil ?_
            refine q_seq ?_
            refine v_seq ?_
            refine w_if (p := (decide (y999 < (x996.Phis.length : Int)))) hF rfl (fun hb1032 hF => ?_) (fun hb1032 hF => ?_)
            · refine w_skip ?_
              refine q_seq ?_
              refine v_seq ?_
              refine v_block ?_
              refine v_seq ?_
              refine w_reg ?_
              obtain ⟨x1001, hx1002, hF⟩ := bindS hF
              refine rw_p (ov_indexAddr (k := .i64) (c := cXApi_Phi) (q := x996.Phis) (i := y999) Tryd.underlying50 sz107 rfl rfl rfl hx1002 rfl) rfl ?_
              refine rw_p (ov_load (v := (AV.agg (cXApi_Phi x1001))) ag107 sz107 rfl rfl rfl) rfl ?_
              refine rw_w (ov_alloc zm107 rfl) rfl ?_
              refine rw_w (ov_storeF (v := (AV.agg (cXApi_Phi x1001))) (cs := cXApi_Phi x1001) (cs' := cXApi_Phi x1001) ag107 sz107 rfl rfl rfl rfl rfl rfl fz39 rfl rfl rfl) rfl ?_
              refine rw_nil ?_
              refine q_seq ?_
              refine v_seq ?_
              refine w_reg ?_
              refine rw_r (ov_loadM (c := cXCode_checker) (q := [y998]) (r := y998) (cs := cXCode_checker y998) (v := (AV.agg (cXCode_checker y998))) ag82 sz82 rfl rfl rfl rfl rfl rfl) rfl ?_
              refine rw_p (ov_move (v := (I y994)) rfl) rfl ?_
              refine rw_p (ov_load (v := (AV.agg (cXApi_Phi x1001))) ag107 sz107 rfl rfl rfl) rfl ?_
              obtain ⟨x1029, hx1030, hF⟩ := bindS hF
              refine rw_p (ov_call (args := [(AV.agg (cXCode_checker y998)), (I y994), (AV.agg (cXApi_Phi x1001))]) (r := (R_code_checker_phi x1029)) (v := (I x1029)) rfl (cons_eq rfl (cons_eq rfl (cons_eq rfl rfl))) rfl rfl (T_code_checker_phi (nn + 2) y998 y994 x1001 x1029 hx1030) fz39 rfl rfl) rfl ?_
              refine rw_p (ov_assign (v := (I x1029)) rfl) rfl ?_
              refine rw_nil ?_
              refine q_seq ?_
              refine v_seq ?_
              refine w_reg ?_
              refine rw_p (ov_move (v := (I x1029)) rfl) rfl ?_
              refine rw_p (ov_neq (k := .i64) (a := x1029) (b := 0) rfl rfl) rfl ?_
              refine rw_nil ?_
              refine q_seq ?_
              refine w_if (p := (x1029 != 0)) hF rfl (fun hb1031 hF => ?_) (fun hb1031 hF => ?_)
              · refine v_seq ?_
                refine w_reg ?_
                refine rw_p (ov_move (v := (I x1029)) rfl) rfl ?_
                refine rw_p (ov_assign (v := (I x1029)) rfl) rfl ?_
                refine rw_nil ?_
                refine q_seq ?_
                refine w_ret ?_
                refine q_blkR ?_
                refine q_seqR ?_
                obtain rfl := Option.some.inj hF
                exact q_outR (relR ⟨rfl, (fin_ret (res_tmp (pk_of (v := (I x1029)) rfl rfl) res_nil) rfl rfl)⟩)
              · refine w_skip ?_
                refine q_blk ?_
                refine q_seq ?_
                refine w_reg ?_
                refine rw_p (ov_add (k := .i64) (a := y999) (b := 1) rfl rfl) rfl ?_
                refine rw_p (ov_move (v := (I (w64 (y999 + 1)))) rfl) rfl ?_
                refine rw_nil ?_
                obtain rfl := Option.some.inj hF
                exact q_next (renorm_of (packL_mk (pk_mpT (cs := cXCode_checker y998) rfl rfl (fl_cXCode_checker _)) (packL_mk (pk_of (v := (I y994)) rfl rfl) (packL_mk (pk_of (v := (AV.vp (cXApi_Block x996))) rfl rfl) (packL_mk (pk_of (v := (AV.sl ((b933.f.Blocks).map cXApi_Block))) rfl rfl) (packL_mk (pk_of (v := (I (b933.f.Blocks.length : Int))) rfl rfl) (packL_mk (pk_of (v := (I y994)) rfl rfl) (packL_mk (pk_of (v := (AV.sl ((x996.Phis).map cXApi_Phi))) rfl rfl) (packL_mk (pk_of (v := (I (x996.Phis.length : Int))) rfl rfl) (packL_mk (pk_of (v := (I (w64 (y999 + 1)))) rfl rfl) packL_0))))))))) rfl)
            · refine w_exit ?_
              refine q_seqE ?_
              obtain rfl := Option.some.inj hF
              refine q_out (relB ?_)
              exact ⟨_, _, rfl, rfl, rfl, rfl, rfl, rfl, rfl⟩
          · rintro x1145 hr1146
            cases o1033 with
            | ret r1147 =>
              replace hF : some (.out (.ret r1147)) = some z995 := hF
              obtain rfl := Option.some.inj hF
              obtain ⟨xe, xs⟩ := x1145
              obtain ⟨hxe, hfin⟩ := hr1146
              obtain rfl : xe = Exit.ret := hxe
              refine q_blkR ?_
              refine q_seqR ?_
              refine q_blkR ?_
              refine q_seqR ?_
              exact q_outR (relR ⟨rfl, hfin⟩)
            | brk b1035 =>
              obtain ⟨t1036, h1037, rfl, e1038, e1039, e1040, e1041, e1042, e1043⟩ := hr1146
              refine q_blkH ?_
              refine q_seq ?_
              refine v_seq ?_
              refine w_reg ?_
              refine rw_p (ov_fieldAddr (cells' := ((cXApi_Block x996).drop 1)) fd53_1 rfl (congrArg (un _) e1040) rfl rfl) rfl ?_
              refine rw_p (ov_load (v := (AV.sl ((x996.List).map cXApi_Ins))) ag51 sz51 rfl rfl rfl) rfl ?_
              refine rw_p (ov_lenSl (m := x996.List.length) Tryd.underlying51 rfl rfl rfl (List.length_map _)) rfl ?_
              refine rw_p (ov_move (v := (I 0)) rfl) rfl ?_
              refine rw_nil ?_
              refine q_seq ?_
              refine v_block ?_
              obtain ⟨o1132, hL1133, hF⟩ := bindS hF
              refine v_loop (fun (s : (XCode_checker × Int)) => [(AV.ownp (cXCode_checker s.1)), (AV.sl ((b933.f.Blocks).map cXApi_Block)), (I (b933.f.Blocks.length : Int)), (I y994), (AV.sl ((x996.List).map cXApi_Ins)), (I (x996.List.length : Int)), (I s.2)]) (RelO (fun (s : XCode_checker) x => ∃ t h, x = (Exit.exit 6, ⟨73, t, h⟩) ∧ t 1 = (AV.mp [1] 0 0) ∧ h [1] = some (some ([s].map cXCode_checker)) ∧ t 36 = (AV.sl ((b933.f.Blocks).map cXApi_Block)) ∧ t 37 = (I (b933.f.Blocks.length : Int)) ∧ t 38 = (I y994)) (fun r x => x.1 = Exit.ret ∧ Fin cx RV39 (R_code_checker_body r) x)) hL1133 lv39_20 (renorm_of (packL_mk (pk_mpT (cs := cXCode_checker b1035) e1038 e1039 (fl_cXCode_checker _)) (packL_mk (pk_of (v := (AV.sl ((b933.f.Blocks).map cXApi_Block))) e1041 rfl) (packL_mk (pk_of (v := (I (b933.f.Blocks.length : Int))) e1042 rfl) (packL_mk (pk_of (v := (I y994)) e1043 rfl) (packL_mk (pk_of (v := (AV.sl ((x996.List).map cXApi_Ins))) rfl rfl) (packL_mk (pk_of (v := (I (x996.List.length : Int))) rfl rfl) (packL_mk (pk_of (v := (I 0)) rfl rfl) packL_0))))))) rfl) ?_ ?_
              · rintro ⟨y1044, y1045⟩ z1046 hF
                replace hF : code_checker_body_L4 x996 y1044 y1045 = some z1046 := hF
                unfold code_checker_body_L4 at hF
                show W cx 39 _ _ ⟨73, (upd (upd (upd (upd (upd (upd (upd (fun _ => AV.junk) 61 (I y1045)) 60 (I (x996.List.length : Int))) 59 (AV.sl ((x996.List).map cXApi_Ins))) 38 (I y994)) 37 (I (b933.f.Blocks.length : Int))) 36 (AV.sl ((b933.f.Blocks).map cXApi_Block))) 1 (AV.mp [1] 0 0)), (upd (fun _ => none) [1] (some (some [cXCode_checker y1044])))⟩ _
                refine v_seq ?_
                refine w_reg ?_
                refine rw_p (ov_lss (k := .i64) (a := y1045) (b := (x996.List.length : Int)) rfl rfl) rfl ?_
                refine rw_nil ?_
                refine q_seq ?_
                refine v_seq ?_
                refine w_if (p := (decide (y1045 < (x996.List.length : Int)))) hF rfl (fun hb1131 hF => ?_) (fun hb1131 hF => ?_)
                · refine w_skip ?_
                  refine q_seq ?_
                  refine v_seq ?_
                  refine v_block ?_
                  refine v_seq ?_
                  refine w_reg ?_
                  obtain ⟨x1047, hx1048, hF⟩ := bindS hF
                  refine rw_p (ov_indexAddr (k := .i64) (c := cXApi_Ins) (q := x996.List) (i := y1045) Tryd.underlying51 sz56 rfl rfl rfl hx1048 rfl) rfl ?_
                  refine rw_p (ov_load (v := (AV.agg (cXApi_Ins x1047))) ag56 sz56 rfl rfl rfl) rfl ?_
                  refine rw_w (ov_alloc zm56 rfl) rfl ?_
                  refine rw_w (ov_storeF (v := (AV.agg (cXApi_Ins x1047))) (cs := cXApi_Ins x1047) (cs' := cXApi_Ins x1047) ag56 sz56 rfl rfl rfl rfl rfl rfl fz39 rfl rfl rfl) rfl ?_
                  refine rw_nil ?_
                  refine q_seq ?_
                  refine v_seq ?_
                  refine w_reg ?_
                  refine rw_r (ov_loadM (c := cXCode_checker) (q := [y1044]) (r := y1044) (cs := cXCode_checker y1044) (v := (AV.agg (cXCode_checker y1044))) ag82 sz82 rfl rfl rfl rfl rfl rfl) rfl ?_
                  refine rw_p (ov_load (v := (AV.agg (cXApi_Ins x1047))) ag56 sz56 rfl rfl rfl) rfl ?_
                  obtain ⟨x1128, hx1129, hF⟩ := bindS hF
                  refine rw_p (ov_call (args := [(AV.agg (cXCode_checker y1044)), (AV.agg (cXApi_Ins x1047))]) (r := (R_code_checker_ins x1128)) (v := (I x1128)) rfl (cons_eq rfl (cons_eq rfl rfl)) rfl rfl (T_code_checker_ins nn y1044 x1047 x1128 hx1129) fz39 rfl rfl) rfl ?_
                  refine rw_p (ov_assign (v := (I x1128)) rfl) rfl ?_
                  refine rw_nil ?_
                  refine q_seq ?_
                  refine v_seq ?_
                  refine w_reg ?_
                  refine rw_p (ov_move (v := (I x1128)) rfl) rfl ?_
                  refine rw_p (ov_neq (k := .i64) (a := x1128) (b := 0) rfl rfl) rfl ?_
                  refine rw_nil ?_
                  refine q_seq ?_
                  refine w_if (p := (x1128 != 0)) hF rfl (fun hb1130 hF => ?_) (fun hb1130 hF => ?_)
                  · refine v_seq ?_
                    refine w_reg ?_
                    refine rw_p (ov_move (v := (I x1128)) rfl) rfl ?_
                    refine rw_p (ov_assign (v := (I x1128)) rfl) rfl ?_
                    refine rw_nil ?_
                    refine q_seq ?_
                    refine w_ret ?_
                    refine q_blkR ?_
                    refine q_seqR ?_
                    obtain rfl := Option.some.inj hF
                    exact q_outR (relR ⟨rfl, (fin_ret (res_tmp (pk_of (v := (I x1128)) rfl rfl) res_nil) rfl rfl)⟩)
                  · refine w_skip ?_
                    refine q_blk ?_
                    refine q_seq ?_
                    refine w_reg ?_
                    refine rw_p (ov_add (k := .i64) (a := y1045) (b := 1) rfl rfl) rfl ?_
                    refine rw_p (ov_move (v := (I (w64 (y1045 + 1)))) rfl) rfl ?_
                    refine rw_nil ?_
                    obtain rfl := Option.some.inj hF
                    exact q_next (renorm_of (packL_mk (pk_mpT (cs := cXCode_checker y1044) rfl rfl (fl_cXCode_checker _)) (packL_mk (pk_of (v := (AV.sl ((b933.f.Blocks).map cXApi_Block))) rfl rfl) (packL_mk (pk_of (v := (I (b933.f.Blocks.length : Int))) rfl rfl) (packL_mk (pk_of (v := (I y994)) rfl rfl) (packL_mk (pk_of (v := (AV.sl ((x996.List).map cXApi_Ins))) rfl rfl) (packL_mk (pk_of (v := (I (x996.List.length : Int))) rfl rfl) (packL_mk (pk_of (v := (I (w64 (y1045 + 1)))) rfl rfl) packL_0))))))) rfl)
                · refine w_exit ?_
                  refine q_seqE ?_
                  obtain rfl := Option.some.inj hF
                  refine q_out (relB ?_)
                  exact ⟨_, _, rfl, rfl, rfl, rfl, rfl, rfl⟩
              · rintro x1142 hr1143
                cases o1132 with
                | ret r1144 =>
                  replace hF : some (.out (.ret r1144)) = some z995 := hF
                  obtain rfl := Option.some.inj hF
                  obtain ⟨xe, xs⟩ := x1142
                  obtain ⟨hxe, hfin⟩ := hr1143
                  obtain rfl : xe = Exit.ret := hxe
                  refine q_blkR ?_
                  refine q_blkR ?_
                  refine q_seqR ?_
                  exact q_outR (relR ⟨rfl, hfin⟩)
                | brk b1134 =>
                  obtain ⟨t1135, h1136, rfl, e1137, e1138, e1139, e1140, e1141⟩ := hr1143
                  refine q_blkH ?_
                  refine q_blk ?_
                  refine q_seq ?_
                  refine w_reg ?_
                  refine rw_p (ov_add (k := .i64) (a := y994) (b := 1) (congrArg (un _) e1141) rfl) rfl ?_
                  refine rw_p (ov_move (v := (I (w64 (y994 + 1)))) rfl) rfl ?_
                  refine rw_nil ?_
                  obtain rfl := Option.some.inj hF
                  exact q_next (renorm_of (packL_mk (pk_mpT (cs := cXCode_checker b1134) e1137 e1138 (fl_cXCode_checker _)) (packL_mk (pk_of (v := (AV.sl ((b933.f.Blocks).map cXApi_Block))) e1139 rfl) (packL_mk (pk_of (v := (I (b933.f.Blocks.length : Int))) e1140 rfl) (packL_mk (pk_of (v := (I (w64 (y994 + 1)))) rfl rfl) packL_0)))) rfl)
        · refine w_exit ?_
          refine q_seqE ?_
          obtain rfl := Option.some.inj hF
          refine q_out (relB ?_)
          exact ⟨_, _, rfl, trivial⟩
      · rintro x1154 hr1155
        cases o1149 with
        | ret r1156 =>
          replace hF : some r1156 = some r := hF
          obtain rfl := Option.some.inj hF
          obtain ⟨xe, xs⟩ := x1154
          obtain ⟨hxe, hfin⟩ := hr1155
          obtain rfl : xe = Exit.ret := hxe
          refine q_blkR ?_
          refine q_seqR ?_
          exact hfin
        | brk b1151 =>
          obtain ⟨t1152, h1153, rfl, _⟩ := hr1155
          refine q_blkH ?_
          refine q_seq ?_
          refine v_seq ?_
          refine w_reg ?_
          refine rw_p (ov_assign (v := (I 0)) rfl) rfl ?_
          refine rw_nil ?_
          refine q_seq ?_
          refine w_ret ?_
          obtain rfl := Option.some.inj hF
          exact (fin_ret (res_tmp (pk_of (v := (I 0)) rfl rfl) res_nil) rfl rfl)

/-! turnery/code.Check$1 -/

noncomputable def code_Check_1 (a0 : XApi_Func) : Option Bool :=
  some (a0.Name.toList == (ByteArray.mk #[109, 97, 105, 110]).toList)
abbrev RV41 : List ResultVar := [.tmp 2]
def R_code_Check_1 (r : Bool) : AV := (B r)
set_option maxHeartbeats 2000000 in
theorem T_code_Check_1 (nn : Nat) (a0 : XApi_Func) (r : Bool) (hF : code_Check_1 a0 = some r) : den cx (nn + 1) 41 [(AV.agg (cXApi_Func a0))] = some (R_code_Check_1 r, []) := by
  unfold code_Check_1 at hF
  refine fn_of (nn := nn) (rv := RV41) (cxE _) Tryd.func41 rfl rfl Tryd.ntmps41 (cxL _) rfl ?_
  show W cx 41 _ _ ⟨6, (upd (fun _ => AV.junk) 0 (AV.agg (cXApi_Func a0))), (fun _ => none)⟩ _
  refine v_seq ?_
  refine w_reg ?_
  refine rw_p (ov_boxF (cs := cXApi_Func a0) (cs' := cXApi_Func a0) ag37 fz41 rfl rfl rfl rfl rfl) rfl ?_
  refine rw_p (ov_assign (v := (B false)) rfl) rfl ?_
  refine rw_nil ?_
  refine q_seq ?_
  refine v_seq ?_
  refine w_reg ?_
  refine rw_p (ov_fieldAddr (cells' := (cXApi_Func a0)) fd37_0 rfl rfl rfl rfl) rfl ?_
  refine rw_p (ov_load (v := (AV.val (.string a0.Name))) ag9 sz9 rfl rfl rfl) rfl ?_
  refine rw_p (ov_eqlS rfl rfl) rfl ?_
  refine rw_p (ov_assign (v := (B (a0.Name.toList == (ByteArray.mk #[109, 97, 105, 110]).toList))) rfl) rfl ?_
  refine rw_nil ?_
  refine q_seq ?_
  refine w_ret ?_
  obtain rfl := Option.some.inj hF
  exact (fin_ret (res_tmp (pk_of (v := (B (a0.Name.toList == (ByteArray.mk #[109, 97, 105, 110]).toList))) rfl rfl) res_nil) rfl rfl)

/-! slices.IndexFunc[[]turnery/api.Func,turnery/api.Func] -/
noncomputable def slices_IndexFunc_api_Func_api_Func__f41_L1 (a0 : (List XApi_Func)) (y1176 : Int) : Option (Lp Int (Br Unit Int)) :=
  if (decide (y1176 < (a0.length : Int))) then
  ((idx a0 y1176).bind fun x1178 =>
  (code_Check_1 x1178).bind fun x1180 =>
  if x1180 then
  (some (.out (.ret y1176)))
  else
  (some (.next (w64 (y1176 + 1)))))
  else
  (some (.out (.brk ())))
noncomputable def slices_IndexFunc_api_Func_api_Func__f41 (a0 : (List XApi_Func)) : Option Int :=
  (Loop (fun (s : Int) => slices_IndexFunc_api_Func_api_Func__f41_L1 a0 s) 0).bind fun o1184 => match o1184 with
  | .ret r1191 => some r1191
  | .brk b1186 =>
  some (-1)
abbrev RV40 : List ResultVar := [.tmp 4]
def R_slices_IndexFunc_api_Func_api_Func__f41 (r : Int) : AV := (I r)
set_option maxHeartbeats 2000000 in
theorem T_slices_IndexFunc_api_Func_api_Func__f41 (nn : Nat) (a0 : (List XApi_Func)) (r : Int) (hF : slices_IndexFunc_api_Func_api_Func__f41 a0 = some r) : den cx (nn + 2) 40 [(AV.sl ((a0).map cXApi_Func)), (AV.fn (.func 41) [] [])] = some (R_slices_IndexFunc_api_Func_api_Func__f41 r, []) := by
  unfold slices_IndexFunc_api_Func_api_Func__f41 at hF
  refine fn_of (nn := (nn + 1)) (rv := RV40) (cxE _) Tryd.func40 rfl rfl Tryd.ntmps40 (cxL _) rfl ?_
  show W cx 40 _ _ ⟨19, (upd (upd (fun _ => AV.junk) 1 (AV.fn (.func 41) [] [])) 0 (AV.sl ((a0).map cXApi_Func))), (fun _ => none)⟩ _
  refine v_seq ?_
  refine w_reg ?_
  refine rw_p (ov_assign (v := (I 0)) rfl) rfl ?_
  refine rw_nil ?_
  refine q_seq ?_
  refine v_seq ?_
  refine v_seq ?_
  refine w_reg ?_
  refine rw_p (ov_move (v := (AV.sl ((a0).map cXApi_Func))) rfl) rfl ?_
  refine rw_p (ov_lenSl (m := a0.length) Tryd.underlying23 rfl rfl rfl (List.length_map _)) rfl ?_
  refine rw_p (ov_move (v := (I 0)) rfl) rfl ?_
  refine rw_nil ?_
  refine q_seq ?_
  refine v_block ?_
  obtain ⟨o1184, hL1185, hF⟩ := bindS hF
  refine v_loop (fun (s : Int) => [(AV.sl ((a0).map cXApi_Func)), (AV.fn (.func 41) [] []), (I (a0.length : Int)), (I s)]) (RelO (fun (s : Unit) x => ∃ t h, x = (Exit.exit 0, ⟨19, t, h⟩) ∧ True) (fun r x => x.1 = Exit.ret ∧ Fin cx RV40 (R_slices_IndexFunc_api_Func_api_Func__f41 r) x)) hL1185 lv40_2 (renorm_of (packL_mk (pk_of (v := (AV.sl ((a0).map cXApi_Func))) rfl rfl) (packL_mk (pk_of (v := (AV.fn (.func 41) [] [])) rfl rfl) (packL_mk (pk_of (v := (I (a0.length : Int))) rfl rfl) (packL_mk (pk_of (v := (I 0)) rfl rfl) packL_0)))) rfl) ?_ ?_
  · rintro y1176 z1177 hF
    replace hF : slices_IndexFunc_api_Func_api_Func__f41_L1 a0 y1176 = some z1177 := hF
    unfold slices_IndexFunc_api_Func_api_Func__f41_L1 at hF
    show W cx 40 _ _ ⟨19, (upd (upd (upd (upd (fun _ => AV.junk) 8 (I y1176)) 7 (I (a0.length : Int))) 1 (AV.fn (.func 41) [] [])) 0 (AV.sl ((a0).map cXApi_Func))), (fun _ => none)⟩ _
    refine v_seq ?_
    refine w_reg ?_
    refine rw_p (ov_lss (k := .i64) (a := y1176) (b := (a0.length : Int)) rfl rfl) rfl ?_
    refine rw_nil ?_
    refine q_seq ?_
    refine v_seq ?_
    refine w_if (p := (decide (y1176 < (a0.length : Int)))) hF rfl (fun hb1183 hF => ?_) (fun hb1183 hF => ?_)
    · refine w_skip ?_
      refine q_seq ?_
      refine v_seq ?_
      refine v_block ?_
      refine v_seq ?_
      refine w_reg ?_
      refine rw_p (ov_move (v := (I y1176)) rfl) rfl ?_
      refine rw_p (ov_assign (v := (I y1176)) rfl) rfl ?_
      refine rw_nil ?_
      refine q_seq ?_
      refine v_seq ?_
      refine w_reg ?_
      refine rw_p (ov_move (v := (AV.fn (.func 41) [] [])) rfl) rfl ?_
      refine rw_p (ov_move (v := (AV.sl ((a0).map cXApi_Func))) rfl) rfl ?_
      refine rw_p (ov_move (v := (I y1176)) rfl) rfl ?_
      obtain ⟨x1178, hx1179, hF⟩ := bindS hF
      refine rw_p (ov_indexAddr (k := .i64) (c := cXApi_Func) (q := a0) (i := y1176) Tryd.underlying23 sz37 rfl rfl rfl hx1179 rfl) rfl ?_
      refine rw_p (ov_load (v := (AV.agg (cXApi_Func x1178))) ag37 sz37 rfl rfl rfl) rfl ?_
      obtain ⟨x1180, hx1181, hF⟩ := bindS hF
      refine rw_p (ov_call (args := [(AV.agg (cXApi_Func x1178))]) (r := (R_code_Check_1 x1180)) (v := (B x1180)) rfl (cons_eq rfl rfl) rfl rfl (T_code_Check_1 nn x1178 x1180 hx1181) fz40 rfl rfl) rfl ?_
      refine rw_nil ?_
      refine q_seq ?_
      refine w_if (p := x1180) hF rfl (fun hb1182 hF => ?_) (fun hb1182 hF => ?_)
      · refine v_seq ?_
        refine w_reg ?_
        refine rw_p (ov_move (v := (I y1176)) rfl) rfl ?_
        refine rw_p (ov_assign (v := (I y1176)) rfl) rfl ?_
        refine rw_nil ?_
        refine q_seq ?_
        refine w_ret ?_
        refine q_blkR ?_
        refine q_seqR ?_
        obtain rfl := Option.some.inj hF
        exact q_outR (relR ⟨rfl, (fin_ret (res_tmp (pk_of (v := (I y1176)) rfl rfl) res_nil) rfl rfl)⟩)
      · refine w_skip ?_
        refine q_blk ?_
        refine q_seq ?_
        refine w_reg ?_
        refine rw_p (ov_add (k := .i64) (a := y1176) (b := 1) rfl rfl) rfl ?_
        refine rw_p (ov_move (v := (I (w64 (y1176 + 1)))) rfl) rfl ?_
        refine rw_nil ?_
        obtain rfl := Option.some.inj hF
        exact q_next (renorm_of (packL_mk (pk_of (v := (AV.sl ((a0).map cXApi_Func))) rfl rfl) (packL_mk (pk_of (v := (AV.fn (.func 41) [] [])) rfl rfl) (packL_mk (pk_of (v := (I (a0.length : Int))) rfl rfl) (packL_mk (pk_of (v := (I (w64 (y1176 + 1)))) rfl rfl) packL_0)))) rfl)
    · refine w_exit ?_
      refine q_seqE ?_
      obtain rfl := Option.some.inj hF
      refine q_out (relB ?_)
      exact ⟨_, _, rfl, trivial⟩
  · rintro x1189 hr1190
    cases o1184 with
    | ret r1191 =>
      replace hF : some r1191 = some r := hF
      obtain rfl := Option.some.inj hF
      obtain ⟨xe, xs⟩ := x1189
      obtain ⟨hxe, hfin⟩ := hr1190
      obtain rfl : xe = Exit.ret := hxe
      refine q_blkR ?_
      refine q_seqR ?_
      exact hfin
    | brk b1186 =>
      obtain ⟨t1187, h1188, rfl, _⟩ := hr1190
      refine q_blkH ?_
      refine q_seq ?_
      refine v_seq ?_
      refine w_reg ?_
      refine rw_p (ov_assign (v := (I (-1))) rfl) rfl ?_
      refine rw_nil ?_
      refine q_seq ?_
      refine w_ret ?_
      obtain rfl := Option.some.inj hF
      exact (fin_ret (res_tmp (pk_of (v := (I (-1))) rfl rfl) res_nil) rfl rfl)

/-! turnery/code.Check -/
noncomputable def code_Check_J1 (y666 : XApi_Fault) (y667 : (List ByteArray)) (y668 : Int) (y669 : Int) (x671 : XApi_Global) (y715 : Int) : Option (Lp (XApi_Fault × (List ByteArray) × Int × Int) (Br (XApi_Fault × (List ByteArray)) XApi_Fault)) :=
  if (y715 != 0) then
  ((core_Fault y715 y669).bind fun x734 =>
  some (.out (.ret x734)))
  else
  ((app y667 [x671.Name]).bind fun x736 =>
  some (.next (y666, x736, (w64 (y668 + x671.Size)), (w64 (y669 + 1)))))
noncomputable def code_Check_L1 (a0 : XApi_Unit) (y666 : XApi_Fault) (y667 : (List ByteArray)) (y668 : Int) (y669 : Int) : Option (Lp (XApi_Fault × (List ByteArray) × Int × Int) (Br (XApi_Fault × (List ByteArray)) XApi_Fault)) :=
  if (decide (y669 < (a0.Globals.length : Int))) then
  ((idx a0.Globals y669).bind fun x671 =>
  (core_Name x671.Name).bind fun x739 =>
  if (!x739) then
  (code_Check_J1 y666 y667 y668 y669 x671 12)
  else
  ((slices_Contains_string_string y667 x671.Name).bind fun x741 =>
  if x741 then
  (code_Check_J1 y666 y667 y668 y669 x671 7)
  else
  ((core_Within x671.Size 1 200).bind fun x743 =>
  if (!x743) then
  (code_Check_J1 y666 y667 y668 y669 x671 3)
  else
  (if (decide (x671.Size < (x671.Init.length : Int))) then
  (code_Check_J1 y666 y667 y668 y669 x671 9)
  else
  (if (decide (200 < (w64 (y668 + x671.Size)))) then
  (code_Check_J1 y666 y667 y668 y669 x671 10)
  else
  (code_Check_J1 y666 y667 y668 y669 x671 0))))))
  else
  (some (.out (.brk (y666, y667))))
noncomputable def code_Check_L2 (a0 : XApi_Unit) (y763 : XApi_Fault) (y764 : (List ByteArray)) (y765 : Int) : Option (Lp (XApi_Fault × (List ByteArray) × Int) (Br XApi_Fault XApi_Fault)) :=
  if (decide (y765 < (a0.Funcs.length : Int))) then
  ((idx a0.Funcs y765).bind fun x767 =>
  (code_checker_head (XCode_checker.mk a0 x767 []) y764).bind fun x814 =>
  if (x814 != 0) then
  ((core_Fault x814 y765).bind fun x816 =>
  some (.out (.ret x816)))
  else
  ((app y764 [x767.Name]).bind fun x818 =>
  some (.next (y763, x818, (w64 (y765 + 1))))))
  else
  (some (.out (.brk y763)))
noncomputable def code_Check_L3 (a0 : XApi_Unit) (y832 : XApi_Fault) (y833 : Int) : Option (Lp (XApi_Fault × Int) (Br XApi_Fault XApi_Fault)) :=
  if (decide (y833 < (a0.Funcs.length : Int))) then
  ((idx a0.Funcs y833).bind fun x835 =>
  (code_checker_body (XCode_checker.mk a0 x835 [])).bind fun x1160 =>
  if (x1160 != 0) then
  ((core_Fault x1160 y833).bind fun x1162 =>
  some (.out (.ret x1162)))
  else
  (some (.next (y832, (w64 (y833 + 1))))))
  else
  (some (.out (.brk y832)))
noncomputable def code_Check (a0 : XApi_Unit) : Option XApi_Fault :=
  if (if (decide (10 < (a0.Globals.length : Int))) then true else (decide (10 < (a0.Funcs.length : Int)))) then
  ((core_Fault 2 0).bind fun x664 =>
  some x664)
  else
  ((Loop (fun (s : (XApi_Fault × (List ByteArray) × Int × Int)) => code_Check_L1 a0 s.1 s.2.1 s.2.2.1 s.2.2.2) ((XApi_Fault.mk 0 0), [], 0, 0)).bind fun o751 => match o751 with
  | .ret r1210 => some r1210
  | .brk b753 =>
  (Loop (fun (s : (XApi_Fault × (List ByteArray) × Int)) => code_Check_L2 a0 s.1 s.2.1 s.2.2) (b753.1, b753.2, 0)).bind fun o822 => match o822 with
  | .ret r1207 => some r1207
  | .brk b824 =>
  (Loop (fun (s : (XApi_Fault × Int)) => code_Check_L3 a0 s.1 s.2) (b824, 0)).bind fun o1166 => match o1166 with
  | .ret r1204 => some r1204
  | .brk b1168 =>
  (slices_IndexFunc_api_Func_api_Func__f41 a0.Funcs).bind fun x1192 =>
  if (decide (x1192 < 0)) then
  ((core_Fault 6 0).bind fun x1194 =>
  some x1194)
  else
  ((idx a0.Funcs x1192).bind fun x1196 =>
  if (decide (0 < x1196.Params)) then
  ((core_Fault 5 x1192).bind fun x1198 =>
  some x1198)
  else
  (some (XApi_Fault.mk 0 0))))
abbrev RV15 : List ResultVar := [.cell 2 28]
def R_code_Check (r : XApi_Fault) : AV := (.agg (cXApi_Fault r))
set_option maxHeartbeats 2000000 in
theorem T_code_Check (nn : Nat) (a0 : XApi_Unit) (r : XApi_Fault) (hF : code_Check a0 = some r) : den cx (nn + 7) 15 [(AV.agg (cXApi_Unit a0))] = some (R_code_Check r, []) := by
  unfold code_Check at hF
  refine fn_of (nn := (nn + 6)) (rv := RV15) (cxE _) Tryd.func15 rfl rfl Tryd.ntmps15 (cxL _) rfl ?_
  show W cx 15 _ _ ⟨139, (upd (fun _ => AV.junk) 0 (AV.agg (cXApi_Unit a0))), (fun _ => none)⟩ _
  refine v_seq ?_
  refine w_reg ?_
  refine rw_p (ov_boxF (cs := cXApi_Unit a0) (cs' := cXApi_Unit a0) ag25 fz15 rfl rfl rfl rfl rfl) rfl ?_
  refine rw_w (ov_alloc zm28 rfl) rfl ?_
  refine rw_nil ?_
  refine q_seq ?_
  refine v_seq ?_
  refine v_seq ?_
  refine w_reg ?_
  refine rw_p (ov_fieldAddr (cells' := (cXApi_Unit a0)) fd25_0 rfl rfl rfl rfl) rfl ?_
  refine rw_p (ov_load (v := (AV.sl ((a0.Globals).map cXApi_Global))) ag22 sz22 rfl rfl rfl) rfl ?_
  refine rw_p (ov_lenSl (m := a0.Globals.length) Tryd.underlying22 rfl rfl rfl (List.length_map _)) rfl ?_
  refine rw_p (ov_gtr (k := .i64) (a := (a0.Globals.length : Int)) (b := 10) rfl rfl) rfl ?_
  refine rw_p (ov_move (v := (B (decide (10 < (a0.Globals.length : Int))))) rfl) rfl ?_
  refine rw_g rfl (ov_fieldAddr (cells' := ((cXApi_Unit a0).drop 1)) fd25_1 rfl rfl rfl rfl) rfl ?_
  refine rw_g rfl (ov_load (v := (AV.sl ((a0.Funcs).map cXApi_Func))) ag23 sz23 (un_self _) rfl rfl) rfl ?_
  refine rw_g rfl (ov_lenSl (m := a0.Funcs.length) Tryd.underlying23 rfl rfl (un_self _) (List.length_map _)) rfl ?_
  refine rw_g rfl (ov_gtr (k := .i64) (a := (a0.Funcs.length : Int)) (b := 10) (un_self _) rfl) rfl ?_
  refine rw_p (ov_pickB (p := (decide (10 < (a0.Globals.length : Int)))) (q := true) (r := (decide (10 < (a0.Funcs.length : Int)))) rfl rfl (un_imp (by generalize (decide (10 < (a0.Globals.length : Int))) = u0; cases u0 <;> rfl))) rfl ?_
  refine rw_nil ?_
  refine q_seq ?_
  refine w_if (p := (if (decide (10 < (a0.Globals.length : Int))) then true else (decide (10 < (a0.Funcs.length : Int))))) hF rfl (fun hb1211 hF => ?_) (fun hb1211 hF => ?_)
  · refine v_seq ?_
    refine w_reg ?_
    obtain ⟨x664, hx665, hF⟩ := bindS hF
    refine rw_p (ov_call (args := [(I 2), (I 0)]) (r := (R_core_Fault x664)) (v := (AV.agg (cXApi_Fault x664))) rfl (cons_eq rfl (cons_eq rfl rfl)) rfl rfl (T_core_Fault (nn + 5) 2 0 x664 hx665) fz15 rfl rfl) rfl ?_
    refine rw_w (ov_storeM (c := cXApi_Fault) (q := [(XApi_Fault.mk 0 0)]) (r := (XApi_Fault.mk 0 0)) (r' := x664) (v := (AV.agg (cXApi_Fault x664))) (cs := cXApi_Fault x664) ag28 sz28 rfl rfl rfl rfl rfl rfl rfl fz15 rfl rfl) rfl ?_
    refine rw_nil ?_
    refine q_seq ?_
    refine w_ret ?_
    refine q_seqR ?_
    obtain rfl := Option.some.inj hF
    exact (fin_ret (res_cellM (v := (AV.agg (cXApi_Fault x664))) (v' := (AV.agg (cXApi_Fault x664))) ag28 sz28 rfl rfl rfl rfl rfl rfl res_nil) rfl rfl)
  · refine w_skip ?_
    refine q_seq ?_
    refine v_seq ?_
    refine w_reg ?_
    refine rw_p (ov_assign (v := AV.snil) rfl) rfl ?_
    refine rw_nil ?_
    refine q_seq ?_
    refine v_seq ?_
    refine w_reg ?_
    refine rw_p (ov_assign (v := (I 0)) rfl) rfl ?_
    refine rw_nil ?_
    refine q_seq ?_
    refine v_seq ?_
    refine v_seq ?_
    refine w_reg ?_
    refine rw_p (ov_fieldAddr (cells' := (cXApi_Unit a0)) fd25_0 rfl rfl rfl rfl) rfl ?_
    refine rw_p (ov_load (v := (AV.sl ((a0.Globals).map cXApi_Global))) ag22 sz22 rfl rfl rfl) rfl ?_
    refine rw_p (ov_lenSl (m := a0.Globals.length) Tryd.underlying22 rfl rfl rfl (List.length_map _)) rfl ?_
    refine rw_p (ov_move (v := (I 0)) rfl) rfl ?_
    refine rw_nil ?_
    refine q_seq ?_
    refine v_block ?_
    obtain ⟨o751, hL752, hF⟩ := bindS hF
    refine v_loop (fun (s : (XApi_Fault × (List ByteArray) × Int × Int)) => [(AV.vp (cXApi_Unit a0)), (AV.ownp (cXApi_Fault s.1)), (AV.own ((s.2.1).map cStr)), (I s.2.2.1), (AV.sl ((a0.Globals).map cXApi_Global)), (I (a0.Globals.length : Int)), (I s.2.2.2)]) (RelO (fun (s : (XApi_Fault × (List ByteArray))) x => ∃ t h, x = (Exit.exit 0, ⟨139, t, h⟩) ∧ t 1 = (AV.vp (cXApi_Unit a0)) ∧ t 2 = (AV.mp [2] 0 0) ∧ h [2] = some (some ([s.1].map cXApi_Fault)) ∧ t 3 = (AV.rs [3] 0 (s.2).length) ∧ h [3] = some (some ((s.2).map cStr)) ∧ h [128] = none ∧ h [137] = none) (fun r x => x.1 = Exit.ret ∧ Fin cx RV15 (R_code_Check r) x)) hL752 lv15_6 (renorm_of (packL_mk (pk_of (v := (AV.vp (cXApi_Unit a0))) rfl rfl) (packL_mk (pk_mpT (cs := cXApi_Fault (XApi_Fault.mk 0 0)) rfl rfl (fl_cXApi_Fault _)) (packL_mk (pk_nilT (c := cStr) rfl) (packL_mk (pk_of (v := (I 0)) rfl rfl) (packL_mk (pk_of (v := (AV.sl ((a0.Globals).map cXApi_Global))) rfl rfl) (packL_mk (pk_of (v := (I (a0.Globals.length : Int))) rfl rfl) (packL_mk (pk_of (v := (I 0)) rfl rfl) packL_0))))))) rfl) ?_ ?_
    · rintro ⟨y666, y667, y668, y669⟩ z670 hF
      replace hF : code_Check_L1 a0 y666 y667 y668 y669 = some z670 := hF
      unfold code_Check_L1 at hF
      show W cx 15 _ _ ⟨139, (upd (upd (upd (upd (upd (upd (upd (fun _ => AV.junk) 31 (I y669)) 30 (I (a0.Globals.length : Int))) 29 (AV.sl ((a0.Globals).map cXApi_Global))) 4 (I y668)) 3 (AV.rs [3] 0 (y667.map cStr).length)) 2 (AV.mp [2] 0 0)) 1 (AV.vp (cXApi_Unit a0))), (upd (upd (fun _ => none) [3] (some (some (y667.map cStr)))) [2] (some (some [cXApi_Fault y666])))⟩ _
      refine v_seq ?_
      refine w_reg ?_
      refine rw_p (ov_lss (k := .i64) (a := y669) (b := (a0.Globals.length : Int)) rfl rfl) rfl ?_
      refine rw_nil ?_
      refine q_seq ?_
      refine v_seq ?_
      refine w_if (p := (decide (y669 < (a0.Globals.length : Int)))) hF rfl (fun hb750 hF => ?_) (fun hb750 hF => ?_)
      · refine w_skip ?_
        refine q_seq ?_
        refine v_seq ?_
        refine v_block ?_
        refine v_seq ?_
        refine w_reg ?_
        refine rw_p (ov_move (v := (I y669)) rfl) rfl ?_
        obtain ⟨x671, hx672, hF⟩ := bindS hF
        refine rw_p (ov_indexAddr (k := .i64) (c := cXApi_Global) (q := a0.Globals) (i := y669) Tryd.underlying22 sz73 rfl rfl rfl hx672 rfl) rfl ?_
        refine rw_p (ov_load (v := (AV.agg (cXApi_Global x671))) ag73 sz73 rfl rfl rfl) rfl ?_
        refine rw_w (ov_alloc zm73 rfl) rfl ?_
        refine rw_p (ov_assign (v := (I y669)) rfl) rfl ?_
        refine rw_w (ov_storeF (v := (AV.agg (cXApi_Global x671))) (cs := cXApi_Global x671) (cs' := cXApi_Global x671) ag73 sz73 rfl rfl rfl rfl rfl rfl fz15 rfl rfl rfl) rfl ?_
        refine rw_nil ?_
        refine q_seq ?_
        refine v_seq ?_
        refine w_reg ?_
        refine rw_p (ov_assign (v := (I 0)) rfl) rfl ?_
        refine rw_nil ?_
        refine q_seq ?_
        refine v_join (σ := Int) (r := z670) 139 (fun s t h => t 1 = (AV.vp (cXApi_Unit a0)) ∧ t 2 = (AV.mp [2] 0 0) ∧ t 3 = (AV.rs [3] 0 (y667).length) ∧ t 4 = (I y668) ∧ t 5 = (I y669) ∧ t 6 = (AV.vp (cXApi_Global x671)) ∧ t 29 = (AV.sl ((a0.Globals).map cXApi_Global)) ∧ t 30 = (I (a0.Globals.length : Int)) ∧ t 31 = (I y669) ∧ t 7 = (I s) ∧ h [2] = some (some ([y666].map cXApi_Fault)) ∧ h [3] = some (some ((y667).map cStr)) ∧ h [68] = none ∧ h [73] = none ∧ h [128] = none ∧ h [137] = none) (fun s => code_Check_J1 y666 y667 y668 y669 x671 s) ?_ ?_
        · refine v_block ?_
          refine v_seq ?_
          refine w_reg ?_
          refine rw_p (ov_fieldAddr (cells' := (cXApi_Global x671)) fd73_0 rfl rfl rfl rfl) rfl ?_
          refine rw_p (ov_load (v := (AV.val (.string x671.Name))) ag9 sz9 rfl rfl rfl) rfl ?_
          obtain ⟨x739, hx740, hF⟩ := bindS hF
          refine rw_p (ov_call (args := [(AV.val (.string x671.Name))]) (r := (R_core_Name x739)) (v := (B x739)) rfl (cons_eq rfl rfl) rfl rfl (T_core_Name (nn + 5) x671.Name x739 hx740) fz15 rfl rfl) rfl ?_
          refine rw_p (ov_not (p := x739) rfl) rfl ?_
          refine rw_p (ov_assign (v := (B (!x739))) rfl) rfl ?_
          refine rw_nil ?_
          refine q_seq ?_
          refine w_if (p := (!x739)) hF rfl (fun hb749 hF => ?_) (fun hb749 hF => ?_)
          · refine w_reg ?_
            refine rw_p (ov_assign (v := (I 12)) rfl) rfl ?_
            refine rw_nil ?_
            refine q_blk ?_
            refine q_join ?_
            exact ⟨12, _, _, rfl, ⟨rfl, rfl, (congrArg (AV.rs [3] 0) (List.length_map _)), rfl, rfl, rfl, rfl, rfl, rfl, rfl, rfl, rfl, rfl, rfl, rfl, rfl⟩, hF⟩
          · refine v_seq ?_
            refine w_reg ?_
            refine rw_p (ov_move (v := (AV.rs [3] 0 (y667).length)) (congrArg (un _) (congrArg (AV.rs [3] 0) (List.length_map _)))) rfl ?_
            refine rw_p (ov_fieldAddr (cells' := (cXApi_Global x671)) fd73_0 rfl rfl rfl rfl) rfl ?_
            refine rw_p (ov_load (v := (AV.val (.string x671.Name))) ag9 sz9 rfl rfl rfl) rfl ?_
            obtain ⟨x741, hx742, hF⟩ := bindS hF
            refine rw_r (ov_callB (all := [(AV.rs [3] 0 (y667).length), (AV.val (.string x671.Name))]) (args := [(AV.sl ((y667).map cStr)), (AV.val (.string x671.Name))]) (r := (R_slices_Contains_string_string x741)) (v := (B x741)) rfl (cons_eq rfl (cons_eq rfl rfl)) rfl (bwL_rs (c := cStr) (q := y667) rfl (fun _ => rfl) (bwL_imm1 (a := (AV.val (.string x671.Name))) rfl bwL_0)) (T_slices_Contains_string_string (nn + 4) y667 x671.Name x741 hx742) rfl fz15 rfl rfl) rfl ?_
            refine rw_p (ov_assign (v := (B x741)) rfl) rfl ?_
            refine rw_nil ?_
            refine q_seq ?_
            refine w_if (p := x741) hF rfl (fun hb748 hF => ?_) (fun hb748 hF => ?_)
            · refine w_reg ?_
              refine rw_p (ov_assign (v := (I 7)) rfl) rfl ?_
              refine rw_nil ?_
              refine q_blk ?_
              refine q_join ?_
              exact ⟨7, _, _, rfl, ⟨rfl, rfl, (congrArg (AV.rs [3] 0) (List.length_map _)), rfl, rfl, rfl, rfl, rfl, rfl, rfl, rfl, rfl, rfl, rfl, rfl, rfl⟩, hF⟩
            · refine v_seq ?_
              refine w_reg ?_
              refine rw_p (ov_fieldAddr (cells' := ((cXApi_Global x671).drop 1)) fd73_1 rfl rfl rfl rfl) rfl ?_
              refine rw_p (ov_load (v := (I x671.Size)) ag3 sz3 rfl rfl rfl) rfl ?_
              obtain ⟨x743, hx744, hF⟩ := bindS hF
              refine rw_p (ov_call (args := [(I x671.Size), (I 1), (I 200)]) (r := (R_core_Within x743)) (v := (B x743)) rfl (cons_eq rfl (cons_eq rfl (cons_eq rfl rfl))) rfl rfl (T_core_Within (nn + 5) x671.Size 1 200 x743 hx744) fz15 rfl rfl) rfl ?_
              refine rw_p (ov_not (p := x743) rfl) rfl ?_
              refine rw_p (ov_assign (v := (B (!x743))) rfl) rfl ?_
              refine rw_nil ?_
              refine q_seq ?_
              refine w_if (p := (!x743)) hF rfl (fun hb747 hF => ?_) (fun hb747 hF => ?_)
              · refine w_reg ?_
                refine rw_p (ov_assign (v := (I 3)) rfl) rfl ?_
                refine rw_nil ?_
                refine q_blk ?_
                refine q_join ?_
                exact ⟨3, _, _, rfl, ⟨rfl, rfl, (congrArg (AV.rs [3] 0) (List.length_map _)), rfl, rfl, rfl, rfl, rfl, rfl, rfl, rfl, rfl, rfl, rfl, rfl, rfl⟩, hF⟩
              · refine v_seq ?_
                refine w_reg ?_
                refine rw_p (ov_fieldAddr (cells' := ((cXApi_Global x671).drop 2)) fd73_2 rfl rfl rfl rfl) rfl ?_
                refine rw_p (ov_load (v := (AV.sl ((x671.Init).map cInt_i64))) ag42 sz42 rfl rfl rfl) rfl ?_
                refine rw_p (ov_lenSl (m := x671.Init.length) Tryd.underlying42 rfl rfl rfl (List.length_map _)) rfl ?_
                refine rw_p (ov_fieldAddr (cells' := ((cXApi_Global x671).drop 1)) fd73_1 rfl rfl rfl rfl) rfl ?_
                refine rw_p (ov_load (v := (I x671.Size)) ag3 sz3 rfl rfl rfl) rfl ?_
                refine rw_p (ov_gtr (k := .i64) (a := (x671.Init.length : Int)) (b := x671.Size) rfl rfl) rfl ?_
                refine rw_p (ov_assign (v := (B (decide (x671.Size < (x671.Init.length : Int))))) rfl) rfl ?_
                refine rw_nil ?_
                refine q_seq ?_
                refine w_if (p := (decide (x671.Size < (x671.Init.length : Int)))) hF rfl (fun hb746 hF => ?_) (fun hb746 hF => ?_)
                · refine w_reg ?_
                  refine rw_p (ov_assign (v := (I 9)) rfl) rfl ?_
                  refine rw_nil ?_
                  refine q_blk ?_
                  refine q_join ?_
                  exact ⟨9, _, _, rfl, ⟨rfl, rfl, (congrArg (AV.rs [3] 0) (List.length_map _)), rfl, rfl, rfl, rfl, rfl, rfl, rfl, rfl, rfl, rfl, rfl, rfl, rfl⟩, hF⟩
                · refine v_seq ?_
                  refine w_reg ?_
                  refine rw_p (ov_move (v := (I y668)) rfl) rfl ?_
                  refine rw_p (ov_fieldAddr (cells' := ((cXApi_Global x671).drop 1)) fd73_1 rfl rfl rfl rfl) rfl ?_
                  refine rw_p (ov_load (v := (I x671.Size)) ag3 sz3 rfl rfl rfl) rfl ?_
                  refine rw_p (ov_add (k := .i64) (a := y668) (b := x671.Size) rfl rfl) rfl ?_
                  refine rw_p (ov_gtr (k := .i64) (a := (w64 (y668 + x671.Size))) (b := 200) rfl rfl) rfl ?_
                  refine rw_p (ov_assign (v := (B (decide (200 < (w64 (y668 + x671.Size)))))) rfl) rfl ?_
                  refine rw_nil ?_
                  refine q_seq ?_
                  refine w_if (p := (decide (200 < (w64 (y668 + x671.Size))))) hF rfl (fun hb745 hF => ?_) (fun hb745 hF => ?_)
                  · refine w_reg ?_
                    refine rw_p (ov_assign (v := (I 10)) rfl) rfl ?_
                    refine rw_nil ?_
                    refine q_blk ?_
                    refine q_join ?_
                    exact ⟨10, _, _, rfl, ⟨rfl, rfl, (congrArg (AV.rs [3] 0) (List.length_map _)), rfl, rfl, rfl, rfl, rfl, rfl, rfl, rfl, rfl, rfl, rfl, rfl, rfl⟩, hF⟩
                  · refine w_skip ?_
                    refine q_blk ?_
                    refine q_join ?_
                    exact ⟨0, _, _, rfl, ⟨rfl, rfl, (congrArg (AV.rs [3] 0) (List.length_map _)), rfl, rfl, rfl, rfl, rfl, rfl, rfl, rfl, rfl, rfl, rfl, rfl, rfl⟩, hF⟩
        · rintro y715 t716 h717 ⟨e718, e719, e720, e721, e722, e723, e724, e725, e726, e727, e728, e729, e730, e731, e732, e733⟩ hF
          replace hF : code_Check_J1 y666 y667 y668 y669 x671 y715 = some z670 := hF
          unfold code_Check_J1 at hF
          refine v_seq ?_
          refine v_seq ?_
          refine w_reg ?_
          refine rw_p (ov_move (v := (I y715)) (congrArg (un _) e727)) rfl ?_
          refine rw_p (ov_neq (k := .i64) (a := y715) (b := 0) rfl rfl) rfl ?_
          refine rw_nil ?_
          refine q_seq ?_
          refine w_if (p := (y715 != 0)) hF rfl (fun hb738 hF => ?_) (fun hb738 hF => ?_)
          · refine v_seq ?_
            refine w_reg ?_
            refine rw_p (ov_move (v := (I y715)) (congrArg (un _) e727)) rfl ?_
            refine rw_p (ov_move (v := (I y669)) (congrArg (un _) e722)) rfl ?_
            obtain ⟨x734, hx735, hF⟩ := bindS hF
            refine rw_p (ov_call (args := [(I y715), (I y669)]) (r := (R_core_Fault x734)) (v := (AV.agg (cXApi_Fault x734))) rfl (cons_eq rfl (cons_eq rfl rfl)) rfl rfl (T_core_Fault (nn + 5) y715 y669 x734 hx735) fz15 rfl rfl) rfl ?_
            refine rw_w (ov_storeM (c := cXApi_Fault) (q := [y666]) (r := y666) (r' := x734) (v := (AV.agg (cXApi_Fault x734))) (cs := cXApi_Fault x734) ag28 sz28 (congrArg (un _) e719) rfl rfl rfl e728 rfl rfl fz15 rfl rfl) rfl ?_
            refine rw_nil ?_
            refine q_seq ?_
            refine w_ret ?_
            refine q_seqR ?_
            refine q_blkR ?_
            refine q_seqR ?_
            obtain rfl := Option.some.inj hF
            exact q_outR (relR ⟨rfl, (fin_ret (res_cellM (v := (AV.agg (cXApi_Fault x734))) (v' := (AV.agg (cXApi_Fault x734))) ag28 sz28 (congrArg (un _) e719) rfl rfl rfl rfl rfl res_nil) rfl rfl)⟩)
          · refine w_skip ?_
            refine q_seq ?_
            refine v_seq ?_
            refine w_reg ?_
            refine rw_p (ov_move (v := (AV.rs [3] 0 (y667).length)) (congrArg (un _) e720)) rfl ?_
            refine rw_p (ov_fieldAddr (cells' := (cXApi_Global x671)) fd73_0 rfl (congrArg (un _) e723) rfl rfl) rfl ?_
            refine rw_p (ov_load (v := (AV.val (.string x671.Name))) ag9 sz9 rfl rfl rfl) rfl ?_
            refine rw_p (ov_buildSliceF (ps := [(0, (AV.val (.string x671.Name)))]) (rows := ([x671.Name] : List ByteArray).map cStr) (rows' := ([x671.Name] : List ByteArray).map cStr) Tryd.underlying78 zc9 ag9 sz9 rfl (cons_eqp rfl rfl) rfl fz15 rfl rfl rfl) rfl ?_
            obtain ⟨x736, hx737, hF⟩ := bindS hF
            refine rw_w (ov_append (c := cStr) (q := y667) (q' := [x671.Name]) rfl Tryd.underlying78 rfl Tryd.underlying78 ao9 rfl rfl e729 rfl ln_cStr rfl hx737 e731) rfl ?_
            refine rw_p (ov_assign (v := (AV.rs [73] 0 (x736).length)) rfl) rfl ?_
            refine rw_nil ?_
            refine q_seq ?_
            refine w_reg ?_
            refine rw_p (ov_move (v := (I y668)) (congrArg (un _) e721)) rfl ?_
            refine rw_p (ov_fieldAddr (cells' := ((cXApi_Global x671).drop 1)) fd73_1 rfl (congrArg (un _) e723) rfl rfl) rfl ?_
            refine rw_p (ov_load (v := (I x671.Size)) ag3 sz3 rfl rfl rfl) rfl ?_
            refine rw_p (ov_add (k := .i64) (a := y668) (b := x671.Size) rfl rfl) rfl ?_
            refine rw_p (ov_assign (v := (I (w64 (y668 + x671.Size)))) rfl) rfl ?_
            refine rw_nil ?_
            refine q_blk ?_
            refine q_seq ?_
            refine w_reg ?_
            refine rw_p (ov_add (k := .i64) (a := y669) (b := 1) (congrArg (un _) e726) rfl) rfl ?_
            refine rw_p (ov_move (v := (I (w64 (y669 + 1)))) rfl) rfl ?_
            refine rw_nil ?_
            obtain rfl := Option.some.inj hF
            exact q_next (renorm_of (packL_mk (pk_of (v := (AV.vp (cXApi_Unit a0))) e718 rfl) (packL_mk (pk_mpT (cs := cXApi_Fault y666) e719 e728 (fl_cXApi_Fault _)) (packL_mk (pk_rsT (c := cStr) (q := x736) rfl rfl fl_cStr) (packL_mk (pk_of (v := (I (w64 (y668 + x671.Size)))) rfl rfl) (packL_mk (pk_of (v := (AV.sl ((a0.Globals).map cXApi_Global))) e724 rfl) (packL_mk (pk_of (v := (I (a0.Globals.length : Int))) e725 rfl) (packL_mk (pk_of (v := (I (w64 (y669 + 1)))) rfl rfl) packL_0))))))) rfl)
      · refine w_exit ?_
        refine q_seqE ?_
        obtain rfl := Option.some.inj hF
        refine q_out (relB ?_)
        exact ⟨_, _, rfl, rfl, rfl, rfl, (congrArg (AV.rs [3] 0) (List.length_map _)), rfl, rfl, rfl⟩
    · rintro x1208 hr1209
      cases o751 with
      | ret r1210 =>
        replace hF : some r1210 = some r := hF
        obtain rfl := Option.some.inj hF
        obtain ⟨xe, xs⟩ := x1208
        obtain ⟨hxe, hfin⟩ := hr1209
        obtain rfl : xe = Exit.ret := hxe
        refine q_blkR ?_
        refine q_seqR ?_
        exact hfin
      | brk b753 =>
        obtain ⟨t754, h755, rfl, e756, e757, e758, e759, e760, e761, e762⟩ := hr1209
        refine q_blkH ?_
        refine q_seq ?_
        refine v_seq ?_
        refine v_seq ?_
        refine w_reg ?_
        refine rw_p (ov_fieldAddr (cells' := ((cXApi_Unit a0).drop 1)) fd25_1 rfl (congrArg (un _) e756) rfl rfl) rfl ?_
        refine rw_p (ov_load (v := (AV.sl ((a0.Funcs).map cXApi_Func))) ag23 sz23 rfl rfl rfl) rfl ?_
        refine rw_p (ov_lenSl (m := a0.Funcs.length) Tryd.underlying23 rfl rfl rfl (List.length_map _)) rfl ?_
        refine rw_p (ov_move (v := (I 0)) rfl) rfl ?_
        refine rw_nil ?_
        refine q_seq ?_
        refine v_block ?_
        obtain ⟨o822, hL823, hF⟩ := bindS hF
        refine v_loop (fun (s : (XApi_Fault × (List ByteArray) × Int)) => [(AV.vp (cXApi_Unit a0)), (AV.ownp (cXApi_Fault s.1)), (AV.own ((s.2.1).map cStr)), (AV.sl ((a0.Funcs).map cXApi_Func)), (I (a0.Funcs.length : Int)), (I s.2.2)]) (RelO (fun (s : XApi_Fault) x => ∃ t h, x = (Exit.exit 3, ⟨139, t, h⟩) ∧ t 1 = (AV.vp (cXApi_Unit a0)) ∧ t 2 = (AV.mp [2] 0 0) ∧ h [2] = some (some ([s].map cXApi_Fault)) ∧ h [128] = none ∧ h [137] = none) (fun r x => x.1 = Exit.ret ∧ Fin cx RV15 (R_code_Check r) x)) hL823 lv15_25 (renorm_of (packL_mk (pk_of (v := (AV.vp (cXApi_Unit a0))) e756 rfl) (packL_mk (pk_mpT (cs := cXApi_Fault b753.1) e757 e758 (fl_cXApi_Fault _)) (packL_mk (pk_rsT (c := cStr) (q := b753.2) e759 e760 fl_cStr) (packL_mk (pk_of (v := (AV.sl ((a0.Funcs).map cXApi_Func))) rfl rfl) (packL_mk (pk_of (v := (I (a0.Funcs.length : Int))) rfl rfl) (packL_mk (pk_of (v := (I 0)) rfl rfl) packL_0)))))) rfl) ?_ ?_
        · rintro ⟨y763, y764, y765⟩ z766 hF
          replace hF : code_Check_L2 a0 y763 y764 y765 = some z766 := hF
          unfold code_Check_L2 at hF
          show W cx 15 _ _ ⟨139, (upd (upd (upd (upd (upd (upd (fun _ => AV.junk) 82 (I y765)) 81 (I (a0.Funcs.length : Int))) 80 (AV.sl ((a0.Funcs).map cXApi_Func))) 3 (AV.rs [3] 0 (y764.map cStr).length)) 2 (AV.mp [2] 0 0)) 1 (AV.vp (cXApi_Unit a0))), (upd (upd (fun _ => none) [3] (some (some (y764.map cStr)))) [2] (some (some [cXApi_Fault y763])))⟩ _
          refine v_seq ?_
          refine w_reg ?_
          refine rw_p (ov_lss (k := .i64) (a := y765) (b := (a0.Funcs.length : Int)) rfl rfl) rfl ?_
          refine rw_nil ?_
          refine q_seq ?_
          refine v_seq ?_
          refine w_if (p := (decide (y765 < (a0.Funcs.length : Int)))) hF rfl (fun hb821 hF => ?_) (fun hb821 hF => ?_)
          · refine w_skip ?_
            refine q_seq ?_
            refine v_seq ?_
            refine v_block ?_
            refine v_seq ?_
            refine w_reg ?_
            refine rw_p (ov_move (v := (I y765)) rfl) rfl ?_
            obtain ⟨x767, hx768, hF⟩ := bindS hF
            refine rw_p (ov_indexAddr (k := .i64) (c := cXApi_Func) (q := a0.Funcs) (i := y765) Tryd.underlying23 sz37 rfl rfl rfl hx768 rfl) rfl ?_
            refine rw_p (ov_load (v := (AV.agg (cXApi_Func x767))) ag37 sz37 rfl rfl rfl) rfl ?_
            refine rw_w (ov_alloc zm37 rfl) rfl ?_
            refine rw_p (ov_assign (v := (I y765)) rfl) rfl ?_
            refine rw_w (ov_storeF (v := (AV.agg (cXApi_Func x767))) (cs := cXApi_Func x767) (cs' := cXApi_Func x767) ag37 sz37 rfl rfl rfl rfl rfl rfl fz15 rfl rfl rfl) rfl ?_
            refine rw_nil ?_
            refine q_seq ?_
            refine v_seq ?_
            refine w_reg ?_
            refine rw_p (ov_load (v := (AV.agg (cXApi_Unit a0))) ag25 sz25 rfl rfl rfl) rfl ?_
            refine rw_p (ov_load (v := (AV.agg (cXApi_Func x767))) ag37 sz37 rfl rfl rfl) rfl ?_
            refine rw_p (ov_build (ps := [(0, (AV.agg (cXApi_Unit a0))), (1, (AV.agg (cXApi_Func x767)))]) (cs := [(.sl ((a0.Globals).map cXApi_Global)), (.sl ((a0.Funcs).map cXApi_Func)), (AV.val (.string x767.Name)), (I x767.Params), (I x767.Regs), (.sl ((x767.Blocks).map cXApi_Block)), AV.snil]) zc82 pl82 (cons_eqp rfl (cons_eqp rfl rfl)) rfl) rfl ?_
            refine rw_w (ov_alloc zm82 rfl) rfl ?_
            refine rw_w (ov_storeF (v := (AV.agg [(.sl ((a0.Globals).map cXApi_Global)), (.sl ((a0.Funcs).map cXApi_Func)), (AV.val (.string x767.Name)), (I x767.Params), (I x767.Regs), (.sl ((x767.Blocks).map cXApi_Block)), AV.snil])) (cs := [(.sl ((a0.Globals).map cXApi_Global)), (.sl ((a0.Funcs).map cXApi_Func)), (AV.val (.string x767.Name)), (I x767.Params), (I x767.Regs), (.sl ((x767.Blocks).map cXApi_Block)), AV.snil]) (cs' := cXCode_checker (XCode_checker.mk a0 x767 [])) ag82 sz82 rfl rfl rfl rfl rfl rfl fz15 rfl rfl rfl) rfl ?_
            refine rw_nil ?_
            refine q_seq ?_
            refine v_seq ?_
            refine v_seq ?_
            refine w_reg ?_
            refine rw_p (ov_load (v := (AV.agg (cXCode_checker (XCode_checker.mk a0 x767 [])))) ag82 sz82 rfl rfl rfl) rfl ?_
            refine rw_p (ov_move (v := (AV.rs [3] 0 (y764).length)) (congrArg (un _) (congrArg (AV.rs [3] 0) (List.length_map _)))) rfl ?_
            obtain ⟨x814, hx815, hF⟩ := bindS hF
            refine rw_r (ov_callB (all := [(AV.agg (cXCode_checker (XCode_checker.mk a0 x767 []))), (AV.rs [3] 0 (y764).length)]) (args := [(AV.agg (cXCode_checker (XCode_checker.mk a0 x767 []))), (AV.sl ((y764).map cStr))]) (r := (R_code_checker_head x814)) (v := (I x814)) rfl (cons_eq rfl (cons_eq rfl rfl)) rfl (bwL_imm1 (a := (AV.agg (cXCode_checker (XCode_checker.mk a0 x767 [])))) rfl (bwL_rs (c := cStr) (q := y764) rfl (fun _ => rfl) bwL_0)) (T_code_checker_head (nn + 3) (XCode_checker.mk a0 x767 []) y764 x814 hx815) rfl fz15 rfl rfl) rfl ?_
            refine rw_p (ov_assign (v := (I x814)) rfl) rfl ?_
            refine rw_nil ?_
            refine q_seq ?_
            refine v_seq ?_
            refine w_reg ?_
            refine rw_p (ov_move (v := (I x814)) rfl) rfl ?_
            refine rw_p (ov_neq (k := .i64) (a := x814) (b := 0) rfl rfl) rfl ?_
            refine rw_nil ?_
            refine q_seq ?_
            refine w_if (p := (x814 != 0)) hF rfl (fun hb820 hF => ?_) (fun hb820 hF => ?_)
            · refine v_seq ?_
              refine w_reg ?_
              refine rw_p (ov_move (v := (I x814)) rfl) rfl ?_
              refine rw_p (ov_move (v := (I y765)) rfl) rfl ?_
              obtain ⟨x816, hx817, hF⟩ := bindS hF
              refine rw_p (ov_call (args := [(I x814), (I y765)]) (r := (R_core_Fault x816)) (v := (AV.agg (cXApi_Fault x816))) rfl (cons_eq rfl (cons_eq rfl rfl)) rfl rfl (T_core_Fault (nn + 5) x814 y765 x816 hx817) fz15 rfl rfl) rfl ?_
              refine rw_w (ov_storeM (c := cXApi_Fault) (q := [y763]) (r := y763) (r' := x816) (v := (AV.agg (cXApi_Fault x816))) (cs := cXApi_Fault x816) ag28 sz28 rfl rfl rfl rfl rfl rfl rfl fz15 rfl rfl) rfl ?_
              refine rw_nil ?_
              refine q_seq ?_
              refine w_ret ?_
              refine q_seqR ?_
              refine q_blkR ?_
              refine q_seqR ?_
              obtain rfl := Option.some.inj hF
              exact q_outR (relR ⟨rfl, (fin_ret (res_cellM (v := (AV.agg (cXApi_Fault x816))) (v' := (AV.agg (cXApi_Fault x816))) ag28 sz28 rfl rfl rfl rfl rfl rfl res_nil) rfl rfl)⟩)
            · refine w_skip ?_
              refine q_seq ?_
              refine w_reg ?_
              refine rw_p (ov_move (v := (AV.rs [3] 0 (y764).length)) (congrArg (un _) (congrArg (AV.rs [3] 0) (List.length_map _)))) rfl ?_
              refine rw_p (ov_fieldAddr (cells' := (cXApi_Func x767)) fd37_0 rfl rfl rfl rfl) rfl ?_
              refine rw_p (ov_load (v := (AV.val (.string x767.Name))) ag9 sz9 rfl rfl rfl) rfl ?_
              refine rw_p (ov_buildSliceF (ps := [(0, (AV.val (.string x767.Name)))]) (rows := ([x767.Name] : List ByteArray).map cStr) (rows' := ([x767.Name] : List ByteArray).map cStr) Tryd.underlying78 zc9 ag9 sz9 rfl (cons_eqp rfl rfl) rfl fz15 rfl rfl rfl) rfl ?_
              obtain ⟨x818, hx819, hF⟩ := bindS hF
              refine rw_w (ov_append (c := cStr) (q := y764) (q' := [x767.Name]) rfl Tryd.underlying78 rfl Tryd.underlying78 ao9 rfl rfl rfl rfl ln_cStr rfl hx819 rfl) rfl ?_
              refine rw_p (ov_assign (v := (AV.rs [102] 0 (x818).length)) rfl) rfl ?_
              refine rw_nil ?_
              refine q_blk ?_
              refine q_seq ?_
              refine w_reg ?_
              refine rw_p (ov_add (k := .i64) (a := y765) (b := 1) rfl rfl) rfl ?_
              refine rw_p (ov_move (v := (I (w64 (y765 + 1)))) rfl) rfl ?_
              refine rw_nil ?_
              obtain rfl := Option.some.inj hF
              exact q_next (renorm_of (packL_mk (pk_of (v := (AV.vp (cXApi_Unit a0))) rfl rfl) (packL_mk (pk_mpT (cs := cXApi_Fault y763) rfl rfl (fl_cXApi_Fault _)) (packL_mk (pk_rsT (c := cStr) (q := x818) rfl rfl fl_cStr) (packL_mk (pk_of (v := (AV.sl ((a0.Funcs).map cXApi_Func))) rfl rfl) (packL_mk (pk_of (v := (I (a0.Funcs.length : Int))) rfl rfl) (packL_mk (pk_of (v := (I (w64 (y765 + 1)))) rfl rfl) packL_0)))))) rfl)
          · refine w_exit ?_
            refine q_seqE ?_
            obtain rfl := Option.some.inj hF
            refine q_out (relB ?_)
            exact ⟨_, _, rfl, rfl, rfl, rfl, rfl, rfl⟩
        · rintro x1205 hr1206
          cases o822 with
          | ret r1207 =>
            replace hF : some r1207 = some r := hF
            obtain rfl := Option.some.inj hF
            obtain ⟨xe, xs⟩ := x1205
            obtain ⟨hxe, hfin⟩ := hr1206
            obtain rfl : xe = Exit.ret := hxe
            refine q_blkR ?_
            refine q_seqR ?_
            exact hfin
          | brk b824 =>
            obtain ⟨t825, h826, rfl, e827, e828, e829, e830, e831⟩ := hr1206
            refine q_blkH ?_
            refine q_seq ?_
            refine v_seq ?_
            refine v_seq ?_
            refine w_reg ?_
            refine rw_p (ov_fieldAddr (cells' := ((cXApi_Unit a0).drop 1)) fd25_1 rfl (congrArg (un _) e827) rfl rfl) rfl ?_
            refine rw_p (ov_load (v := (AV.sl ((a0.Funcs).map cXApi_Func))) ag23 sz23 rfl rfl rfl) rfl ?_
            refine rw_p (ov_lenSl (m := a0.Funcs.length) Tryd.underlying23 rfl rfl rfl (List.length_map _)) rfl ?_
            refine rw_p (ov_move (v := (I 0)) rfl) rfl ?_
            refine rw_nil ?_
            refine q_seq ?_
            refine v_block ?_
            obtain ⟨o1166, hL1167, hF⟩ := bindS hF
            refine v_loop (fun (s : (XApi_Fault × Int)) => [(AV.vp (cXApi_Unit a0)), (AV.ownp (cXApi_Fault s.1)), (AV.sl ((a0.Funcs).map cXApi_Func)), (I (a0.Funcs.length : Int)), (I s.2)]) (RelO (fun (s : XApi_Fault) x => ∃ t h, x = (Exit.exit 5, ⟨139, t, h⟩) ∧ t 1 = (AV.vp (cXApi_Unit a0)) ∧ t 2 = (AV.mp [2] 0 0) ∧ h [2] = some (some ([s].map cXApi_Fault)) ∧ h [128] = none ∧ h [137] = none) (fun r x => x.1 = Exit.ret ∧ Fin cx RV15 (R_code_Check r) x)) hL1167 lv15_34 (renorm_of (packL_mk (pk_of (v := (AV.vp (cXApi_Unit a0))) e827 rfl) (packL_mk (pk_mpT (cs := cXApi_Fault b824) e828 e829 (fl_cXApi_Fault _)) (packL_mk (pk_of (v := (AV.sl ((a0.Funcs).map cXApi_Func))) rfl rfl) (packL_mk (pk_of (v := (I (a0.Funcs.length : Int))) rfl rfl) (packL_mk (pk_of (v := (I 0)) rfl rfl) packL_0))))) rfl) ?_ ?_
            · rintro ⟨y832, y833⟩ z834 hF
              replace hF : code_Check_L3 a0 y832 y833 = some z834 := hF
              unfold code_Check_L3 at hF
              show W cx 15 _ _ ⟨139, (upd (upd (upd (upd (upd (fun _ => AV.junk) 107 (I y833)) 106 (I (a0.Funcs.length : Int))) 105 (AV.sl ((a0.Funcs).map cXApi_Func))) 2 (AV.mp [2] 0 0)) 1 (AV.vp (cXApi_Unit a0))), (upd (fun _ => none) [2] (some (some [cXApi_Fault y832])))⟩ _
              refine v_seq ?_
              refine w_reg ?_
              refine rw_p (ov_lss (k := .i64) (a := y833) (b := (a0.Funcs.length : Int)) rfl rfl) rfl ?_
              refine rw_nil ?_
              refine q_seq ?_
              refine v_seq ?_
              refine w_if (p := (decide (y833 < (a0.Funcs.length : Int)))) hF rfl (fun hb1165 hF => ?_) (fun hb1165 hF => ?_)
              · refine w_skip ?_
                refine q_seq ?_
                refine v_seq ?_
                refine v_block ?_
                refine v_seq ?_
                refine w_reg ?_
                refine rw_p (ov_move (v := (I y833)) rfl) rfl ?_
                obtain ⟨x835, hx836, hF⟩ := bindS hF
                refine rw_p (ov_indexAddr (k := .i64) (c := cXApi_Func) (q := a0.Funcs) (i := y833) Tryd.underlying23 sz37 rfl rfl rfl hx836 rfl) rfl ?_
                refine rw_p (ov_load (v := (AV.agg (cXApi_Func x835))) ag37 sz37 rfl rfl rfl) rfl ?_
                refine rw_w (ov_alloc zm37 rfl) rfl ?_
                refine rw_p (ov_assign (v := (I y833)) rfl) rfl ?_
                refine rw_w (ov_storeF (v := (AV.agg (cXApi_Func x835))) (cs := cXApi_Func x835) (cs' := cXApi_Func x835) ag37 sz37 rfl rfl rfl rfl rfl rfl fz15 rfl rfl rfl) rfl ?_
                refine rw_nil ?_
                refine q_seq ?_
                refine v_seq ?_
                refine w_reg ?_
                refine rw_p (ov_load (v := (AV.agg (cXApi_Unit a0))) ag25 sz25 rfl rfl rfl) rfl ?_
                refine rw_p (ov_load (v := (AV.agg (cXApi_Func x835))) ag37 sz37 rfl rfl rfl) rfl ?_
                refine rw_p (ov_build (ps := [(0, (AV.agg (cXApi_Unit a0))), (1, (AV.agg (cXApi_Func x835)))]) (cs := [(.sl ((a0.Globals).map cXApi_Global)), (.sl ((a0.Funcs).map cXApi_Func)), (AV.val (.string x835.Name)), (I x835.Params), (I x835.Regs), (.sl ((x835.Blocks).map cXApi_Block)), AV.snil]) zc82 pl82 (cons_eqp rfl (cons_eqp rfl rfl)) rfl) rfl ?_
                refine rw_w (ov_alloc zm82 rfl) rfl ?_
                refine rw_w (ov_storeF (v := (AV.agg [(.sl ((a0.Globals).map cXApi_Global)), (.sl ((a0.Funcs).map cXApi_Func)), (AV.val (.string x835.Name)), (I x835.Params), (I x835.Regs), (.sl ((x835.Blocks).map cXApi_Block)), AV.snil])) (cs := [(.sl ((a0.Globals).map cXApi_Global)), (.sl ((a0.Funcs).map cXApi_Func)), (AV.val (.string x835.Name)), (I x835.Params), (I x835.Regs), (.sl ((x835.Blocks).map cXApi_Block)), AV.snil]) (cs' := cXCode_checker (XCode_checker.mk a0 x835 [])) ag82 sz82 rfl rfl rfl rfl rfl rfl fz15 rfl rfl rfl) rfl ?_
                refine rw_nil ?_
                refine q_seq ?_
                refine v_seq ?_
                refine w_reg ?_
                refine rw_p (ov_load (v := (AV.agg (cXCode_checker (XCode_checker.mk a0 x835 [])))) ag82 sz82 rfl rfl rfl) rfl ?_
                obtain ⟨x1160, hx1161, hF⟩ := bindS hF
                refine rw_p (ov_call (args := [(AV.agg (cXCode_checker (XCode_checker.mk a0 x835 [])))]) (r := (R_code_checker_body x1160)) (v := (I x1160)) rfl (cons_eq rfl rfl) rfl rfl (T_code_checker_body nn (XCode_checker.mk a0 x835 []) x1160 hx1161) fz15 rfl rfl) rfl ?_
                refine rw_p (ov_assign (v := (I x1160)) rfl) rfl ?_
                refine rw_nil ?_
                refine q_seq ?_
                refine v_seq ?_
                refine w_reg ?_
                refine rw_p (ov_move (v := (I x1160)) rfl) rfl ?_
                refine rw_p (ov_neq (k := .i64) (a := x1160) (b := 0) rfl rfl) rfl ?_
                refine rw_nil ?_
                refine q_seq ?_
                refine w_if (p := (x1160 != 0)) hF rfl (fun hb1164 hF => ?_) (fun hb1164 hF => ?_)
                · refine v_seq ?_
                  refine w_reg ?_
                  refine rw_p (ov_move (v := (I x1160)) rfl) rfl ?_
                  refine rw_p (ov_move (v := (I y833)) rfl) rfl ?_
                  obtain ⟨x1162, hx1163, hF⟩ := bindS hF
                  refine rw_p (ov_call (args := [(I x1160), (I y833)]) (r := (R_core_Fault x1162)) (v := (AV.agg (cXApi_Fault x1162))) rfl (cons_eq rfl (cons_eq rfl rfl)) rfl rfl (T_core_Fault (nn + 5) x1160 y833 x1162 hx1163) fz15 rfl rfl) rfl ?_
                  refine rw_w (ov_storeM (c := cXApi_Fault) (q := [y832]) (r := y832) (r' := x1162) (v := (AV.agg (cXApi_Fault x1162))) (cs := cXApi_Fault x1162) ag28 sz28 rfl rfl rfl rfl rfl rfl rfl fz15 rfl rfl) rfl ?_
                  refine rw_nil ?_
                  refine q_seq ?_
                  refine w_ret ?_
                  refine q_blkR ?_
                  refine q_seqR ?_
                  obtain rfl := Option.some.inj hF
                  exact q_outR (relR ⟨rfl, (fin_ret (res_cellM (v := (AV.agg (cXApi_Fault x1162))) (v' := (AV.agg (cXApi_Fault x1162))) ag28 sz28 rfl rfl rfl rfl rfl rfl res_nil) rfl rfl)⟩)
                · refine w_skip ?_
                  refine q_blk ?_
                  refine q_seq ?_
                  refine w_reg ?_
                  refine rw_p (ov_add (k := .i64) (a := y833) (b := 1) rfl rfl) rfl ?_
                  refine rw_p (ov_move (v := (I (w64 (y833 + 1)))) rfl) rfl ?_
                  refine rw_nil ?_
                  obtain rfl := Option.some.inj hF
                  exact q_next (renorm_of (packL_mk (pk_of (v := (AV.vp (cXApi_Unit a0))) rfl rfl) (packL_mk (pk_mpT (cs := cXApi_Fault y832) rfl rfl (fl_cXApi_Fault _)) (packL_mk (pk_of (v := (AV.sl ((a0.Funcs).map cXApi_Func))) rfl rfl) (packL_mk (pk_of (v := (I (a0.Funcs.length : Int))) rfl rfl) (packL_mk (pk_of (v := (I (w64 (y833 + 1)))) rfl rfl) packL_0))))) rfl)
              · refine w_exit ?_
                refine q_seqE ?_
                obtain rfl := Option.some.inj hF
                refine q_out (relB ?_)
                exact ⟨_, _, rfl, rfl, rfl, rfl, rfl, rfl⟩
            · rintro x1202 hr1203
              cases o1166 with
              | ret r1204 =>
                replace hF : some r1204 = some r := hF
                obtain rfl := Option.some.inj hF
                obtain ⟨xe, xs⟩ := x1202
                obtain ⟨hxe, hfin⟩ := hr1203
                obtain rfl : xe = Exit.ret := hxe
                refine q_blkR ?_
                refine q_seqR ?_
                exact hfin
              | brk b1168 =>
                obtain ⟨t1169, h1170, rfl, e1171, e1172, e1173, e1174, e1175⟩ := hr1203
                refine q_blkH ?_
                refine q_seq ?_
                refine v_seq ?_
                refine w_reg ?_
                refine rw_p (ov_fieldAddr (cells' := ((cXApi_Unit a0).drop 1)) fd25_1 rfl (congrArg (un _) e1171) rfl rfl) rfl ?_
                refine rw_p (ov_load (v := (AV.sl ((a0.Funcs).map cXApi_Func))) ag23 sz23 rfl rfl rfl) rfl ?_
                obtain ⟨x1192, hx1193, hF⟩ := bindS hF
                refine rw_p (ov_call (args := [(AV.sl ((a0.Funcs).map cXApi_Func)), (AV.fn (.func 41) [] [])]) (r := (R_slices_IndexFunc_api_Func_api_Func__f41 x1192)) (v := (I x1192)) rfl (cons_eq rfl (cons_eq rfl rfl)) rfl rfl (T_slices_IndexFunc_api_Func_api_Func__f41 (nn + 4) a0.Funcs x1192 hx1193) fz15 rfl rfl) rfl ?_
                refine rw_p (ov_assign (v := (I x1192)) rfl) rfl ?_
                refine rw_nil ?_
                refine q_seq ?_
                refine v_seq ?_
                refine v_seq ?_
                refine w_reg ?_
                refine rw_p (ov_move (v := (I x1192)) rfl) rfl ?_
                refine rw_p (ov_lss (k := .i64) (a := x1192) (b := 0) rfl rfl) rfl ?_
                refine rw_nil ?_
                refine q_seq ?_
                refine w_if (p := (decide (x1192 < 0))) hF rfl (fun hb1201 hF => ?_) (fun hb1201 hF => ?_)
                · refine v_seq ?_
                  refine w_reg ?_
                  obtain ⟨x1194, hx1195, hF⟩ := bindS hF
                  refine rw_p (ov_call (args := [(I 6), (I 0)]) (r := (R_core_Fault x1194)) (v := (AV.agg (cXApi_Fault x1194))) rfl (cons_eq rfl (cons_eq rfl rfl)) rfl rfl (T_core_Fault (nn + 5) 6 0 x1194 hx1195) fz15 rfl rfl) rfl ?_
                  refine rw_w (ov_storeM (c := cXApi_Fault) (q := [b1168]) (r := b1168) (r' := x1194) (v := (AV.agg (cXApi_Fault x1194))) (cs := cXApi_Fault x1194) ag28 sz28 (congrArg (un _) e1172) rfl rfl rfl e1173 rfl rfl fz15 rfl rfl) rfl ?_
                  refine rw_nil ?_
                  refine q_seq ?_
                  refine w_ret ?_
                  refine q_seqR ?_
                  obtain rfl := Option.some.inj hF
                  exact (fin_ret (res_cellM (v := (AV.agg (cXApi_Fault x1194))) (v' := (AV.agg (cXApi_Fault x1194))) ag28 sz28 (congrArg (un _) e1172) rfl rfl rfl rfl rfl res_nil) rfl rfl)
                · refine w_skip ?_
                  refine q_seq ?_
                  refine v_seq ?_
                  refine v_seq ?_
                  refine w_reg ?_
                  refine rw_p (ov_fieldAddr (cells' := ((cXApi_Unit a0).drop 1)) fd25_1 rfl (congrArg (un _) e1171) rfl rfl) rfl ?_
                  refine rw_p (ov_load (v := (AV.sl ((a0.Funcs).map cXApi_Func))) ag23 sz23 rfl rfl rfl) rfl ?_
                  refine rw_p (ov_move (v := (I x1192)) rfl) rfl ?_
                  obtain ⟨x1196, hx1197, hF⟩ := bindS hF
                  refine rw_p (ov_indexAddr (k := .i64) (c := cXApi_Func) (q := a0.Funcs) (i := x1192) Tryd.underlying23 sz37 rfl rfl rfl hx1197 rfl) rfl ?_
                  refine rw_p (ov_fieldAddr (cells' := ((cXApi_Func x1196).drop 1)) fd37_1 rfl rfl rfl rfl) rfl ?_
                  refine rw_p (ov_load (v := (I x1196.Params)) ag3 sz3 rfl rfl rfl) rfl ?_
                  refine rw_p (ov_gtr (k := .i64) (a := x1196.Params) (b := 0) rfl rfl) rfl ?_
                  refine rw_nil ?_
                  refine q_seq ?_
                  refine w_if (p := (decide (0 < x1196.Params))) hF rfl (fun hb1200 hF => ?_) (fun hb1200 hF => ?_)
                  · refine v_seq ?_
                    refine w_reg ?_
                    refine rw_p (ov_move (v := (I x1192)) rfl) rfl ?_
                    obtain ⟨x1198, hx1199, hF⟩ := bindS hF
                    refine rw_p (ov_call (args := [(I 5), (I x1192)]) (r := (R_core_Fault x1198)) (v := (AV.agg (cXApi_Fault x1198))) rfl (cons_eq rfl (cons_eq rfl rfl)) rfl rfl (T_core_Fault (nn + 5) 5 x1192 x1198 hx1199) fz15 rfl rfl) rfl ?_
                    refine rw_w (ov_storeM (c := cXApi_Fault) (q := [b1168]) (r := b1168) (r' := x1198) (v := (AV.agg (cXApi_Fault x1198))) (cs := cXApi_Fault x1198) ag28 sz28 (congrArg (un _) e1172) rfl rfl rfl e1173 rfl rfl fz15 rfl rfl) rfl ?_
                    refine rw_nil ?_
                    refine q_seq ?_
                    refine w_ret ?_
                    refine q_seqR ?_
                    obtain rfl := Option.some.inj hF
                    exact (fin_ret (res_cellM (v := (AV.agg (cXApi_Fault x1198))) (v' := (AV.agg (cXApi_Fault x1198))) ag28 sz28 (congrArg (un _) e1172) rfl rfl rfl rfl rfl res_nil) rfl rfl)
                  · refine w_skip ?_
                    refine q_seq ?_
                    refine v_seq ?_
                    refine w_reg ?_
                    refine rw_p (ov_build (ps := []) (cs := cXApi_Fault (XApi_Fault.mk 0 0)) zc28 pl28  rfl rfl) rfl ?_
                    refine rw_w (ov_storeM (c := cXApi_Fault) (q := [b1168]) (r := b1168) (r' := (XApi_Fault.mk 0 0)) (v := (AV.agg (cXApi_Fault (XApi_Fault.mk 0 0)))) (cs := cXApi_Fault (XApi_Fault.mk 0 0)) ag28 sz28 (congrArg (un _) e1172) rfl rfl rfl e1173 rfl rfl fz15 rfl rfl) rfl ?_
                    refine rw_nil ?_
                    refine q_seq ?_
                    refine w_ret ?_
                    obtain rfl := Option.some.inj hF
                    exact (fin_ret (res_cellM (v := (AV.agg (cXApi_Fault (XApi_Fault.mk 0 0)))) (v' := (AV.agg (cXApi_Fault (XApi_Fault.mk 0 0)))) ag28 sz28 (congrArg (un _) e1172) rfl rfl rfl rfl rfl res_nil) rfl rfl)

/-! turnery/code.Size -/
noncomputable def code_Size_L2 (x1219 : XApi_Func) (y1221 : Int) (y1222 : XApi_Fault) (y1223 : Int) : Option (Lp (Int × XApi_Fault × Int) (Int × XApi_Fault)) :=
  if (decide (y1223 < (x1219.Blocks.length : Int))) then
  ((idx x1219.Blocks y1223).bind fun x1225 =>
  some (.next ((w64 (y1221 + (w64 ((x1225.Phis.length : Int) + (x1225.List.length : Int))))), y1222, (w64 (y1223 + 1)))))
  else
  (some (.out (y1221, y1222)))
noncomputable def code_Size_L1 (a0 : XApi_Unit) (y1214 : Int) (y1215 : Int) (y1216 : XApi_Fault) (y1217 : Int) : Option (Lp (Int × Int × XApi_Fault × Int) (Int × Int × XApi_Fault)) :=
  if (decide (y1217 < (a0.Funcs.length : Int))) then
  ((idx a0.Funcs y1217).bind fun x1219 =>
  (Loop (fun (s : (Int × XApi_Fault × Int)) => code_Size_L2 x1219 s.1 s.2.1 s.2.2) (y1215, y1216, 0)).bind fun o1228 =>
  some (.next ((w64 (y1214 + (x1219.Blocks.length : Int))), o1228.1, o1228.2, (w64 (y1217 + 1)))))
  else
  (some (.out (y1214, y1215, y1216)))
noncomputable def code_Size (a0 : XApi_Unit) : Option (Int × Int × XApi_Fault) :=
  (code_Check a0).bind fun x1212 =>
  if (!((x1212.Code == 0) && ((x1212.At == 0) && true))) then
  (some (0, 0, x1212))
  else
  ((Loop (fun (s : (Int × Int × XApi_Fault × Int)) => code_Size_L1 a0 s.1 s.2.1 s.2.2.1 s.2.2.2) (0, 0, (XApi_Fault.mk 0 0), 0)).bind fun o1242 =>
  some (o1242.1, o1242.2.1, (XApi_Fault.mk 0 0)))
abbrev RV13 : List ResultVar := [.tmp 2, .tmp 3, .cell 4 28]
def R_code_Size (r : (Int × Int × XApi_Fault)) : AV := (AV.tup [(I r.1), (I r.2.1), (.agg (cXApi_Fault r.2.2))])
set_option maxHeartbeats 2000000 in
theorem T_code_Size (nn : Nat) (a0 : XApi_Unit) (r : (Int × Int × XApi_Fault)) (hF : code_Size a0 = some r) : den cx (nn + 8) 13 [(AV.agg (cXApi_Unit a0))] = some (R_code_Size r, []) := by
  unfold code_Size at hF
  refine fn_of (nn := (nn + 7)) (rv := RV13) (cxE _) Tryd.func13 rfl rfl Tryd.ntmps13 (cxL _) rfl ?_
  show W cx 13 _ _ ⟨49, (upd (fun _ => AV.junk) 0 (AV.agg (cXApi_Unit a0))), (fun _ => none)⟩ _
  refine v_seq ?_
  refine w_reg ?_
  refine rw_p (ov_boxF (cs := cXApi_Unit a0) (cs' := cXApi_Unit a0) ag25 fz13 rfl rfl rfl rfl rfl) rfl ?_
  refine rw_p (ov_assign (v := (I 0)) rfl) rfl ?_
  refine rw_p (ov_assign (v := (I 0)) rfl) rfl ?_
  refine rw_w (ov_alloc zm28 rfl) rfl ?_
  refine rw_nil ?_
  refine q_seq ?_
  refine v_seq ?_
  refine v_seq ?_
  refine w_reg ?_
  refine rw_p (ov_load (v := (AV.agg (cXApi_Unit a0))) ag25 sz25 rfl rfl rfl) rfl ?_
  obtain ⟨x1212, hx1213, hF⟩ := bindS hF
  refine rw_p (ov_call (args := [(AV.agg (cXApi_Unit a0))]) (r := (R_code_Check x1212)) (v := (AV.agg (cXApi_Fault x1212))) rfl (cons_eq rfl rfl) rfl rfl (T_code_Check nn a0 x1212 hx1213) fz13 rfl rfl) rfl ?_
  refine rw_w (ov_alloc zm28 rfl) rfl ?_
  refine rw_w (ov_storeF (v := (AV.agg (cXApi_Fault x1212))) (cs := cXApi_Fault x1212) (cs' := cXApi_Fault x1212) ag28 sz28 rfl rfl rfl rfl rfl rfl fz13 rfl rfl rfl) rfl ?_
  refine rw_nil ?_
  refine q_seq ?_
  refine v_seq ?_
  refine w_reg ?_
  refine rw_p (ov_load (v := (AV.agg (cXApi_Fault x1212))) ag28 sz28 rfl rfl rfl) rfl ?_
  refine rw_p (ov_build (ps := []) (cs := cXApi_Fault (XApi_Fault.mk 0 0)) zc28 pl28  rfl rfl) rfl ?_
  refine rw_p (ov_bin rfl rfl rfl rfl (eq28_neq _ _ x1212.Code 0 x1212.At 0) rfl) rfl ?_
  refine rw_nil ?_
  refine q_seq ?_
  refine w_if (p := (!((x1212.Code == 0) && ((x1212.At == 0) && true)))) hF rfl (fun hb1252 hF => ?_) (fun hb1252 hF => ?_)
  · refine v_seq ?_
    refine w_regD ?_
    refine rw_p (ov_load (v := (AV.agg (cXApi_Fault x1212))) ag28 sz28 rfl rfl rfl) rfl ?_
    refine rw_p (ov_assign (v := (I 0)) rfl) rfl ?_
    refine rw_p (ov_assign (v := (I 0)) rfl) rfl ?_
    refine rw_w (ov_storeM (c := cXApi_Fault) (q := [(XApi_Fault.mk 0 0)]) (r := (XApi_Fault.mk 0 0)) (r' := x1212) (v := (AV.agg (cXApi_Fault x1212))) (cs := cXApi_Fault x1212) ag28 sz28 rfl rfl rfl rfl rfl rfl rfl fz13 rfl rfl) rfl ?_
    refine rw_nil ⟨(by rw [ah13_3]; rfl), ?_⟩
    refine q_seq ?_
    refine w_ret ?_
    refine q_seqR ?_
    obtain rfl := Option.some.inj hF
    exact (fin_ret (res_tmp (pk_of (v := (I 0)) rfl rfl) (res_tmp (pk_of (v := (I 0)) rfl rfl) (res_cellM (v := (AV.agg (cXApi_Fault x1212))) (v' := (AV.agg (cXApi_Fault x1212))) ag28 sz28 rfl rfl rfl rfl rfl rfl res_nil))) rfl rfl)
  · refine w_skip ?_
    refine q_seq ?_
    refine v_seq ?_
    refine v_seq ?_
    refine w_reg ?_
    refine rw_p (ov_fieldAddr (cells' := ((cXApi_Unit a0).drop 1)) fd25_1 rfl rfl rfl rfl) rfl ?_
    refine rw_p (ov_load (v := (AV.sl ((a0.Funcs).map cXApi_Func))) ag23 sz23 rfl rfl rfl) rfl ?_
    refine rw_p (ov_lenSl (m := a0.Funcs.length) Tryd.underlying23 rfl rfl rfl (List.length_map _)) rfl ?_
    refine rw_p (ov_move (v := (I 0)) rfl) rfl ?_
    refine rw_nil ?_
    refine q_seq ?_
    refine v_block ?_
    obtain ⟨o1242, hL1243, hF⟩ := bindS hF
    refine v_loop (fun (s : (Int × Int × XApi_Fault × Int)) => [(I s.1), (I s.2.1), (AV.ownp (cXApi_Fault s.2.2.1)), (AV.sl ((a0.Funcs).map cXApi_Func)), (I (a0.Funcs.length : Int)), (I s.2.2.2)]) (fun (s : (Int × Int × XApi_Fault)) x => ∃ t h, x = (Exit.exit 0, ⟨49, t, h⟩) ∧ t 2 = (I s.1) ∧ t 3 = (I s.2.1) ∧ t 4 = (AV.mp [4] 0 0) ∧ h [4] = some (some ([s.2.2].map cXApi_Fault))) hL1243 lv13_5 (renorm_of (packL_mk (pk_of (v := (I 0)) rfl rfl) (packL_mk (pk_of (v := (I 0)) rfl rfl) (packL_mk (pk_mpT (cs := cXApi_Fault (XApi_Fault.mk 0 0)) rfl rfl (fl_cXApi_Fault _)) (packL_mk (pk_of (v := (AV.sl ((a0.Funcs).map cXApi_Func))) rfl rfl) (packL_mk (pk_of (v := (I (a0.Funcs.length : Int))) rfl rfl) (packL_mk (pk_of (v := (I 0)) rfl rfl) packL_0)))))) rfl) ?_ ?_
    · rintro ⟨y1214, y1215, y1216, y1217⟩ z1218 hF
      replace hF : code_Size_L1 a0 y1214 y1215 y1216 y1217 = some z1218 := hF
      unfold code_Size_L1 at hF
      show W cx 13 _ _ ⟨49, (upd (upd (upd (upd (upd (upd (fun _ => AV.junk) 19 (I y1217)) 18 (I (a0.Funcs.length : Int))) 17 (AV.sl ((a0.Funcs).map cXApi_Func))) 4 (AV.mp [4] 0 0)) 3 (I y1215)) 2 (I y1214)), (upd (fun _ => none) [4] (some (some [cXApi_Fault y1216])))⟩ _
      refine v_seq ?_
      refine w_reg ?_
      refine rw_p (ov_lss (k := .i64) (a := y1217) (b := (a0.Funcs.length : Int)) rfl rfl) rfl ?_
      refine rw_nil ?_
      refine q_seq ?_
      refine v_seq ?_
      refine w_if (p := (decide (y1217 < (a0.Funcs.length : Int)))) hF rfl (fun hb1241 hF => ?_) (fun hb1241 hF => ?_)
      · refine w_skip ?_
        refine q_seq ?_
        refine v_seq ?_
        refine v_block ?_
        refine v_seq ?_
        refine w_reg ?_
        obtain ⟨x1219, hx1220, hF⟩ := bindS hF
        refine rw_p (ov_indexAddr (k := .i64) (c := cXApi_Func) (q := a0.Funcs) (i := y1217) Tryd.underlying23 sz37 rfl rfl rfl hx1220 rfl) rfl ?_
        refine rw_p (ov_load (v := (AV.agg (cXApi_Func x1219))) ag37 sz37 rfl rfl rfl) rfl ?_
        refine rw_w (ov_alloc zm37 rfl) rfl ?_
        refine rw_w (ov_storeF (v := (AV.agg (cXApi_Func x1219))) (cs := cXApi_Func x1219) (cs' := cXApi_Func x1219) ag37 sz37 rfl rfl rfl rfl rfl rfl fz13 rfl rfl rfl) rfl ?_
        refine rw_nil ?_
        refine q_seq ?_
        refine v_seq ?_
        refine w_reg ?_
        refine rw_p (ov_move (v := (I y1214)) rfl) rfl ?_
        refine rw_p (ov_fieldAddr (cells' := ((cXApi_Func x1219).drop 3)) fd37_3 rfl rfl rfl rfl) rfl ?_
        refine rw_p (ov_load (v := (AV.sl ((x1219.Blocks).map cXApi_Block))) ag35 sz35 rfl rfl rfl) rfl ?_
        refine rw_p (ov_lenSl (m := x1219.Blocks.length) Tryd.underlying35 rfl rfl rfl (List.length_map _)) rfl ?_
        refine rw_p (ov_add (k := .i64) (a := y1214) (b := (x1219.Blocks.length : Int)) rfl rfl) rfl ?_
        refine rw_p (ov_assign (v := (I (w64 (y1214 + (x1219.Blocks.length : Int))))) rfl) rfl ?_
        refine rw_nil ?_
        refine q_seq ?_
        refine v_seq ?_
        refine w_reg ?_
        refine rw_p (ov_fieldAddr (cells' := ((cXApi_Func x1219).drop 3)) fd37_3 rfl rfl rfl rfl) rfl ?_
        refine rw_p (ov_load (v := (AV.sl ((x1219.Blocks).map cXApi_Block))) ag35 sz35 rfl rfl rfl) rfl ?_
        refine rw_p (ov_lenSl (m := x1219.Blocks.length) Tryd.underlying35 rfl rfl rfl (List.length_map _)) rfl ?_
        refine rw_p (ov_move (v := (I 0)) rfl) rfl ?_
        refine rw_nil ?_
        refine q_seq ?_
        refine v_block ?_
        obtain ⟨o1228, hL1229, hF⟩ := bindS hF
        refine v_loop (fun (s : (Int × XApi_Fault × Int)) => [(I (w64 (y1214 + (x1219.Blocks.length : Int)))), (I s.1), (AV.ownp (cXApi_Fault s.2.1)), (AV.sl ((a0.Funcs).map cXApi_Func)), (I (a0.Funcs.length : Int)), (I y1217), (AV.sl ((x1219.Blocks).map cXApi_Block)), (I (x1219.Blocks.length : Int)), (I s.2.2)]) (fun (s : (Int × XApi_Fault)) x => ∃ t h, x = (Exit.exit 2, ⟨49, t, h⟩) ∧ t 2 = (I (w64 (y1214 + (x1219.Blocks.length : Int)))) ∧ t 3 = (I s.1) ∧ t 4 = (AV.mp [4] 0 0) ∧ h [4] = some (some ([s.2].map cXApi_Fault)) ∧ t 17 = (AV.sl ((a0.Funcs).map cXApi_Func)) ∧ t 18 = (I (a0.Funcs.length : Int)) ∧ t 19 = (I y1217)) hL1229 lv13_9 (renorm_of (packL_mk (pk_of (v := (I (w64 (y1214 + (x1219.Blocks.length : Int))))) rfl rfl) (packL_mk (pk_of (v := (I y1215)) rfl rfl) (packL_mk (pk_mpT (cs := cXApi_Fault y1216) rfl rfl (fl_cXApi_Fault _)) (packL_mk (pk_of (v := (AV.sl ((a0.Funcs).map cXApi_Func))) rfl rfl) (packL_mk (pk_of (v := (I (a0.Funcs.length : Int))) rfl rfl) (packL_mk (pk_of (v := (I y1217)) rfl rfl) (packL_mk (pk_of (v := (AV.sl ((x1219.Blocks).map cXApi_Block))) rfl rfl) (packL_mk (pk_of (v := (I (x1219.Blocks.length : Int))) rfl rfl) (packL_mk (pk_of (v := (I 0)) rfl rfl) packL_0))))))))) rfl) ?_ ?_
        · rintro ⟨y1221, y1222, y1223⟩ z1224 hF
          replace hF : code_Size_L2 x1219 y1221 y1222 y1223 = some z1224 := hF
          unfold code_Size_L2 at hF
          show W cx 13 _ _ ⟨49, (upd (upd (upd (upd (upd (upd (upd (upd (upd (fun _ => AV.junk) 31 (I y1223)) 30 (I (x1219.Blocks.length : Int))) 29 (AV.sl ((x1219.Blocks).map cXApi_Block))) 19 (I y1217)) 18 (I (a0.Funcs.length : Int))) 17 (AV.sl ((a0.Funcs).map cXApi_Func))) 4 (AV.mp [4] 0 0)) 3 (I y1221)) 2 (I (w64 (y1214 + (x1219.Blocks.length : Int))))), (upd (fun _ => none) [4] (some (some [cXApi_Fault y1222])))⟩ _
          refine v_seq ?_
          refine w_reg ?_
          refine rw_p (ov_lss (k := .i64) (a := y1223) (b := (x1219.Blocks.length : Int)) rfl rfl) rfl ?_
          refine rw_nil ?_
          refine q_seq ?_
          refine v_seq ?_
          refine w_if (p := (decide (y1223 < (x1219.Blocks.length : Int)))) hF rfl (fun hb1227 hF => ?_) (fun hb1227 hF => ?_)
          · refine w_skip ?_
            refine q_seq ?_
            refine v_seq ?_
            refine v_block ?_
            refine v_seq ?_
            refine w_reg ?_
            obtain ⟨x1225, hx1226, hF⟩ := bindS hF
            refine rw_p (ov_indexAddr (k := .i64) (c := cXApi_Block) (q := x1219.Blocks) (i := y1223) Tryd.underlying35 sz53 rfl rfl rfl hx1226 rfl) rfl ?_
            refine rw_p (ov_load (v := (AV.agg (cXApi_Block x1225))) ag53 sz53 rfl rfl rfl) rfl ?_
            refine rw_w (ov_alloc zm53 rfl) rfl ?_
            refine rw_w (ov_storeF (v := (AV.agg (cXApi_Block x1225))) (cs := cXApi_Block x1225) (cs' := cXApi_Block x1225) ag53 sz53 rfl rfl rfl rfl rfl rfl fz13 rfl rfl rfl) rfl ?_
            refine rw_nil ?_
            refine q_seq ?_
            refine w_reg ?_
            refine rw_p (ov_move (v := (I y1221)) rfl) rfl ?_
            refine rw_p (ov_fieldAddr (cells' := (cXApi_Block x1225)) fd53_0 rfl rfl rfl rfl) rfl ?_
            refine rw_p (ov_load (v := (AV.sl ((x1225.Phis).map cXApi_Phi))) ag50 sz50 rfl rfl rfl) rfl ?_
            refine rw_p (ov_lenSl (m := x1225.Phis.length) Tryd.underlying50 rfl rfl rfl (List.length_map _)) rfl ?_
            refine rw_p (ov_fieldAddr (cells' := ((cXApi_Block x1225).drop 1)) fd53_1 rfl rfl rfl rfl) rfl ?_
            refine rw_p (ov_load (v := (AV.sl ((x1225.List).map cXApi_Ins))) ag51 sz51 rfl rfl rfl) rfl ?_
            refine rw_p (ov_lenSl (m := x1225.List.length) Tryd.underlying51 rfl rfl rfl (List.length_map _)) rfl ?_
            refine rw_p (ov_add (k := .i64) (a := (x1225.Phis.length : Int)) (b := (x1225.List.length : Int)) rfl rfl) rfl ?_
            refine rw_p (ov_add (k := .i64) (a := y1221) (b := (w64 ((x1225.Phis.length : Int) + (x1225.List.length : Int)))) rfl rfl) rfl ?_
            refine rw_p (ov_assign (v := (I (w64 (y1221 + (w64 ((x1225.Phis.length : Int) + (x1225.List.length : Int))))))) rfl) rfl ?_
            refine rw_nil ?_
            refine q_blk ?_
            refine q_seq ?_
            refine w_reg ?_
            refine rw_p (ov_add (k := .i64) (a := y1223) (b := 1) rfl rfl) rfl ?_
            refine rw_p (ov_move (v := (I (w64 (y1223 + 1)))) rfl) rfl ?_
            refine rw_nil ?_
            obtain rfl := Option.some.inj hF
            exact q_next (renorm_of (packL_mk (pk_of (v := (I (w64 (y1214 + (x1219.Blocks.length : Int))))) rfl rfl) (packL_mk (pk_of (v := (I (w64 (y1221 + (w64 ((x1225.Phis.length : Int) + (x1225.List.length : Int))))))) rfl rfl) (packL_mk (pk_mpT (cs := cXApi_Fault y1222) rfl rfl (fl_cXApi_Fault _)) (packL_mk (pk_of (v := (AV.sl ((a0.Funcs).map cXApi_Func))) rfl rfl) (packL_mk (pk_of (v := (I (a0.Funcs.length : Int))) rfl rfl) (packL_mk (pk_of (v := (I y1217)) rfl rfl) (packL_mk (pk_of (v := (AV.sl ((x1219.Blocks).map cXApi_Block))) rfl rfl) (packL_mk (pk_of (v := (I (x1219.Blocks.length : Int))) rfl rfl) (packL_mk (pk_of (v := (I (w64 (y1223 + 1)))) rfl rfl) packL_0))))))))) rfl)
          · refine w_exit ?_
            refine q_seqE ?_
            obtain rfl := Option.some.inj hF
            refine q_out ?_
            exact ⟨_, _, rfl, rfl, rfl, rfl, rfl, rfl, rfl, rfl⟩
        · rintro x1239 hr1240
          obtain ⟨t1230, h1231, rfl, e1232, e1233, e1234, e1235, e1236, e1237, e1238⟩ := hr1240
          refine q_blkH ?_
          refine q_blk ?_
          refine q_seq ?_
          refine w_reg ?_
          refine rw_p (ov_add (k := .i64) (a := y1217) (b := 1) (congrArg (un _) e1238) rfl) rfl ?_
          refine rw_p (ov_move (v := (I (w64 (y1217 + 1)))) rfl) rfl ?_
          refine rw_nil ?_
          obtain rfl := Option.some.inj hF
          exact q_next (renorm_of (packL_mk (pk_of (v := (I (w64 (y1214 + (x1219.Blocks.length : Int))))) e1232 rfl) (packL_mk (pk_of (v := (I o1228.1)) e1233 rfl) (packL_mk (pk_mpT (cs := cXApi_Fault o1228.2) e1234 e1235 (fl_cXApi_Fault _)) (packL_mk (pk_of (v := (AV.sl ((a0.Funcs).map cXApi_Func))) e1236 rfl) (packL_mk (pk_of (v := (I (a0.Funcs.length : Int))) e1237 rfl) (packL_mk (pk_of (v := (I (w64 (y1217 + 1)))) rfl rfl) packL_0)))))) rfl)
      · refine w_exit ?_
        refine q_seqE ?_
        obtain rfl := Option.some.inj hF
        refine q_out ?_
        exact ⟨_, _, rfl, rfl, rfl, rfl, rfl⟩
    · rintro x1250 hr1251
      obtain ⟨t1244, h1245, rfl, e1246, e1247, e1248, e1249⟩ := hr1251
      refine q_blkH ?_
      refine q_seq ?_
      refine v_seq ?_
      refine w_reg ?_
      refine rw_p (ov_move (v := (I o1242.1)) (congrArg (un _) e1246)) rfl ?_
      refine rw_p (ov_move (v := (I o1242.2.1)) (congrArg (un _) e1247)) rfl ?_
      refine rw_p (ov_build (ps := []) (cs := cXApi_Fault (XApi_Fault.mk 0 0)) zc28 pl28  rfl rfl) rfl ?_
      refine rw_p (ov_assign (v := (I o1242.1)) rfl) rfl ?_
      refine rw_p (ov_assign (v := (I o1242.2.1)) rfl) rfl ?_
      refine rw_w (ov_storeM (c := cXApi_Fault) (q := [o1242.2.2]) (r := o1242.2.2) (r' := (XApi_Fault.mk 0 0)) (v := (AV.agg (cXApi_Fault (XApi_Fault.mk 0 0)))) (cs := cXApi_Fault (XApi_Fault.mk 0 0)) ag28 sz28 (congrArg (un _) e1248) rfl rfl rfl e1249 rfl rfl fz13 rfl rfl) rfl ?_
      refine rw_nil ?_
      refine q_seq ?_
      refine w_ret ?_
      obtain rfl := Option.some.inj hF
      exact (fin_ret (res_tmp (pk_of (v := (I o1242.1)) rfl rfl) (res_tmp (pk_of (v := (I o1242.2.1)) rfl rfl) (res_cellM (v := (AV.agg (cXApi_Fault (XApi_Fault.mk 0 0)))) (v' := (AV.agg (cXApi_Fault (XApi_Fault.mk 0 0)))) ag28 sz28 (congrArg (un _) e1248) rfl rfl rfl rfl rfl res_nil))) rfl rfl)

end Go.Ab
