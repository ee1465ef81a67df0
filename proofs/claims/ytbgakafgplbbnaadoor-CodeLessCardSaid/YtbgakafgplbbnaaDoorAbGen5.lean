/-
  Functions of the program as functions on plain data (written by gen.py).
-/
import Derived.Test.YtbgakafgplbbnaaDoorAbGen4
namespace Go.Ab
open Go Go.Proofs
/-! turnery/code.Ahead -/

noncomputable def code_Ahead (a0 : XApi_Unit) (a1 : Int) : Option ((List (List Int)) × XApi_Fault) :=
  (code_Check a0).bind fun x1253 =>
  if (!((x1253.Code == 0) && ((x1253.At == 0) && true))) then
  (some ([], x1253))
  else
  ((core_Within a1 0 (w64 ((a0.Funcs.length : Int) - 1))).bind fun x1255 =>
  if (!x1255) then
  ((core_Fault 3 (-1)).bind fun x1257 =>
  some ([], x1257))
  else
  ((idx a0.Funcs a1).bind fun x1259 =>
  (code_ahead x1259).bind fun x1261 =>
  some (x1261, (XApi_Fault.mk 0 0))))
abbrev RV14 : List ResultVar := [.tmp 4, .cell 5 28]
def R_code_Ahead (r : ((List (List Int)) × XApi_Fault)) : AV := (AV.tup [(.own ((r.1).map co_cInt_i64)), (.agg (cXApi_Fault r.2))])
set_option maxHeartbeats 2000000 in
theorem T_code_Ahead (nn : Nat) (a0 : XApi_Unit) (a1 : Int) (r : ((List (List Int)) × XApi_Fault)) (hF : code_Ahead a0 a1 = some r) : den cx (nn + 8) 14 [(AV.agg (cXApi_Unit a0)), (I a1)] = some (R_code_Ahead r, []) := by
  unfold code_Ahead at hF
  refine fn_of (nn := (nn + 7)) (rv := RV14) (cxE _) Tryd.func14 rfl rfl Tryd.ntmps14 (cxL _) rfl ?_
  show W cx 14 _ _ ⟨28, (upd (upd (fun _ => AV.junk) 1 (I a1)) 0 (AV.agg (cXApi_Unit a0))), (fun _ => none)⟩ _
  refine v_seq ?_
  refine w_reg ?_
  refine rw_p (ov_boxF (cs := cXApi_Unit a0) (cs' := cXApi_Unit a0) ag25 fz14 rfl rfl rfl rfl rfl) rfl ?_
  refine rw_p (ov_assign (v := AV.snil) rfl) rfl ?_
  refine rw_w (ov_alloc zm28 rfl) rfl ?_
  refine rw_nil ?_
  refine q_seq ?_
  refine v_seq ?_
  refine v_seq ?_
  refine w_reg ?_
  refine rw_p (ov_load (v := (AV.agg (cXApi_Unit a0))) ag25 sz25 rfl rfl rfl) rfl ?_
  obtain ⟨x1253, hx1254, hF⟩ := bindS hF
  refine rw_p (ov_call (args := [(AV.agg (cXApi_Unit a0))]) (r := (R_code_Check x1253)) (v := (AV.agg (cXApi_Fault x1253))) rfl (cons_eq rfl rfl) rfl rfl (T_code_Check nn a0 x1253 hx1254) fz14 rfl rfl) rfl ?_
  refine rw_w (ov_alloc zm28 rfl) rfl ?_
  refine rw_w (ov_storeF (v := (AV.agg (cXApi_Fault x1253))) (cs := cXApi_Fault x1253) (cs' := cXApi_Fault x1253) ag28 sz28 rfl rfl rfl rfl rfl rfl fz14 rfl rfl rfl) rfl ?_
  refine rw_nil ?_
  refine q_seq ?_
  refine v_seq ?_
  refine w_reg ?_
  refine rw_p (ov_load (v := (AV.agg (cXApi_Fault x1253))) ag28 sz28 rfl rfl rfl) rfl ?_
  refine rw_p (ov_build (ps := []) (cs := cXApi_Fault (XApi_Fault.mk 0 0)) zc28 pl28  rfl rfl) rfl ?_
  refine rw_p (ov_bin rfl rfl rfl rfl (eq28_neq _ _ x1253.Code 0 x1253.At 0) rfl) rfl ?_
  refine rw_nil ?_
  refine q_seq ?_
  refine w_if (p := (!((x1253.Code == 0) && ((x1253.At == 0) && true)))) hF rfl (fun hb1264 hF => ?_) (fun hb1264 hF => ?_)
  · refine v_seq ?_
    refine w_regD ?_
    refine rw_p (ov_load (v := (AV.agg (cXApi_Fault x1253))) ag28 sz28 rfl rfl rfl) rfl ?_
    refine rw_p (ov_assign (v := AV.snil) rfl) rfl ?_
    refine rw_w (ov_storeM (c := cXApi_Fault) (q := [(XApi_Fault.mk 0 0)]) (r := (XApi_Fault.mk 0 0)) (r' := x1253) (v := (AV.agg (cXApi_Fault x1253))) (cs := cXApi_Fault x1253) ag28 sz28 rfl rfl rfl rfl rfl rfl rfl fz14 rfl rfl) rfl ?_
    refine rw_nil ⟨(by rw [ah14_3]; rfl), ?_⟩
    refine q_seq ?_
    refine w_ret ?_
    refine q_seqR ?_
    obtain rfl := Option.some.inj hF
    exact (fin_ret (res_tmp (pk_nilT (c := co_cInt_i64) rfl) (res_cellM (v := (AV.agg (cXApi_Fault x1253))) (v' := (AV.agg (cXApi_Fault x1253))) ag28 sz28 rfl rfl rfl rfl rfl rfl res_nil)) rfl rfl)
  · refine w_skip ?_
    refine q_seq ?_
    refine v_seq ?_
    refine v_seq ?_
    refine w_reg ?_
    refine rw_p (ov_move (v := (I a1)) rfl) rfl ?_
    refine rw_p (ov_fieldAddr (cells' := ((cXApi_Unit a0).drop 1)) fd25_1 rfl rfl rfl rfl) rfl ?_
    refine rw_p (ov_load (v := (AV.sl ((a0.Funcs).map cXApi_Func))) ag23 sz23 rfl rfl rfl) rfl ?_
    refine rw_p (ov_lenSl (m := a0.Funcs.length) Tryd.underlying23 rfl rfl rfl (List.length_map _)) rfl ?_
    refine rw_p (ov_sub (k := .i64) (a := (a0.Funcs.length : Int)) (b := 1) rfl rfl) rfl ?_
    obtain ⟨x1255, hx1256, hF⟩ := bindS hF
    refine rw_p (ov_call (args := [(I a1), (I 0), (I (w64 ((a0.Funcs.length : Int) - 1)))]) (r := (R_core_Within x1255)) (v := (B x1255)) rfl (cons_eq rfl (cons_eq rfl (cons_eq rfl rfl))) rfl rfl (T_core_Within (nn + 6) a1 0 (w64 ((a0.Funcs.length : Int) - 1)) x1255 hx1256) fz14 rfl rfl) rfl ?_
    refine rw_p (ov_not (p := x1255) rfl) rfl ?_
    refine rw_nil ?_
    refine q_seq ?_
    refine w_if (p := (!x1255)) hF rfl (fun hb1263 hF => ?_) (fun hb1263 hF => ?_)
    · refine v_seq ?_
      refine w_reg ?_
      obtain ⟨x1257, hx1258, hF⟩ := bindS hF
      refine rw_p (ov_call (args := [(I 3), (I (-1))]) (r := (R_core_Fault x1257)) (v := (AV.agg (cXApi_Fault x1257))) rfl (cons_eq rfl (cons_eq rfl rfl)) rfl rfl (T_core_Fault (nn + 6) 3 (-1) x1257 hx1258) fz14 rfl rfl) rfl ?_
      refine rw_p (ov_assign (v := AV.snil) rfl) rfl ?_
      refine rw_w (ov_storeM (c := cXApi_Fault) (q := [(XApi_Fault.mk 0 0)]) (r := (XApi_Fault.mk 0 0)) (r' := x1257) (v := (AV.agg (cXApi_Fault x1257))) (cs := cXApi_Fault x1257) ag28 sz28 rfl rfl rfl rfl rfl rfl rfl fz14 rfl rfl) rfl ?_
      refine rw_nil ?_
      refine q_seq ?_
      refine w_ret ?_
      refine q_seqR ?_
      obtain rfl := Option.some.inj hF
      exact (fin_ret (res_tmp (pk_nilT (c := co_cInt_i64) rfl) (res_cellM (v := (AV.agg (cXApi_Fault x1257))) (v' := (AV.agg (cXApi_Fault x1257))) ag28 sz28 rfl rfl rfl rfl rfl rfl res_nil)) rfl rfl)
    · refine w_skip ?_
      refine q_seq ?_
      refine v_seq ?_
      refine w_reg ?_
      refine rw_p (ov_fieldAddr (cells' := ((cXApi_Unit a0).drop 1)) fd25_1 rfl rfl rfl rfl) rfl ?_
      refine rw_p (ov_load (v := (AV.sl ((a0.Funcs).map cXApi_Func))) ag23 sz23 rfl rfl rfl) rfl ?_
      refine rw_p (ov_move (v := (I a1)) rfl) rfl ?_
      obtain ⟨x1259, hx1260, hF⟩ := bindS hF
      refine rw_p (ov_indexAddr (k := .i64) (c := cXApi_Func) (q := a0.Funcs) (i := a1) Tryd.underlying23 sz37 rfl rfl rfl hx1260 rfl) rfl ?_
      refine rw_p (ov_load (v := (AV.agg (cXApi_Func x1259))) ag37 sz37 rfl rfl rfl) rfl ?_
      obtain ⟨x1261, hx1262, hF⟩ := bindS hF
      refine rw_w (ov_callH (args := [(AV.agg (cXApi_Func x1259))]) (r := (R_code_ahead x1261)) (v := (R_code_ahead x1261)) rfl (cons_eq rfl rfl) rfl rfl (T_code_ahead (nn + 6) x1259 x1261 hx1262) fz14 rfl rfl (by simp [fresh, ]) ) rfl ?_
      refine rw_p (ov_build (ps := []) (cs := cXApi_Fault (XApi_Fault.mk 0 0)) zc28 pl28  rfl rfl) rfl ?_
      refine rw_p (ov_assign (v := (AV.rs [26] 0 (x1261).length)) (congrArg (un _) (congrArg (AV.rs _ 0) (List.length_map _)))) rfl ?_
      refine rw_w (ov_storeM (c := cXApi_Fault) (q := [(XApi_Fault.mk 0 0)]) (r := (XApi_Fault.mk 0 0)) (r' := (XApi_Fault.mk 0 0)) (v := (AV.agg (cXApi_Fault (XApi_Fault.mk 0 0)))) (cs := cXApi_Fault (XApi_Fault.mk 0 0)) ag28 sz28 rfl rfl rfl rfl rfl rfl rfl fz14 rfl rfl) rfl ?_
      refine rw_nil ?_
      refine q_seq ?_
      refine w_ret ?_
      obtain rfl := Option.some.inj hF
      exact (fin_ret (res_tmp (pk_rsT (c := co_cInt_i64) (q := x1261) rfl rfl fl_co_cInt_i64) (res_cellM (v := (AV.agg (cXApi_Fault (XApi_Fault.mk 0 0)))) (v' := (AV.agg (cXApi_Fault (XApi_Fault.mk 0 0)))) ag28 sz28 rfl rfl rfl rfl rfl rfl res_nil)) rfl rfl)

/-! turnery/turnerylaw2.in -/

noncomputable def turnerylaw2_in (a0 : Int) (a1 : Int) (a2 : Int) : Option Bool :=
  some (if (decide (a1 ≤ a0)) then (decide (a0 ≤ a2)) else false)
abbrev RV17 : List ResultVar := [.tmp 6]
def R_turnerylaw2_in (r : Bool) : AV := (B r)
set_option maxHeartbeats 2000000 in
theorem T_turnerylaw2_in (nn : Nat) (a0 : Int) (a1 : Int) (a2 : Int) (r : Bool) (hF : turnerylaw2_in a0 a1 a2 = some r) : den cx (nn + 1) 17 [(I a0), (I a1), (I a2)] = some (R_turnerylaw2_in r, []) := by
  unfold turnerylaw2_in at hF
  refine fn_of (nn := nn) (rv := RV17) (cxE _) Tryd.func17 rfl rfl Tryd.ntmps17 (cxL _) rfl ?_
  show W cx 17 _ _ ⟨15, (upd (upd (upd (fun _ => AV.junk) 2 (I a2)) 1 (I a1)) 0 (I a0)), (fun _ => none)⟩ _
  refine v_seq ?_
  refine w_reg ?_
  refine rw_p (ov_assign (v := (B false)) rfl) rfl ?_
  refine rw_nil ?_
  refine q_seq ?_
  refine v_seq ?_
  refine w_reg ?_
  refine rw_p (ov_move (v := (I a0)) rfl) rfl ?_
  refine rw_p (ov_move (v := (I a1)) rfl) rfl ?_
  refine rw_p (ov_geq (k := .i64) (a := a0) (b := a1) rfl rfl) rfl ?_
  refine rw_p (ov_move (v := (B (decide (a1 ≤ a0)))) rfl) rfl ?_
  refine rw_g rfl (ov_move (v := (I a0)) rfl) rfl ?_
  refine rw_g rfl (ov_move (v := (I a2)) rfl) rfl ?_
  refine rw_g rfl (ov_leq (k := .i64) (a := a0) (b := a2) (un_self _) (un_self _)) rfl ?_
  refine rw_p (ov_pickB (p := (decide (a1 ≤ a0))) (q := (decide (a0 ≤ a2))) (r := false) rfl (un_imp (by generalize (decide (a1 ≤ a0)) = u0; cases u0 <;> rfl)) rfl) rfl ?_
  refine rw_p (ov_assign (v := (B (if (decide (a1 ≤ a0)) then (decide (a0 ≤ a2)) else false))) rfl) rfl ?_
  refine rw_nil ?_
  refine q_seq ?_
  refine w_ret ?_
  obtain rfl := Option.some.inj hF
  exact (fin_ret (res_tmp (pk_of (v := (B (if (decide (a1 ≤ a0)) then (decide (a0 ≤ a2)) else false))) rfl rfl) res_nil) rfl rfl)

/-! turnery/turnerysame.Fault -/

noncomputable def turnerysame_Fault (a0 : Int) (a1 : Int) : Option XApi_Fault :=
  some (XApi_Fault.mk a0 a1)
abbrev RV18 : List ResultVar := [.cell 4 28]
def R_turnerysame_Fault (r : XApi_Fault) : AV := (.agg (cXApi_Fault r))
set_option maxHeartbeats 2000000 in
theorem T_turnerysame_Fault (nn : Nat) (a0 : Int) (a1 : Int) (r : XApi_Fault) (hF : turnerysame_Fault a0 a1 = some r) : den cx (nn + 1) 18 [(I a0), (I a1)] = some (R_turnerysame_Fault r, []) := by
  unfold turnerysame_Fault at hF
  refine fn_of (nn := nn) (rv := RV18) (cxE _) Tryd.func18 rfl rfl Tryd.ntmps18 (cxL _) rfl ?_
  show W cx 18 _ _ ⟨8, (upd (upd (fun _ => AV.junk) 1 (I a1)) 0 (I a0)), (fun _ => none)⟩ _
  refine v_seq ?_
  refine w_reg ?_
  refine rw_w (ov_alloc zm28 rfl) rfl ?_
  refine rw_nil ?_
  refine q_seq ?_
  refine v_seq ?_
  refine w_reg ?_
  refine rw_p (ov_move (v := (I a0)) rfl) rfl ?_
  refine rw_p (ov_move (v := (I a1)) rfl) rfl ?_
  refine rw_p (ov_build (ps := [(0, (I a0)), (1, (I a1))]) (cs := cXApi_Fault (XApi_Fault.mk a0 a1)) zc28 pl28 (cons_eqp rfl (cons_eqp rfl rfl)) rfl) rfl ?_
  refine rw_w (ov_storeM (c := cXApi_Fault) (q := [(XApi_Fault.mk 0 0)]) (r := (XApi_Fault.mk 0 0)) (r' := (XApi_Fault.mk a0 a1)) (v := (AV.agg (cXApi_Fault (XApi_Fault.mk a0 a1)))) (cs := cXApi_Fault (XApi_Fault.mk a0 a1)) ag28 sz28 rfl rfl rfl rfl rfl rfl rfl fz18 rfl rfl) rfl ?_
  refine rw_nil ?_
  refine q_seq ?_
  refine w_ret ?_
  obtain rfl := Option.some.inj hF
  exact (fin_ret (res_cellM (v := (AV.agg (cXApi_Fault (XApi_Fault.mk a0 a1)))) (v' := (AV.agg (cXApi_Fault (XApi_Fault.mk a0 a1)))) ag28 sz28 rfl rfl rfl rfl rfl rfl res_nil) rfl rfl)

/-! turnery/turnerysame.Ints -/
noncomputable def turnerysame_Ints_L1 (a0 : (List Int)) (a1 : (List Int)) (y1265 : Int) : Option (Lp Int (Br Unit Bool)) :=
  if (decide (y1265 < (a0.length : Int))) then
  ((idx a0 y1265).bind fun x1267 =>
  (idx a1 y1265).bind fun x1269 =>
  if (x1267 != x1269) then
  (some (.out (.ret false)))
  else
  (some (.next (w64 (y1265 + 1)))))
  else
  (some (.out (.brk ())))
noncomputable def turnerysame_Ints (a0 : (List Int)) (a1 : (List Int)) : Option Bool :=
  if ((a0.length : Int) != (a1.length : Int)) then
  (some false)
  else
  ((Loop (fun (s : Int) => turnerysame_Ints_L1 a0 a1 s) 0).bind fun o1273 => match o1273 with
  | .ret r1280 => some r1280
  | .brk b1275 =>
  some true)
abbrev RV19 : List ResultVar := [.tmp 4]
def R_turnerysame_Ints (r : Bool) : AV := (B r)
set_option maxHeartbeats 2000000 in
theorem T_turnerysame_Ints (nn : Nat) (a0 : (List Int)) (a1 : (List Int)) (r : Bool) (hF : turnerysame_Ints a0 a1 = some r) : den cx (nn + 1) 19 [(AV.sl ((a0).map cInt_i64)), (AV.sl ((a1).map cInt_i64))] = some (R_turnerysame_Ints r, []) := by
  unfold turnerysame_Ints at hF
  refine fn_of (nn := nn) (rv := RV19) (cxE _) Tryd.func19 rfl rfl Tryd.ntmps19 (cxL _) rfl ?_
  show W cx 19 _ _ ⟨26, (upd (upd (fun _ => AV.junk) 1 (AV.sl ((a1).map cInt_i64))) 0 (AV.sl ((a0).map cInt_i64))), (fun _ => none)⟩ _
  refine v_seq ?_
  refine w_reg ?_
  refine rw_p (ov_assign (v := (B false)) rfl) rfl ?_
  refine rw_nil ?_
  refine q_seq ?_
  refine v_seq ?_
  refine v_seq ?_
  refine w_reg ?_
  refine rw_p (ov_move (v := (AV.sl ((a0).map cInt_i64))) rfl) rfl ?_
  refine rw_p (ov_lenSl (m := a0.length) Tryd.underlying42 rfl rfl rfl (List.length_map _)) rfl ?_
  refine rw_p (ov_move (v := (AV.sl ((a1).map cInt_i64))) rfl) rfl ?_
  refine rw_p (ov_lenSl (m := a1.length) Tryd.underlying42 rfl rfl rfl (List.length_map _)) rfl ?_
  refine rw_p (ov_neq (k := .i64) (a := (a0.length : Int)) (b := (a1.length : Int)) rfl rfl) rfl ?_
  refine rw_nil ?_
  refine q_seq ?_
  refine w_if (p := ((a0.length : Int) != (a1.length : Int))) hF rfl (fun hb1281 hF => ?_) (fun hb1281 hF => ?_)
  · refine v_seq ?_
    refine w_reg ?_
    refine rw_p (ov_assign (v := (B false)) rfl) rfl ?_
    refine rw_nil ?_
    refine q_seq ?_
    refine w_ret ?_
    refine q_seqR ?_
    obtain rfl := Option.some.inj hF
    exact (fin_ret (res_tmp (pk_of (v := (B false)) rfl rfl) res_nil) rfl rfl)
  · refine w_skip ?_
    refine q_seq ?_
    refine v_seq ?_
    refine v_seq ?_
    refine w_reg ?_
    refine rw_p (ov_assign (v := (I 0)) rfl) rfl ?_
    refine rw_nil ?_
    refine q_seq ?_
    refine v_block ?_
    obtain ⟨o1273, hL1274, hF⟩ := bindS hF
    refine v_loop (fun (s : Int) => [(AV.sl ((a0).map cInt_i64)), (AV.sl ((a1).map cInt_i64)), (I s)]) (RelO (fun (s : Unit) x => ∃ t h, x = (Exit.exit 0, ⟨26, t, h⟩) ∧ True) (fun r x => x.1 = Exit.ret ∧ Fin cx RV19 (R_turnerysame_Ints r) x)) hL1274 lv19_4 (renorm_of (packL_mk (pk_of (v := (AV.sl ((a0).map cInt_i64))) rfl rfl) (packL_mk (pk_of (v := (AV.sl ((a1).map cInt_i64))) rfl rfl) (packL_mk (pk_of (v := (I 0)) rfl rfl) packL_0))) rfl) ?_ ?_
    · rintro y1265 z1266 hF
      replace hF : turnerysame_Ints_L1 a0 a1 y1265 = some z1266 := hF
      unfold turnerysame_Ints_L1 at hF
      show W cx 19 _ _ ⟨26, (upd (upd (upd (fun _ => AV.junk) 5 (I y1265)) 1 (AV.sl ((a1).map cInt_i64))) 0 (AV.sl ((a0).map cInt_i64))), (fun _ => none)⟩ _
      refine v_seq ?_
      refine v_seq ?_
      refine w_reg ?_
      refine rw_p (ov_move (v := (I y1265)) rfl) rfl ?_
      refine rw_p (ov_move (v := (AV.sl ((a0).map cInt_i64))) rfl) rfl ?_
      refine rw_p (ov_lenSl (m := a0.length) Tryd.underlying42 rfl rfl rfl (List.length_map _)) rfl ?_
      refine rw_p (ov_lss (k := .i64) (a := y1265) (b := (a0.length : Int)) rfl rfl) rfl ?_
      refine rw_nil ?_
      refine q_seq ?_
      refine w_if (p := (decide (y1265 < (a0.length : Int)))) hF rfl (fun hb1272 hF => ?_) (fun hb1272 hF => ?_)
      · refine w_skip ?_
        refine q_seq ?_
        refine v_seq ?_
        refine v_block ?_
        refine v_seq ?_
        refine w_regD ?_
        refine rw_p (ov_move (v := (AV.sl ((a0).map cInt_i64))) rfl) rfl ?_
        refine rw_p (ov_move (v := (I y1265)) rfl) rfl ?_
        obtain ⟨x1267, hx1268, hF⟩ := bindS hF
        refine rw_p (ov_indexAddr (k := .i64) (c := cInt_i64) (q := a0) (i := y1265) Tryd.underlying42 sz3 rfl rfl rfl hx1268 rfl) rfl ?_
        refine rw_p (ov_load (v := (I x1267)) ag3 sz3 rfl rfl rfl) rfl ?_
        refine rw_p (ov_move (v := (AV.sl ((a1).map cInt_i64))) rfl) rfl ?_
        refine rw_p (ov_move (v := (I y1265)) rfl) rfl ?_
        obtain ⟨x1269, hx1270, hF⟩ := bindS hF
        refine rw_p (ov_indexAddr (k := .i64) (c := cInt_i64) (q := a1) (i := y1265) Tryd.underlying42 sz3 rfl rfl rfl hx1270 rfl) rfl ?_
        refine rw_p (ov_load (v := (I x1269)) ag3 sz3 rfl rfl rfl) rfl ?_
        refine rw_p (ov_neq (k := .i64) (a := x1267) (b := x1269) rfl rfl) rfl ?_
        refine rw_nil ⟨rfl, ?_⟩
        refine q_seq ?_
        refine w_if (p := (x1267 != x1269)) hF rfl (fun hb1271 hF => ?_) (fun hb1271 hF => ?_)
        · refine v_seq ?_
          refine w_reg ?_
          refine rw_p (ov_assign (v := (B false)) rfl) rfl ?_
          refine rw_nil ?_
          refine q_seq ?_
          refine w_ret ?_
          refine q_blkR ?_
          refine q_seqR ?_
          obtain rfl := Option.some.inj hF
          exact q_outR (relR ⟨rfl, (fin_ret (res_tmp (pk_of (v := (B false)) rfl rfl) res_nil) rfl rfl)⟩)
        · refine w_skip ?_
          refine q_blk ?_
          refine q_seq ?_
          refine w_reg ?_
          refine rw_p (ov_move (v := (I y1265)) rfl) rfl ?_
          refine rw_p (ov_add (k := .i64) (a := y1265) (b := 1) rfl rfl) rfl ?_
          refine rw_p (ov_assign (v := (I (w64 (y1265 + 1)))) rfl) rfl ?_
          refine rw_nil ?_
          obtain rfl := Option.some.inj hF
          exact q_next (renorm_of (packL_mk (pk_of (v := (AV.sl ((a0).map cInt_i64))) rfl rfl) (packL_mk (pk_of (v := (AV.sl ((a1).map cInt_i64))) rfl rfl) (packL_mk (pk_of (v := (I (w64 (y1265 + 1)))) rfl rfl) packL_0))) rfl)
      · refine w_exit ?_
        refine q_seqE ?_
        obtain rfl := Option.some.inj hF
        refine q_out (relB ?_)
        exact ⟨_, _, rfl, trivial⟩
    · rintro x1278 hr1279
      cases o1273 with
      | ret r1280 =>
        replace hF : some r1280 = some r := hF
        obtain rfl := Option.some.inj hF
        obtain ⟨xe, xs⟩ := x1278
        obtain ⟨hxe, hfin⟩ := hr1279
        obtain rfl : xe = Exit.ret := hxe
        refine q_blkR ?_
        refine q_seqR ?_
        exact hfin
      | brk b1275 =>
        obtain ⟨t1276, h1277, rfl, _⟩ := hr1279
        refine q_blkH ?_
        refine q_seq ?_
        refine v_seq ?_
        refine w_reg ?_
        refine rw_p (ov_assign (v := (B true)) rfl) rfl ?_
        refine rw_nil ?_
        refine q_seq ?_
        refine w_ret ?_
        obtain rfl := Option.some.inj hF
        exact (fin_ret (res_tmp (pk_of (v := (B true)) rfl rfl) res_nil) rfl rfl)

/-! turnery/turnerylaw2.codeFact -/

noncomputable def turnerylaw2_codeFact  : Option Bool :=
  (turnerylaw2_small).bind fun x1282 =>
  (code_Size x1282).bind fun x1284 =>
  (turnerylaw2_small).bind fun x1286 =>
  (code_Ahead x1286 0).bind fun x1288 =>
  (if (if (if (if (if (x1284.2.2.Code == 0) then (x1288.2.Code == 0) else false) then (x1284.1 == 1) else false) then (x1284.2.1 == 1) else false) then ((x1288.1.length : Int) == 1) else false) then (code_Check (XApi_Unit.mk [] [])).bind fun x1293 =>
  some (x1293.Code == 6) else some false).bind fun p1290 =>
  some p1290
abbrev RV21 : List ResultVar := [.tmp 0]
def R_turnerylaw2_codeFact (r : Bool) : AV := (B r)
set_option maxHeartbeats 2000000 in
theorem T_turnerylaw2_codeFact (nn : Nat)  (r : Bool) (hF : turnerylaw2_codeFact = some r) : den cx (nn + 9) 21 [] = some (R_turnerylaw2_codeFact r, []) := by
  unfold turnerylaw2_codeFact at hF
  refine fn_of (nn := (nn + 8)) (rv := RV21) (cxE _) Tryd.func21 rfl rfl Tryd.ntmps21 (cxL _) rfl ?_
  show W cx 21 _ _ ⟨44, (fun _ => AV.junk), (fun _ => none)⟩ _
  refine v_seq ?_
  refine w_reg ?_
  refine rw_p (ov_assign (v := (B false)) rfl) rfl ?_
  refine rw_nil ?_
  refine q_seq ?_
  refine v_seq ?_
  refine w_reg ?_
  obtain ⟨x1282, hx1283, hF⟩ := bindS hF
  refine rw_p (ov_call (args := []) (r := (R_turnerylaw2_small x1282)) (v := (AV.agg (cXApi_Unit x1282))) rfl rfl rfl rfl (T_turnerylaw2_small (nn + 7)  x1282 hx1283) fz21 (by rw [if_pos (by rfl)]; exact (congrArg AV.agg (fzl_cXApi_Unit_O _))) rfl) rfl ?_
  obtain ⟨x1284, hx1285, hF⟩ := bindS hF
  refine rw_p (ov_call (args := [(AV.agg (cXApi_Unit x1282))]) (r := (R_code_Size x1284)) (v := (AV.tup [(I x1284.1), (I x1284.2.1), (AV.agg (cXApi_Fault x1284.2.2))])) rfl (cons_eq rfl rfl) rfl rfl (T_code_Size nn x1282 x1284 hx1285) fz21 rfl rfl) rfl ?_
  refine rw_p (ov_move (v := (AV.tup [(I x1284.1), (I x1284.2.1), (AV.agg (cXApi_Fault x1284.2.2))])) rfl) rfl ?_
  refine rw_p (ov_extract (v := (I x1284.1)) rfl rfl) rfl ?_
  refine rw_p (ov_extract (v := (I x1284.2.1)) rfl rfl) rfl ?_
  refine rw_p (ov_extract (v := (AV.agg (cXApi_Fault x1284.2.2))) rfl rfl) rfl ?_
  refine rw_w (ov_alloc zm28 rfl) rfl ?_
  refine rw_p (ov_assign (v := (I x1284.1)) rfl) rfl ?_
  refine rw_p (ov_assign (v := (I x1284.2.1)) rfl) rfl ?_
  refine rw_w (ov_storeF (v := (AV.agg (cXApi_Fault x1284.2.2))) (cs := cXApi_Fault x1284.2.2) (cs' := cXApi_Fault x1284.2.2) ag28 sz28 rfl rfl rfl rfl rfl rfl fz21 rfl rfl rfl) rfl ?_
  refine rw_nil ?_
  refine q_seq ?_
  refine v_seq ?_
  refine w_reg ?_
  obtain ⟨x1286, hx1287, hF⟩ := bindS hF
  refine rw_p (ov_call (args := []) (r := (R_turnerylaw2_small x1286)) (v := (AV.agg (cXApi_Unit x1286))) rfl rfl rfl rfl (T_turnerylaw2_small (nn + 7)  x1286 hx1287) fz21 (by rw [if_pos (by rfl)]; exact (congrArg AV.agg (fzl_cXApi_Unit_O _))) rfl) rfl ?_
  obtain ⟨x1288, hx1289, hF⟩ := bindS hF
  refine rw_p (ov_call (args := [(AV.agg (cXApi_Unit x1286)), (I 0)]) (r := (R_code_Ahead x1288)) (v := (AV.tup [(AV.sl ((x1288.1).map cs_cInt_i64)), (AV.agg (cXApi_Fault x1288.2))])) rfl (cons_eq rfl (cons_eq rfl rfl)) rfl rfl (T_code_Ahead nn x1286 0 x1288 hx1289) fz21 (by rw [if_pos (by rfl)]; exact (congrArg AV.tup (cons_eq (fz_map _ _ fzl_co_cInt_i64 _) (cons_eq rfl rfl)))) rfl) rfl ?_
  refine rw_p (ov_move (v := (AV.tup [(AV.sl ((x1288.1).map cs_cInt_i64)), (AV.agg (cXApi_Fault x1288.2))])) rfl) rfl ?_
  refine rw_p (ov_extract (v := (AV.sl ((x1288.1).map cs_cInt_i64))) rfl rfl) rfl ?_
  refine rw_p (ov_extract (v := (AV.agg (cXApi_Fault x1288.2))) rfl rfl) rfl ?_
  refine rw_w (ov_alloc zm28 rfl) rfl ?_
  refine rw_p (ov_assign (v := (AV.sl ((x1288.1).map cs_cInt_i64))) rfl) rfl ?_
  refine rw_w (ov_storeF (v := (AV.agg (cXApi_Fault x1288.2))) (cs := cXApi_Fault x1288.2) (cs' := cXApi_Fault x1288.2) ag28 sz28 rfl rfl rfl rfl rfl rfl fz21 rfl rfl rfl) rfl ?_
  refine rw_nil ?_
  refine q_seq ?_
  refine v_seq ?_
  refine w_reg ?_
  refine rw_p (ov_fieldAddr (cells' := (cXApi_Fault x1284.2.2)) fd28_0 rfl rfl rfl rfl) rfl ?_
  refine rw_p (ov_load (v := (I x1284.2.2.Code)) ag3 sz3 rfl rfl rfl) rfl ?_
  refine rw_p (ov_eql (k := .i64) (a := x1284.2.2.Code) (b := 0) rfl rfl) rfl ?_
  refine rw_p (ov_move (v := (B (x1284.2.2.Code == 0))) rfl) rfl ?_
  refine rw_g rfl (ov_fieldAddr (cells' := (cXApi_Fault x1288.2)) fd28_0 rfl rfl rfl rfl) rfl ?_
  refine rw_g rfl (ov_load (v := (I x1288.2.Code)) ag3 sz3 (un_self _) rfl rfl) rfl ?_
  refine rw_g rfl (ov_eql (k := .i64) (a := x1288.2.Code) (b := 0) (un_self _) rfl) rfl ?_
  refine rw_p (ov_pickB (p := (x1284.2.2.Code == 0)) (q := (x1288.2.Code == 0)) (r := false) rfl (un_imp (by generalize (x1284.2.2.Code == 0) = u0; cases u0 <;> rfl)) rfl) rfl ?_
  refine rw_p (ov_move (v := (B (if (x1284.2.2.Code == 0) then (x1288.2.Code == 0) else false))) rfl) rfl ?_
  refine rw_g rfl (ov_move (v := (I x1284.1)) rfl) rfl ?_
  refine rw_g rfl (ov_eql (k := .i64) (a := x1284.1) (b := 1) (un_self _) rfl) rfl ?_
  refine rw_p (ov_pickB (p := (if (x1284.2.2.Code == 0) then (x1288.2.Code == 0) else false)) (q := (x1284.1 == 1)) (r := false) rfl (un_imp (by generalize (if (x1284.2.2.Code == 0) then (x1288.2.Code == 0) else false) = u0; cases u0 <;> rfl)) rfl) rfl ?_
  refine rw_p (ov_move (v := (B (if (if (x1284.2.2.Code == 0) then (x1288.2.Code == 0) else false) then (x1284.1 == 1) else false))) rfl) rfl ?_
  refine rw_g rfl (ov_move (v := (I x1284.2.1)) rfl) rfl ?_
  refine rw_g rfl (ov_eql (k := .i64) (a := x1284.2.1) (b := 1) (un_self _) rfl) rfl ?_
  refine rw_p (ov_pickB (p := (if (if (x1284.2.2.Code == 0) then (x1288.2.Code == 0) else false) then (x1284.1 == 1) else false)) (q := (x1284.2.1 == 1)) (r := false) rfl (un_imp (by generalize (if (if (x1284.2.2.Code == 0) then (x1288.2.Code == 0) else false) then (x1284.1 == 1) else false) = u0; cases u0 <;> rfl)) rfl) rfl ?_
  refine rw_p (ov_move (v := (B (if (if (if (x1284.2.2.Code == 0) then (x1288.2.Code == 0) else false) then (x1284.1 == 1) else false) then (x1284.2.1 == 1) else false))) rfl) rfl ?_
  refine rw_g rfl (ov_move (v := (AV.sl ((x1288.1).map cs_cInt_i64))) rfl) rfl ?_
  refine rw_g rfl (ov_lenSl (m := x1288.1.length) Tryd.underlying32 rfl rfl (un_self _) (List.length_map _)) rfl ?_
  refine rw_g rfl (ov_eql (k := .i64) (a := (x1288.1.length : Int)) (b := 1) (un_self _) rfl) rfl ?_
  refine rw_p (ov_pickB (p := (if (if (if (x1284.2.2.Code == 0) then (x1288.2.Code == 0) else false) then (x1284.1 == 1) else false) then (x1284.2.1 == 1) else false)) (q := ((x1288.1.length : Int) == 1)) (r := false) rfl (un_imp (by generalize (if (if (if (x1284.2.2.Code == 0) then (x1288.2.Code == 0) else false) then (x1284.1 == 1) else false) then (x1284.2.1 == 1) else false) = u0; cases u0 <;> rfl)) rfl) rfl ?_
  refine rw_p (ov_move (v := (B (if (if (if (if (x1284.2.2.Code == 0) then (x1288.2.Code == 0) else false) then (x1284.1 == 1) else false) then (x1284.2.1 == 1) else false) then ((x1288.1.length : Int) == 1) else false))) rfl) rfl ?_
  refine rw_g rfl (ov_build (ps := []) (cs := [AV.snil, AV.snil]) zc25 pl25  rfl rfl) rfl ?_
  obtain ⟨p1290, hG1291, hF⟩ := bindS hF
  refine rw_join 4 (fun t h => t 43 = (B p1290)) ?_ ?_
  · refine if_elim hG1291 (fun hb1292 hG1291 => ?_) (fun hb1292 hG1291 => ?_)
    · obtain ⟨x1293, hx1294, hG1291⟩ := bindS hG1291
      refine rw_gt rfl (by simp only [hb1292]; rfl) (ov_callB (all := [(AV.agg [AV.snil, AV.snil])]) (args := [(AV.agg (cXApi_Unit (XApi_Unit.mk [] [])))]) (r := (R_code_Check x1293)) (v := (AV.agg (cXApi_Fault x1293))) rfl (cons_eq (un_imp (by simp only [hb1292]; rfl)) rfl) rfl (bwL_stn (cs' := cXApi_Unit (XApi_Unit.mk [] [])) rfl rfl bwL_0) (T_code_Check (nn + 1) (XApi_Unit.mk [] []) x1293 hx1294) rfl fz21 rfl rfl) rfl ?_
      refine rw_gt rfl (by simp only [hb1292]; rfl) (ov_field (v := (I x1293.Code)) fd28_0 (un_self _) rfl rfl) rfl ?_
      refine rw_gt rfl (by simp only [hb1292]; rfl) (ov_eql (k := .i64) (a := x1293.Code) (b := 6) (un_self _) rfl) rfl ?_
      refine rw_p (ov_pickT ((rfl : _ = _).trans (congrArg (fun b => AV.val (.bool b)) hb1292)) rfl) rfl ?_
      obtain rfl := Option.some.inj hG1291
      refine rw_nil ⟨⟨[], (List.append_nil _).symm, rfl⟩, _, _, rfl, rfl⟩
    · refine rw_no ((rfl).trans (congrArg some (by simp only [hb1292]; first | rfl | simp))) rfl (fun u1295 k1296 hk1297 => ?_)
      refine rw_no ((rfl).trans (congrArg some (by simp only [hb1292]; first | rfl | simp))) rfl (fun u1298 k1299 hk1300 => ?_)
      refine rw_no ((rfl).trans (congrArg some (by simp only [hb1292]; first | rfl | simp))) rfl (fun u1301 k1302 hk1303 => ?_)
      refine rw_p (ov_pickF ((rfl : _ = _).trans (congrArg (fun b => AV.val (.bool b)) hb1292)) rfl) rfl ?_
      obtain rfl := Option.some.inj hG1291
      refine rw_nil ⟨⟨(k1296 ++ (k1299 ++ k1302)), by simp only [List.append_assoc], by simp only [readsOnly_append, hk1297, hk1300, hk1303, Bool.and_self]⟩, _, _, rfl, rfl⟩
  · rintro k1307 t1304 h1305 hk1308 e1306
    refine rw_p (ov_assign (v := (B p1290)) (congrArg (un _) e1306)) rfl ?_
    refine rw_nil ?_
    refine q_seq ?_
    refine w_ret ?_
    obtain rfl := Option.some.inj hF
    exact (fin_ret (res_tmp (pk_of (v := (B p1290)) rfl rfl) res_nil) rfl rfl)

/-! turnery/turnerylaw2.CodeSays -/
noncomputable def turnerylaw2_CodeSays_L1 (a0 : XApi_Unit) (y1319 : Int) (y1320 : Int) (y1321 : Int) : Option (Lp (Int × Int × Int) (Int × Int)) :=
  if (decide (y1321 < (a0.Funcs.length : Int))) then
  ((idx a0.Funcs y1321).bind fun x1323 =>
  (idx a0.Funcs y1321).bind fun x1325 =>
  (turneryref2_Ins x1325).bind fun x1327 =>
  some (.next ((w64 (y1319 + (x1323.Blocks.length : Int))), (w64 (y1320 + x1327)), (w64 (y1321 + 1)))))
  else
  (some (.out (y1319, y1320)))
noncomputable def turnerylaw2_CodeSays_L2 (a0 : XApi_Unit) (a1 : Int) (x1315 : ((List (List Int)) × XApi_Fault)) (y1374 : Int) : Option (Lp Int (Br Unit Bool)) :=
  if (decide (y1374 < (x1315.1.length : Int))) then
  ((idx x1315.1 y1374).bind fun x1376 =>
  (idx a0.Funcs a1).bind fun x1378 =>
  (turneryref2_Ahead x1378 y1374).bind fun x1380 =>
  (turnerysame_Ints x1376 x1380).bind fun x1382 =>
  if (!x1382) then
  (some (.out (.ret false)))
  else
  (some (.next (w64 (y1374 + 1)))))
  else
  (some (.out (.brk ())))
noncomputable def turnerylaw2_CodeSays (a0 : XApi_Unit) (a1 : Int) : Option Bool :=
  (turnerylaw2_vast a0).bind fun x1309 =>
  if x1309 then
  (some true)
  else
  ((turneryref2_Unit a0).bind fun x1311 =>
  (code_Size a0).bind fun x1313 =>
  (code_Ahead a0 a1).bind fun x1315 =>
  (code_Check a0).bind fun x1317 =>
  if (if (!((x1317.Code == x1311.Code) && ((x1317.At == x1311.At) && true))) then true else (!((x1313.2.2.Code == x1311.Code) && ((x1313.2.2.At == x1311.At) && true)))) then
  (some false)
  else
  (if (x1311.Code != 0) then
  (some (if (if (if ((x1315.2.Code == x1311.Code) && ((x1315.2.At == x1311.At) && true)) then (x1313.1 == 0) else false) then (x1313.2.1 == 0) else false) then ((x1315.1.length : Int) == 0) else false))
  else
  ((Loop (fun (s : (Int × Int × Int)) => turnerylaw2_CodeSays_L1 a0 s.1 s.2.1 s.2.2) (0, 0, 0)).bind fun o1330 =>
  if (if (x1313.1 != o1330.1) then true else (x1313.2.1 != o1330.2)) then
  (some false)
  else
  ((turnerylaw2_in a1 0 (w64 ((a0.Funcs.length : Int) - 1))).bind fun x1342 =>
  if (!x1342) then
  ((turnerysame_Fault 3 (-1)).bind fun x1344 =>
  some (if ((x1315.2.Code == x1344.Code) && ((x1315.2.At == x1344.At) && true)) then ((x1315.1.length : Int) == 0) else false))
  else
  ((if (x1315.2.Code != 0) then some true else (idx a0.Funcs a1).bind fun x1364 =>
  some ((x1315.1.length : Int) != (x1364.Blocks.length : Int))).bind fun p1346 =>
  if p1346 then
  (some false)
  else
  ((Loop (fun (s : Int) => turnerylaw2_CodeSays_L2 a0 a1 x1315 s) 0).bind fun o1386 => match o1386 with
  | .ret r1393 => some r1393
  | .brk b1388 =>
  some true))))))
abbrev RV3 : List ResultVar := [.tmp 4]
def R_turnerylaw2_CodeSays (r : Bool) : AV := (B r)
set_option maxHeartbeats 2000000 in
theorem T_turnerylaw2_CodeSays (nn : Nat) (a0 : XApi_Unit) (a1 : Int) (r : Bool) (hF : turnerylaw2_CodeSays a0 a1 = some r) : den cx (nn + 9) 3 [(AV.agg (cXApi_Unit a0)), (I a1)] = some (R_turnerylaw2_CodeSays r, []) := by
  unfold turnerylaw2_CodeSays at hF
  refine fn_of (nn := (nn + 8)) (rv := RV3) (cxE _) Tryd.func3 rfl rfl Tryd.ntmps3 (cxL _) rfl ?_
  show W cx 3 _ _ ⟨140, (upd (upd (fun _ => AV.junk) 1 (I a1)) 0 (AV.agg (cXApi_Unit a0))), (fun _ => none)⟩ _
  refine v_seq ?_
  refine w_reg ?_
  refine rw_p (ov_boxF (cs := cXApi_Unit a0) (cs' := cXApi_Unit a0) ag25 fz3 rfl rfl rfl rfl rfl) rfl ?_
  refine rw_p (ov_assign (v := (B false)) rfl) rfl ?_
  refine rw_nil ?_
  refine q_seq ?_
  refine v_seq ?_
  refine v_seq ?_
  refine w_reg ?_
  refine rw_p (ov_load (v := (AV.agg (cXApi_Unit a0))) ag25 sz25 rfl rfl rfl) rfl ?_
  obtain ⟨x1309, hx1310, hF⟩ := bindS hF
  refine rw_p (ov_call (args := [(AV.agg (cXApi_Unit a0))]) (r := (R_turnerylaw2_vast x1309)) (v := (B x1309)) rfl (cons_eq rfl rfl) rfl rfl (T_turnerylaw2_vast (nn + 6) a0 x1309 hx1310) fz3 rfl rfl) rfl ?_
  refine rw_nil ?_
  refine q_seq ?_
  refine w_if (p := x1309) hF rfl (fun hb1401 hF => ?_) (fun hb1401 hF => ?_)
  · refine v_seq ?_
    refine w_reg ?_
    refine rw_p (ov_assign (v := (B true)) rfl) rfl ?_
    refine rw_nil ?_
    refine q_seq ?_
    refine w_ret ?_
    refine q_seqR ?_
    obtain rfl := Option.some.inj hF
    exact (fin_ret (res_tmp (pk_of (v := (B true)) rfl rfl) res_nil) rfl rfl)
  · refine w_skip ?_
    refine q_seq ?_
    refine v_seq ?_
    refine w_reg ?_
    refine rw_p (ov_load (v := (AV.agg (cXApi_Unit a0))) ag25 sz25 rfl rfl rfl) rfl ?_
    obtain ⟨x1311, hx1312, hF⟩ := bindS hF
    refine rw_p (ov_call (args := [(AV.agg (cXApi_Unit a0))]) (r := (R_turneryref2_Unit x1311)) (v := (AV.agg (cXApi_Fault x1311))) rfl (cons_eq rfl rfl) rfl rfl (T_turneryref2_Unit (nn + 2) a0 x1311 hx1312) fz3 rfl rfl) rfl ?_
    refine rw_w (ov_alloc zm28 rfl) rfl ?_
    refine rw_w (ov_storeF (v := (AV.agg (cXApi_Fault x1311))) (cs := cXApi_Fault x1311) (cs' := cXApi_Fault x1311) ag28 sz28 rfl rfl rfl rfl rfl rfl fz3 rfl rfl rfl) rfl ?_
    refine rw_nil ?_
    refine q_seq ?_
    refine v_seq ?_
    refine w_reg ?_
    refine rw_p (ov_load (v := (AV.agg (cXApi_Unit a0))) ag25 sz25 rfl rfl rfl) rfl ?_
    obtain ⟨x1313, hx1314, hF⟩ := bindS hF
    refine rw_p (ov_call (args := [(AV.agg (cXApi_Unit a0))]) (r := (R_code_Size x1313)) (v := (AV.tup [(I x1313.1), (I x1313.2.1), (AV.agg (cXApi_Fault x1313.2.2))])) rfl (cons_eq rfl rfl) rfl rfl (T_code_Size nn a0 x1313 hx1314) fz3 rfl rfl) rfl ?_
    refine rw_p (ov_move (v := (AV.tup [(I x1313.1), (I x1313.2.1), (AV.agg (cXApi_Fault x1313.2.2))])) rfl) rfl ?_
    refine rw_p (ov_extract (v := (I x1313.1)) rfl rfl) rfl ?_
    refine rw_p (ov_extract (v := (I x1313.2.1)) rfl rfl) rfl ?_
    refine rw_p (ov_extract (v := (AV.agg (cXApi_Fault x1313.2.2))) rfl rfl) rfl ?_
    refine rw_w (ov_alloc zm28 rfl) rfl ?_
    refine rw_p (ov_assign (v := (I x1313.1)) rfl) rfl ?_
    refine rw_p (ov_assign (v := (I x1313.2.1)) rfl) rfl ?_
    refine rw_w (ov_storeF (v := (AV.agg (cXApi_Fault x1313.2.2))) (cs := cXApi_Fault x1313.2.2) (cs' := cXApi_Fault x1313.2.2) ag28 sz28 rfl rfl rfl rfl rfl rfl fz3 rfl rfl rfl) rfl ?_
    refine rw_nil ?_
    refine q_seq ?_
    refine v_seq ?_
    refine w_reg ?_
    refine rw_p (ov_load (v := (AV.agg (cXApi_Unit a0))) ag25 sz25 rfl rfl rfl) rfl ?_
    refine rw_p (ov_move (v := (I a1)) rfl) rfl ?_
    obtain ⟨x1315, hx1316, hF⟩ := bindS hF
    refine rw_p (ov_call (args := [(AV.agg (cXApi_Unit a0)), (I a1)]) (r := (R_code_Ahead x1315)) (v := (AV.tup [(AV.sl ((x1315.1).map cs_cInt_i64)), (AV.agg (cXApi_Fault x1315.2))])) rfl (cons_eq rfl (cons_eq rfl rfl)) rfl rfl (T_code_Ahead nn a0 a1 x1315 hx1316) fz3 (by rw [if_pos (by rfl)]; exact (congrArg AV.tup (cons_eq (fz_map _ _ fzl_co_cInt_i64 _) (cons_eq rfl rfl)))) rfl) rfl ?_
    refine rw_p (ov_move (v := (AV.tup [(AV.sl ((x1315.1).map cs_cInt_i64)), (AV.agg (cXApi_Fault x1315.2))])) rfl) rfl ?_
    refine rw_p (ov_extract (v := (AV.sl ((x1315.1).map cs_cInt_i64))) rfl rfl) rfl ?_
    refine rw_p (ov_extract (v := (AV.agg (cXApi_Fault x1315.2))) rfl rfl) rfl ?_
    refine rw_w (ov_alloc zm28 rfl) rfl ?_
    refine rw_p (ov_assign (v := (AV.sl ((x1315.1).map cs_cInt_i64))) rfl) rfl ?_
    refine rw_w (ov_storeF (v := (AV.agg (cXApi_Fault x1315.2))) (cs := cXApi_Fault x1315.2) (cs' := cXApi_Fault x1315.2) ag28 sz28 rfl rfl rfl rfl rfl rfl fz3 rfl rfl rfl) rfl ?_
    refine rw_nil ?_
    refine q_seq ?_
    refine v_seq ?_
    refine v_seq ?_
    refine w_regD ?_
    refine rw_p (ov_load (v := (AV.agg (cXApi_Unit a0))) ag25 sz25 rfl rfl rfl) rfl ?_
    obtain ⟨x1317, hx1318, hF⟩ := bindS hF
    refine rw_p (ov_call (args := [(AV.agg (cXApi_Unit a0))]) (r := (R_code_Check x1317)) (v := (AV.agg (cXApi_Fault x1317))) rfl (cons_eq rfl rfl) rfl rfl (T_code_Check (nn + 1) a0 x1317 hx1318) fz3 rfl rfl) rfl ?_
    refine rw_p (ov_load (v := (AV.agg (cXApi_Fault x1311))) ag28 sz28 rfl rfl rfl) rfl ?_
    refine rw_p (ov_bin rfl rfl rfl rfl (eq28_neq _ _ x1317.Code x1311.Code x1317.At x1311.At) rfl) rfl ?_
    refine rw_p (ov_move (v := (B (!((x1317.Code == x1311.Code) && ((x1317.At == x1311.At) && true))))) rfl) rfl ?_
    refine rw_g rfl (ov_load (v := (AV.agg (cXApi_Fault x1313.2.2))) ag28 sz28 rfl rfl rfl) rfl ?_
    refine rw_g rfl (ov_load (v := (AV.agg (cXApi_Fault x1311))) ag28 sz28 rfl rfl rfl) rfl ?_
    refine rw_g rfl (ov_bin (un_self _) (un_self _) rfl rfl (eq28_neq _ _ x1313.2.2.Code x1311.Code x1313.2.2.At x1311.At) rfl) rfl ?_
    refine rw_p (ov_pickB (p := (!((x1317.Code == x1311.Code) && ((x1317.At == x1311.At) && true)))) (q := true) (r := (!((x1313.2.2.Code == x1311.Code) && ((x1313.2.2.At == x1311.At) && true)))) rfl rfl (un_imp (by generalize (!((x1317.Code == x1311.Code) && ((x1317.At == x1311.At) && true))) = u0; cases u0 <;> rfl))) rfl ?_
    refine rw_nil ⟨rfl, ?_⟩
    refine q_seq ?_
    refine w_if (p := (if (!((x1317.Code == x1311.Code) && ((x1317.At == x1311.At) && true))) then true else (!((x1313.2.2.Code == x1311.Code) && ((x1313.2.2.At == x1311.At) && true))))) hF rfl (fun hb1400 hF => ?_) (fun hb1400 hF => ?_)
    · refine v_seq ?_
      refine w_reg ?_
      refine rw_p (ov_assign (v := (B false)) rfl) rfl ?_
      refine rw_nil ?_
      refine q_seq ?_
      refine w_ret ?_
      refine q_seqR ?_
      obtain rfl := Option.some.inj hF
      exact (fin_ret (res_tmp (pk_of (v := (B false)) rfl rfl) res_nil) rfl rfl)
    · refine w_skip ?_
      refine q_seq ?_
      refine v_seq ?_
      refine v_seq ?_
      refine w_reg ?_
      refine rw_p (ov_fieldAddr (cells' := (cXApi_Fault x1311)) fd28_0 rfl rfl rfl rfl) rfl ?_
      refine rw_p (ov_load (v := (I x1311.Code)) ag3 sz3 rfl rfl rfl) rfl ?_
      refine rw_p (ov_neq (k := .i64) (a := x1311.Code) (b := 0) rfl rfl) rfl ?_
      refine rw_nil ?_
      refine q_seq ?_
      refine w_if (p := (x1311.Code != 0)) hF rfl (fun hb1399 hF => ?_) (fun hb1399 hF => ?_)
      · refine v_seq ?_
        refine w_reg ?_
        refine rw_p (ov_load (v := (AV.agg (cXApi_Fault x1315.2))) ag28 sz28 rfl rfl rfl) rfl ?_
        refine rw_p (ov_load (v := (AV.agg (cXApi_Fault x1311))) ag28 sz28 rfl rfl rfl) rfl ?_
        refine rw_p (ov_bin rfl rfl rfl rfl (eq28_eql _ _ x1315.2.Code x1311.Code x1315.2.At x1311.At) rfl) rfl ?_
        refine rw_p (ov_move (v := (B ((x1315.2.Code == x1311.Code) && ((x1315.2.At == x1311.At) && true)))) rfl) rfl ?_
        refine rw_g rfl (ov_move (v := (I x1313.1)) rfl) rfl ?_
        refine rw_g rfl (ov_eql (k := .i64) (a := x1313.1) (b := 0) (un_self _) rfl) rfl ?_
        refine rw_p (ov_pickB (p := ((x1315.2.Code == x1311.Code) && ((x1315.2.At == x1311.At) && true))) (q := (x1313.1 == 0)) (r := false) rfl (un_imp (by generalize ((x1315.2.Code == x1311.Code) && ((x1315.2.At == x1311.At) && true)) = u0; cases u0 <;> rfl)) rfl) rfl ?_
        refine rw_p (ov_move (v := (B (if ((x1315.2.Code == x1311.Code) && ((x1315.2.At == x1311.At) && true)) then (x1313.1 == 0) else false))) rfl) rfl ?_
        refine rw_g rfl (ov_move (v := (I x1313.2.1)) rfl) rfl ?_
        refine rw_g rfl (ov_eql (k := .i64) (a := x1313.2.1) (b := 0) (un_self _) rfl) rfl ?_
        refine rw_p (ov_pickB (p := (if ((x1315.2.Code == x1311.Code) && ((x1315.2.At == x1311.At) && true)) then (x1313.1 == 0) else false)) (q := (x1313.2.1 == 0)) (r := false) rfl (un_imp (by generalize (if ((x1315.2.Code == x1311.Code) && ((x1315.2.At == x1311.At) && true)) then (x1313.1 == 0) else false) = u0; cases u0 <;> rfl)) rfl) rfl ?_
        refine rw_p (ov_move (v := (B (if (if ((x1315.2.Code == x1311.Code) && ((x1315.2.At == x1311.At) && true)) then (x1313.1 == 0) else false) then (x1313.2.1 == 0) else false))) rfl) rfl ?_
        refine rw_g rfl (ov_move (v := (AV.sl ((x1315.1).map cs_cInt_i64))) rfl) rfl ?_
        refine rw_g rfl (ov_lenSl (m := x1315.1.length) Tryd.underlying32 rfl rfl (un_self _) (List.length_map _)) rfl ?_
        refine rw_g rfl (ov_eql (k := .i64) (a := (x1315.1.length : Int)) (b := 0) (un_self _) rfl) rfl ?_
        refine rw_p (ov_pickB (p := (if (if ((x1315.2.Code == x1311.Code) && ((x1315.2.At == x1311.At) && true)) then (x1313.1 == 0) else false) then (x1313.2.1 == 0) else false)) (q := ((x1315.1.length : Int) == 0)) (r := false) rfl (un_imp (by generalize (if (if ((x1315.2.Code == x1311.Code) && ((x1315.2.At == x1311.At) && true)) then (x1313.1 == 0) else false) then (x1313.2.1 == 0) else false) = u0; cases u0 <;> rfl)) rfl) rfl ?_
        refine rw_p (ov_assign (v := (B (if (if (if ((x1315.2.Code == x1311.Code) && ((x1315.2.At == x1311.At) && true)) then (x1313.1 == 0) else false) then (x1313.2.1 == 0) else false) then ((x1315.1.length : Int) == 0) else false))) rfl) rfl ?_
        refine rw_nil ?_
        refine q_seq ?_
        refine w_ret ?_
        refine q_seqR ?_
        obtain rfl := Option.some.inj hF
        exact (fin_ret (res_tmp (pk_of (v := (B (if (if (if ((x1315.2.Code == x1311.Code) && ((x1315.2.At == x1311.At) && true)) then (x1313.1 == 0) else false) then (x1313.2.1 == 0) else false) then ((x1315.1.length : Int) == 0) else false))) rfl rfl) res_nil) rfl rfl)
      · refine w_skip ?_
        refine q_seq ?_
        refine v_seq ?_
        refine w_reg ?_
        refine rw_p (ov_assign (v := (I 0)) rfl) rfl ?_
        refine rw_nil ?_
        refine q_seq ?_
        refine v_seq ?_
        refine w_reg ?_
        refine rw_p (ov_assign (v := (I 0)) rfl) rfl ?_
        refine rw_nil ?_
        refine q_seq ?_
        refine v_seq ?_
        refine v_seq ?_
        refine w_reg ?_
        refine rw_p (ov_assign (v := (I 0)) rfl) rfl ?_
        refine rw_nil ?_
        refine q_seq ?_
        refine v_block ?_
        obtain ⟨o1330, hL1331, hF⟩ := bindS hF
        refine v_loop (fun (s : (Int × Int × Int)) => [(I a1), (AV.vp (cXApi_Unit a0)), (I x1313.1), (I x1313.2.1), (AV.sl ((x1315.1).map cs_cInt_i64)), (AV.vp (cXApi_Fault x1315.2)), (I s.1), (I s.2.1), (I s.2.2)]) (fun (s : (Int × Int)) x => ∃ t h, x = (Exit.exit 0, ⟨140, t, h⟩) ∧ t 1 = (I a1) ∧ t 2 = (AV.vp (cXApi_Unit a0)) ∧ t 6 = (I x1313.1) ∧ t 7 = (I x1313.2.1) ∧ t 9 = (AV.sl ((x1315.1).map cs_cInt_i64)) ∧ t 10 = (AV.vp (cXApi_Fault x1315.2)) ∧ t 11 = (I s.1) ∧ t 12 = (I s.2)) hL1331 lv3_13 (renorm_of (packL_mk (pk_of (v := (I a1)) rfl rfl) (packL_mk (pk_of (v := (AV.vp (cXApi_Unit a0))) rfl rfl) (packL_mk (pk_of (v := (I x1313.1)) rfl rfl) (packL_mk (pk_of (v := (I x1313.2.1)) rfl rfl) (packL_mk (pk_of (v := (AV.sl ((x1315.1).map cs_cInt_i64))) rfl rfl) (packL_mk (pk_of (v := (AV.vp (cXApi_Fault x1315.2))) rfl rfl) (packL_mk (pk_of (v := (I 0)) rfl rfl) (packL_mk (pk_of (v := (I 0)) rfl rfl) (packL_mk (pk_of (v := (I 0)) rfl rfl) packL_0))))))))) rfl) ?_ ?_
        · rintro ⟨y1319, y1320, y1321⟩ z1322 hF
          replace hF : turnerylaw2_CodeSays_L1 a0 y1319 y1320 y1321 = some z1322 := hF
          unfold turnerylaw2_CodeSays_L1 at hF
          show W cx 3 _ _ ⟨140, (upd (upd (upd (upd (upd (upd (upd (upd (upd (fun _ => AV.junk) 13 (I y1321)) 12 (I y1320)) 11 (I y1319)) 10 (AV.vp (cXApi_Fault x1315.2))) 9 (AV.sl ((x1315.1).map cs_cInt_i64))) 7 (I x1313.2.1)) 6 (I x1313.1)) 2 (AV.vp (cXApi_Unit a0))) 1 (I a1)), (fun _ => none)⟩ _
          refine v_seq ?_
          refine v_seq ?_
          refine w_reg ?_
          refine rw_p (ov_move (v := (I y1321)) rfl) rfl ?_
          refine rw_p (ov_fieldAddr (cells' := ((cXApi_Unit a0).drop 1)) fd25_1 rfl rfl rfl rfl) rfl ?_
          refine rw_p (ov_load (v := (AV.sl ((a0.Funcs).map cXApi_Func))) ag23 sz23 rfl rfl rfl) rfl ?_
          refine rw_p (ov_lenSl (m := a0.Funcs.length) Tryd.underlying23 rfl rfl rfl (List.length_map _)) rfl ?_
          refine rw_p (ov_lss (k := .i64) (a := y1321) (b := (a0.Funcs.length : Int)) rfl rfl) rfl ?_
          refine rw_nil ?_
          refine q_seq ?_
          refine w_if (p := (decide (y1321 < (a0.Funcs.length : Int)))) hF rfl (fun hb1329 hF => ?_) (fun hb1329 hF => ?_)
          · refine w_skip ?_
            refine q_seq ?_
            refine v_seq ?_
            refine v_block ?_
            refine v_seq ?_
            refine w_reg ?_
            refine rw_p (ov_move (v := (I y1319)) rfl) rfl ?_
            refine rw_p (ov_fieldAddr (cells' := ((cXApi_Unit a0).drop 1)) fd25_1 rfl rfl rfl rfl) rfl ?_
            refine rw_p (ov_load (v := (AV.sl ((a0.Funcs).map cXApi_Func))) ag23 sz23 rfl rfl rfl) rfl ?_
            refine rw_p (ov_move (v := (I y1321)) rfl) rfl ?_
            obtain ⟨x1323, hx1324, hF⟩ := bindS hF
            refine rw_p (ov_indexAddr (k := .i64) (c := cXApi_Func) (q := a0.Funcs) (i := y1321) Tryd.underlying23 sz37 rfl rfl rfl hx1324 rfl) rfl ?_
            refine rw_p (ov_fieldAddr (cells' := ((cXApi_Func x1323).drop 3)) fd37_3 rfl rfl rfl rfl) rfl ?_
            refine rw_p (ov_load (v := (AV.sl ((x1323.Blocks).map cXApi_Block))) ag35 sz35 rfl rfl rfl) rfl ?_
            refine rw_p (ov_lenSl (m := x1323.Blocks.length) Tryd.underlying35 rfl rfl rfl (List.length_map _)) rfl ?_
            refine rw_p (ov_add (k := .i64) (a := y1319) (b := (x1323.Blocks.length : Int)) rfl rfl) rfl ?_
            refine rw_p (ov_assign (v := (I (w64 (y1319 + (x1323.Blocks.length : Int))))) rfl) rfl ?_
            refine rw_nil ?_
            refine q_seq ?_
            refine w_reg ?_
            refine rw_p (ov_move (v := (I y1320)) rfl) rfl ?_
            refine rw_p (ov_fieldAddr (cells' := ((cXApi_Unit a0).drop 1)) fd25_1 rfl rfl rfl rfl) rfl ?_
            refine rw_p (ov_load (v := (AV.sl ((a0.Funcs).map cXApi_Func))) ag23 sz23 rfl rfl rfl) rfl ?_
            refine rw_p (ov_move (v := (I y1321)) rfl) rfl ?_
            obtain ⟨x1325, hx1326, hF⟩ := bindS hF
            refine rw_p (ov_indexAddr (k := .i64) (c := cXApi_Func) (q := a0.Funcs) (i := y1321) Tryd.underlying23 sz37 rfl rfl rfl hx1326 rfl) rfl ?_
            refine rw_p (ov_load (v := (AV.agg (cXApi_Func x1325))) ag37 sz37 rfl rfl rfl) rfl ?_
            obtain ⟨x1327, hx1328, hF⟩ := bindS hF
            refine rw_p (ov_call (args := [(AV.agg (cXApi_Func x1325))]) (r := (R_turneryref2_Ins x1327)) (v := (I x1327)) rfl (cons_eq rfl rfl) rfl rfl (T_turneryref2_Ins (nn + 7) x1325 x1327 hx1328) fz3 rfl rfl) rfl ?_
            refine rw_p (ov_add (k := .i64) (a := y1320) (b := x1327) rfl rfl) rfl ?_
            refine rw_p (ov_assign (v := (I (w64 (y1320 + x1327)))) rfl) rfl ?_
            refine rw_nil ?_
            refine q_blk ?_
            refine q_seq ?_
            refine w_reg ?_
            refine rw_p (ov_move (v := (I y1321)) rfl) rfl ?_
            refine rw_p (ov_add (k := .i64) (a := y1321) (b := 1) rfl rfl) rfl ?_
            refine rw_p (ov_assign (v := (I (w64 (y1321 + 1)))) rfl) rfl ?_
            refine rw_nil ?_
            obtain rfl := Option.some.inj hF
            exact q_next (renorm_of (packL_mk (pk_of (v := (I a1)) rfl rfl) (packL_mk (pk_of (v := (AV.vp (cXApi_Unit a0))) rfl rfl) (packL_mk (pk_of (v := (I x1313.1)) rfl rfl) (packL_mk (pk_of (v := (I x1313.2.1)) rfl rfl) (packL_mk (pk_of (v := (AV.sl ((x1315.1).map cs_cInt_i64))) rfl rfl) (packL_mk (pk_of (v := (AV.vp (cXApi_Fault x1315.2))) rfl rfl) (packL_mk (pk_of (v := (I (w64 (y1319 + (x1323.Blocks.length : Int))))) rfl rfl) (packL_mk (pk_of (v := (I (w64 (y1320 + x1327)))) rfl rfl) (packL_mk (pk_of (v := (I (w64 (y1321 + 1)))) rfl rfl) packL_0))))))))) rfl)
          · refine w_exit ?_
            refine q_seqE ?_
            obtain rfl := Option.some.inj hF
            refine q_out ?_
            exact ⟨_, _, rfl, rfl, rfl, rfl, rfl, rfl, rfl, rfl, rfl⟩
        · rintro x1397 hr1398
          obtain ⟨t1332, h1333, rfl, e1334, e1335, e1336, e1337, e1338, e1339, e1340, e1341⟩ := hr1398
          refine q_blkH ?_
          refine q_seq ?_
          refine v_seq ?_
          refine v_seq ?_
          refine w_reg ?_
          refine rw_p (ov_move (v := (I x1313.1)) (congrArg (un _) e1336)) rfl ?_
          refine rw_p (ov_move (v := (I o1330.1)) (congrArg (un _) e1340)) rfl ?_
          refine rw_p (ov_neq (k := .i64) (a := x1313.1) (b := o1330.1) rfl rfl) rfl ?_
          refine rw_p (ov_move (v := (B (x1313.1 != o1330.1))) rfl) rfl ?_
          refine rw_g rfl (ov_move (v := (I x1313.2.1)) (congrArg (un _) e1337)) rfl ?_
          refine rw_g rfl (ov_move (v := (I o1330.2)) (congrArg (un _) e1341)) rfl ?_
          refine rw_g rfl (ov_neq (k := .i64) (a := x1313.2.1) (b := o1330.2) (un_self _) (un_self _)) rfl ?_
          refine rw_p (ov_pickB (p := (x1313.1 != o1330.1)) (q := true) (r := (x1313.2.1 != o1330.2)) rfl rfl (un_imp (by generalize (x1313.1 != o1330.1) = u0; cases u0 <;> rfl))) rfl ?_
          refine rw_nil ?_
          refine q_seq ?_
          refine w_if (p := (if (x1313.1 != o1330.1) then true else (x1313.2.1 != o1330.2))) hF rfl (fun hb1396 hF => ?_) (fun hb1396 hF => ?_)
          · refine v_seq ?_
            refine w_reg ?_
            refine rw_p (ov_assign (v := (B false)) rfl) rfl ?_
            refine rw_nil ?_
            refine q_seq ?_
            refine w_ret ?_
            refine q_seqR ?_
            obtain rfl := Option.some.inj hF
            exact (fin_ret (res_tmp (pk_of (v := (B false)) rfl rfl) res_nil) rfl rfl)
          · refine w_skip ?_
            refine q_seq ?_
            refine v_seq ?_
            refine v_seq ?_
            refine w_reg ?_
            refine rw_p (ov_move (v := (I a1)) (congrArg (un _) e1334)) rfl ?_
            refine rw_p (ov_fieldAddr (cells' := ((cXApi_Unit a0).drop 1)) fd25_1 rfl (congrArg (un _) e1335) rfl rfl) rfl ?_
            refine rw_p (ov_load (v := (AV.sl ((a0.Funcs).map cXApi_Func))) ag23 sz23 rfl rfl rfl) rfl ?_
            refine rw_p (ov_lenSl (m := a0.Funcs.length) Tryd.underlying23 rfl rfl rfl (List.length_map _)) rfl ?_
            refine rw_p (ov_sub (k := .i64) (a := (a0.Funcs.length : Int)) (b := 1) rfl rfl) rfl ?_
            obtain ⟨x1342, hx1343, hF⟩ := bindS hF
            refine rw_p (ov_call (args := [(I a1), (I 0), (I (w64 ((a0.Funcs.length : Int) - 1)))]) (r := (R_turnerylaw2_in x1342)) (v := (B x1342)) rfl (cons_eq rfl (cons_eq rfl (cons_eq rfl rfl))) rfl rfl (T_turnerylaw2_in (nn + 7) a1 0 (w64 ((a0.Funcs.length : Int) - 1)) x1342 hx1343) fz3 rfl rfl) rfl ?_
            refine rw_p (ov_not (p := x1342) rfl) rfl ?_
            refine rw_nil ?_
            refine q_seq ?_
            refine w_if (p := (!x1342)) hF rfl (fun hb1395 hF => ?_) (fun hb1395 hF => ?_)
            · refine v_seq ?_
              refine w_regD ?_
              refine rw_p (ov_load (v := (AV.agg (cXApi_Fault x1315.2))) ag28 sz28 (congrArg (un _) e1339) rfl rfl) rfl ?_
              obtain ⟨x1344, hx1345, hF⟩ := bindS hF
              refine rw_p (ov_call (args := [(I 3), (I (-1))]) (r := (R_turnerysame_Fault x1344)) (v := (AV.agg (cXApi_Fault x1344))) rfl (cons_eq rfl (cons_eq rfl rfl)) rfl rfl (T_turnerysame_Fault (nn + 7) 3 (-1) x1344 hx1345) fz3 rfl rfl) rfl ?_
              refine rw_p (ov_bin rfl rfl rfl rfl (eq28_eql _ _ x1315.2.Code x1344.Code x1315.2.At x1344.At) rfl) rfl ?_
              refine rw_p (ov_move (v := (B ((x1315.2.Code == x1344.Code) && ((x1315.2.At == x1344.At) && true)))) rfl) rfl ?_
              refine rw_g rfl (ov_move (v := (AV.sl ((x1315.1).map cs_cInt_i64))) (congrArg (un _) e1338)) rfl ?_
              refine rw_g rfl (ov_lenSl (m := x1315.1.length) Tryd.underlying32 rfl rfl (un_self _) (List.length_map _)) rfl ?_
              refine rw_g rfl (ov_eql (k := .i64) (a := (x1315.1.length : Int)) (b := 0) (un_self _) rfl) rfl ?_
              refine rw_p (ov_pickB (p := ((x1315.2.Code == x1344.Code) && ((x1315.2.At == x1344.At) && true))) (q := ((x1315.1.length : Int) == 0)) (r := false) rfl (un_imp (by generalize ((x1315.2.Code == x1344.Code) && ((x1315.2.At == x1344.At) && true)) = u0; cases u0 <;> rfl)) rfl) rfl ?_
              refine rw_p (ov_assign (v := (B (if ((x1315.2.Code == x1344.Code) && ((x1315.2.At == x1344.At) && true)) then ((x1315.1.length : Int) == 0) else false))) rfl) rfl ?_
              refine rw_nil ⟨rfl, ?_⟩
              refine q_seq ?_
              refine w_ret ?_
              refine q_seqR ?_
              obtain rfl := Option.some.inj hF
              exact (fin_ret (res_tmp (pk_of (v := (B (if ((x1315.2.Code == x1344.Code) && ((x1315.2.At == x1344.At) && true)) then ((x1315.1.length : Int) == 0) else false))) rfl rfl) res_nil) rfl rfl)
            · refine w_skip ?_
              refine q_seq ?_
              refine v_seq ?_
              refine v_seq ?_
              refine w_reg ?_
              refine rw_p (ov_fieldAddr (cells' := (cXApi_Fault x1315.2)) fd28_0 rfl (congrArg (un _) e1339) rfl rfl) rfl ?_
              refine rw_p (ov_load (v := (I x1315.2.Code)) ag3 sz3 rfl rfl rfl) rfl ?_
              refine rw_p (ov_neq (k := .i64) (a := x1315.2.Code) (b := 0) rfl rfl) rfl ?_
              refine rw_p (ov_move (v := (B (x1315.2.Code != 0))) rfl) rfl ?_
              refine rw_g rfl (ov_move (v := (AV.sl ((x1315.1).map cs_cInt_i64))) (congrArg (un _) e1338)) rfl ?_
              refine rw_g rfl (ov_lenSl (m := x1315.1.length) Tryd.underlying32 rfl rfl (un_self _) (List.length_map _)) rfl ?_
              refine rw_g rfl (ov_fieldAddr (cells' := ((cXApi_Unit a0).drop 1)) fd25_1 rfl (congrArg (un _) e1335) rfl rfl) rfl ?_
              refine rw_g rfl (ov_load (v := (AV.sl ((a0.Funcs).map cXApi_Func))) ag23 sz23 (un_self _) rfl rfl) rfl ?_
              refine rw_g rfl (ov_move (v := (I a1)) (congrArg (un _) e1334)) rfl ?_
              obtain ⟨p1346, hG1347, hF⟩ := bindS hF
              refine rw_join 6 (fun t h => t 1 = (I a1) ∧ t 2 = (AV.vp (cXApi_Unit a0)) ∧ t 9 = (AV.sl ((x1315.1).map cs_cInt_i64)) ∧ t 120 = (B p1346)) ?_ ?_
              · refine if_elim hG1347 (fun hb1348 hG1347 => ?_) (fun hb1348 hG1347 => ?_)
                · refine rw_no ((rfl).trans (congrArg some (by simp only [hb1348]; first | rfl | simp))) rfl (fun u1349 k1350 hk1351 => ?_)
                  refine rw_no ((rfl).trans (congrArg some (by simp only [hb1348]; first | rfl | simp))) rfl (fun u1352 k1353 hk1354 => ?_)
                  refine rw_no ((rfl).trans (congrArg some (by simp only [hb1348]; first | rfl | simp))) rfl (fun u1355 k1356 hk1357 => ?_)
                  refine rw_no ((rfl).trans (congrArg some (by simp only [hb1348]; first | rfl | simp))) rfl (fun u1358 k1359 hk1360 => ?_)
                  refine rw_no ((rfl).trans (congrArg some (by simp only [hb1348]; first | rfl | simp))) rfl (fun u1361 k1362 hk1363 => ?_)
                  refine rw_p (ov_pickT ((rfl : _ = _).trans (congrArg (fun b => AV.val (.bool b)) hb1348)) rfl) rfl ?_
                  obtain rfl := Option.some.inj hG1347
                  refine rw_nil ⟨⟨(k1350 ++ (k1353 ++ (k1356 ++ (k1359 ++ k1362)))), by simp only [List.append_assoc], by simp only [readsOnly_append, hk1351, hk1354, hk1357, hk1360, hk1363, Bool.and_self]⟩, _, _, rfl, e1334, e1335, e1338, rfl⟩
                · obtain ⟨x1364, hx1365, hG1347⟩ := bindS hG1347
                  refine rw_gt rfl (by simp only [hb1348]; rfl) (ov_indexAddr (k := .i64) (c := cXApi_Func) (q := a0.Funcs) (i := a1) Tryd.underlying23 sz37 rfl (un_imp (by simp only [hb1348]; rfl)) (un_imp (by simp only [hb1348]; rfl)) hx1365 rfl) rfl ?_
                  refine rw_gt rfl (by simp only [hb1348]; rfl) (ov_fieldAddr (cells' := ((cXApi_Func x1364).drop 3)) fd37_3 rfl (un_self _) rfl rfl) rfl ?_
                  refine rw_gt rfl (by simp only [hb1348]; rfl) (ov_load (v := (AV.sl ((x1364.Blocks).map cXApi_Block))) ag35 sz35 (un_self _) rfl rfl) rfl ?_
                  refine rw_gt rfl (by simp only [hb1348]; rfl) (ov_lenSl (m := x1364.Blocks.length) Tryd.underlying35 rfl rfl (un_self _) (List.length_map _)) rfl ?_
                  refine rw_gt rfl (by simp only [hb1348]; rfl) (ov_neq (k := .i64) (a := (x1315.1.length : Int)) (b := (x1364.Blocks.length : Int)) (un_imp (by simp only [hb1348]; rfl)) (un_self _)) rfl ?_
                  refine rw_p (ov_pickF ((rfl : _ = _).trans (congrArg (fun b => AV.val (.bool b)) hb1348)) rfl) rfl ?_
                  obtain rfl := Option.some.inj hG1347
                  refine rw_nil ⟨⟨[], (List.append_nil _).symm, rfl⟩, _, _, rfl, e1334, e1335, e1338, rfl⟩
              · rintro k1372 t1366 h1367 hk1373 ⟨e1368, e1369, e1370, e1371⟩
                refine rw_nil ?_
                refine q_seq ?_
                refine w_if (p := p1346) hF (congrArg (un _) e1371) (fun hb1394 hF => ?_) (fun hb1394 hF => ?_)
                · refine v_seq ?_
                  refine w_reg ?_
                  refine rw_p (ov_assign (v := (B false)) rfl) rfl ?_
                  refine rw_nil ?_
                  refine q_seq ?_
                  refine w_ret ?_
                  refine q_seqR ?_
                  obtain rfl := Option.some.inj hF
                  exact (fin_ret (res_tmp (pk_of (v := (B false)) rfl rfl) res_nil) rfl rfl)
                · refine w_skip ?_
                  refine q_seq ?_
                  refine v_seq ?_
                  refine v_seq ?_
                  refine w_reg ?_
                  refine rw_p (ov_assign (v := (I 0)) rfl) rfl ?_
                  refine rw_nil ?_
                  refine q_seq ?_
                  refine v_block ?_
                  obtain ⟨o1386, hL1387, hF⟩ := bindS hF
                  refine v_loop (fun (s : Int) => [(I a1), (AV.vp (cXApi_Unit a0)), (AV.sl ((x1315.1).map cs_cInt_i64)), (I s)]) (RelO (fun (s : Unit) x => ∃ t h, x = (Exit.exit 2, ⟨140, t, h⟩) ∧ True) (fun r x => x.1 = Exit.ret ∧ Fin cx RV3 (R_turnerylaw2_CodeSays r) x)) hL1387 lv3_24 (renorm_of (packL_mk (pk_of (v := (I a1)) e1368 rfl) (packL_mk (pk_of (v := (AV.vp (cXApi_Unit a0))) e1369 rfl) (packL_mk (pk_of (v := (AV.sl ((x1315.1).map cs_cInt_i64))) e1370 rfl) (packL_mk (pk_of (v := (I 0)) rfl rfl) packL_0)))) rfl) ?_ ?_
                  · rintro y1374 z1375 hF
                    replace hF : turnerylaw2_CodeSays_L2 a0 a1 x1315 y1374 = some z1375 := hF
                    unfold turnerylaw2_CodeSays_L2 at hF
                    show W cx 3 _ _ ⟨140, (upd (upd (upd (upd (fun _ => AV.junk) 14 (I y1374)) 9 (AV.sl ((x1315.1).map cs_cInt_i64))) 2 (AV.vp (cXApi_Unit a0))) 1 (I a1)), (fun _ => none)⟩ _
                    refine v_seq ?_
                    refine v_seq ?_
                    refine w_reg ?_
                    refine rw_p (ov_move (v := (I y1374)) rfl) rfl ?_
                    refine rw_p (ov_move (v := (AV.sl ((x1315.1).map cs_cInt_i64))) rfl) rfl ?_
                    refine rw_p (ov_lenSl (m := x1315.1.length) Tryd.underlying32 rfl rfl rfl (List.length_map _)) rfl ?_
                    refine rw_p (ov_lss (k := .i64) (a := y1374) (b := (x1315.1.length : Int)) rfl rfl) rfl ?_
                    refine rw_nil ?_
                    refine q_seq ?_
                    refine w_if (p := (decide (y1374 < (x1315.1.length : Int)))) hF rfl (fun hb1385 hF => ?_) (fun hb1385 hF => ?_)
                    · refine w_skip ?_
                      refine q_seq ?_
                      refine v_seq ?_
                      refine v_block ?_
                      refine v_seq ?_
                      refine w_regD ?_
                      refine rw_p (ov_move (v := (AV.sl ((x1315.1).map cs_cInt_i64))) rfl) rfl ?_
                      refine rw_p (ov_move (v := (I y1374)) rfl) rfl ?_
                      obtain ⟨x1376, hx1377, hF⟩ := bindS hF
                      refine rw_p (ov_indexAddr (k := .i64) (c := cs_cInt_i64) (q := x1315.1) (i := y1374) Tryd.underlying32 sz42 rfl rfl rfl hx1377 rfl) rfl ?_
                      refine rw_p (ov_load (v := (AV.sl ((x1376).map cInt_i64))) ag42 sz42 rfl rfl rfl) rfl ?_
                      refine rw_p (ov_fieldAddr (cells' := ((cXApi_Unit a0).drop 1)) fd25_1 rfl rfl rfl rfl) rfl ?_
                      refine rw_p (ov_load (v := (AV.sl ((a0.Funcs).map cXApi_Func))) ag23 sz23 rfl rfl rfl) rfl ?_
                      refine rw_p (ov_move (v := (I a1)) rfl) rfl ?_
                      obtain ⟨x1378, hx1379, hF⟩ := bindS hF
                      refine rw_p (ov_indexAddr (k := .i64) (c := cXApi_Func) (q := a0.Funcs) (i := a1) Tryd.underlying23 sz37 rfl rfl rfl hx1379 rfl) rfl ?_
                      refine rw_p (ov_load (v := (AV.agg (cXApi_Func x1378))) ag37 sz37 rfl rfl rfl) rfl ?_
                      refine rw_p (ov_move (v := (I y1374)) rfl) rfl ?_
                      obtain ⟨x1380, hx1381, hF⟩ := bindS hF
                      refine rw_p (ov_call (args := [(AV.agg (cXApi_Func x1378)), (I y1374)]) (r := (R_turneryref2_Ahead x1380)) (v := (AV.sl ((x1380).map cInt_i64))) rfl (cons_eq rfl (cons_eq rfl rfl)) rfl rfl (T_turneryref2_Ahead (nn + 7) x1378 y1374 x1380 hx1381) fz3 (by rw [if_pos (by rfl)]; exact (fz_map _ _ (fun _ => rfl) _)) rfl) rfl ?_
                      obtain ⟨x1382, hx1383, hF⟩ := bindS hF
                      refine rw_p (ov_call (args := [(AV.sl ((x1376).map cInt_i64)), (AV.sl ((x1380).map cInt_i64))]) (r := (R_turnerysame_Ints x1382)) (v := (B x1382)) rfl (cons_eq rfl (cons_eq rfl rfl)) rfl rfl (T_turnerysame_Ints (nn + 7) x1376 x1380 x1382 hx1383) fz3 rfl rfl) rfl ?_
                      refine rw_p (ov_not (p := x1382) rfl) rfl ?_
                      refine rw_nil ⟨rfl, ?_⟩
                      refine q_seq ?_
                      refine w_if (p := (!x1382)) hF rfl (fun hb1384 hF => ?_) (fun hb1384 hF => ?_)
                      · refine v_seq ?_
                        refine w_reg ?_
                        refine rw_p (ov_assign (v := (B false)) rfl) rfl ?_
                        refine rw_nil ?_
                        refine q_seq ?_
                        refine w_ret ?_
                        refine q_blkR ?_
                        refine q_seqR ?_
                        obtain rfl := Option.some.inj hF
                        exact q_outR (relR ⟨rfl, (fin_ret (res_tmp (pk_of (v := (B false)) rfl rfl) res_nil) rfl rfl)⟩)
                      · refine w_skip ?_
                        refine q_blk ?_
                        refine q_seq ?_
                        refine w_reg ?_
                        refine rw_p (ov_move (v := (I y1374)) rfl) rfl ?_
                        refine rw_p (ov_add (k := .i64) (a := y1374) (b := 1) rfl rfl) rfl ?_
                        refine rw_p (ov_assign (v := (I (w64 (y1374 + 1)))) rfl) rfl ?_
                        refine rw_nil ?_
                        obtain rfl := Option.some.inj hF
                        exact q_next (renorm_of (packL_mk (pk_of (v := (I a1)) rfl rfl) (packL_mk (pk_of (v := (AV.vp (cXApi_Unit a0))) rfl rfl) (packL_mk (pk_of (v := (AV.sl ((x1315.1).map cs_cInt_i64))) rfl rfl) (packL_mk (pk_of (v := (I (w64 (y1374 + 1)))) rfl rfl) packL_0)))) rfl)
                    · refine w_exit ?_
                      refine q_seqE ?_
                      obtain rfl := Option.some.inj hF
                      refine q_out (relB ?_)
                      exact ⟨_, _, rfl, trivial⟩
                  · rintro x1391 hr1392
                    cases o1386 with
                    | ret r1393 =>
                      replace hF : some r1393 = some r := hF
                      obtain rfl := Option.some.inj hF
                      obtain ⟨xe, xs⟩ := x1391
                      obtain ⟨hxe, hfin⟩ := hr1392
                      obtain rfl : xe = Exit.ret := hxe
                      refine q_blkR ?_
                      refine q_seqR ?_
                      exact hfin
                    | brk b1388 =>
                      obtain ⟨t1389, h1390, rfl, _⟩ := hr1392
                      refine q_blkH ?_
                      refine q_seq ?_
                      refine v_seq ?_
                      refine w_reg ?_
                      refine rw_p (ov_assign (v := (B true)) rfl) rfl ?_
                      refine rw_nil ?_
                      refine q_seq ?_
                      refine w_ret ?_
                      obtain rfl := Option.some.inj hF
                      exact (fin_ret (res_tmp (pk_of (v := (B true)) rfl rfl) res_nil) rfl rfl)

/-! turnery/turnerylaw2.CodeAhead -/
noncomputable def turnerylaw2_CodeAhead_L1 (a0 : XApi_Unit) (a1 : Int) (x1404 : ((List (List Int)) × XApi_Fault)) (y1461 : Int) (y1462 : Int) : Option (Lp (Int × Int) Int) :=
  if (decide (y1462 < (x1404.1.length : Int))) then
  ((idx a0.Funcs a1).bind fun x1464 =>
  (idx x1464.Blocks y1462).bind fun x1466 =>
  some (.next ((w64 (y1461 + (x1466.End.To.length : Int))), (w64 (y1462 + 1)))))
  else
  (some (.out y1461))
noncomputable def turnerylaw2_CodeAhead_L4 (y1478 : Int) (x1621 : XApi_Block) (y1623 : Bool) (y1624 : Int) : Option (Lp (Bool × Int) Bool) :=
  if (decide (y1624 < (x1621.End.To.length : Int))) then
  ((if y1623 then some true else (idx x1621.End.To y1624).bind fun x1641 =>
  some (x1641 == y1478)).bind fun p1626 =>
  some (.next (p1626, (w64 (y1624 + 1)))))
  else
  (some (.out y1623))
noncomputable def turnerylaw2_CodeAhead_L3 (a0 : XApi_Unit) (a1 : Int) (x1404 : ((List (List Int)) × XApi_Fault)) (y1478 : Int) (y1480 : Int) (y1481 : Int) : Option (Lp (Int × Int) (Br Int Bool)) :=
  (idx x1404.1 y1478).bind fun x1483 =>
  if (decide (y1481 < (x1483.length : Int))) then
  ((idx x1404.1 y1478).bind fun x1485 =>
  (idx x1485 y1481).bind fun x1487 =>
  (turnerylaw2_in x1487 0 (w64 ((x1404.1.length : Int) - 1))).bind fun x1489 =>
  (if (!x1489) then some true else (if (decide (0 < y1481)) then (idx x1404.1 y1478).bind fun x1542 =>
  (idx x1542 y1481).bind fun x1544 =>
  (idx x1404.1 y1478).bind fun x1546 =>
  (idx x1546 (w64 (y1481 - 1))).bind fun x1548 =>
  some (decide (x1544 ≤ x1548)) else some false).bind fun p1539 =>
  some p1539).bind fun p1491 =>
  if p1491 then
  (some (.out (.ret false)))
  else
  ((idx a0.Funcs a1).bind fun x1615 =>
  (idx x1404.1 y1478).bind fun x1617 =>
  (idx x1617 y1481).bind fun x1619 =>
  (idx x1615.Blocks x1619).bind fun x1621 =>
  (Loop (fun (s : (Bool × Int)) => turnerylaw2_CodeAhead_L4 y1478 x1621 s.1 s.2) (false, 0)).bind fun o1657 =>
  if (!o1657) then
  (some (.out (.ret false)))
  else
  (some (.next ((w64 (y1480 - 1)), (w64 (y1481 + 1)))))))
  else
  (some (.out (.brk y1480)))
noncomputable def turnerylaw2_CodeAhead_L2 (a0 : XApi_Unit) (a1 : Int) (x1404 : ((List (List Int)) × XApi_Fault)) (y1477 : Int) (y1478 : Int) : Option (Lp (Int × Int) (Br Int Bool)) :=
  if (decide (y1478 < (x1404.1.length : Int))) then
  ((Loop (fun (s : (Int × Int)) => turnerylaw2_CodeAhead_L3 a0 a1 x1404 y1478 s.1 s.2) (y1477, 0)).bind fun o1673 => match o1673 with
  | .ret r1685 => some (.out (.ret r1685))
  | .brk b1675 =>
  some (.next (b1675, (w64 (y1478 + 1)))))
  else
  (some (.out (.brk y1477)))
noncomputable def turnerylaw2_CodeAhead (a0 : XApi_Unit) (a1 : Int) : Option Bool :=
  (turnerylaw2_codeFact).bind fun x1402 =>
  if (!x1402) then
  (some false)
  else
  ((code_Ahead a0 a1).bind fun x1404 =>
  if (x1404.2.Code != 0) then
  (some ((x1404.1.length : Int) == 0))
  else
  ((turnerylaw2_in a1 0 (w64 ((a0.Funcs.length : Int) - 1))).bind fun x1406 =>
  (if (!x1406) then some true else (idx a0.Funcs a1).bind fun x1426 =>
  some ((x1404.1.length : Int) != (x1426.Blocks.length : Int))).bind fun p1408 =>
  (if p1408 then some true else (idx x1404.1 0).bind fun x1451 =>
  some ((x1451.length : Int) != 0)).bind fun p1436 =>
  if p1436 then
  (some false)
  else
  ((Loop (fun (s : (Int × Int)) => turnerylaw2_CodeAhead_L1 a0 a1 x1404 s.1 s.2) (0, 0)).bind fun o1469 =>
  (Loop (fun (s : (Int × Int)) => turnerylaw2_CodeAhead_L2 a0 a1 x1404 s.1 s.2) (o1469, 0)).bind fun o1687 => match o1687 with
  | .ret r1695 => some r1695
  | .brk b1689 =>
  some (b1689 == 0))))
abbrev RV4 : List ResultVar := [.tmp 4]
def R_turnerylaw2_CodeAhead (r : Bool) : AV := (B r)
set_option maxHeartbeats 2000000 in
theorem T_turnerylaw2_CodeAhead (nn : Nat) (a0 : XApi_Unit) (a1 : Int) (r : Bool) (hF : turnerylaw2_CodeAhead a0 a1 = some r) : den cx (nn + 10) 4 [(AV.agg (cXApi_Unit a0)), (I a1)] = some (R_turnerylaw2_CodeAhead r, []) := by
  unfold turnerylaw2_CodeAhead at hF
  refine fn_of (nn := (nn + 9)) (rv := RV4) (cxE _) Tryd.func4 rfl rfl Tryd.ntmps4 (cxL _) rfl ?_
  show W cx 4 _ _ ⟨163, (upd (upd (fun _ => AV.junk) 1 (I a1)) 0 (AV.agg (cXApi_Unit a0))), (fun _ => none)⟩ _
  refine v_seq ?_
  refine w_reg ?_
  refine rw_p (ov_boxF (cs := cXApi_Unit a0) (cs' := cXApi_Unit a0) ag25 fz4 rfl rfl rfl rfl rfl) rfl ?_
  refine rw_p (ov_assign (v := (B false)) rfl) rfl ?_
  refine rw_nil ?_
  refine q_seq ?_
  refine v_seq ?_
  refine w_reg ?_
  obtain ⟨x1402, hx1403, hF⟩ := bindS hF
  refine rw_p (ov_call (args := []) (r := (R_turnerylaw2_codeFact x1402)) (v := (B x1402)) rfl rfl rfl rfl (T_turnerylaw2_codeFact nn  x1402 hx1403) fz4 rfl rfl) rfl ?_
  refine rw_p (ov_assign (v := (B x1402)) rfl) rfl ?_
  refine rw_nil ?_
  refine q_seq ?_
  refine v_seq ?_
  refine v_seq ?_
  refine w_reg ?_
  refine rw_p (ov_move (v := (B x1402)) rfl) rfl ?_
  refine rw_p (ov_not (p := x1402) rfl) rfl ?_
  refine rw_nil ?_
  refine q_seq ?_
  refine w_if (p := (!x1402)) hF rfl (fun hb1700 hF => ?_) (fun hb1700 hF => ?_)
  · refine v_seq ?_
    refine w_reg ?_
    refine rw_p (ov_assign (v := (B false)) rfl) rfl ?_
    refine rw_nil ?_
    refine q_seq ?_
    refine w_ret ?_
    refine q_seqR ?_
    obtain rfl := Option.some.inj hF
    exact (fin_ret (res_tmp (pk_of (v := (B false)) rfl rfl) res_nil) rfl rfl)
  · refine w_skip ?_
    refine q_seq ?_
    refine v_seq ?_
    refine w_reg ?_
    refine rw_p (ov_load (v := (AV.agg (cXApi_Unit a0))) ag25 sz25 rfl rfl rfl) rfl ?_
    refine rw_p (ov_move (v := (I a1)) rfl) rfl ?_
    obtain ⟨x1404, hx1405, hF⟩ := bindS hF
    refine rw_p (ov_call (args := [(AV.agg (cXApi_Unit a0)), (I a1)]) (r := (R_code_Ahead x1404)) (v := (AV.tup [(AV.sl ((x1404.1).map cs_cInt_i64)), (AV.agg (cXApi_Fault x1404.2))])) rfl (cons_eq rfl (cons_eq rfl rfl)) rfl rfl (T_code_Ahead (nn + 1) a0 a1 x1404 hx1405) fz4 (by rw [if_pos (by rfl)]; exact (congrArg AV.tup (cons_eq (fz_map _ _ fzl_co_cInt_i64 _) (cons_eq rfl rfl)))) rfl) rfl ?_
    refine rw_p (ov_move (v := (AV.tup [(AV.sl ((x1404.1).map cs_cInt_i64)), (AV.agg (cXApi_Fault x1404.2))])) rfl) rfl ?_
    refine rw_p (ov_extract (v := (AV.sl ((x1404.1).map cs_cInt_i64))) rfl rfl) rfl ?_
    refine rw_p (ov_extract (v := (AV.agg (cXApi_Fault x1404.2))) rfl rfl) rfl ?_
    refine rw_w (ov_alloc zm28 rfl) rfl ?_
    refine rw_p (ov_assign (v := (AV.sl ((x1404.1).map cs_cInt_i64))) rfl) rfl ?_
    refine rw_w (ov_storeF (v := (AV.agg (cXApi_Fault x1404.2))) (cs := cXApi_Fault x1404.2) (cs' := cXApi_Fault x1404.2) ag28 sz28 rfl rfl rfl rfl rfl rfl fz4 rfl rfl rfl) rfl ?_
    refine rw_nil ?_
    refine q_seq ?_
    refine v_seq ?_
    refine v_seq ?_
    refine w_reg ?_
    refine rw_p (ov_fieldAddr (cells' := (cXApi_Fault x1404.2)) fd28_0 rfl rfl rfl rfl) rfl ?_
    refine rw_p (ov_load (v := (I x1404.2.Code)) ag3 sz3 rfl rfl rfl) rfl ?_
    refine rw_p (ov_neq (k := .i64) (a := x1404.2.Code) (b := 0) rfl rfl) rfl ?_
    refine rw_nil ?_
    refine q_seq ?_
    refine w_if (p := (x1404.2.Code != 0)) hF rfl (fun hb1699 hF => ?_) (fun hb1699 hF => ?_)
    · refine v_seq ?_
      refine w_reg ?_
      refine rw_p (ov_move (v := (AV.sl ((x1404.1).map cs_cInt_i64))) rfl) rfl ?_
      refine rw_p (ov_lenSl (m := x1404.1.length) Tryd.underlying32 rfl rfl rfl (List.length_map _)) rfl ?_
      refine rw_p (ov_eql (k := .i64) (a := (x1404.1.length : Int)) (b := 0) rfl rfl) rfl ?_
      refine rw_p (ov_assign (v := (B ((x1404.1.length : Int) == 0))) rfl) rfl ?_
      refine rw_nil ?_
      refine q_seq ?_
      refine w_ret ?_
      refine q_seqR ?_
      obtain rfl := Option.some.inj hF
      exact (fin_ret (res_tmp (pk_of (v := (B ((x1404.1.length : Int) == 0))) rfl rfl) res_nil) rfl rfl)
    · refine w_skip ?_
      refine q_seq ?_
      refine v_seq ?_
      refine v_seq ?_
      refine w_reg ?_
      refine rw_p (ov_move (v := (I a1)) rfl) rfl ?_
      refine rw_p (ov_fieldAddr (cells' := ((cXApi_Unit a0).drop 1)) fd25_1 rfl rfl rfl rfl) rfl ?_
      refine rw_p (ov_load (v := (AV.sl ((a0.Funcs).map cXApi_Func))) ag23 sz23 rfl rfl rfl) rfl ?_
      refine rw_p (ov_lenSl (m := a0.Funcs.length) Tryd.underlying23 rfl rfl rfl (List.length_map _)) rfl ?_
      refine rw_p (ov_sub (k := .i64) (a := (a0.Funcs.length : Int)) (b := 1) rfl rfl) rfl ?_
      obtain ⟨x1406, hx1407, hF⟩ := bindS hF
      refine rw_p (ov_call (args := [(I a1), (I 0), (I (w64 ((a0.Funcs.length : Int) - 1)))]) (r := (R_turnerylaw2_in x1406)) (v := (B x1406)) rfl (cons_eq rfl (cons_eq rfl (cons_eq rfl rfl))) rfl rfl (T_turnerylaw2_in (nn + 8) a1 0 (w64 ((a0.Funcs.length : Int) - 1)) x1406 hx1407) fz4 rfl rfl) rfl ?_
      refine rw_p (ov_not (p := x1406) rfl) rfl ?_
      refine rw_p (ov_move (v := (B (!x1406))) rfl) rfl ?_
      refine rw_g rfl (ov_move (v := (AV.sl ((x1404.1).map cs_cInt_i64))) rfl) rfl ?_
      refine rw_g rfl (ov_lenSl (m := x1404.1.length) Tryd.underlying32 rfl rfl (un_self _) (List.length_map _)) rfl ?_
      refine rw_g rfl (ov_fieldAddr (cells' := ((cXApi_Unit a0).drop 1)) fd25_1 rfl rfl rfl rfl) rfl ?_
      refine rw_g rfl (ov_load (v := (AV.sl ((a0.Funcs).map cXApi_Func))) ag23 sz23 (un_self _) rfl rfl) rfl ?_
      refine rw_g rfl (ov_move (v := (I a1)) rfl) rfl ?_
      obtain ⟨p1408, hG1409, hF⟩ := bindS hF
      refine rw_join 6 (fun t h => t 1 = (I a1) ∧ t 2 = (AV.vp (cXApi_Unit a0)) ∧ t 6 = (AV.sl ((x1404.1).map cs_cInt_i64)) ∧ t 48 = (B p1408)) ?_ ?_
      · refine if_elim hG1409 (fun hb1410 hG1409 => ?_) (fun hb1410 hG1409 => ?_)
        · refine rw_no ((rfl).trans (congrArg some (by simp only [hb1410]; first | rfl | simp))) rfl (fun u1411 k1412 hk1413 => ?_)
          refine rw_no ((rfl).trans (congrArg some (by simp only [hb1410]; first | rfl | simp))) rfl (fun u1414 k1415 hk1416 => ?_)
          refine rw_no ((rfl).trans (congrArg some (by simp only [hb1410]; first | rfl | simp))) rfl (fun u1417 k1418 hk1419 => ?_)
          refine rw_no ((rfl).trans (congrArg some (by simp only [hb1410]; first | rfl | simp))) rfl (fun u1420 k1421 hk1422 => ?_)
          refine rw_no ((rfl).trans (congrArg some (by simp only [hb1410]; first | rfl | simp))) rfl (fun u1423 k1424 hk1425 => ?_)
          refine rw_p (ov_pickT ((rfl : _ = _).trans (congrArg (fun b => AV.val (.bool b)) hb1410)) rfl) rfl ?_
          obtain rfl := Option.some.inj hG1409
          refine rw_nil ⟨⟨(k1412 ++ (k1415 ++ (k1418 ++ (k1421 ++ k1424)))), by simp only [List.append_assoc], by simp only [readsOnly_append, hk1413, hk1416, hk1419, hk1422, hk1425, Bool.and_self]⟩, _, _, rfl, rfl, rfl, rfl, rfl⟩
        · obtain ⟨x1426, hx1427, hG1409⟩ := bindS hG1409
          refine rw_gt rfl (by simp only [hb1410]; rfl) (ov_indexAddr (k := .i64) (c := cXApi_Func) (q := a0.Funcs) (i := a1) Tryd.underlying23 sz37 rfl (un_imp (by simp only [hb1410]; rfl)) (un_imp (by simp only [hb1410]; rfl)) hx1427 rfl) rfl ?_
          refine rw_gt rfl (by simp only [hb1410]; rfl) (ov_fieldAddr (cells' := ((cXApi_Func x1426).drop 3)) fd37_3 rfl (un_self _) rfl rfl) rfl ?_
          refine rw_gt rfl (by simp only [hb1410]; rfl) (ov_load (v := (AV.sl ((x1426.Blocks).map cXApi_Block))) ag35 sz35 (un_self _) rfl rfl) rfl ?_
          refine rw_gt rfl (by simp only [hb1410]; rfl) (ov_lenSl (m := x1426.Blocks.length) Tryd.underlying35 rfl rfl (un_self _) (List.length_map _)) rfl ?_
          refine rw_gt rfl (by simp only [hb1410]; rfl) (ov_neq (k := .i64) (a := (x1404.1.length : Int)) (b := (x1426.Blocks.length : Int)) (un_imp (by simp only [hb1410]; rfl)) (un_self _)) rfl ?_
          refine rw_p (ov_pickF ((rfl : _ = _).trans (congrArg (fun b => AV.val (.bool b)) hb1410)) rfl) rfl ?_
          obtain rfl := Option.some.inj hG1409
          refine rw_nil ⟨⟨[], (List.append_nil _).symm, rfl⟩, _, _, rfl, rfl, rfl, rfl, rfl⟩
      · rintro k1434 t1428 h1429 hk1435 ⟨e1430, e1431, e1432, e1433⟩
        refine rw_p (ov_move (v := (B p1408)) (congrArg (un _) e1433)) rfl ?_
        refine rw_g rfl (ov_move (v := (AV.sl ((x1404.1).map cs_cInt_i64))) (congrArg (un _) e1432)) rfl ?_
        obtain ⟨p1436, hG1437, hF⟩ := bindS hF
        refine rw_join 5 (fun t h => t 1 = (I a1) ∧ t 2 = (AV.vp (cXApi_Unit a0)) ∧ t 6 = (AV.sl ((x1404.1).map cs_cInt_i64)) ∧ t 55 = (B p1436)) ?_ ?_
        · refine if_elim hG1437 (fun hb1438 hG1437 => ?_) (fun hb1438 hG1437 => ?_)
          · refine rw_no ((rfl).trans (congrArg some (by simp only [hb1438]; first | rfl | simp))) rfl (fun u1439 k1440 hk1441 => ?_)
            refine rw_no ((rfl).trans (congrArg some (by simp only [hb1438]; first | rfl | simp))) rfl (fun u1442 k1443 hk1444 => ?_)
            refine rw_no ((rfl).trans (congrArg some (by simp only [hb1438]; first | rfl | simp))) rfl (fun u1445 k1446 hk1447 => ?_)
            refine rw_no ((rfl).trans (congrArg some (by simp only [hb1438]; first | rfl | simp))) rfl (fun u1448 k1449 hk1450 => ?_)
            refine rw_p (ov_pickT ((rfl : _ = _).trans (congrArg (fun b => AV.val (.bool b)) hb1438)) rfl) rfl ?_
            obtain rfl := Option.some.inj hG1437
            refine rw_nil ⟨⟨(k1440 ++ (k1443 ++ (k1446 ++ k1449))), by simp only [List.append_assoc], by simp only [readsOnly_append, hk1441, hk1444, hk1447, hk1450, Bool.and_self]⟩, _, _, rfl, e1430, e1431, e1432, rfl⟩
          · obtain ⟨x1451, hx1452, hG1437⟩ := bindS hG1437
            refine rw_gt rfl (by simp only [hb1438]; rfl) (ov_indexAddr (k := .i64) (c := cs_cInt_i64) (q := x1404.1) (i := 0) Tryd.underlying32 sz42 rfl (un_imp (by simp only [hb1438]; rfl)) rfl hx1452 rfl) rfl ?_
            refine rw_gt rfl (by simp only [hb1438]; rfl) (ov_load (v := (AV.sl ((x1451).map cInt_i64))) ag42 sz42 (un_self _) rfl rfl) rfl ?_
            refine rw_gt rfl (by simp only [hb1438]; rfl) (ov_lenSl (m := x1451.length) Tryd.underlying42 rfl rfl (un_self _) (List.length_map _)) rfl ?_
            refine rw_gt rfl (by simp only [hb1438]; rfl) (ov_neq (k := .i64) (a := (x1451.length : Int)) (b := 0) (un_self _) rfl) rfl ?_
            refine rw_p (ov_pickF ((rfl : _ = _).trans (congrArg (fun b => AV.val (.bool b)) hb1438)) rfl) rfl ?_
            obtain rfl := Option.some.inj hG1437
            refine rw_nil ⟨⟨[], (List.append_nil _).symm, rfl⟩, _, _, rfl, e1430, e1431, e1432, rfl⟩
        · rintro k1459 t1453 h1454 hk1460 ⟨e1455, e1456, e1457, e1458⟩
          refine rw_nil ?_
          refine q_seq ?_
          refine w_if (p := p1436) hF (congrArg (un _) e1458) (fun hb1698 hF => ?_) (fun hb1698 hF => ?_)
          · refine v_seq ?_
            refine w_reg ?_
            refine rw_p (ov_assign (v := (B false)) rfl) rfl ?_
            refine rw_nil ?_
            refine q_seq ?_
            refine w_ret ?_
            refine q_seqR ?_
            obtain rfl := Option.some.inj hF
            exact (fin_ret (res_tmp (pk_of (v := (B false)) rfl rfl) res_nil) rfl rfl)
          · refine w_skip ?_
            refine q_seq ?_
            refine v_seq ?_
            refine w_reg ?_
            refine rw_p (ov_assign (v := (I 0)) rfl) rfl ?_
            refine rw_nil ?_
            refine q_seq ?_
            refine v_seq ?_
            refine v_seq ?_
            refine w_reg ?_
            refine rw_p (ov_assign (v := (I 0)) rfl) rfl ?_
            refine rw_nil ?_
            refine q_seq ?_
            refine v_block ?_
            obtain ⟨o1469, hL1470, hF⟩ := bindS hF
            refine v_loop (fun (s : (Int × Int)) => [(I a1), (AV.vp (cXApi_Unit a0)), (AV.sl ((x1404.1).map cs_cInt_i64)), (I s.1), (I s.2)]) (fun (s : Int) x => ∃ t h, x = (Exit.exit 0, ⟨163, t, h⟩) ∧ t 1 = (I a1) ∧ t 2 = (AV.vp (cXApi_Unit a0)) ∧ t 6 = (AV.sl ((x1404.1).map cs_cInt_i64)) ∧ t 8 = (I s)) hL1470 lv4_11 (renorm_of (packL_mk (pk_of (v := (I a1)) e1455 rfl) (packL_mk (pk_of (v := (AV.vp (cXApi_Unit a0))) e1456 rfl) (packL_mk (pk_of (v := (AV.sl ((x1404.1).map cs_cInt_i64))) e1457 rfl) (packL_mk (pk_of (v := (I 0)) rfl rfl) (packL_mk (pk_of (v := (I 0)) rfl rfl) packL_0))))) rfl) ?_ ?_
            · rintro ⟨y1461, y1462⟩ z1463 hF
              replace hF : turnerylaw2_CodeAhead_L1 a0 a1 x1404 y1461 y1462 = some z1463 := hF
              unfold turnerylaw2_CodeAhead_L1 at hF
              show W cx 4 _ _ ⟨163, (upd (upd (upd (upd (upd (fun _ => AV.junk) 9 (I y1462)) 8 (I y1461)) 6 (AV.sl ((x1404.1).map cs_cInt_i64))) 2 (AV.vp (cXApi_Unit a0))) 1 (I a1)), (fun _ => none)⟩ _
              refine v_seq ?_
              refine v_seq ?_
              refine w_reg ?_
              refine rw_p (ov_move (v := (I y1462)) rfl) rfl ?_
              refine rw_p (ov_move (v := (AV.sl ((x1404.1).map cs_cInt_i64))) rfl) rfl ?_
              refine rw_p (ov_lenSl (m := x1404.1.length) Tryd.underlying32 rfl rfl rfl (List.length_map _)) rfl ?_
              refine rw_p (ov_lss (k := .i64) (a := y1462) (b := (x1404.1.length : Int)) rfl rfl) rfl ?_
              refine rw_nil ?_
              refine q_seq ?_
              refine w_if (p := (decide (y1462 < (x1404.1.length : Int)))) hF rfl (fun hb1468 hF => ?_) (fun hb1468 hF => ?_)
              · refine w_skip ?_
                refine q_seq ?_
                refine v_seq ?_
                refine v_block ?_
                refine w_reg ?_
                refine rw_p (ov_move (v := (I y1461)) rfl) rfl ?_
                refine rw_p (ov_fieldAddr (cells' := ((cXApi_Unit a0).drop 1)) fd25_1 rfl rfl rfl rfl) rfl ?_
                refine rw_p (ov_load (v := (AV.sl ((a0.Funcs).map cXApi_Func))) ag23 sz23 rfl rfl rfl) rfl ?_
                refine rw_p (ov_move (v := (I a1)) rfl) rfl ?_
                obtain ⟨x1464, hx1465, hF⟩ := bindS hF
                refine rw_p (ov_indexAddr (k := .i64) (c := cXApi_Func) (q := a0.Funcs) (i := a1) Tryd.underlying23 sz37 rfl rfl rfl hx1465 rfl) rfl ?_
                refine rw_p (ov_fieldAddr (cells' := ((cXApi_Func x1464).drop 3)) fd37_3 rfl rfl rfl rfl) rfl ?_
                refine rw_p (ov_load (v := (AV.sl ((x1464.Blocks).map cXApi_Block))) ag35 sz35 rfl rfl rfl) rfl ?_
                refine rw_p (ov_move (v := (I y1462)) rfl) rfl ?_
                obtain ⟨x1466, hx1467, hF⟩ := bindS hF
                refine rw_p (ov_indexAddr (k := .i64) (c := cXApi_Block) (q := x1464.Blocks) (i := y1462) Tryd.underlying35 sz53 rfl rfl rfl hx1467 rfl) rfl ?_
                refine rw_p (ov_fieldAddr (cells' := ((cXApi_Block x1466).drop 2)) fd53_2 rfl rfl rfl rfl) rfl ?_
                refine rw_p (ov_fieldAddr (cells' := ((cXApi_Block x1466).drop 5)) fd49_2 rfl rfl rfl rfl) rfl ?_
                refine rw_p (ov_load (v := (AV.sl ((x1466.End.To).map cInt_i64))) ag42 sz42 rfl rfl rfl) rfl ?_
                refine rw_p (ov_lenSl (m := x1466.End.To.length) Tryd.underlying42 rfl rfl rfl (List.length_map _)) rfl ?_
                refine rw_p (ov_add (k := .i64) (a := y1461) (b := (x1466.End.To.length : Int)) rfl rfl) rfl ?_
                refine rw_p (ov_assign (v := (I (w64 (y1461 + (x1466.End.To.length : Int))))) rfl) rfl ?_
                refine rw_nil ?_
                refine q_blk ?_
                refine q_seq ?_
                refine w_reg ?_
                refine rw_p (ov_move (v := (I y1462)) rfl) rfl ?_
                refine rw_p (ov_add (k := .i64) (a := y1462) (b := 1) rfl rfl) rfl ?_
                refine rw_p (ov_assign (v := (I (w64 (y1462 + 1)))) rfl) rfl ?_
                refine rw_nil ?_
                obtain rfl := Option.some.inj hF
                exact q_next (renorm_of (packL_mk (pk_of (v := (I a1)) rfl rfl) (packL_mk (pk_of (v := (AV.vp (cXApi_Unit a0))) rfl rfl) (packL_mk (pk_of (v := (AV.sl ((x1404.1).map cs_cInt_i64))) rfl rfl) (packL_mk (pk_of (v := (I (w64 (y1461 + (x1466.End.To.length : Int))))) rfl rfl) (packL_mk (pk_of (v := (I (w64 (y1462 + 1)))) rfl rfl) packL_0))))) rfl)
              · refine w_exit ?_
                refine q_seqE ?_
                obtain rfl := Option.some.inj hF
                refine q_out ?_
                exact ⟨_, _, rfl, rfl, rfl, rfl, rfl⟩
            · rintro x1696 hr1697
              obtain ⟨t1471, h1472, rfl, e1473, e1474, e1475, e1476⟩ := hr1697
              refine q_blkH ?_
              refine q_seq ?_
              refine v_seq ?_
              refine v_seq ?_
              refine w_reg ?_
              refine rw_p (ov_assign (v := (I 0)) rfl) rfl ?_
              refine rw_nil ?_
              refine q_seq ?_
              refine v_block ?_
              obtain ⟨o1687, hL1688, hF⟩ := bindS hF
              refine v_loop (fun (s : (Int × Int)) => [(I a1), (AV.vp (cXApi_Unit a0)), (AV.sl ((x1404.1).map cs_cInt_i64)), (I s.1), (I s.2)]) (RelO (fun (s : Int) x => ∃ t h, x = (Exit.exit 2, ⟨163, t, h⟩) ∧ t 8 = (I s)) (fun r x => x.1 = Exit.ret ∧ Fin cx RV4 (R_turnerylaw2_CodeAhead r) x)) hL1688 lv4_15 (renorm_of (packL_mk (pk_of (v := (I a1)) e1473 rfl) (packL_mk (pk_of (v := (AV.vp (cXApi_Unit a0))) e1474 rfl) (packL_mk (pk_of (v := (AV.sl ((x1404.1).map cs_cInt_i64))) e1475 rfl) (packL_mk (pk_of (v := (I o1469)) e1476 rfl) (packL_mk (pk_of (v := (I 0)) rfl rfl) packL_0))))) rfl) ?_ ?_
              · rintro ⟨y1477, y1478⟩ z1479 hF
                replace hF : turnerylaw2_CodeAhead_L2 a0 a1 x1404 y1477 y1478 = some z1479 := hF
                unfold turnerylaw2_CodeAhead_L2 at hF
                show W cx 4 _ _ ⟨163, (upd (upd (upd (upd (upd (fun _ => AV.junk) 10 (I y1478)) 8 (I y1477)) 6 (AV.sl ((x1404.1).map cs_cInt_i64))) 2 (AV.vp (cXApi_Unit a0))) 1 (I a1)), (fun _ => none)⟩ _
                refine v_seq ?_
                refine v_seq ?_
                refine w_reg ?_
                refine rw_p (ov_move (v := (I y1478)) rfl) rfl ?_
                refine rw_p (ov_move (v := (AV.sl ((x1404.1).map cs_cInt_i64))) rfl) rfl ?_
                refine rw_p (ov_lenSl (m := x1404.1.length) Tryd.underlying32 rfl rfl rfl (List.length_map _)) rfl ?_
                refine rw_p (ov_lss (k := .i64) (a := y1478) (b := (x1404.1.length : Int)) rfl rfl) rfl ?_
                refine rw_nil ?_
                refine q_seq ?_
                refine w_if (p := (decide (y1478 < (x1404.1.length : Int)))) hF rfl (fun hb1686 hF => ?_) (fun hb1686 hF => ?_)
                · refine w_skip ?_
                  refine q_seq ?_
                  refine v_seq ?_
                  refine v_block ?_
                  refine v_seq ?_
                  refine w_reg ?_
                  refine rw_p (ov_assign (v := (I 0)) rfl) rfl ?_
                  refine rw_nil ?_
                  refine q_seq ?_
                  refine v_block ?_
                  obtain ⟨o1673, hL1674, hF⟩ := bindS hF
                  refine v_loop (fun (s : (Int × Int)) => [(I a1), (AV.vp (cXApi_Unit a0)), (AV.sl ((x1404.1).map cs_cInt_i64)), (I s.1), (I y1478), (I s.2)]) (RelO (fun (s : Int) x => ∃ t h, x = (Exit.exit 4, ⟨163, t, h⟩) ∧ t 1 = (I a1) ∧ t 2 = (AV.vp (cXApi_Unit a0)) ∧ t 6 = (AV.sl ((x1404.1).map cs_cInt_i64)) ∧ t 8 = (I s) ∧ t 10 = (I y1478)) (fun r x => x.1 = Exit.ret ∧ Fin cx RV4 (R_turnerylaw2_CodeAhead r) x)) hL1674 lv4_18 (renorm_of (packL_mk (pk_of (v := (I a1)) rfl rfl) (packL_mk (pk_of (v := (AV.vp (cXApi_Unit a0))) rfl rfl) (packL_mk (pk_of (v := (AV.sl ((x1404.1).map cs_cInt_i64))) rfl rfl) (packL_mk (pk_of (v := (I y1477)) rfl rfl) (packL_mk (pk_of (v := (I y1478)) rfl rfl) (packL_mk (pk_of (v := (I 0)) rfl rfl) packL_0)))))) rfl) ?_ ?_
                  · rintro ⟨y1480, y1481⟩ z1482 hF
                    replace hF : turnerylaw2_CodeAhead_L3 a0 a1 x1404 y1478 y1480 y1481 = some z1482 := hF
                    unfold turnerylaw2_CodeAhead_L3 at hF
                    show W cx 4 _ _ ⟨163, (upd (upd (upd (upd (upd (upd (fun _ => AV.junk) 11 (I y1481)) 10 (I y1478)) 8 (I y1480)) 6 (AV.sl ((x1404.1).map cs_cInt_i64))) 2 (AV.vp (cXApi_Unit a0))) 1 (I a1)), (fun _ => none)⟩ _
                    refine v_seq ?_
                    refine v_seq ?_
                    refine w_reg ?_
                    refine rw_p (ov_move (v := (I y1481)) rfl) rfl ?_
                    refine rw_p (ov_move (v := (AV.sl ((x1404.1).map cs_cInt_i64))) rfl) rfl ?_
                    refine rw_p (ov_move (v := (I y1478)) rfl) rfl ?_
                    obtain ⟨x1483, hx1484, hF⟩ := bindS hF
                    refine rw_p (ov_indexAddr (k := .i64) (c := cs_cInt_i64) (q := x1404.1) (i := y1478) Tryd.underlying32 sz42 rfl rfl rfl hx1484 rfl) rfl ?_
                    refine rw_p (ov_load (v := (AV.sl ((x1483).map cInt_i64))) ag42 sz42 rfl rfl rfl) rfl ?_
                    refine rw_p (ov_lenSl (m := x1483.length) Tryd.underlying42 rfl rfl rfl (List.length_map _)) rfl ?_
                    refine rw_p (ov_lss (k := .i64) (a := y1481) (b := (x1483.length : Int)) rfl rfl) rfl ?_
                    refine rw_nil ?_
                    refine q_seq ?_
                    refine w_if (p := (decide (y1481 < (x1483.length : Int)))) hF rfl (fun hb1672 hF => ?_) (fun hb1672 hF => ?_)
                    · refine w_skip ?_
                      refine q_seq ?_
                      refine v_seq ?_
                      refine v_block ?_
                      refine v_seq ?_
                      refine v_seq ?_
                      refine w_regD ?_
                      refine rw_p (ov_move (v := (AV.sl ((x1404.1).map cs_cInt_i64))) rfl) rfl ?_
                      refine rw_p (ov_move (v := (I y1478)) rfl) rfl ?_
                      obtain ⟨x1485, hx1486, hF⟩ := bindS hF
                      refine rw_p (ov_indexAddr (k := .i64) (c := cs_cInt_i64) (q := x1404.1) (i := y1478) Tryd.underlying32 sz42 rfl rfl rfl hx1486 rfl) rfl ?_
                      refine rw_p (ov_load (v := (AV.sl ((x1485).map cInt_i64))) ag42 sz42 rfl rfl rfl) rfl ?_
                      refine rw_p (ov_move (v := (I y1481)) rfl) rfl ?_
                      obtain ⟨x1487, hx1488, hF⟩ := bindS hF
                      refine rw_p (ov_indexAddr (k := .i64) (c := cInt_i64) (q := x1485) (i := y1481) Tryd.underlying42 sz3 rfl rfl rfl hx1488 rfl) rfl ?_
                      refine rw_p (ov_load (v := (I x1487)) ag3 sz3 rfl rfl rfl) rfl ?_
                      refine rw_p (ov_move (v := (AV.sl ((x1404.1).map cs_cInt_i64))) rfl) rfl ?_
                      refine rw_p (ov_lenSl (m := x1404.1.length) Tryd.underlying32 rfl rfl rfl (List.length_map _)) rfl ?_
                      refine rw_p (ov_sub (k := .i64) (a := (x1404.1.length : Int)) (b := 1) rfl rfl) rfl ?_
                      obtain ⟨x1489, hx1490, hF⟩ := bindS hF
                      refine rw_p (ov_call (args := [(I x1487), (I 0), (I (w64 ((x1404.1.length : Int) - 1)))]) (r := (R_turnerylaw2_in x1489)) (v := (B x1489)) rfl (cons_eq rfl (cons_eq rfl (cons_eq rfl rfl))) rfl rfl (T_turnerylaw2_in (nn + 8) x1487 0 (w64 ((x1404.1.length : Int) - 1)) x1489 hx1490) fz4 rfl rfl) rfl ?_
                      refine rw_p (ov_not (p := x1489) rfl) rfl ?_
                      refine rw_p (ov_move (v := (B (!x1489))) rfl) rfl ?_
                      refine rw_g rfl (ov_move (v := (I y1481)) rfl) rfl ?_
                      refine rw_g rfl (ov_gtr (k := .i64) (a := y1481) (b := 0) (un_self _) rfl) rfl ?_
                      refine rw_g rfl (ov_move (v := (B (decide (0 < y1481)))) (un_self _)) rfl ?_
                      refine rw_g rfl (ov_move (v := (AV.sl ((x1404.1).map cs_cInt_i64))) rfl) rfl ?_
                      refine rw_g rfl (ov_move (v := (I y1478)) rfl) rfl ?_
                      obtain ⟨p1491, hG1492, hF⟩ := bindS hF
                      refine rw_join 16 (fun t h => t 1 = (I a1) ∧ t 2 = (AV.vp (cXApi_Unit a0)) ∧ t 6 = (AV.sl ((x1404.1).map cs_cInt_i64)) ∧ t 8 = (I y1480) ∧ t 10 = (I y1478) ∧ t 11 = (I y1481) ∧ t 124 = (B p1491)) ?_ ?_
                      · refine if_elim hG1492 (fun hb1493 hG1492 => ?_) (fun hb1493 hG1492 => ?_)
                        · refine rw_no ((rfl).trans (congrArg some (by simp only [hb1493]; first | rfl | simp))) rfl (fun u1494 k1495 hk1496 => ?_)
                          refine rw_no ((rfl).trans (congrArg some (by simp only [hb1493]; first | rfl | simp))) rfl (fun u1497 k1498 hk1499 => ?_)
                          refine rw_no ((rfl).trans (congrArg some (by simp only [hb1493]; first | rfl | simp))) rfl (fun u1500 k1501 hk1502 => ?_)
                          refine rw_no ((rfl).trans (congrArg some (by simp only [hb1493]; first | rfl | simp))) rfl (fun u1503 k1504 hk1505 => ?_)
                          refine rw_no ((rfl).trans (congrArg some (by simp only [hb1493]; first | rfl | simp))) rfl (fun u1506 k1507 hk1508 => ?_)
                          refine rw_no ((rfl).trans (congrArg some (by simp only [hb1493]; first | rfl | simp))) rfl (fun u1509 k1510 hk1511 => ?_)
                          refine rw_no ((rfl).trans (congrArg some (by simp only [hb1493]; first | rfl | simp))) rfl (fun u1512 k1513 hk1514 => ?_)
                          refine rw_no ((rfl).trans (congrArg some (by simp only [hb1493]; first | rfl | simp))) rfl (fun u1515 k1516 hk1517 => ?_)
                          refine rw_no ((rfl).trans (congrArg some (by simp only [hb1493]; first | rfl | simp))) rfl (fun u1518 k1519 hk1520 => ?_)
                          refine rw_no ((rfl).trans (congrArg some (by simp only [hb1493]; first | rfl | simp))) rfl (fun u1521 k1522 hk1523 => ?_)
                          refine rw_no ((rfl).trans (congrArg some (by simp only [hb1493]; first | rfl | simp))) rfl (fun u1524 k1525 hk1526 => ?_)
                          refine rw_no ((rfl).trans (congrArg some (by simp only [hb1493]; first | rfl | simp))) rfl (fun u1527 k1528 hk1529 => ?_)
                          refine rw_no ((rfl).trans (congrArg some (by simp only [hb1493]; first | rfl | simp))) rfl (fun u1530 k1531 hk1532 => ?_)
                          refine rw_no ((rfl).trans (congrArg some (by simp only [hb1493]; first | rfl | simp))) rfl (fun u1533 k1534 hk1535 => ?_)
                          refine rw_no ((rfl).trans (congrArg some (by simp only [hb1493]; first | rfl | simp))) rfl (fun u1536 k1537 hk1538 => ?_)
                          refine rw_p (ov_pickT ((rfl : _ = _).trans (congrArg (fun b => AV.val (.bool b)) hb1493)) rfl) rfl ?_
                          obtain rfl := Option.some.inj hG1492
                          refine rw_nil ⟨⟨(k1495 ++ (k1498 ++ (k1501 ++ (k1504 ++ (k1507 ++ (k1510 ++ (k1513 ++ (k1516 ++ (k1519 ++ (k1522 ++ (k1525 ++ (k1528 ++ (k1531 ++ (k1534 ++ k1537)))))))))))))), by simp only [List.append_assoc], by simp only [readsOnly_append, hk1496, hk1499, hk1502, hk1505, hk1508, hk1511, hk1514, hk1517, hk1520, hk1523, hk1526, hk1529, hk1532, hk1535, hk1538, Bool.and_self]⟩, _, _, rfl, rfl, rfl, rfl, rfl, rfl, rfl, rfl⟩
                        · obtain ⟨p1539, hG1540, hG1492⟩ := bindS hG1492
                          refine rw_join 15 (fun t h => t 1 = (I a1) ∧ t 2 = (AV.vp (cXApi_Unit a0)) ∧ t 6 = (AV.sl ((x1404.1).map cs_cInt_i64)) ∧ t 8 = (I y1480) ∧ t 10 = (I y1478) ∧ t 11 = (I y1481) ∧ t 103 = (B (!x1489)) ∧ t 123 = (AV.gv true (B p1539))) ?_ ?_
                          · refine if_elim hG1540 (fun hb1541 hG1540 => ?_) (fun hb1541 hG1540 => ?_)
                            · obtain ⟨x1542, hx1543, hG1540⟩ := bindS hG1540
                              refine rw_gt rfl (by simp only [hb1541, hb1493]; rfl) (ov_indexAddr (k := .i64) (c := cs_cInt_i64) (q := x1404.1) (i := y1478) Tryd.underlying32 sz42 rfl (un_imp (by simp only [hb1541, hb1493]; rfl)) (un_imp (by simp only [hb1541, hb1493]; rfl)) hx1543 rfl) rfl ?_
                              refine rw_gt rfl (by simp only [hb1541, hb1493]; rfl) (ov_load (v := (AV.sl ((x1542).map cInt_i64))) ag42 sz42 (un_self _) rfl rfl) rfl ?_
                              refine rw_gt rfl (by simp only [hb1541, hb1493]; rfl) (ov_move (v := (I y1481)) rfl) rfl ?_
                              obtain ⟨x1544, hx1545, hG1540⟩ := bindS hG1540
                              refine rw_gt rfl (by simp only [hb1541, hb1493]; rfl) (ov_indexAddr (k := .i64) (c := cInt_i64) (q := x1542) (i := y1481) Tryd.underlying42 sz3 rfl (un_self _) (un_self _) hx1545 rfl) rfl ?_
                              refine rw_gt rfl (by simp only [hb1541, hb1493]; rfl) (ov_load (v := (I x1544)) ag3 sz3 (un_self _) rfl rfl) rfl ?_
                              refine rw_gt rfl (by simp only [hb1541, hb1493]; rfl) (ov_move (v := (AV.sl ((x1404.1).map cs_cInt_i64))) rfl) rfl ?_
                              refine rw_gt rfl (by simp only [hb1541, hb1493]; rfl) (ov_move (v := (I y1478)) rfl) rfl ?_
                              obtain ⟨x1546, hx1547, hG1540⟩ := bindS hG1540
                              refine rw_gt rfl (by simp only [hb1541, hb1493]; rfl) (ov_indexAddr (k := .i64) (c := cs_cInt_i64) (q := x1404.1) (i := y1478) Tryd.underlying32 sz42 rfl (un_self _) (un_self _) hx1547 rfl) rfl ?_
                              refine rw_gt rfl (by simp only [hb1541, hb1493]; rfl) (ov_load (v := (AV.sl ((x1546).map cInt_i64))) ag42 sz42 (un_self _) rfl rfl) rfl ?_
                              refine rw_gt rfl (by simp only [hb1541, hb1493]; rfl) (ov_move (v := (I y1481)) rfl) rfl ?_
                              refine rw_gt rfl (by simp only [hb1541, hb1493]; rfl) (ov_sub (k := .i64) (a := y1481) (b := 1) (un_self _) rfl) rfl ?_
                              obtain ⟨x1548, hx1549, hG1540⟩ := bindS hG1540
                              refine rw_gt rfl (by simp only [hb1541, hb1493]; rfl) (ov_indexAddr (k := .i64) (c := cInt_i64) (q := x1546) (i := (w64 (y1481 - 1))) Tryd.underlying42 sz3 rfl (un_self _) (un_self _) hx1549 rfl) rfl ?_
                              refine rw_gt rfl (by simp only [hb1541, hb1493]; rfl) (ov_load (v := (I x1548)) ag3 sz3 (un_self _) rfl rfl) rfl ?_
                              refine rw_gt rfl (by simp only [hb1541, hb1493]; rfl) (ov_leq (k := .i64) (a := x1544) (b := x1548) (un_self _) (un_self _)) rfl ?_
                              refine rw_gt rfl (by simp only [hb1493]; rfl) (ov_pickT (((un_imp (by simp only [hb1493]; rfl)) : _ = _).trans (congrArg (fun b => AV.val (.bool b)) hb1541)) rfl) rfl ?_
                              obtain rfl := Option.some.inj hG1540
                              refine rw_nil ⟨⟨[], (List.append_nil _).symm, rfl⟩, _, _, rfl, rfl, rfl, rfl, rfl, rfl, rfl, rfl, rfl⟩
                            · refine rw_no ((rfl).trans (congrArg some (by simp only [hb1541, hb1493]; first | rfl | simp))) rfl (fun u1550 k1551 hk1552 => ?_)
                              refine rw_no ((rfl).trans (congrArg some (by simp only [hb1541, hb1493]; first | rfl | simp))) rfl (fun u1553 k1554 hk1555 => ?_)
                              refine rw_no ((rfl).trans (congrArg some (by simp only [hb1541, hb1493]; first | rfl | simp))) rfl (fun u1556 k1557 hk1558 => ?_)
                              refine rw_no ((rfl).trans (congrArg some (by simp only [hb1541, hb1493]; first | rfl | simp))) rfl (fun u1559 k1560 hk1561 => ?_)
                              refine rw_no ((rfl).trans (congrArg some (by simp only [hb1541, hb1493]; first | rfl | simp))) rfl (fun u1562 k1563 hk1564 => ?_)
                              refine rw_no ((rfl).trans (congrArg some (by simp only [hb1541, hb1493]; first | rfl | simp))) rfl (fun u1565 k1566 hk1567 => ?_)
                              refine rw_no ((rfl).trans (congrArg some (by simp only [hb1541, hb1493]; first | rfl | simp))) rfl (fun u1568 k1569 hk1570 => ?_)
                              refine rw_no ((rfl).trans (congrArg some (by simp only [hb1541, hb1493]; first | rfl | simp))) rfl (fun u1571 k1572 hk1573 => ?_)
                              refine rw_no ((rfl).trans (congrArg some (by simp only [hb1541, hb1493]; first | rfl | simp))) rfl (fun u1574 k1575 hk1576 => ?_)
                              refine rw_no ((rfl).trans (congrArg some (by simp only [hb1541, hb1493]; first | rfl | simp))) rfl (fun u1577 k1578 hk1579 => ?_)
                              refine rw_no ((rfl).trans (congrArg some (by simp only [hb1541, hb1493]; first | rfl | simp))) rfl (fun u1580 k1581 hk1582 => ?_)
                              refine rw_no ((rfl).trans (congrArg some (by simp only [hb1541, hb1493]; first | rfl | simp))) rfl (fun u1583 k1584 hk1585 => ?_)
                              refine rw_no ((rfl).trans (congrArg some (by simp only [hb1541, hb1493]; first | rfl | simp))) rfl (fun u1586 k1587 hk1588 => ?_)
                              refine rw_no ((rfl).trans (congrArg some (by simp only [hb1541, hb1493]; first | rfl | simp))) rfl (fun u1589 k1590 hk1591 => ?_)
                              refine rw_gt rfl (by simp only [hb1493]; rfl) (ov_pickF (((un_imp (by simp only [hb1493]; rfl)) : _ = _).trans (congrArg (fun b => AV.val (.bool b)) hb1541)) rfl) rfl ?_
                              obtain rfl := Option.some.inj hG1540
                              refine rw_nil ⟨⟨(k1551 ++ (k1554 ++ (k1557 ++ (k1560 ++ (k1563 ++ (k1566 ++ (k1569 ++ (k1572 ++ (k1575 ++ (k1578 ++ (k1581 ++ (k1584 ++ (k1587 ++ k1590))))))))))))), by simp only [List.append_assoc], by simp only [readsOnly_append, hk1552, hk1555, hk1558, hk1561, hk1564, hk1567, hk1570, hk1573, hk1576, hk1579, hk1582, hk1585, hk1588, hk1591, Bool.and_self]⟩, _, _, rfl, rfl, rfl, rfl, rfl, rfl, rfl, rfl, rfl⟩
                          · rintro k1602 t1592 h1593 hk1603 ⟨e1594, e1595, e1596, e1597, e1598, e1599, e1600, e1601⟩
                            refine rw_p (ov_pickF (((congrArg (un _) e1600) : _ = _).trans (congrArg (fun b => AV.val (.bool b)) hb1493)) (congrArg (un _) e1601)) rfl ?_
                            obtain rfl := Option.some.inj hG1492
                            refine rw_nil ⟨⟨k1602, by simp only [List.append_assoc], by simp only [readsOnly_append, hk1603, Bool.and_self]⟩, _, _, rfl, e1594, e1595, e1596, e1597, e1598, e1599, rfl⟩
                      · rintro k1613 t1604 h1605 hk1614 ⟨e1606, e1607, e1608, e1609, e1610, e1611, e1612⟩
                        refine rw_nil ⟨(heapFree_reads _ _ (by simp only [readsOnly_append, hk1614]; rfl)), ?_⟩
                        refine q_seq ?_
                        refine w_if (p := p1491) hF (congrArg (un _) e1612) (fun hb1671 hF => ?_) (fun hb1671 hF => ?_)
                        · refine v_seq ?_
                          refine w_reg ?_
                          refine rw_p (ov_assign (v := (B false)) rfl) rfl ?_
                          refine rw_nil ?_
                          refine q_seq ?_
                          refine w_ret ?_
                          refine q_seqR ?_
                          refine q_blkR ?_
                          refine q_seqR ?_
                          obtain rfl := Option.some.inj hF
                          exact q_outR (relR ⟨rfl, (fin_ret (res_tmp (pk_of (v := (B false)) rfl rfl) res_nil) rfl rfl)⟩)
                        · refine w_skip ?_
                          refine q_seq ?_
                          refine v_seq ?_
                          refine w_regD ?_
                          refine rw_p (ov_fieldAddr (cells' := ((cXApi_Unit a0).drop 1)) fd25_1 rfl (congrArg (un _) e1607) rfl rfl) rfl ?_
                          refine rw_p (ov_load (v := (AV.sl ((a0.Funcs).map cXApi_Func))) ag23 sz23 rfl rfl rfl) rfl ?_
                          refine rw_p (ov_move (v := (I a1)) (congrArg (un _) e1606)) rfl ?_
                          obtain ⟨x1615, hx1616, hF⟩ := bindS hF
                          refine rw_p (ov_indexAddr (k := .i64) (c := cXApi_Func) (q := a0.Funcs) (i := a1) Tryd.underlying23 sz37 rfl rfl rfl hx1616 rfl) rfl ?_
                          refine rw_p (ov_fieldAddr (cells' := ((cXApi_Func x1615).drop 3)) fd37_3 rfl rfl rfl rfl) rfl ?_
                          refine rw_p (ov_load (v := (AV.sl ((x1615.Blocks).map cXApi_Block))) ag35 sz35 rfl rfl rfl) rfl ?_
                          refine rw_p (ov_move (v := (AV.sl ((x1404.1).map cs_cInt_i64))) (congrArg (un _) e1608)) rfl ?_
                          refine rw_p (ov_move (v := (I y1478)) (congrArg (un _) e1610)) rfl ?_
                          obtain ⟨x1617, hx1618, hF⟩ := bindS hF
                          refine rw_p (ov_indexAddr (k := .i64) (c := cs_cInt_i64) (q := x1404.1) (i := y1478) Tryd.underlying32 sz42 rfl rfl rfl hx1618 rfl) rfl ?_
                          refine rw_p (ov_load (v := (AV.sl ((x1617).map cInt_i64))) ag42 sz42 rfl rfl rfl) rfl ?_
                          refine rw_p (ov_move (v := (I y1481)) (congrArg (un _) e1611)) rfl ?_
                          obtain ⟨x1619, hx1620, hF⟩ := bindS hF
                          refine rw_p (ov_indexAddr (k := .i64) (c := cInt_i64) (q := x1617) (i := y1481) Tryd.underlying42 sz3 rfl rfl rfl hx1620 rfl) rfl ?_
                          refine rw_p (ov_load (v := (I x1619)) ag3 sz3 rfl rfl rfl) rfl ?_
                          obtain ⟨x1621, hx1622, hF⟩ := bindS hF
                          refine rw_p (ov_indexAddr (k := .i64) (c := cXApi_Block) (q := x1615.Blocks) (i := x1619) Tryd.underlying35 sz53 rfl rfl rfl hx1622 rfl) rfl ?_
                          refine rw_p (ov_fieldAddr (cells' := ((cXApi_Block x1621).drop 2)) fd53_2 rfl rfl rfl rfl) rfl ?_
                          refine rw_p (ov_fieldAddr (cells' := ((cXApi_Block x1621).drop 5)) fd49_2 rfl rfl rfl rfl) rfl ?_
                          refine rw_p (ov_load (v := (AV.sl ((x1621.End.To).map cInt_i64))) ag42 sz42 rfl rfl rfl) rfl ?_
                          refine rw_p (ov_assign (v := (AV.sl ((x1621.End.To).map cInt_i64))) rfl) rfl ?_
                          refine rw_nil ⟨rfl, ?_⟩
                          refine q_seq ?_
                          refine v_seq ?_
                          refine w_reg ?_
                          refine rw_p (ov_assign (v := (B false)) rfl) rfl ?_
                          refine rw_nil ?_
                          refine q_seq ?_
                          refine v_seq ?_
                          refine v_seq ?_
                          refine w_reg ?_
                          refine rw_p (ov_assign (v := (I 0)) rfl) rfl ?_
                          refine rw_nil ?_
                          refine q_seq ?_
                          refine v_block ?_
                          obtain ⟨o1657, hL1658, hF⟩ := bindS hF
                          refine v_loop (fun (s : (Bool × Int)) => [(I a1), (AV.vp (cXApi_Unit a0)), (AV.sl ((x1404.1).map cs_cInt_i64)), (I y1480), (I y1478), (I y1481), (AV.sl ((x1621.End.To).map cInt_i64)), (B s.1), (I s.2)]) (fun (s : Bool) x => ∃ t h, x = (Exit.exit 6, ⟨163, t, h⟩) ∧ t 1 = (I a1) ∧ t 2 = (AV.vp (cXApi_Unit a0)) ∧ t 6 = (AV.sl ((x1404.1).map cs_cInt_i64)) ∧ t 8 = (I y1480) ∧ t 10 = (I y1478) ∧ t 11 = (I y1481) ∧ t 13 = (B s)) hL1658 lv4_25 (renorm_of (packL_mk (pk_of (v := (I a1)) e1606 rfl) (packL_mk (pk_of (v := (AV.vp (cXApi_Unit a0))) e1607 rfl) (packL_mk (pk_of (v := (AV.sl ((x1404.1).map cs_cInt_i64))) e1608 rfl) (packL_mk (pk_of (v := (I y1480)) e1609 rfl) (packL_mk (pk_of (v := (I y1478)) e1610 rfl) (packL_mk (pk_of (v := (I y1481)) e1611 rfl) (packL_mk (pk_of (v := (AV.sl ((x1621.End.To).map cInt_i64))) rfl rfl) (packL_mk (pk_of (v := (B false)) rfl rfl) (packL_mk (pk_of (v := (I 0)) rfl rfl) packL_0))))))))) rfl) ?_ ?_
                          · rintro ⟨y1623, y1624⟩ z1625 hF
                            replace hF : turnerylaw2_CodeAhead_L4 y1478 x1621 y1623 y1624 = some z1625 := hF
                            unfold turnerylaw2_CodeAhead_L4 at hF
                            show W cx 4 _ _ ⟨163, (upd (upd (upd (upd (upd (upd (upd (upd (upd (fun _ => AV.junk) 14 (I y1624)) 13 (B y1623)) 12 (AV.sl ((x1621.End.To).map cInt_i64))) 11 (I y1481)) 10 (I y1478)) 8 (I y1480)) 6 (AV.sl ((x1404.1).map cs_cInt_i64))) 2 (AV.vp (cXApi_Unit a0))) 1 (I a1)), (fun _ => none)⟩ _
                            refine v_seq ?_
                            refine v_seq ?_
                            refine w_reg ?_
                            refine rw_p (ov_move (v := (I y1624)) rfl) rfl ?_
                            refine rw_p (ov_move (v := (AV.sl ((x1621.End.To).map cInt_i64))) rfl) rfl ?_
                            refine rw_p (ov_lenSl (m := x1621.End.To.length) Tryd.underlying42 rfl rfl rfl (List.length_map _)) rfl ?_
                            refine rw_p (ov_lss (k := .i64) (a := y1624) (b := (x1621.End.To.length : Int)) rfl rfl) rfl ?_
                            refine rw_nil ?_
                            refine q_seq ?_
                            refine w_if (p := (decide (y1624 < (x1621.End.To.length : Int)))) hF rfl (fun hb1656 hF => ?_) (fun hb1656 hF => ?_)
                            · refine w_skip ?_
                              refine q_seq ?_
                              refine v_seq ?_
                              refine v_block ?_
                              refine w_reg ?_
                              refine rw_p (ov_move (v := (B y1623)) rfl) rfl ?_
                              refine rw_p (ov_move (v := (B y1623)) rfl) rfl ?_
                              refine rw_g rfl (ov_move (v := (AV.sl ((x1621.End.To).map cInt_i64))) rfl) rfl ?_
                              refine rw_g rfl (ov_move (v := (I y1624)) rfl) rfl ?_
                              obtain ⟨p1626, hG1627, hF⟩ := bindS hF
                              refine rw_join 5 (fun t h => t 1 = (I a1) ∧ t 2 = (AV.vp (cXApi_Unit a0)) ∧ t 6 = (AV.sl ((x1404.1).map cs_cInt_i64)) ∧ t 8 = (I y1480) ∧ t 10 = (I y1478) ∧ t 11 = (I y1481) ∧ t 12 = (AV.sl ((x1621.End.To).map cInt_i64)) ∧ t 14 = (I y1624) ∧ t 156 = (B p1626)) ?_ ?_
                              · refine if_elim hG1627 (fun hb1628 hG1627 => ?_) (fun hb1628 hG1627 => ?_)
                                · refine rw_no ((rfl).trans (congrArg some (by simp only [hb1628]; first | rfl | simp))) rfl (fun u1629 k1630 hk1631 => ?_)
                                  refine rw_no ((rfl).trans (congrArg some (by simp only [hb1628]; first | rfl | simp))) rfl (fun u1632 k1633 hk1634 => ?_)
                                  refine rw_no ((rfl).trans (congrArg some (by simp only [hb1628]; first | rfl | simp))) rfl (fun u1635 k1636 hk1637 => ?_)
                                  refine rw_no ((rfl).trans (congrArg some (by simp only [hb1628]; first | rfl | simp))) rfl (fun u1638 k1639 hk1640 => ?_)
                                  refine rw_p (ov_pickT ((rfl : _ = _).trans (congrArg (fun b => AV.val (.bool b)) hb1628)) rfl) rfl ?_
                                  obtain rfl := Option.some.inj hG1627
                                  refine rw_nil ⟨⟨(k1630 ++ (k1633 ++ (k1636 ++ k1639))), by simp only [List.append_assoc], by simp only [readsOnly_append, hk1631, hk1634, hk1637, hk1640, Bool.and_self]⟩, _, _, rfl, rfl, rfl, rfl, rfl, rfl, rfl, rfl, rfl, rfl⟩
                                · obtain ⟨x1641, hx1642, hG1627⟩ := bindS hG1627
                                  refine rw_gt rfl (by simp only [hb1628]; rfl) (ov_indexAddr (k := .i64) (c := cInt_i64) (q := x1621.End.To) (i := y1624) Tryd.underlying42 sz3 rfl (un_imp (by simp only [hb1628]; rfl)) (un_imp (by simp only [hb1628]; rfl)) hx1642 rfl) rfl ?_
                                  refine rw_gt rfl (by simp only [hb1628]; rfl) (ov_load (v := (I x1641)) ag3 sz3 (un_self _) rfl rfl) rfl ?_
                                  refine rw_gt rfl (by simp only [hb1628]; rfl) (ov_move (v := (I y1478)) rfl) rfl ?_
                                  refine rw_gt rfl (by simp only [hb1628]; rfl) (ov_eql (k := .i64) (a := x1641) (b := y1478) (un_self _) (un_self _)) rfl ?_
                                  refine rw_p (ov_pickF ((rfl : _ = _).trans (congrArg (fun b => AV.val (.bool b)) hb1628)) rfl) rfl ?_
                                  obtain rfl := Option.some.inj hG1627
                                  refine rw_nil ⟨⟨[], (List.append_nil _).symm, rfl⟩, _, _, rfl, rfl, rfl, rfl, rfl, rfl, rfl, rfl, rfl, rfl⟩
                              · rintro k1654 t1643 h1644 hk1655 ⟨e1645, e1646, e1647, e1648, e1649, e1650, e1651, e1652, e1653⟩
                                refine rw_p (ov_assign (v := (B p1626)) (congrArg (un _) e1653)) rfl ?_
                                refine rw_nil ?_
                                refine q_blk ?_
                                refine q_seq ?_
                                refine w_reg ?_
                                refine rw_p (ov_move (v := (I y1624)) (congrArg (un _) e1652)) rfl ?_
                                refine rw_p (ov_add (k := .i64) (a := y1624) (b := 1) rfl rfl) rfl ?_
                                refine rw_p (ov_assign (v := (I (w64 (y1624 + 1)))) rfl) rfl ?_
                                refine rw_nil ?_
                                obtain rfl := Option.some.inj hF
                                exact q_next (renorm_of (packL_mk (pk_of (v := (I a1)) e1645 rfl) (packL_mk (pk_of (v := (AV.vp (cXApi_Unit a0))) e1646 rfl) (packL_mk (pk_of (v := (AV.sl ((x1404.1).map cs_cInt_i64))) e1647 rfl) (packL_mk (pk_of (v := (I y1480)) e1648 rfl) (packL_mk (pk_of (v := (I y1478)) e1649 rfl) (packL_mk (pk_of (v := (I y1481)) e1650 rfl) (packL_mk (pk_of (v := (AV.sl ((x1621.End.To).map cInt_i64))) e1651 rfl) (packL_mk (pk_of (v := (B p1626)) rfl rfl) (packL_mk (pk_of (v := (I (w64 (y1624 + 1)))) rfl rfl) packL_0))))))))) rfl)
                            · refine w_exit ?_
                              refine q_seqE ?_
                              obtain rfl := Option.some.inj hF
                              refine q_out ?_
                              exact ⟨_, _, rfl, rfl, rfl, rfl, rfl, rfl, rfl, rfl⟩
                          · rintro x1669 hr1670
                            obtain ⟨t1659, h1660, rfl, e1661, e1662, e1663, e1664, e1665, e1666, e1667⟩ := hr1670
                            refine q_blkH ?_
                            refine q_seq ?_
                            refine v_seq ?_
                            refine v_seq ?_
                            refine w_reg ?_
                            refine rw_p (ov_move (v := (B o1657)) (congrArg (un _) e1667)) rfl ?_
                            refine rw_p (ov_not (p := o1657) rfl) rfl ?_
                            refine rw_nil ?_
                            refine q_seq ?_
                            refine w_if (p := (!o1657)) hF rfl (fun hb1668 hF => ?_) (fun hb1668 hF => ?_)
                            · refine v_seq ?_
                              refine w_reg ?_
                              refine rw_p (ov_assign (v := (B false)) rfl) rfl ?_
                              refine rw_nil ?_
                              refine q_seq ?_
                              refine w_ret ?_
                              refine q_seqR ?_
                              refine q_blkR ?_
                              refine q_seqR ?_
                              obtain rfl := Option.some.inj hF
                              exact q_outR (relR ⟨rfl, (fin_ret (res_tmp (pk_of (v := (B false)) rfl rfl) res_nil) rfl rfl)⟩)
                            · refine w_skip ?_
                              refine q_seq ?_
                              refine w_reg ?_
                              refine rw_p (ov_move (v := (I y1480)) (congrArg (un _) e1664)) rfl ?_
                              refine rw_p (ov_sub (k := .i64) (a := y1480) (b := 1) rfl rfl) rfl ?_
                              refine rw_p (ov_assign (v := (I (w64 (y1480 - 1)))) rfl) rfl ?_
                              refine rw_nil ?_
                              refine q_blk ?_
                              refine q_seq ?_
                              refine w_reg ?_
                              refine rw_p (ov_move (v := (I y1481)) (congrArg (un _) e1666)) rfl ?_
                              refine rw_p (ov_add (k := .i64) (a := y1481) (b := 1) rfl rfl) rfl ?_
                              refine rw_p (ov_assign (v := (I (w64 (y1481 + 1)))) rfl) rfl ?_
                              refine rw_nil ?_
                              obtain rfl := Option.some.inj hF
                              exact q_next (renorm_of (packL_mk (pk_of (v := (I a1)) e1661 rfl) (packL_mk (pk_of (v := (AV.vp (cXApi_Unit a0))) e1662 rfl) (packL_mk (pk_of (v := (AV.sl ((x1404.1).map cs_cInt_i64))) e1663 rfl) (packL_mk (pk_of (v := (I (w64 (y1480 - 1)))) rfl rfl) (packL_mk (pk_of (v := (I y1478)) e1665 rfl) (packL_mk (pk_of (v := (I (w64 (y1481 + 1)))) rfl rfl) packL_0)))))) rfl)
                    · refine w_exit ?_
                      refine q_seqE ?_
                      obtain rfl := Option.some.inj hF
                      refine q_out (relB ?_)
                      exact ⟨_, _, rfl, rfl, rfl, rfl, rfl, rfl⟩
                  · rintro x1683 hr1684
                    cases o1673 with
                    | ret r1685 =>
                      replace hF : some (.out (.ret r1685)) = some z1479 := hF
                      obtain rfl := Option.some.inj hF
                      obtain ⟨xe, xs⟩ := x1683
                      obtain ⟨hxe, hfin⟩ := hr1684
                      obtain rfl : xe = Exit.ret := hxe
                      refine q_blkR ?_
                      refine q_blkR ?_
                      refine q_seqR ?_
                      exact q_outR (relR ⟨rfl, hfin⟩)
                    | brk b1675 =>
                      obtain ⟨t1676, h1677, rfl, e1678, e1679, e1680, e1681, e1682⟩ := hr1684
                      refine q_blkH ?_
                      refine q_blk ?_
                      refine q_seq ?_
                      refine w_reg ?_
                      refine rw_p (ov_move (v := (I y1478)) (congrArg (un _) e1682)) rfl ?_
                      refine rw_p (ov_add (k := .i64) (a := y1478) (b := 1) rfl rfl) rfl ?_
                      refine rw_p (ov_assign (v := (I (w64 (y1478 + 1)))) rfl) rfl ?_
                      refine rw_nil ?_
                      obtain rfl := Option.some.inj hF
                      exact q_next (renorm_of (packL_mk (pk_of (v := (I a1)) e1678 rfl) (packL_mk (pk_of (v := (AV.vp (cXApi_Unit a0))) e1679 rfl) (packL_mk (pk_of (v := (AV.sl ((x1404.1).map cs_cInt_i64))) e1680 rfl) (packL_mk (pk_of (v := (I b1675)) e1681 rfl) (packL_mk (pk_of (v := (I (w64 (y1478 + 1)))) rfl rfl) packL_0))))) rfl)
                · refine w_exit ?_
                  refine q_seqE ?_
                  obtain rfl := Option.some.inj hF
                  refine q_out (relB ?_)
                  exact ⟨_, _, rfl, rfl⟩
              · rintro x1693 hr1694
                cases o1687 with
                | ret r1695 =>
                  replace hF : some r1695 = some r := hF
                  obtain rfl := Option.some.inj hF
                  obtain ⟨xe, xs⟩ := x1693
                  obtain ⟨hxe, hfin⟩ := hr1694
                  obtain rfl : xe = Exit.ret := hxe
                  refine q_blkR ?_
                  refine q_seqR ?_
                  exact hfin
                | brk b1689 =>
                  obtain ⟨t1690, h1691, rfl, e1692⟩ := hr1694
                  refine q_blkH ?_
                  refine q_seq ?_
                  refine v_seq ?_
                  refine w_reg ?_
                  refine rw_p (ov_move (v := (I b1689)) (congrArg (un _) e1692)) rfl ?_
                  refine rw_p (ov_eql (k := .i64) (a := b1689) (b := 0) rfl rfl) rfl ?_
                  refine rw_p (ov_assign (v := (B (b1689 == 0))) rfl) rfl ?_
                  refine rw_nil ?_
                  refine q_seq ?_
                  refine w_ret ?_
                  obtain rfl := Option.some.inj hF
                  exact (fin_ret (res_tmp (pk_of (v := (B (b1689 == 0))) rfl rfl) res_nil) rfl rfl)

end Go.Ab
