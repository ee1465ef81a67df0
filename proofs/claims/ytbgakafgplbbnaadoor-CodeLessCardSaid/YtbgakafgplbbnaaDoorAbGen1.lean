/-
  Functions of the program as functions on plain data (written by gen.py).
-/
import Derived.Test.YtbgakafgplbbnaaDoorAbGenTy
import Derived.Test.YtbgakafgplbbnaaDoorAbHand
namespace Go.Ab
open Go Go.Proofs
/-! turnery/turneryref2.Ins -/
noncomputable def turneryref2_Ins_L1 (a0 : XApi_Func) (y22 : Int) (y23 : Int) : Option (Lp (Int × Int) Int) :=
  if (decide (y23 < (a0.Blocks.length : Int))) then
  ((idx a0.Blocks y23).bind fun x25 =>
  (idx a0.Blocks y23).bind fun x27 =>
  some (.next ((w64 ((w64 (y22 + (x25.Phis.length : Int))) + (x27.List.length : Int))), (w64 (y23 + 1)))))
  else
  (some (.out y22))
noncomputable def turneryref2_Ins (a0 : XApi_Func) : Option Int :=
  (Loop (fun (s : (Int × Int)) => turneryref2_Ins_L1 a0 s.1 s.2) (0, 0)).bind fun o30 =>
  some o30
abbrev RV16 : List ResultVar := [.tmp 2]
def R_turneryref2_Ins (r : Int) : AV := (I r)
set_option maxHeartbeats 2000000 in
theorem T_turneryref2_Ins (nn : Nat) (a0 : XApi_Func) (r : Int) (hF : turneryref2_Ins a0 = some r) : den cx (nn + 1) 16 [(AV.agg (cXApi_Func a0))] = some (R_turneryref2_Ins r, []) := by
  unfold turneryref2_Ins at hF
  refine fn_of (nn := nn) (rv := RV16) (cxE _) Tryd.func16 rfl rfl Tryd.ntmps16 (cxL _) rfl ?_
  show W cx 16 _ _ ⟨30, (upd (fun _ => AV.junk) 0 (AV.agg (cXApi_Func a0))), (fun _ => none)⟩ _
  refine v_seq ?_
  refine w_reg ?_
  refine rw_p (ov_boxF (cs := cXApi_Func a0) (cs' := cXApi_Func a0) ag37 fz16 rfl rfl rfl rfl rfl) rfl ?_
  refine rw_p (ov_assign (v := (I 0)) rfl) rfl ?_
  refine rw_nil ?_
  refine q_seq ?_
  refine v_seq ?_
  refine w_reg ?_
  refine rw_p (ov_assign (v := (I 0)) rfl) rfl ?_
  refine rw_nil ?_
  refine q_seq ?_
  refine v_seq ?_
  refine v_seq ?_
  refine w_reg ?_
  refine rw_p (ov_assign (v := (I 0)) rfl) rfl ?_
  refine rw_nil ?_
  refine q_seq ?_
  refine v_block ?_
  obtain ⟨o30, hL31, hF⟩ := bindS hF
  refine v_loop (fun (s : (Int × Int)) => [(AV.vp (cXApi_Func a0)), (I s.1), (I s.2)]) (fun (s : Int) x => ∃ t h, x = (Exit.exit 0, ⟨30, t, h⟩) ∧ t 3 = (I s)) hL31 lv16_3 (renorm_of (packL_mk (pk_of (v := (AV.vp (cXApi_Func a0))) rfl rfl) (packL_mk (pk_of (v := (I 0)) rfl rfl) (packL_mk (pk_of (v := (I 0)) rfl rfl) packL_0))) rfl) ?_ ?_
  · rintro ⟨y22, y23⟩ z24 hF
    replace hF : turneryref2_Ins_L1 a0 y22 y23 = some z24 := hF
    unfold turneryref2_Ins_L1 at hF
    show W cx 16 _ _ ⟨30, (upd (upd (upd (fun _ => AV.junk) 4 (I y23)) 3 (I y22)) 1 (AV.vp (cXApi_Func a0))), (fun _ => none)⟩ _
    refine v_seq ?_
    refine v_seq ?_
    refine w_reg ?_
    refine rw_p (ov_move (v := (I y23)) rfl) rfl ?_
    refine rw_p (ov_fieldAddr (cells' := ((cXApi_Func a0).drop 3)) fd37_3 rfl rfl rfl rfl) rfl ?_
    refine rw_p (ov_load (v := (AV.sl ((a0.Blocks).map cXApi_Block))) ag35 sz35 rfl rfl rfl) rfl ?_
    refine rw_p (ov_lenSl (m := a0.Blocks.length) Tryd.underlying35 rfl rfl rfl (List.length_map _)) rfl ?_
    refine rw_p (ov_lss (k := .i64) (a := y23) (b := (a0.Blocks.length : Int)) rfl rfl) rfl ?_
    refine rw_nil ?_
    refine q_seq ?_
    refine w_if (p := (decide (y23 < (a0.Blocks.length : Int)))) hF rfl (fun hb29 hF => ?_) (fun hb29 hF => ?_)
    · refine w_skip ?_
      refine q_seq ?_
      refine v_seq ?_
      refine v_block ?_
      refine w_regD ?_
      refine rw_p (ov_move (v := (I y22)) rfl) rfl ?_
      refine rw_p (ov_fieldAddr (cells' := ((cXApi_Func a0).drop 3)) fd37_3 rfl rfl rfl rfl) rfl ?_
      refine rw_p (ov_load (v := (AV.sl ((a0.Blocks).map cXApi_Block))) ag35 sz35 rfl rfl rfl) rfl ?_
      refine rw_p (ov_move (v := (I y23)) rfl) rfl ?_
      obtain ⟨x25, hx26, hF⟩ := bindS hF
      refine rw_p (ov_indexAddr (k := .i64) (c := cXApi_Block) (q := a0.Blocks) (i := y23) Tryd.underlying35 sz53 rfl rfl rfl hx26 rfl) rfl ?_
      refine rw_p (ov_fieldAddr (cells' := (cXApi_Block x25)) fd53_0 rfl rfl rfl rfl) rfl ?_
      refine rw_p (ov_load (v := (AV.sl ((x25.Phis).map cXApi_Phi))) ag50 sz50 rfl rfl rfl) rfl ?_
      refine rw_p (ov_lenSl (m := x25.Phis.length) Tryd.underlying50 rfl rfl rfl (List.length_map _)) rfl ?_
      refine rw_p (ov_add (k := .i64) (a := y22) (b := (x25.Phis.length : Int)) rfl rfl) rfl ?_
      refine rw_p (ov_fieldAddr (cells' := ((cXApi_Func a0).drop 3)) fd37_3 rfl rfl rfl rfl) rfl ?_
      refine rw_p (ov_load (v := (AV.sl ((a0.Blocks).map cXApi_Block))) ag35 sz35 rfl rfl rfl) rfl ?_
      refine rw_p (ov_move (v := (I y23)) rfl) rfl ?_
      obtain ⟨x27, hx28, hF⟩ := bindS hF
      refine rw_p (ov_indexAddr (k := .i64) (c := cXApi_Block) (q := a0.Blocks) (i := y23) Tryd.underlying35 sz53 rfl rfl rfl hx28 rfl) rfl ?_
      refine rw_p (ov_fieldAddr (cells' := ((cXApi_Block x27).drop 1)) fd53_1 rfl rfl rfl rfl) rfl ?_
      refine rw_p (ov_load (v := (AV.sl ((x27.List).map cXApi_Ins))) ag51 sz51 rfl rfl rfl) rfl ?_
      refine rw_p (ov_lenSl (m := x27.List.length) Tryd.underlying51 rfl rfl rfl (List.length_map _)) rfl ?_
      refine rw_p (ov_add (k := .i64) (a := (w64 (y22 + (x25.Phis.length : Int)))) (b := (x27.List.length : Int)) rfl rfl) rfl ?_
      refine rw_p (ov_assign (v := (I (w64 ((w64 (y22 + (x25.Phis.length : Int))) + (x27.List.length : Int))))) rfl) rfl ?_
      refine rw_nil ⟨rfl, ?_⟩
      refine q_blk ?_
      refine q_seq ?_
      refine w_reg ?_
      refine rw_p (ov_move (v := (I y23)) rfl) rfl ?_
      refine rw_p (ov_add (k := .i64) (a := y23) (b := 1) rfl rfl) rfl ?_
      refine rw_p (ov_assign (v := (I (w64 (y23 + 1)))) rfl) rfl ?_
      refine rw_nil ?_
      obtain rfl := Option.some.inj hF
      exact q_next (renorm_of (packL_mk (pk_of (v := (AV.vp (cXApi_Func a0))) rfl rfl) (packL_mk (pk_of (v := (I (w64 ((w64 (y22 + (x25.Phis.length : Int))) + (x27.List.length : Int))))) rfl rfl) (packL_mk (pk_of (v := (I (w64 (y23 + 1)))) rfl rfl) packL_0))) rfl)
    · refine w_exit ?_
      refine q_seqE ?_
      obtain rfl := Option.some.inj hF
      refine q_out ?_
      exact ⟨_, _, rfl, rfl⟩
  · rintro x35 hr36
    obtain ⟨t32, h33, rfl, e34⟩ := hr36
    refine q_blkH ?_
    refine q_seq ?_
    refine v_seq ?_
    refine w_reg ?_
    refine rw_p (ov_move (v := (I o30)) (congrArg (un _) e34)) rfl ?_
    refine rw_p (ov_assign (v := (I o30)) rfl) rfl ?_
    refine rw_nil ?_
    refine q_seq ?_
    refine w_ret ?_
    obtain rfl := Option.some.inj hF
    exact (fin_ret (res_tmp (pk_of (v := (I o30)) rfl rfl) res_nil) rfl rfl)

/-! turnery/turnerylaw2.vast -/
noncomputable def turnerylaw2_vast_L1 (a0 : XApi_Unit) (y1 : Int) : Option (Lp Int (Br Unit Bool)) :=
  if (decide (y1 < (a0.Funcs.length : Int))) then
  ((idx a0.Funcs y1).bind fun x3 =>
  (if (decide (100 < (x3.Blocks.length : Int))) then some true else (idx a0.Funcs y1).bind fun x20 =>
  (turneryref2_Ins x20).bind fun x37 =>
  some (decide (700 < x37))).bind fun p5 =>
  if p5 then
  (some (.out (.ret true)))
  else
  (some (.next (w64 (y1 + 1)))))
  else
  (some (.out (.brk ())))
noncomputable def turnerylaw2_vast (a0 : XApi_Unit) : Option Bool :=
  (Loop (fun (s : Int) => turnerylaw2_vast_L1 a0 s) 0).bind fun o48 => match o48 with
  | .ret r56 => some r56
  | .brk b50 =>
  some (if (decide (30 < (a0.Funcs.length : Int))) then true else (decide (30 < (a0.Globals.length : Int))))
abbrev RV11 : List ResultVar := [.tmp 2]
def R_turnerylaw2_vast (r : Bool) : AV := (B r)
set_option maxHeartbeats 2000000 in
theorem T_turnerylaw2_vast (nn : Nat) (a0 : XApi_Unit) (r : Bool) (hF : turnerylaw2_vast a0 = some r) : den cx (nn + 2) 11 [(AV.agg (cXApi_Unit a0))] = some (R_turnerylaw2_vast r, []) := by
  unfold turnerylaw2_vast at hF
  refine fn_of (nn := (nn + 1)) (rv := RV11) (cxE _) Tryd.func11 rfl rfl Tryd.ntmps11 (cxL _) rfl ?_
  show W cx 11 _ _ ⟨38, (upd (fun _ => AV.junk) 0 (AV.agg (cXApi_Unit a0))), (fun _ => none)⟩ _
  refine v_seq ?_
  refine w_reg ?_
  refine rw_p (ov_boxF (cs := cXApi_Unit a0) (cs' := cXApi_Unit a0) ag25 fz11 rfl rfl rfl rfl rfl) rfl ?_
  refine rw_p (ov_assign (v := (B false)) rfl) rfl ?_
  refine rw_nil ?_
  refine q_seq ?_
  refine v_seq ?_
  refine v_seq ?_
  refine w_reg ?_
  refine rw_p (ov_assign (v := (I 0)) rfl) rfl ?_
  refine rw_nil ?_
  refine q_seq ?_
  refine v_block ?_
  obtain ⟨o48, hL49, hF⟩ := bindS hF
  refine v_loop (fun (s : Int) => [(AV.vp (cXApi_Unit a0)), (I s)]) (RelO (fun (s : Unit) x => ∃ t h, x = (Exit.exit 0, ⟨38, t, h⟩) ∧ t 1 = (AV.vp (cXApi_Unit a0))) (fun r x => x.1 = Exit.ret ∧ Fin cx RV11 (R_turnerylaw2_vast r) x)) hL49 lv11_2 (renorm_of (packL_mk (pk_of (v := (AV.vp (cXApi_Unit a0))) rfl rfl) (packL_mk (pk_of (v := (I 0)) rfl rfl) packL_0)) rfl) ?_ ?_
  · rintro y1 z2 hF
    replace hF : turnerylaw2_vast_L1 a0 y1 = some z2 := hF
    unfold turnerylaw2_vast_L1 at hF
    show W cx 11 _ _ ⟨38, (upd (upd (fun _ => AV.junk) 3 (I y1)) 1 (AV.vp (cXApi_Unit a0))), (fun _ => none)⟩ _
    refine v_seq ?_
    refine v_seq ?_
    refine w_reg ?_
    refine rw_p (ov_move (v := (I y1)) rfl) rfl ?_
    refine rw_p (ov_fieldAddr (cells' := ((cXApi_Unit a0).drop 1)) fd25_1 rfl rfl rfl rfl) rfl ?_
    refine rw_p (ov_load (v := (AV.sl ((a0.Funcs).map cXApi_Func))) ag23 sz23 rfl rfl rfl) rfl ?_
    refine rw_p (ov_lenSl (m := a0.Funcs.length) Tryd.underlying23 rfl rfl rfl (List.length_map _)) rfl ?_
    refine rw_p (ov_lss (k := .i64) (a := y1) (b := (a0.Funcs.length : Int)) rfl rfl) rfl ?_
    refine rw_nil ?_
    refine q_seq ?_
    refine w_if (p := (decide (y1 < (a0.Funcs.length : Int)))) hF rfl (fun hb47 hF => ?_) (fun hb47 hF => ?_)
    · refine w_skip ?_
      refine q_seq ?_
      refine v_seq ?_
      refine v_block ?_
      refine v_seq ?_
      refine w_reg ?_
      refine rw_p (ov_fieldAddr (cells' := ((cXApi_Unit a0).drop 1)) fd25_1 rfl rfl rfl rfl) rfl ?_
      refine rw_p (ov_load (v := (AV.sl ((a0.Funcs).map cXApi_Func))) ag23 sz23 rfl rfl rfl) rfl ?_
      refine rw_p (ov_move (v := (I y1)) rfl) rfl ?_
      obtain ⟨x3, hx4, hF⟩ := bindS hF
      refine rw_p (ov_indexAddr (k := .i64) (c := cXApi_Func) (q := a0.Funcs) (i := y1) Tryd.underlying23 sz37 rfl rfl rfl hx4 rfl) rfl ?_
      refine rw_p (ov_fieldAddr (cells' := ((cXApi_Func x3).drop 3)) fd37_3 rfl rfl rfl rfl) rfl ?_
      refine rw_p (ov_load (v := (AV.sl ((x3.Blocks).map cXApi_Block))) ag35 sz35 rfl rfl rfl) rfl ?_
      refine rw_p (ov_lenSl (m := x3.Blocks.length) Tryd.underlying35 rfl rfl rfl (List.length_map _)) rfl ?_
      refine rw_p (ov_gtr (k := .i64) (a := (x3.Blocks.length : Int)) (b := 100) rfl rfl) rfl ?_
      refine rw_p (ov_move (v := (B (decide (100 < (x3.Blocks.length : Int))))) rfl) rfl ?_
      refine rw_g rfl (ov_fieldAddr (cells' := ((cXApi_Unit a0).drop 1)) fd25_1 rfl rfl rfl rfl) rfl ?_
      refine rw_g rfl (ov_load (v := (AV.sl ((a0.Funcs).map cXApi_Func))) ag23 sz23 (un_self _) rfl rfl) rfl ?_
      refine rw_g rfl (ov_move (v := (I y1)) rfl) rfl ?_
      obtain ⟨p5, hG6, hF⟩ := bindS hF
      refine rw_join 5 (fun t h => t 1 = (AV.vp (cXApi_Unit a0)) ∧ t 3 = (I y1) ∧ t 27 = (B p5)) ?_ ?_
      · refine if_elim hG6 (fun hb7 hG6 => ?_) (fun hb7 hG6 => ?_)
        · refine rw_no ((rfl).trans (congrArg some (by simp only [hb7]; first | rfl | simp))) rfl (fun u8 k9 hk10 => ?_)
          refine rw_no ((rfl).trans (congrArg some (by simp only [hb7]; first | rfl | simp))) rfl (fun u11 k12 hk13 => ?_)
          refine rw_no ((rfl).trans (congrArg some (by simp only [hb7]; first | rfl | simp))) rfl (fun u14 k15 hk16 => ?_)
          refine rw_no ((rfl).trans (congrArg some (by simp only [hb7]; first | rfl | simp))) rfl (fun u17 k18 hk19 => ?_)
          refine rw_p (ov_pickT ((rfl : _ = _).trans (congrArg (fun b => AV.val (.bool b)) hb7)) rfl) rfl ?_
          obtain rfl := Option.some.inj hG6
          refine rw_nil ⟨⟨(k9 ++ (k12 ++ (k15 ++ k18))), by simp only [List.append_assoc], by simp only [readsOnly_append, hk10, hk13, hk16, hk19, Bool.and_self]⟩, _, _, rfl, rfl, rfl, rfl⟩
        · obtain ⟨x20, hx21, hG6⟩ := bindS hG6
          refine rw_gt rfl (by simp only [hb7]; rfl) (ov_indexAddr (k := .i64) (c := cXApi_Func) (q := a0.Funcs) (i := y1) Tryd.underlying23 sz37 rfl (un_imp (by simp only [hb7]; rfl)) (un_imp (by simp only [hb7]; rfl)) hx21 rfl) rfl ?_
          refine rw_gt rfl (by simp only [hb7]; rfl) (ov_load (v := (AV.agg (cXApi_Func x20))) ag37 sz37 (un_self _) rfl rfl) rfl ?_
          obtain ⟨x37, hx38, hG6⟩ := bindS hG6
          refine rw_gt rfl (by simp only [hb7]; rfl) (ov_call (args := [(AV.agg (cXApi_Func x20))]) (r := (R_turneryref2_Ins x37)) (v := (I x37)) rfl (cons_eq (un_self _) rfl) rfl rfl (T_turneryref2_Ins nn x20 x37 hx38) fz11 rfl rfl) rfl ?_
          refine rw_gt rfl (by simp only [hb7]; rfl) (ov_gtr (k := .i64) (a := x37) (b := 700) (un_self _) rfl) rfl ?_
          refine rw_p (ov_pickF ((rfl : _ = _).trans (congrArg (fun b => AV.val (.bool b)) hb7)) rfl) rfl ?_
          obtain rfl := Option.some.inj hG6
          refine rw_nil ⟨⟨[], (List.append_nil _).symm, rfl⟩, _, _, rfl, rfl, rfl, rfl⟩
      · rintro k44 t39 h40 hk45 ⟨e41, e42, e43⟩
        refine rw_nil ?_
        refine q_seq ?_
        refine w_if (p := p5) hF (congrArg (un _) e43) (fun hb46 hF => ?_) (fun hb46 hF => ?_)
        · refine v_seq ?_
          refine w_reg ?_
          refine rw_p (ov_assign (v := (B true)) rfl) rfl ?_
          refine rw_nil ?_
          refine q_seq ?_
          refine w_ret ?_
          refine q_blkR ?_
          refine q_seqR ?_
          obtain rfl := Option.some.inj hF
          exact q_outR (relR ⟨rfl, (fin_ret (res_tmp (pk_of (v := (B true)) rfl rfl) res_nil) rfl rfl)⟩)
        · refine w_skip ?_
          refine q_blk ?_
          refine q_seq ?_
          refine w_reg ?_
          refine rw_p (ov_move (v := (I y1)) (congrArg (un _) e42)) rfl ?_
          refine rw_p (ov_add (k := .i64) (a := y1) (b := 1) rfl rfl) rfl ?_
          refine rw_p (ov_assign (v := (I (w64 (y1 + 1)))) rfl) rfl ?_
          refine rw_nil ?_
          obtain rfl := Option.some.inj hF
          exact q_next (renorm_of (packL_mk (pk_of (v := (AV.vp (cXApi_Unit a0))) e41 rfl) (packL_mk (pk_of (v := (I (w64 (y1 + 1)))) rfl rfl) packL_0)) rfl)
    · refine w_exit ?_
      refine q_seqE ?_
      obtain rfl := Option.some.inj hF
      refine q_out (relB ?_)
      exact ⟨_, _, rfl, rfl⟩
  · rintro x54 hr55
    cases o48 with
    | ret r56 =>
      replace hF : some r56 = some r := hF
      obtain rfl := Option.some.inj hF
      obtain ⟨xe, xs⟩ := x54
      obtain ⟨hxe, hfin⟩ := hr55
      obtain rfl : xe = Exit.ret := hxe
      refine q_blkR ?_
      refine q_seqR ?_
      exact hfin
    | brk b50 =>
      obtain ⟨t51, h52, rfl, e53⟩ := hr55
      refine q_blkH ?_
      refine q_seq ?_
      refine v_seq ?_
      refine w_reg ?_
      refine rw_p (ov_fieldAddr (cells' := ((cXApi_Unit a0).drop 1)) fd25_1 rfl (congrArg (un _) e53) rfl rfl) rfl ?_
      refine rw_p (ov_load (v := (AV.sl ((a0.Funcs).map cXApi_Func))) ag23 sz23 rfl rfl rfl) rfl ?_
      refine rw_p (ov_lenSl (m := a0.Funcs.length) Tryd.underlying23 rfl rfl rfl (List.length_map _)) rfl ?_
      refine rw_p (ov_gtr (k := .i64) (a := (a0.Funcs.length : Int)) (b := 30) rfl rfl) rfl ?_
      refine rw_p (ov_move (v := (B (decide (30 < (a0.Funcs.length : Int))))) rfl) rfl ?_
      refine rw_g rfl (ov_fieldAddr (cells' := (cXApi_Unit a0)) fd25_0 rfl (congrArg (un _) e53) rfl rfl) rfl ?_
      refine rw_g rfl (ov_load (v := (AV.sl ((a0.Globals).map cXApi_Global))) ag22 sz22 (un_self _) rfl rfl) rfl ?_
      refine rw_g rfl (ov_lenSl (m := a0.Globals.length) Tryd.underlying22 rfl rfl (un_self _) (List.length_map _)) rfl ?_
      refine rw_g rfl (ov_gtr (k := .i64) (a := (a0.Globals.length : Int)) (b := 30) (un_self _) rfl) rfl ?_
      refine rw_p (ov_pickB (p := (decide (30 < (a0.Funcs.length : Int)))) (q := true) (r := (decide (30 < (a0.Globals.length : Int)))) rfl rfl (un_imp (by generalize (decide (30 < (a0.Funcs.length : Int))) = u0; cases u0 <;> rfl))) rfl ?_
      refine rw_p (ov_assign (v := (B (if (decide (30 < (a0.Funcs.length : Int))) then true else (decide (30 < (a0.Globals.length : Int)))))) rfl) rfl ?_
      refine rw_nil ?_
      refine q_seq ?_
      refine w_ret ?_
      obtain rfl := Option.some.inj hF
      exact (fin_ret (res_tmp (pk_of (v := (B (if (decide (30 < (a0.Funcs.length : Int))) then true else (decide (30 < (a0.Globals.length : Int)))))) rfl rfl) res_nil) rfl rfl)

/-! turnery/turneryref2.fault -/

noncomputable def turneryref2_fault (a0 : Int) (a1 : Int) : Option XApi_Fault :=
  some (XApi_Fault.mk a0 a1)
abbrev RV28 : List ResultVar := [.cell 4 28]
def R_turneryref2_fault (r : XApi_Fault) : AV := (.agg (cXApi_Fault r))
set_option maxHeartbeats 2000000 in
theorem T_turneryref2_fault (nn : Nat) (a0 : Int) (a1 : Int) (r : XApi_Fault) (hF : turneryref2_fault a0 a1 = some r) : den cx (nn + 1) 28 [(I a0), (I a1)] = some (R_turneryref2_fault r, []) := by
  unfold turneryref2_fault at hF
  refine fn_of (nn := nn) (rv := RV28) (cxE _) Tryd.func28 rfl rfl Tryd.ntmps28 (cxL _) rfl ?_
  show W cx 28 _ _ ⟨8, (upd (upd (fun _ => AV.junk) 1 (I a1)) 0 (I a0)), (fun _ => none)⟩ _
  refine v_seq ?_
  refine w_reg ?_
  refine rw_w (ov_alloc zm28 rfl) rfl ?_
  refine rw_nil ?_
  refine q_seq ?_
  refine v_seq ?_
  refine w_reg ?_
  refine rw_p (ov_move (v := (I a0)) rfl) rfl ?_
  refine rw_p (ov_move (v := (I a1)) rfl) rfl ?_
  refine rw_p (ov_build (ps := [(0, (I a0)), (1, (I a1))]) (cs := cXApi_Fault (XApi_Fault.mk a0 a1)) zc28 pl28 (cons_eqp rfl (cons_eqp rfl rfl)) rfl) rfl ?_
  refine rw_w (ov_storeM (c := cXApi_Fault) (q := [(XApi_Fault.mk 0 0)]) (r := (XApi_Fault.mk 0 0)) (r' := (XApi_Fault.mk a0 a1)) (v := (AV.agg (cXApi_Fault (XApi_Fault.mk a0 a1)))) (cs := cXApi_Fault (XApi_Fault.mk a0 a1)) ag28 sz28 rfl rfl rfl rfl rfl rfl rfl fz28 rfl rfl) rfl ?_
  refine rw_nil ?_
  refine q_seq ?_
  refine w_ret ?_
  obtain rfl := Option.some.inj hF
  exact (fin_ret (res_cellM (v := (AV.agg (cXApi_Fault (XApi_Fault.mk a0 a1)))) (v' := (AV.agg (cXApi_Fault (XApi_Fault.mk a0 a1)))) ag28 sz28 rfl rfl rfl rfl rfl rfl res_nil) rfl rfl)

/-! turnery/turneryref1.in -/

noncomputable def turneryref1_in (a0 : Int) (a1 : Int) (a2 : Int) : Option Bool :=
  some (if (decide (a1 ≤ a0)) then (decide (a0 ≤ a2)) else false)
abbrev RV68 : List ResultVar := [.tmp 6]
def R_turneryref1_in (r : Bool) : AV := (B r)
set_option maxHeartbeats 2000000 in
theorem T_turneryref1_in (nn : Nat) (a0 : Int) (a1 : Int) (a2 : Int) (r : Bool) (hF : turneryref1_in a0 a1 a2 = some r) : den cx (nn + 1) 68 [(I a0), (I a1), (I a2)] = some (R_turneryref1_in r, []) := by
  unfold turneryref1_in at hF
  refine fn_of (nn := nn) (rv := RV68) (cxE _) Tryd.func68 rfl rfl Tryd.ntmps68 (cxL _) rfl ?_
  show W cx 68 _ _ ⟨15, (upd (upd (upd (fun _ => AV.junk) 2 (I a2)) 1 (I a1)) 0 (I a0)), (fun _ => none)⟩ _
  refine v_seq ?_
  refine w_reg ?_
  refine rw_p (ov_assign (v := (B false)) rfl) rfl ?_
  refine rw_nil ?_
  refine q_seq ?_
  refine v_seq ?_
  refine w_reg ?_
  refine rw_p (ov_move (v := (I a0)) rfl) rfl ?_
  refine rw_p (ov_move (v := (I a1)) rfl) rfl ?_
  refine rw_p (ov_geq (k := .i64) (a := a0) (b := a1) rfl rfl) rfl ?_
  refine rw_p (ov_move (v := (B (decide (a1 ≤ a0)))) rfl) rfl ?_
  refine rw_g rfl (ov_move (v := (I a0)) rfl) rfl ?_
  refine rw_g rfl (ov_move (v := (I a2)) rfl) rfl ?_
  refine rw_g rfl (ov_leq (k := .i64) (a := a0) (b := a2) (un_self _) (un_self _)) rfl ?_
  refine rw_p (ov_pickB (p := (decide (a1 ≤ a0))) (q := (decide (a0 ≤ a2))) (r := false) rfl (un_imp (by generalize (decide (a1 ≤ a0)) = u0; cases u0 <;> rfl)) rfl) rfl ?_
  refine rw_p (ov_assign (v := (B (if (decide (a1 ≤ a0)) then (decide (a0 ≤ a2)) else false))) rfl) rfl ?_
  refine rw_nil ?_
  refine q_seq ?_
  refine w_ret ?_
  obtain rfl := Option.some.inj hF
  exact (fin_ret (res_tmp (pk_of (v := (B (if (decide (a1 ≤ a0)) then (decide (a0 ≤ a2)) else false))) rfl rfl) res_nil) rfl rfl)

/-! turnery/turneryref1.digit -/

noncomputable def turneryref1_digit (a0 : Int) : Option Bool :=
  some (if (decide (48 ≤ a0)) then (decide (a0 ≤ 57)) else false)
abbrev RV69 : List ResultVar := [.tmp 2]
def R_turneryref1_digit (r : Bool) : AV := (B r)
set_option maxHeartbeats 2000000 in
theorem T_turneryref1_digit (nn : Nat) (a0 : Int) (r : Bool) (hF : turneryref1_digit a0 = some r) : den cx (nn + 1) 69 [(AV.val (.int .u8 a0))] = some (R_turneryref1_digit r, []) := by
  unfold turneryref1_digit at hF
  refine fn_of (nn := nn) (rv := RV69) (cxE _) Tryd.func69 rfl rfl Tryd.ntmps69 (cxL _) rfl ?_
  show W cx 69 _ _ ⟨9, (upd (fun _ => AV.junk) 0 (AV.val (.int .u8 a0))), (fun _ => none)⟩ _
  refine v_seq ?_
  refine w_reg ?_
  refine rw_p (ov_assign (v := (B false)) rfl) rfl ?_
  refine rw_nil ?_
  refine q_seq ?_
  refine v_seq ?_
  refine w_reg ?_
  refine rw_p (ov_move (v := (AV.val (.int .u8 a0))) rfl) rfl ?_
  refine rw_p (ov_geq (k := .u8) (a := a0) (b := 48) rfl rfl) rfl ?_
  refine rw_p (ov_move (v := (B (decide (48 ≤ a0)))) rfl) rfl ?_
  refine rw_g rfl (ov_move (v := (AV.val (.int .u8 a0))) rfl) rfl ?_
  refine rw_g rfl (ov_leq (k := .u8) (a := a0) (b := 57) (un_self _) rfl) rfl ?_
  refine rw_p (ov_pickB (p := (decide (48 ≤ a0))) (q := (decide (a0 ≤ 57))) (r := false) rfl (un_imp (by generalize (decide (48 ≤ a0)) = u0; cases u0 <;> rfl)) rfl) rfl ?_
  refine rw_p (ov_assign (v := (B (if (decide (48 ≤ a0)) then (decide (a0 ≤ 57)) else false))) rfl) rfl ?_
  refine rw_nil ?_
  refine q_seq ?_
  refine w_ret ?_
  obtain rfl := Option.some.inj hF
  exact (fin_ret (res_tmp (pk_of (v := (B (if (decide (48 ≤ a0)) then (decide (a0 ≤ 57)) else false))) rfl rfl) res_nil) rfl rfl)

/-! turnery/turneryref1.letter -/

noncomputable def turneryref1_letter (a0 : Int) : Option Bool :=
  some (if (if (if (decide (97 ≤ a0)) then (decide (a0 ≤ 122)) else false) then true else (if (decide (65 ≤ a0)) then (decide (a0 ≤ 90)) else false)) then true else (a0 == 95))
abbrev RV70 : List ResultVar := [.tmp 2]
def R_turneryref1_letter (r : Bool) : AV := (B r)
set_option maxHeartbeats 2000000 in
theorem T_turneryref1_letter (nn : Nat) (a0 : Int) (r : Bool) (hF : turneryref1_letter a0 = some r) : den cx (nn + 1) 70 [(AV.val (.int .u8 a0))] = some (R_turneryref1_letter r, []) := by
  unfold turneryref1_letter at hF
  refine fn_of (nn := nn) (rv := RV70) (cxE _) Tryd.func70 rfl rfl Tryd.ntmps70 (cxL _) rfl ?_
  show W cx 70 _ _ ⟨21, (upd (fun _ => AV.junk) 0 (AV.val (.int .u8 a0))), (fun _ => none)⟩ _
  refine v_seq ?_
  refine w_reg ?_
  refine rw_p (ov_assign (v := (B false)) rfl) rfl ?_
  refine rw_nil ?_
  refine q_seq ?_
  refine v_seq ?_
  refine w_reg ?_
  refine rw_p (ov_move (v := (AV.val (.int .u8 a0))) rfl) rfl ?_
  refine rw_p (ov_geq (k := .u8) (a := a0) (b := 97) rfl rfl) rfl ?_
  refine rw_p (ov_move (v := (B (decide (97 ≤ a0)))) rfl) rfl ?_
  refine rw_g rfl (ov_move (v := (AV.val (.int .u8 a0))) rfl) rfl ?_
  refine rw_g rfl (ov_leq (k := .u8) (a := a0) (b := 122) (un_self _) rfl) rfl ?_
  refine rw_p (ov_pickB (p := (decide (97 ≤ a0))) (q := (decide (a0 ≤ 122))) (r := false) rfl (un_imp (by generalize (decide (97 ≤ a0)) = u0; cases u0 <;> rfl)) rfl) rfl ?_
  refine rw_p (ov_move (v := (B (if (decide (97 ≤ a0)) then (decide (a0 ≤ 122)) else false))) rfl) rfl ?_
  refine rw_g rfl (ov_move (v := (AV.val (.int .u8 a0))) rfl) rfl ?_
  refine rw_g rfl (ov_geq (k := .u8) (a := a0) (b := 65) (un_self _) rfl) rfl ?_
  refine rw_g rfl (ov_move (v := (B (decide (65 ≤ a0)))) (un_self _)) rfl ?_
  refine rw_g rfl (ov_move (v := (AV.val (.int .u8 a0))) rfl) rfl ?_
  refine rw_g rfl (ov_leq (k := .u8) (a := a0) (b := 90) (un_self _) rfl) rfl ?_
  refine rw_g rfl (ov_pickB (p := (decide (65 ≤ a0))) (q := (decide (a0 ≤ 90))) (r := false) (un_self _) (un_imp (by generalize (if (decide (97 ≤ a0)) then (decide (a0 ≤ 122)) else false) = u0; generalize (decide (65 ≤ a0)) = u1; cases u0 <;> cases u1 <;> rfl)) rfl) rfl ?_
  refine rw_p (ov_pickB (p := (if (decide (97 ≤ a0)) then (decide (a0 ≤ 122)) else false)) (q := true) (r := (if (decide (65 ≤ a0)) then (decide (a0 ≤ 90)) else false)) rfl rfl (un_imp (by generalize (if (decide (97 ≤ a0)) then (decide (a0 ≤ 122)) else false) = u0; cases u0 <;> rfl))) rfl ?_
  refine rw_p (ov_move (v := (B (if (if (decide (97 ≤ a0)) then (decide (a0 ≤ 122)) else false) then true else (if (decide (65 ≤ a0)) then (decide (a0 ≤ 90)) else false)))) rfl) rfl ?_
  refine rw_g rfl (ov_move (v := (AV.val (.int .u8 a0))) rfl) rfl ?_
  refine rw_g rfl (ov_eql (k := .u8) (a := a0) (b := 95) (un_self _) rfl) rfl ?_
  refine rw_p (ov_pickB (p := (if (if (decide (97 ≤ a0)) then (decide (a0 ≤ 122)) else false) then true else (if (decide (65 ≤ a0)) then (decide (a0 ≤ 90)) else false))) (q := true) (r := (a0 == 95)) rfl rfl (un_imp (by generalize (if (if (decide (97 ≤ a0)) then (decide (a0 ≤ 122)) else false) then true else (if (decide (65 ≤ a0)) then (decide (a0 ≤ 90)) else false)) = u0; cases u0 <;> rfl))) rfl ?_
  refine rw_p (ov_assign (v := (B (if (if (if (decide (97 ≤ a0)) then (decide (a0 ≤ 122)) else false) then true else (if (decide (65 ≤ a0)) then (decide (a0 ≤ 90)) else false)) then true else (a0 == 95)))) rfl) rfl ?_
  refine rw_nil ?_
  refine q_seq ?_
  refine w_ret ?_
  obtain rfl := Option.some.inj hF
  exact (fin_ret (res_tmp (pk_of (v := (B (if (if (if (decide (97 ≤ a0)) then (decide (a0 ≤ 122)) else false) then true else (if (decide (65 ≤ a0)) then (decide (a0 ≤ 90)) else false)) then true else (a0 == 95)))) rfl rfl) res_nil) rfl rfl)

/-! turnery/turneryref1.Name -/
noncomputable def turneryref1_Name_L1 (a0 : ByteArray) (y86 : Int) : Option (Lp Int (Br Unit Bool)) :=
  if (decide (y86 < (a0.size : Int))) then
  ((sidx a0 y86).bind fun x88 =>
  (turneryref1_letter (x88.toNat : Int)).bind fun x90 =>
  (if (!x90) then (sidx a0 y86).bind fun x95 =>
  (turneryref1_digit (x95.toNat : Int)).bind fun x97 =>
  some (!x97) else some false).bind fun p92 =>
  if p92 then
  (some (.out (.ret false)))
  else
  (some (.next (w64 (y86 + 1)))))
  else
  (some (.out (.brk ())))
noncomputable def turneryref1_Name (a0 : ByteArray) : Option Bool :=
  (turneryref1_in (a0.size : Int) 1 12).bind fun x65 =>
  (if (!x65) then some true else (sidx a0 0).bind fun x76 =>
  (turneryref1_digit (x76.toNat : Int)).bind fun x78 =>
  some x78).bind fun p67 =>
  if p67 then
  (some false)
  else
  ((Loop (fun (s : Int) => turneryref1_Name_L1 a0 s) 0).bind fun o117 => match o117 with
  | .ret r124 => some r124
  | .brk b119 =>
  some true)
abbrev RV51 : List ResultVar := [.tmp 2]
def R_turneryref1_Name (r : Bool) : AV := (B r)
set_option maxHeartbeats 2000000 in
theorem T_turneryref1_Name (nn : Nat) (a0 : ByteArray) (r : Bool) (hF : turneryref1_Name a0 = some r) : den cx (nn + 2) 51 [(AV.val (.string a0))] = some (R_turneryref1_Name r, []) := by
  unfold turneryref1_Name at hF
  refine fn_of (nn := (nn + 1)) (rv := RV51) (cxE _) Tryd.func51 rfl rfl Tryd.ntmps51 (cxL _) rfl ?_
  show W cx 51 _ _ ⟨31, (upd (fun _ => AV.junk) 0 (AV.val (.string a0))), (fun _ => none)⟩ _
  refine v_seq ?_
  refine w_reg ?_
  refine rw_p (ov_assign (v := (B false)) rfl) rfl ?_
  refine rw_nil ?_
  refine q_seq ?_
  refine v_seq ?_
  refine v_seq ?_
  refine w_reg ?_
  refine rw_p (ov_move (v := (AV.val (.string a0))) rfl) rfl ?_
  refine rw_p (ov_lenStr Tryd.underlying9 rfl rfl rfl) rfl ?_
  obtain ⟨x65, hx66, hF⟩ := bindS hF
  refine rw_p (ov_call (args := [(I (a0.size : Int)), (I 1), (I 12)]) (r := (R_turneryref1_in x65)) (v := (B x65)) rfl (cons_eq rfl (cons_eq rfl (cons_eq rfl rfl))) rfl rfl (T_turneryref1_in nn (a0.size : Int) 1 12 x65 hx66) fz51 rfl rfl) rfl ?_
  refine rw_p (ov_not (p := x65) rfl) rfl ?_
  refine rw_p (ov_move (v := (B (!x65))) rfl) rfl ?_
  refine rw_g rfl (ov_move (v := (AV.val (.string a0))) rfl) rfl ?_
  obtain ⟨p67, hG68, hF⟩ := bindS hF
  refine rw_join 3 (fun t h => t 0 = (AV.val (.string a0)) ∧ t 12 = (B p67)) ?_ ?_
  · refine if_elim hG68 (fun hb69 hG68 => ?_) (fun hb69 hG68 => ?_)
    · refine rw_no ((rfl).trans (congrArg some (by simp only [hb69]; first | rfl | simp))) rfl (fun u70 k71 hk72 => ?_)
      refine rw_no ((rfl).trans (congrArg some (by simp only [hb69]; first | rfl | simp))) rfl (fun u73 k74 hk75 => ?_)
      refine rw_p (ov_pickT ((rfl : _ = _).trans (congrArg (fun b => AV.val (.bool b)) hb69)) rfl) rfl ?_
      obtain rfl := Option.some.inj hG68
      refine rw_nil ⟨⟨(k71 ++ k74), by simp only [List.append_assoc], by simp only [readsOnly_append, hk72, hk75, Bool.and_self]⟩, _, _, rfl, rfl, rfl⟩
    · obtain ⟨x76, hx77, hG68⟩ := bindS hG68
      refine rw_gt rfl (by simp only [hb69]; rfl) (ov_indexStr (k := .i64) (s := a0) (i := 0) (r := x76) Tryd.underlying9 (un_imp (by simp only [hb69]; rfl)) rfl hx77) rfl ?_
      obtain ⟨x78, hx79, hG68⟩ := bindS hG68
      refine rw_gt rfl (by simp only [hb69]; rfl) (ov_call (args := [(AV.val (.int .u8 (x76.toNat : Int)))]) (r := (R_turneryref1_digit x78)) (v := (B x78)) rfl (cons_eq (un_self _) rfl) rfl rfl (T_turneryref1_digit nn (x76.toNat : Int) x78 hx79) fz51 rfl rfl) rfl ?_
      refine rw_p (ov_pickF ((rfl : _ = _).trans (congrArg (fun b => AV.val (.bool b)) hb69)) rfl) rfl ?_
      obtain rfl := Option.some.inj hG68
      refine rw_nil ⟨⟨[], (List.append_nil _).symm, rfl⟩, _, _, rfl, rfl, rfl⟩
  · rintro k84 t80 h81 hk85 ⟨e82, e83⟩
    refine rw_nil ?_
    refine q_seq ?_
    refine w_if (p := p67) hF (congrArg (un _) e83) (fun hb125 hF => ?_) (fun hb125 hF => ?_)
    · refine v_seq ?_
      refine w_reg ?_
      refine rw_p (ov_assign (v := (B false)) rfl) rfl ?_
      refine rw_nil ?_
      refine q_seq ?_
      refine w_ret ?_
      refine q_seqR ?_
      obtain rfl := Option.some.inj hF
      exact (fin_ret (res_tmp (pk_of (v := (B false)) rfl rfl) res_nil) rfl rfl)
    · refine w_skip ?_
      refine q_seq ?_
      refine v_seq ?_
      refine v_seq ?_
      refine w_reg ?_
      refine rw_p (ov_assign (v := (I 0)) rfl) rfl ?_
      refine rw_nil ?_
      refine q_seq ?_
      refine v_block ?_
      obtain ⟨o117, hL118, hF⟩ := bindS hF
      refine v_loop (fun (s : Int) => [(AV.val (.string a0)), (I s)]) (RelO (fun (s : Unit) x => ∃ t h, x = (Exit.exit 0, ⟨31, t, h⟩) ∧ True) (fun r x => x.1 = Exit.ret ∧ Fin cx RV51 (R_turneryref1_Name r) x)) hL118 lv51_4 (renorm_of (packL_mk (pk_of (v := (AV.val (.string a0))) e82 rfl) (packL_mk (pk_of (v := (I 0)) rfl rfl) packL_0)) rfl) ?_ ?_
      · rintro y86 z87 hF
        replace hF : turneryref1_Name_L1 a0 y86 = some z87 := hF
        unfold turneryref1_Name_L1 at hF
        show W cx 51 _ _ ⟨31, (upd (upd (fun _ => AV.junk) 3 (I y86)) 0 (AV.val (.string a0))), (fun _ => none)⟩ _
        refine v_seq ?_
        refine v_seq ?_
        refine w_reg ?_
        refine rw_p (ov_move (v := (I y86)) rfl) rfl ?_
        refine rw_p (ov_move (v := (AV.val (.string a0))) rfl) rfl ?_
        refine rw_p (ov_lenStr Tryd.underlying9 rfl rfl rfl) rfl ?_
        refine rw_p (ov_lss (k := .i64) (a := y86) (b := (a0.size : Int)) rfl rfl) rfl ?_
        refine rw_nil ?_
        refine q_seq ?_
        refine w_if (p := (decide (y86 < (a0.size : Int)))) hF rfl (fun hb116 hF => ?_) (fun hb116 hF => ?_)
        · refine w_skip ?_
          refine q_seq ?_
          refine v_seq ?_
          refine v_block ?_
          refine v_seq ?_
          refine w_reg ?_
          refine rw_p (ov_move (v := (AV.val (.string a0))) rfl) rfl ?_
          refine rw_p (ov_move (v := (I y86)) rfl) rfl ?_
          obtain ⟨x88, hx89, hF⟩ := bindS hF
          refine rw_p (ov_indexStr (k := .i64) (s := a0) (i := y86) (r := x88) Tryd.underlying9 rfl rfl hx89) rfl ?_
          obtain ⟨x90, hx91, hF⟩ := bindS hF
          refine rw_p (ov_call (args := [(AV.val (.int .u8 (x88.toNat : Int)))]) (r := (R_turneryref1_letter x90)) (v := (B x90)) rfl (cons_eq rfl rfl) rfl rfl (T_turneryref1_letter nn (x88.toNat : Int) x90 hx91) fz51 rfl rfl) rfl ?_
          refine rw_p (ov_not (p := x90) rfl) rfl ?_
          refine rw_p (ov_move (v := (B (!x90))) rfl) rfl ?_
          refine rw_g rfl (ov_move (v := (AV.val (.string a0))) rfl) rfl ?_
          refine rw_g rfl (ov_move (v := (I y86)) rfl) rfl ?_
          obtain ⟨p92, hG93, hF⟩ := bindS hF
          refine rw_join 4 (fun t h => t 0 = (AV.val (.string a0)) ∧ t 3 = (I y86) ∧ t 30 = (B p92)) ?_ ?_
          · refine if_elim hG93 (fun hb94 hG93 => ?_) (fun hb94 hG93 => ?_)
            · obtain ⟨x95, hx96, hG93⟩ := bindS hG93
              refine rw_gt rfl (by simp only [hb94]; rfl) (ov_indexStr (k := .i64) (s := a0) (i := y86) (r := x95) Tryd.underlying9 (un_imp (by simp only [hb94]; rfl)) (un_imp (by simp only [hb94]; rfl)) hx96) rfl ?_
              obtain ⟨x97, hx98, hG93⟩ := bindS hG93
              refine rw_gt rfl (by simp only [hb94]; rfl) (ov_call (args := [(AV.val (.int .u8 (x95.toNat : Int)))]) (r := (R_turneryref1_digit x97)) (v := (B x97)) rfl (cons_eq (un_self _) rfl) rfl rfl (T_turneryref1_digit nn (x95.toNat : Int) x97 hx98) fz51 rfl rfl) rfl ?_
              refine rw_gt rfl (by simp only [hb94]; rfl) (ov_not (p := x97) (un_self _)) rfl ?_
              refine rw_p (ov_pickT ((rfl : _ = _).trans (congrArg (fun b => AV.val (.bool b)) hb94)) rfl) rfl ?_
              obtain rfl := Option.some.inj hG93
              refine rw_nil ⟨⟨[], (List.append_nil _).symm, rfl⟩, _, _, rfl, rfl, rfl, rfl⟩
            · refine rw_no ((rfl).trans (congrArg some (by simp only [hb94]; first | rfl | simp))) rfl (fun u99 k100 hk101 => ?_)
              refine rw_no ((rfl).trans (congrArg some (by simp only [hb94]; first | rfl | simp))) rfl (fun u102 k103 hk104 => ?_)
              refine rw_no ((rfl).trans (congrArg some (by simp only [hb94]; first | rfl | simp))) rfl (fun u105 k106 hk107 => ?_)
              refine rw_p (ov_pickF ((rfl : _ = _).trans (congrArg (fun b => AV.val (.bool b)) hb94)) rfl) rfl ?_
              obtain rfl := Option.some.inj hG93
              refine rw_nil ⟨⟨(k100 ++ (k103 ++ k106)), by simp only [List.append_assoc], by simp only [readsOnly_append, hk101, hk104, hk107, Bool.and_self]⟩, _, _, rfl, rfl, rfl, rfl⟩
          · rintro k113 t108 h109 hk114 ⟨e110, e111, e112⟩
            refine rw_nil ?_
            refine q_seq ?_
            refine w_if (p := p92) hF (congrArg (un _) e112) (fun hb115 hF => ?_) (fun hb115 hF => ?_)
            · refine v_seq ?_
              refine w_reg ?_
              refine rw_p (ov_assign (v := (B false)) rfl) rfl ?_
              refine rw_nil ?_
              refine q_seq ?_
              refine w_ret ?_
              refine q_blkR ?_
              refine q_seqR ?_
              obtain rfl := Option.some.inj hF
              exact q_outR (relR ⟨rfl, (fin_ret (res_tmp (pk_of (v := (B false)) rfl rfl) res_nil) rfl rfl)⟩)
            · refine w_skip ?_
              refine q_blk ?_
              refine q_seq ?_
              refine w_reg ?_
              refine rw_p (ov_move (v := (I y86)) (congrArg (un _) e111)) rfl ?_
              refine rw_p (ov_add (k := .i64) (a := y86) (b := 1) rfl rfl) rfl ?_
              refine rw_p (ov_assign (v := (I (w64 (y86 + 1)))) rfl) rfl ?_
              refine rw_nil ?_
              obtain rfl := Option.some.inj hF
              exact q_next (renorm_of (packL_mk (pk_of (v := (AV.val (.string a0))) e110 rfl) (packL_mk (pk_of (v := (I (w64 (y86 + 1)))) rfl rfl) packL_0)) rfl)
        · refine w_exit ?_
          refine q_seqE ?_
          obtain rfl := Option.some.inj hF
          refine q_out (relB ?_)
          exact ⟨_, _, rfl, trivial⟩
      · rintro x122 hr123
        cases o117 with
        | ret r124 =>
          replace hF : some r124 = some r := hF
          obtain rfl := Option.some.inj hF
          obtain ⟨xe, xs⟩ := x122
          obtain ⟨hxe, hfin⟩ := hr123
          obtain rfl : xe = Exit.ret := hxe
          refine q_blkR ?_
          refine q_seqR ?_
          exact hfin
        | brk b119 =>
          obtain ⟨t120, h121, rfl, _⟩ := hr123
          refine q_blkH ?_
          refine q_seq ?_
          refine v_seq ?_
          refine w_reg ?_
          refine rw_p (ov_assign (v := (B true)) rfl) rfl ?_
          refine rw_nil ?_
          refine q_seq ?_
          refine w_ret ?_
          obtain rfl := Option.some.inj hF
          exact (fin_ret (res_tmp (pk_of (v := (B true)) rfl rfl) res_nil) rfl rfl)

/-! turnery/turneryref2.taken -/
noncomputable def turneryref2_taken_L1 (a0 : XApi_Unit) (a1 : Int) (a3 : ByteArray) (y128 : Int) : Option (Lp Int (Br Unit Bool)) :=
  if (decide (y128 < a1)) then
  ((idx a0.Globals y128).bind fun x130 =>
  if (x130.Name.toList == a3.toList) then
  (some (.out (.ret true)))
  else
  (some (.next (w64 (y128 + 1)))))
  else
  (some (.out (.brk ())))
noncomputable def turneryref2_taken_L2 (a0 : XApi_Unit) (a2 : Int) (a3 : ByteArray) (y142 : Int) : Option (Lp Int (Br Unit Bool)) :=
  if (decide (y142 < a2)) then
  ((idx a0.Funcs y142).bind fun x144 =>
  if (x144.Name.toList == a3.toList) then
  (some (.out (.ret true)))
  else
  (some (.next (w64 (y142 + 1)))))
  else
  (some (.out (.brk ())))
noncomputable def turneryref2_taken (a0 : XApi_Unit) (a1 : Int) (a2 : Int) (a3 : ByteArray) : Option Bool :=
  (Loop (fun (s : Int) => turneryref2_taken_L1 a0 a1 a3 s) 0).bind fun o134 => match o134 with
  | .ret r158 => some r158
  | .brk b136 =>
  (Loop (fun (s : Int) => turneryref2_taken_L2 a0 a2 a3 s) 0).bind fun o148 => match o148 with
  | .ret r155 => some r155
  | .brk b150 =>
  some false
abbrev RV52 : List ResultVar := [.tmp 8]
def R_turneryref2_taken (r : Bool) : AV := (B r)
set_option maxHeartbeats 2000000 in
theorem T_turneryref2_taken (nn : Nat) (a0 : XApi_Unit) (a1 : Int) (a2 : Int) (a3 : ByteArray) (r : Bool) (hF : turneryref2_taken a0 a1 a2 a3 = some r) : den cx (nn + 1) 52 [(AV.agg (cXApi_Unit a0)), (I a1), (I a2), (AV.val (.string a3))] = some (R_turneryref2_taken r, []) := by
  unfold turneryref2_taken at hF
  refine fn_of (nn := nn) (rv := RV52) (cxE _) Tryd.func52 rfl rfl Tryd.ntmps52 (cxL _) rfl ?_
  show W cx 52 _ _ ⟨37, (upd (upd (upd (upd (fun _ => AV.junk) 3 (AV.val (.string a3))) 2 (I a2)) 1 (I a1)) 0 (AV.agg (cXApi_Unit a0))), (fun _ => none)⟩ _
  refine v_seq ?_
  refine w_reg ?_
  refine rw_p (ov_boxF (cs := cXApi_Unit a0) (cs' := cXApi_Unit a0) ag25 fz52 rfl rfl rfl rfl rfl) rfl ?_
  refine rw_p (ov_assign (v := (B false)) rfl) rfl ?_
  refine rw_nil ?_
  refine q_seq ?_
  refine v_seq ?_
  refine v_seq ?_
  refine w_reg ?_
  refine rw_p (ov_assign (v := (I 0)) rfl) rfl ?_
  refine rw_nil ?_
  refine q_seq ?_
  refine v_block ?_
  obtain ⟨o134, hL135, hF⟩ := bindS hF
  refine v_loop (fun (s : Int) => [(I a1), (I a2), (AV.val (.string a3)), (AV.vp (cXApi_Unit a0)), (I s)]) (RelO (fun (s : Unit) x => ∃ t h, x = (Exit.exit 0, ⟨37, t, h⟩) ∧ t 2 = (I a2) ∧ t 3 = (AV.val (.string a3)) ∧ t 4 = (AV.vp (cXApi_Unit a0))) (fun r x => x.1 = Exit.ret ∧ Fin cx RV52 (R_turneryref2_taken r) x)) hL135 lv52_2 (renorm_of (packL_mk (pk_of (v := (I a1)) rfl rfl) (packL_mk (pk_of (v := (I a2)) rfl rfl) (packL_mk (pk_of (v := (AV.val (.string a3))) rfl rfl) (packL_mk (pk_of (v := (AV.vp (cXApi_Unit a0))) rfl rfl) (packL_mk (pk_of (v := (I 0)) rfl rfl) packL_0))))) rfl) ?_ ?_
  · rintro y128 z129 hF
    replace hF : turneryref2_taken_L1 a0 a1 a3 y128 = some z129 := hF
    unfold turneryref2_taken_L1 at hF
    show W cx 52 _ _ ⟨37, (upd (upd (upd (upd (upd (fun _ => AV.junk) 9 (I y128)) 4 (AV.vp (cXApi_Unit a0))) 3 (AV.val (.string a3))) 2 (I a2)) 1 (I a1)), (fun _ => none)⟩ _
    refine v_seq ?_
    refine v_seq ?_
    refine w_reg ?_
    refine rw_p (ov_move (v := (I y128)) rfl) rfl ?_
    refine rw_p (ov_move (v := (I a1)) rfl) rfl ?_
    refine rw_p (ov_lss (k := .i64) (a := y128) (b := a1) rfl rfl) rfl ?_
    refine rw_nil ?_
    refine q_seq ?_
    refine w_if (p := (decide (y128 < a1))) hF rfl (fun hb133 hF => ?_) (fun hb133 hF => ?_)
    · refine w_skip ?_
      refine q_seq ?_
      refine v_seq ?_
      refine v_block ?_
      refine v_seq ?_
      refine w_reg ?_
      refine rw_p (ov_fieldAddr (cells' := (cXApi_Unit a0)) fd25_0 rfl rfl rfl rfl) rfl ?_
      refine rw_p (ov_load (v := (AV.sl ((a0.Globals).map cXApi_Global))) ag22 sz22 rfl rfl rfl) rfl ?_
      refine rw_p (ov_move (v := (I y128)) rfl) rfl ?_
      obtain ⟨x130, hx131, hF⟩ := bindS hF
      refine rw_p (ov_indexAddr (k := .i64) (c := cXApi_Global) (q := a0.Globals) (i := y128) Tryd.underlying22 sz73 rfl rfl rfl hx131 rfl) rfl ?_
      refine rw_p (ov_fieldAddr (cells' := (cXApi_Global x130)) fd73_0 rfl rfl rfl rfl) rfl ?_
      refine rw_p (ov_load (v := (AV.val (.string x130.Name))) ag9 sz9 rfl rfl rfl) rfl ?_
      refine rw_p (ov_move (v := (AV.val (.string a3))) rfl) rfl ?_
      refine rw_p (ov_eqlS rfl rfl) rfl ?_
      refine rw_nil ?_
      refine q_seq ?_
      refine w_if (p := (x130.Name.toList == a3.toList)) hF rfl (fun hb132 hF => ?_) (fun hb132 hF => ?_)
      · refine v_seq ?_
        refine w_reg ?_
        refine rw_p (ov_assign (v := (B true)) rfl) rfl ?_
        refine rw_nil ?_
        refine q_seq ?_
        refine w_ret ?_
        refine q_blkR ?_
        refine q_seqR ?_
        obtain rfl := Option.some.inj hF
        exact q_outR (relR ⟨rfl, (fin_ret (res_tmp (pk_of (v := (B true)) rfl rfl) res_nil) rfl rfl)⟩)
      · refine w_skip ?_
        refine q_blk ?_
        refine q_seq ?_
        refine w_reg ?_
        refine rw_p (ov_move (v := (I y128)) rfl) rfl ?_
        refine rw_p (ov_add (k := .i64) (a := y128) (b := 1) rfl rfl) rfl ?_
        refine rw_p (ov_assign (v := (I (w64 (y128 + 1)))) rfl) rfl ?_
        refine rw_nil ?_
        obtain rfl := Option.some.inj hF
        exact q_next (renorm_of (packL_mk (pk_of (v := (I a1)) rfl rfl) (packL_mk (pk_of (v := (I a2)) rfl rfl) (packL_mk (pk_of (v := (AV.val (.string a3))) rfl rfl) (packL_mk (pk_of (v := (AV.vp (cXApi_Unit a0))) rfl rfl) (packL_mk (pk_of (v := (I (w64 (y128 + 1)))) rfl rfl) packL_0))))) rfl)
    · refine w_exit ?_
      refine q_seqE ?_
      obtain rfl := Option.some.inj hF
      refine q_out (relB ?_)
      exact ⟨_, _, rfl, rfl, rfl, rfl⟩
  · rintro x156 hr157
    cases o134 with
    | ret r158 =>
      replace hF : some r158 = some r := hF
      obtain rfl := Option.some.inj hF
      obtain ⟨xe, xs⟩ := x156
      obtain ⟨hxe, hfin⟩ := hr157
      obtain rfl : xe = Exit.ret := hxe
      refine q_blkR ?_
      refine q_seqR ?_
      exact hfin
    | brk b136 =>
      obtain ⟨t137, h138, rfl, e139, e140, e141⟩ := hr157
      refine q_blkH ?_
      refine q_seq ?_
      refine v_seq ?_
      refine v_seq ?_
      refine w_reg ?_
      refine rw_p (ov_assign (v := (I 0)) rfl) rfl ?_
      refine rw_nil ?_
      refine q_seq ?_
      refine v_block ?_
      obtain ⟨o148, hL149, hF⟩ := bindS hF
      refine v_loop (fun (s : Int) => [(I a2), (AV.val (.string a3)), (AV.vp (cXApi_Unit a0)), (I s)]) (RelO (fun (s : Unit) x => ∃ t h, x = (Exit.exit 2, ⟨37, t, h⟩) ∧ True) (fun r x => x.1 = Exit.ret ∧ Fin cx RV52 (R_turneryref2_taken r) x)) hL149 lv52_7 (renorm_of (packL_mk (pk_of (v := (I a2)) e139 rfl) (packL_mk (pk_of (v := (AV.val (.string a3))) e140 rfl) (packL_mk (pk_of (v := (AV.vp (cXApi_Unit a0))) e141 rfl) (packL_mk (pk_of (v := (I 0)) rfl rfl) packL_0)))) rfl) ?_ ?_
      · rintro y142 z143 hF
        replace hF : turneryref2_taken_L2 a0 a2 a3 y142 = some z143 := hF
        unfold turneryref2_taken_L2 at hF
        show W cx 52 _ _ ⟨37, (upd (upd (upd (upd (fun _ => AV.junk) 10 (I y142)) 4 (AV.vp (cXApi_Unit a0))) 3 (AV.val (.string a3))) 2 (I a2)), (fun _ => none)⟩ _
        refine v_seq ?_
        refine v_seq ?_
        refine w_reg ?_
        refine rw_p (ov_move (v := (I y142)) rfl) rfl ?_
        refine rw_p (ov_move (v := (I a2)) rfl) rfl ?_
        refine rw_p (ov_lss (k := .i64) (a := y142) (b := a2) rfl rfl) rfl ?_
        refine rw_nil ?_
        refine q_seq ?_
        refine w_if (p := (decide (y142 < a2))) hF rfl (fun hb147 hF => ?_) (fun hb147 hF => ?_)
        · refine w_skip ?_
          refine q_seq ?_
          refine v_seq ?_
          refine v_block ?_
          refine v_seq ?_
          refine w_reg ?_
          refine rw_p (ov_fieldAddr (cells' := ((cXApi_Unit a0).drop 1)) fd25_1 rfl rfl rfl rfl) rfl ?_
          refine rw_p (ov_load (v := (AV.sl ((a0.Funcs).map cXApi_Func))) ag23 sz23 rfl rfl rfl) rfl ?_
          refine rw_p (ov_move (v := (I y142)) rfl) rfl ?_
          obtain ⟨x144, hx145, hF⟩ := bindS hF
          refine rw_p (ov_indexAddr (k := .i64) (c := cXApi_Func) (q := a0.Funcs) (i := y142) Tryd.underlying23 sz37 rfl rfl rfl hx145 rfl) rfl ?_
          refine rw_p (ov_fieldAddr (cells' := (cXApi_Func x144)) fd37_0 rfl rfl rfl rfl) rfl ?_
          refine rw_p (ov_load (v := (AV.val (.string x144.Name))) ag9 sz9 rfl rfl rfl) rfl ?_
          refine rw_p (ov_move (v := (AV.val (.string a3))) rfl) rfl ?_
          refine rw_p (ov_eqlS rfl rfl) rfl ?_
          refine rw_nil ?_
          refine q_seq ?_
          refine w_if (p := (x144.Name.toList == a3.toList)) hF rfl (fun hb146 hF => ?_) (fun hb146 hF => ?_)
          · refine v_seq ?_
            refine w_reg ?_
            refine rw_p (ov_assign (v := (B true)) rfl) rfl ?_
            refine rw_nil ?_
            refine q_seq ?_
            refine w_ret ?_
            refine q_blkR ?_
            refine q_seqR ?_
            obtain rfl := Option.some.inj hF
            exact q_outR (relR ⟨rfl, (fin_ret (res_tmp (pk_of (v := (B true)) rfl rfl) res_nil) rfl rfl)⟩)
          · refine w_skip ?_
            refine q_blk ?_
            refine q_seq ?_
            refine w_reg ?_
            refine rw_p (ov_move (v := (I y142)) rfl) rfl ?_
            refine rw_p (ov_add (k := .i64) (a := y142) (b := 1) rfl rfl) rfl ?_
            refine rw_p (ov_assign (v := (I (w64 (y142 + 1)))) rfl) rfl ?_
            refine rw_nil ?_
            obtain rfl := Option.some.inj hF
            exact q_next (renorm_of (packL_mk (pk_of (v := (I a2)) rfl rfl) (packL_mk (pk_of (v := (AV.val (.string a3))) rfl rfl) (packL_mk (pk_of (v := (AV.vp (cXApi_Unit a0))) rfl rfl) (packL_mk (pk_of (v := (I (w64 (y142 + 1)))) rfl rfl) packL_0)))) rfl)
        · refine w_exit ?_
          refine q_seqE ?_
          obtain rfl := Option.some.inj hF
          refine q_out (relB ?_)
          exact ⟨_, _, rfl, trivial⟩
      · rintro x153 hr154
        cases o148 with
        | ret r155 =>
          replace hF : some r155 = some r := hF
          obtain rfl := Option.some.inj hF
          obtain ⟨xe, xs⟩ := x153
          obtain ⟨hxe, hfin⟩ := hr154
          obtain rfl : xe = Exit.ret := hxe
          refine q_blkR ?_
          refine q_seqR ?_
          exact hfin
        | brk b150 =>
          obtain ⟨t151, h152, rfl, _⟩ := hr154
          refine q_blkH ?_
          refine q_seq ?_
          refine v_seq ?_
          refine w_reg ?_
          refine rw_p (ov_assign (v := (B false)) rfl) rfl ?_
          refine rw_nil ?_
          refine q_seq ?_
          refine w_ret ?_
          obtain rfl := Option.some.inj hF
          exact (fin_ret (res_tmp (pk_of (v := (B false)) rfl rfl) res_nil) rfl rfl)

/-! turnery/turneryref2.in -/

noncomputable def turneryref2_in (a0 : Int) (a1 : Int) (a2 : Int) : Option Bool :=
  some (if (decide (a1 ≤ a0)) then (decide (a0 ≤ a2)) else false)
abbrev RV53 : List ResultVar := [.tmp 6]
def R_turneryref2_in (r : Bool) : AV := (B r)
set_option maxHeartbeats 2000000 in
theorem T_turneryref2_in (nn : Nat) (a0 : Int) (a1 : Int) (a2 : Int) (r : Bool) (hF : turneryref2_in a0 a1 a2 = some r) : den cx (nn + 1) 53 [(I a0), (I a1), (I a2)] = some (R_turneryref2_in r, []) := by
  unfold turneryref2_in at hF
  refine fn_of (nn := nn) (rv := RV53) (cxE _) Tryd.func53 rfl rfl Tryd.ntmps53 (cxL _) rfl ?_
  show W cx 53 _ _ ⟨15, (upd (upd (upd (fun _ => AV.junk) 2 (I a2)) 1 (I a1)) 0 (I a0)), (fun _ => none)⟩ _
  refine v_seq ?_
  refine w_reg ?_
  refine rw_p (ov_assign (v := (B false)) rfl) rfl ?_
  refine rw_nil ?_
  refine q_seq ?_
  refine v_seq ?_
  refine w_reg ?_
  refine rw_p (ov_move (v := (I a0)) rfl) rfl ?_
  refine rw_p (ov_move (v := (I a1)) rfl) rfl ?_
  refine rw_p (ov_geq (k := .i64) (a := a0) (b := a1) rfl rfl) rfl ?_
  refine rw_p (ov_move (v := (B (decide (a1 ≤ a0)))) rfl) rfl ?_
  refine rw_g rfl (ov_move (v := (I a0)) rfl) rfl ?_
  refine rw_g rfl (ov_move (v := (I a2)) rfl) rfl ?_
  refine rw_g rfl (ov_leq (k := .i64) (a := a0) (b := a2) (un_self _) (un_self _)) rfl ?_
  refine rw_p (ov_pickB (p := (decide (a1 ≤ a0))) (q := (decide (a0 ≤ a2))) (r := false) rfl (un_imp (by generalize (decide (a1 ≤ a0)) = u0; cases u0 <;> rfl)) rfl) rfl ?_
  refine rw_p (ov_assign (v := (B (if (decide (a1 ≤ a0)) then (decide (a0 ≤ a2)) else false))) rfl) rfl ?_
  refine rw_nil ?_
  refine q_seq ?_
  refine w_ret ?_
  obtain rfl := Option.some.inj hF
  exact (fin_ret (res_tmp (pk_of (v := (B (if (decide (a1 ≤ a0)) then (decide (a0 ≤ a2)) else false))) rfl rfl) res_nil) rfl rfl)

/-! turnery/turneryref2.global -/

noncomputable def turneryref2_global (a0 : XApi_Unit) (a1 : Int) (a2 : Int) : Option Int :=
  (idx a0.Globals a1).bind fun x63 =>
  (turneryref1_Name x63.Name).bind fun x126 =>
  if (!x126) then
  (some 12)
  else
  ((turneryref2_taken a0 a1 0 x63.Name).bind fun x159 =>
  if x159 then
  (some 7)
  else
  ((turneryref2_in x63.Size 1 200).bind fun x161 =>
  if (!x161) then
  (some 3)
  else
  (if (decide (x63.Size < (x63.Init.length : Int))) then
  (some 9)
  else
  (if (decide (200 < (w64 (a2 + x63.Size)))) then
  (some 10)
  else
  (some 0)))))
abbrev RV29 : List ResultVar := [.tmp 6]
def R_turneryref2_global (r : Int) : AV := (I r)
set_option maxHeartbeats 2000000 in
theorem T_turneryref2_global (nn : Nat) (a0 : XApi_Unit) (a1 : Int) (a2 : Int) (r : Int) (hF : turneryref2_global a0 a1 a2 = some r) : den cx (nn + 3) 29 [(AV.agg (cXApi_Unit a0)), (I a1), (I a2)] = some (R_turneryref2_global r, []) := by
  unfold turneryref2_global at hF
  refine fn_of (nn := (nn + 2)) (rv := RV29) (cxE _) Tryd.func29 rfl rfl Tryd.ntmps29 (cxL _) rfl ?_
  show W cx 29 _ _ ⟨37, (upd (upd (upd (fun _ => AV.junk) 2 (I a2)) 1 (I a1)) 0 (AV.agg (cXApi_Unit a0))), (fun _ => none)⟩ _
  refine v_seq ?_
  refine w_reg ?_
  refine rw_p (ov_boxF (cs := cXApi_Unit a0) (cs' := cXApi_Unit a0) ag25 fz29 rfl rfl rfl rfl rfl) rfl ?_
  refine rw_p (ov_assign (v := (I 0)) rfl) rfl ?_
  refine rw_nil ?_
  refine q_seq ?_
  refine v_seq ?_
  refine w_reg ?_
  refine rw_p (ov_fieldAddr (cells' := (cXApi_Unit a0)) fd25_0 rfl rfl rfl rfl) rfl ?_
  refine rw_p (ov_load (v := (AV.sl ((a0.Globals).map cXApi_Global))) ag22 sz22 rfl rfl rfl) rfl ?_
  refine rw_p (ov_move (v := (I a1)) rfl) rfl ?_
  obtain ⟨x63, hx64, hF⟩ := bindS hF
  refine rw_p (ov_indexAddr (k := .i64) (c := cXApi_Global) (q := a0.Globals) (i := a1) Tryd.underlying22 sz73 rfl rfl rfl hx64 rfl) rfl ?_
  refine rw_p (ov_load (v := (AV.agg (cXApi_Global x63))) ag73 sz73 rfl rfl rfl) rfl ?_
  refine rw_w (ov_alloc zm73 rfl) rfl ?_
  refine rw_w (ov_storeF (v := (AV.agg (cXApi_Global x63))) (cs := cXApi_Global x63) (cs' := cXApi_Global x63) ag73 sz73 rfl rfl rfl rfl rfl rfl fz29 rfl rfl rfl) rfl ?_
  refine rw_nil ?_
  refine q_seq ?_
  refine v_seq ?_
  refine v_seq ?_
  refine w_reg ?_
  refine rw_p (ov_fieldAddr (cells' := (cXApi_Global x63)) fd73_0 rfl rfl rfl rfl) rfl ?_
  refine rw_p (ov_load (v := (AV.val (.string x63.Name))) ag9 sz9 rfl rfl rfl) rfl ?_
  obtain ⟨x126, hx127, hF⟩ := bindS hF
  refine rw_p (ov_call (args := [(AV.val (.string x63.Name))]) (r := (R_turneryref1_Name x126)) (v := (B x126)) rfl (cons_eq rfl rfl) rfl rfl (T_turneryref1_Name nn x63.Name x126 hx127) fz29 rfl rfl) rfl ?_
  refine rw_p (ov_not (p := x126) rfl) rfl ?_
  refine rw_nil ?_
  refine q_seq ?_
  refine w_if (p := (!x126)) hF rfl (fun hb167 hF => ?_) (fun hb167 hF => ?_)
  · refine v_seq ?_
    refine w_reg ?_
    refine rw_p (ov_assign (v := (I 12)) rfl) rfl ?_
    refine rw_nil ?_
    refine q_seq ?_
    refine w_ret ?_
    refine q_seqR ?_
    obtain rfl := Option.some.inj hF
    exact (fin_ret (res_tmp (pk_of (v := (I 12)) rfl rfl) res_nil) rfl rfl)
  · refine w_skip ?_
    refine q_seq ?_
    refine v_seq ?_
    refine v_seq ?_
    refine w_reg ?_
    refine rw_p (ov_load (v := (AV.agg (cXApi_Unit a0))) ag25 sz25 rfl rfl rfl) rfl ?_
    refine rw_p (ov_move (v := (I a1)) rfl) rfl ?_
    refine rw_p (ov_fieldAddr (cells' := (cXApi_Global x63)) fd73_0 rfl rfl rfl rfl) rfl ?_
    refine rw_p (ov_load (v := (AV.val (.string x63.Name))) ag9 sz9 rfl rfl rfl) rfl ?_
    obtain ⟨x159, hx160, hF⟩ := bindS hF
    refine rw_p (ov_call (args := [(AV.agg (cXApi_Unit a0)), (I a1), (I 0), (AV.val (.string x63.Name))]) (r := (R_turneryref2_taken x159)) (v := (B x159)) rfl (cons_eq rfl (cons_eq rfl (cons_eq rfl (cons_eq rfl rfl)))) rfl rfl (T_turneryref2_taken (nn + 1) a0 a1 0 x63.Name x159 hx160) fz29 rfl rfl) rfl ?_
    refine rw_nil ?_
    refine q_seq ?_
    refine w_if (p := x159) hF rfl (fun hb166 hF => ?_) (fun hb166 hF => ?_)
    · refine v_seq ?_
      refine w_reg ?_
      refine rw_p (ov_assign (v := (I 7)) rfl) rfl ?_
      refine rw_nil ?_
      refine q_seq ?_
      refine w_ret ?_
      refine q_seqR ?_
      obtain rfl := Option.some.inj hF
      exact (fin_ret (res_tmp (pk_of (v := (I 7)) rfl rfl) res_nil) rfl rfl)
    · refine w_skip ?_
      refine q_seq ?_
      refine v_seq ?_
      refine v_seq ?_
      refine w_reg ?_
      refine rw_p (ov_fieldAddr (cells' := ((cXApi_Global x63).drop 1)) fd73_1 rfl rfl rfl rfl) rfl ?_
      refine rw_p (ov_load (v := (I x63.Size)) ag3 sz3 rfl rfl rfl) rfl ?_
      obtain ⟨x161, hx162, hF⟩ := bindS hF
      refine rw_p (ov_call (args := [(I x63.Size), (I 1), (I 200)]) (r := (R_turneryref2_in x161)) (v := (B x161)) rfl (cons_eq rfl (cons_eq rfl (cons_eq rfl rfl))) rfl rfl (T_turneryref2_in (nn + 1) x63.Size 1 200 x161 hx162) fz29 rfl rfl) rfl ?_
      refine rw_p (ov_not (p := x161) rfl) rfl ?_
      refine rw_nil ?_
      refine q_seq ?_
      refine w_if (p := (!x161)) hF rfl (fun hb165 hF => ?_) (fun hb165 hF => ?_)
      · refine v_seq ?_
        refine w_reg ?_
        refine rw_p (ov_assign (v := (I 3)) rfl) rfl ?_
        refine rw_nil ?_
        refine q_seq ?_
        refine w_ret ?_
        refine q_seqR ?_
        obtain rfl := Option.some.inj hF
        exact (fin_ret (res_tmp (pk_of (v := (I 3)) rfl rfl) res_nil) rfl rfl)
      · refine w_skip ?_
        refine q_seq ?_
        refine v_seq ?_
        refine v_seq ?_
        refine w_reg ?_
        refine rw_p (ov_fieldAddr (cells' := ((cXApi_Global x63).drop 2)) fd73_2 rfl rfl rfl rfl) rfl ?_
        refine rw_p (ov_load (v := (AV.sl ((x63.Init).map cInt_i64))) ag42 sz42 rfl rfl rfl) rfl ?_
        refine rw_p (ov_lenSl (m := x63.Init.length) Tryd.underlying42 rfl rfl rfl (List.length_map _)) rfl ?_
        refine rw_p (ov_fieldAddr (cells' := ((cXApi_Global x63).drop 1)) fd73_1 rfl rfl rfl rfl) rfl ?_
        refine rw_p (ov_load (v := (I x63.Size)) ag3 sz3 rfl rfl rfl) rfl ?_
        refine rw_p (ov_gtr (k := .i64) (a := (x63.Init.length : Int)) (b := x63.Size) rfl rfl) rfl ?_
        refine rw_nil ?_
        refine q_seq ?_
        refine w_if (p := (decide (x63.Size < (x63.Init.length : Int)))) hF rfl (fun hb164 hF => ?_) (fun hb164 hF => ?_)
        · refine v_seq ?_
          refine w_reg ?_
          refine rw_p (ov_assign (v := (I 9)) rfl) rfl ?_
          refine rw_nil ?_
          refine q_seq ?_
          refine w_ret ?_
          refine q_seqR ?_
          obtain rfl := Option.some.inj hF
          exact (fin_ret (res_tmp (pk_of (v := (I 9)) rfl rfl) res_nil) rfl rfl)
        · refine w_skip ?_
          refine q_seq ?_
          refine v_seq ?_
          refine v_seq ?_
          refine w_reg ?_
          refine rw_p (ov_move (v := (I a2)) rfl) rfl ?_
          refine rw_p (ov_fieldAddr (cells' := ((cXApi_Global x63).drop 1)) fd73_1 rfl rfl rfl rfl) rfl ?_
          refine rw_p (ov_load (v := (I x63.Size)) ag3 sz3 rfl rfl rfl) rfl ?_
          refine rw_p (ov_add (k := .i64) (a := a2) (b := x63.Size) rfl rfl) rfl ?_
          refine rw_p (ov_gtr (k := .i64) (a := (w64 (a2 + x63.Size))) (b := 200) rfl rfl) rfl ?_
          refine rw_nil ?_
          refine q_seq ?_
          refine w_if (p := (decide (200 < (w64 (a2 + x63.Size))))) hF rfl (fun hb163 hF => ?_) (fun hb163 hF => ?_)
          · refine v_seq ?_
            refine w_reg ?_
            refine rw_p (ov_assign (v := (I 10)) rfl) rfl ?_
            refine rw_nil ?_
            refine q_seq ?_
            refine w_ret ?_
            refine q_seqR ?_
            obtain rfl := Option.some.inj hF
            exact (fin_ret (res_tmp (pk_of (v := (I 10)) rfl rfl) res_nil) rfl rfl)
          · refine w_skip ?_
            refine q_seq ?_
            refine v_seq ?_
            refine w_reg ?_
            refine rw_p (ov_assign (v := (I 0)) rfl) rfl ?_
            refine rw_nil ?_
            refine q_seq ?_
            refine w_ret ?_
            obtain rfl := Option.some.inj hF
            exact (fin_ret (res_tmp (pk_of (v := (I 0)) rfl rfl) res_nil) rfl rfl)

/-! turnery/turneryref2.head -/

noncomputable def turneryref2_head (a0 : XApi_Unit) (a1 : Int) : Option Int :=
  (idx a0.Funcs a1).bind fun x189 =>
  (turneryref1_Name x189.Name).bind fun x191 =>
  if (!x191) then
  (some 12)
  else
  ((turneryref2_taken a0 (a0.Globals.length : Int) a1 x189.Name).bind fun x193 =>
  if x193 then
  (some 7)
  else
  ((turneryref2_in x189.Params 0 6).bind fun x195 =>
  (if (!x195) then some true else (turneryref2_in x189.Regs x189.Params 100).bind fun x206 =>
  some (!x206)).bind fun p197 =>
  if p197 then
  (some 3)
  else
  ((turneryref2_in (x189.Blocks.length : Int) 1 40).bind fun x214 =>
  (if (!x214) then some true else (turneryref2_Ins x189).bind fun x225 =>
  some (decide (300 < x225))).bind fun p216 =>
  if p216 then
  (some 2)
  else
  (some 0))))
abbrev RV30 : List ResultVar := [.tmp 4]
def R_turneryref2_head (r : Int) : AV := (I r)
set_option maxHeartbeats 2000000 in
theorem T_turneryref2_head (nn : Nat) (a0 : XApi_Unit) (a1 : Int) (r : Int) (hF : turneryref2_head a0 a1 = some r) : den cx (nn + 3) 30 [(AV.agg (cXApi_Unit a0)), (I a1)] = some (R_turneryref2_head r, []) := by
  unfold turneryref2_head at hF
  refine fn_of (nn := (nn + 2)) (rv := RV30) (cxE _) Tryd.func30 rfl rfl Tryd.ntmps30 (cxL _) rfl ?_
  show W cx 30 _ _ ⟨45, (upd (upd (fun _ => AV.junk) 1 (I a1)) 0 (AV.agg (cXApi_Unit a0))), (fun _ => none)⟩ _
  refine v_seq ?_
  refine w_reg ?_
  refine rw_p (ov_boxF (cs := cXApi_Unit a0) (cs' := cXApi_Unit a0) ag25 fz30 rfl rfl rfl rfl rfl) rfl ?_
  refine rw_p (ov_assign (v := (I 0)) rfl) rfl ?_
  refine rw_nil ?_
  refine q_seq ?_
  refine v_seq ?_
  refine w_reg ?_
  refine rw_p (ov_fieldAddr (cells' := ((cXApi_Unit a0).drop 1)) fd25_1 rfl rfl rfl rfl) rfl ?_
  refine rw_p (ov_load (v := (AV.sl ((a0.Funcs).map cXApi_Func))) ag23 sz23 rfl rfl rfl) rfl ?_
  refine rw_p (ov_move (v := (I a1)) rfl) rfl ?_
  obtain ⟨x189, hx190, hF⟩ := bindS hF
  refine rw_p (ov_indexAddr (k := .i64) (c := cXApi_Func) (q := a0.Funcs) (i := a1) Tryd.underlying23 sz37 rfl rfl rfl hx190 rfl) rfl ?_
  refine rw_p (ov_load (v := (AV.agg (cXApi_Func x189))) ag37 sz37 rfl rfl rfl) rfl ?_
  refine rw_w (ov_alloc zm37 rfl) rfl ?_
  refine rw_w (ov_storeF (v := (AV.agg (cXApi_Func x189))) (cs := cXApi_Func x189) (cs' := cXApi_Func x189) ag37 sz37 rfl rfl rfl rfl rfl rfl fz30 rfl rfl rfl) rfl ?_
  refine rw_nil ?_
  refine q_seq ?_
  refine v_seq ?_
  refine v_seq ?_
  refine w_reg ?_
  refine rw_p (ov_fieldAddr (cells' := (cXApi_Func x189)) fd37_0 rfl rfl rfl rfl) rfl ?_
  refine rw_p (ov_load (v := (AV.val (.string x189.Name))) ag9 sz9 rfl rfl rfl) rfl ?_
  obtain ⟨x191, hx192, hF⟩ := bindS hF
  refine rw_p (ov_call (args := [(AV.val (.string x189.Name))]) (r := (R_turneryref1_Name x191)) (v := (B x191)) rfl (cons_eq rfl rfl) rfl rfl (T_turneryref1_Name nn x189.Name x191 hx192) fz30 rfl rfl) rfl ?_
  refine rw_p (ov_not (p := x191) rfl) rfl ?_
  refine rw_nil ?_
  refine q_seq ?_
  refine w_if (p := (!x191)) hF rfl (fun hb235 hF => ?_) (fun hb235 hF => ?_)
  · refine v_seq ?_
    refine w_reg ?_
    refine rw_p (ov_assign (v := (I 12)) rfl) rfl ?_
    refine rw_nil ?_
    refine q_seq ?_
    refine w_ret ?_
    refine q_seqR ?_
    obtain rfl := Option.some.inj hF
    exact (fin_ret (res_tmp (pk_of (v := (I 12)) rfl rfl) res_nil) rfl rfl)
  · refine w_skip ?_
    refine q_seq ?_
    refine v_seq ?_
    refine v_seq ?_
    refine w_reg ?_
    refine rw_p (ov_load (v := (AV.agg (cXApi_Unit a0))) ag25 sz25 rfl rfl rfl) rfl ?_
    refine rw_p (ov_fieldAddr (cells' := (cXApi_Unit a0)) fd25_0 rfl rfl rfl rfl) rfl ?_
    refine rw_p (ov_load (v := (AV.sl ((a0.Globals).map cXApi_Global))) ag22 sz22 rfl rfl rfl) rfl ?_
    refine rw_p (ov_lenSl (m := a0.Globals.length) Tryd.underlying22 rfl rfl rfl (List.length_map _)) rfl ?_
    refine rw_p (ov_move (v := (I a1)) rfl) rfl ?_
    refine rw_p (ov_fieldAddr (cells' := (cXApi_Func x189)) fd37_0 rfl rfl rfl rfl) rfl ?_
    refine rw_p (ov_load (v := (AV.val (.string x189.Name))) ag9 sz9 rfl rfl rfl) rfl ?_
    obtain ⟨x193, hx194, hF⟩ := bindS hF
    refine rw_p (ov_call (args := [(AV.agg (cXApi_Unit a0)), (I (a0.Globals.length : Int)), (I a1), (AV.val (.string x189.Name))]) (r := (R_turneryref2_taken x193)) (v := (B x193)) rfl (cons_eq rfl (cons_eq rfl (cons_eq rfl (cons_eq rfl rfl)))) rfl rfl (T_turneryref2_taken (nn + 1) a0 (a0.Globals.length : Int) a1 x189.Name x193 hx194) fz30 rfl rfl) rfl ?_
    refine rw_nil ?_
    refine q_seq ?_
    refine w_if (p := x193) hF rfl (fun hb234 hF => ?_) (fun hb234 hF => ?_)
    · refine v_seq ?_
      refine w_reg ?_
      refine rw_p (ov_assign (v := (I 7)) rfl) rfl ?_
      refine rw_nil ?_
      refine q_seq ?_
      refine w_ret ?_
      refine q_seqR ?_
      obtain rfl := Option.some.inj hF
      exact (fin_ret (res_tmp (pk_of (v := (I 7)) rfl rfl) res_nil) rfl rfl)
    · refine w_skip ?_
      refine q_seq ?_
      refine v_seq ?_
      refine v_seq ?_
      refine w_reg ?_
      refine rw_p (ov_fieldAddr (cells' := ((cXApi_Func x189).drop 1)) fd37_1 rfl rfl rfl rfl) rfl ?_
      refine rw_p (ov_load (v := (I x189.Params)) ag3 sz3 rfl rfl rfl) rfl ?_
      obtain ⟨x195, hx196, hF⟩ := bindS hF
      refine rw_p (ov_call (args := [(I x189.Params), (I 0), (I 6)]) (r := (R_turneryref2_in x195)) (v := (B x195)) rfl (cons_eq rfl (cons_eq rfl (cons_eq rfl rfl))) rfl rfl (T_turneryref2_in (nn + 1) x189.Params 0 6 x195 hx196) fz30 rfl rfl) rfl ?_
      refine rw_p (ov_not (p := x195) rfl) rfl ?_
      refine rw_p (ov_move (v := (B (!x195))) rfl) rfl ?_
      refine rw_g rfl (ov_fieldAddr (cells' := ((cXApi_Func x189).drop 2)) fd37_2 rfl rfl rfl rfl) rfl ?_
      refine rw_g rfl (ov_load (v := (I x189.Regs)) ag3 sz3 (un_self _) rfl rfl) rfl ?_
      refine rw_g rfl (ov_fieldAddr (cells' := ((cXApi_Func x189).drop 1)) fd37_1 rfl rfl rfl rfl) rfl ?_
      refine rw_g rfl (ov_load (v := (I x189.Params)) ag3 sz3 (un_self _) rfl rfl) rfl ?_
      obtain ⟨p197, hG198, hF⟩ := bindS hF
      refine rw_join 3 (fun t h => t 5 = (AV.vp (cXApi_Func x189)) ∧ t 34 = (B p197)) ?_ ?_
      · refine if_elim hG198 (fun hb199 hG198 => ?_) (fun hb199 hG198 => ?_)
        · refine rw_no ((rfl).trans (congrArg some (by simp only [hb199]; first | rfl | simp))) rfl (fun u200 k201 hk202 => ?_)
          refine rw_no ((rfl).trans (congrArg some (by simp only [hb199]; first | rfl | simp))) rfl (fun u203 k204 hk205 => ?_)
          refine rw_p (ov_pickT ((rfl : _ = _).trans (congrArg (fun b => AV.val (.bool b)) hb199)) rfl) rfl ?_
          obtain rfl := Option.some.inj hG198
          refine rw_nil ⟨⟨(k201 ++ k204), by simp only [List.append_assoc], by simp only [readsOnly_append, hk202, hk205, Bool.and_self]⟩, _, _, rfl, rfl, rfl⟩
        · obtain ⟨x206, hx207, hG198⟩ := bindS hG198
          refine rw_gt rfl (by simp only [hb199]; rfl) (ov_call (args := [(I x189.Regs), (I x189.Params), (I 100)]) (r := (R_turneryref2_in x206)) (v := (B x206)) rfl (cons_eq (un_imp (by simp only [hb199]; rfl)) (cons_eq (un_imp (by simp only [hb199]; rfl)) (cons_eq rfl rfl))) rfl rfl (T_turneryref2_in (nn + 1) x189.Regs x189.Params 100 x206 hx207) fz30 rfl rfl) rfl ?_
          refine rw_gt rfl (by simp only [hb199]; rfl) (ov_not (p := x206) (un_self _)) rfl ?_
          refine rw_p (ov_pickF ((rfl : _ = _).trans (congrArg (fun b => AV.val (.bool b)) hb199)) rfl) rfl ?_
          obtain rfl := Option.some.inj hG198
          refine rw_nil ⟨⟨[], (List.append_nil _).symm, rfl⟩, _, _, rfl, rfl, rfl⟩
      · rintro k212 t208 h209 hk213 ⟨e210, e211⟩
        refine rw_nil ?_
        refine q_seq ?_
        refine w_if (p := p197) hF (congrArg (un _) e211) (fun hb233 hF => ?_) (fun hb233 hF => ?_)
        · refine v_seq ?_
          refine w_reg ?_
          refine rw_p (ov_assign (v := (I 3)) rfl) rfl ?_
          refine rw_nil ?_
          refine q_seq ?_
          refine w_ret ?_
          refine q_seqR ?_
          obtain rfl := Option.some.inj hF
          exact (fin_ret (res_tmp (pk_of (v := (I 3)) rfl rfl) res_nil) rfl rfl)
        · refine w_skip ?_
          refine q_seq ?_
          refine v_seq ?_
          refine v_seq ?_
          refine w_reg ?_
          refine rw_p (ov_fieldAddr (cells' := ((cXApi_Func x189).drop 3)) fd37_3 rfl (congrArg (un _) e210) rfl rfl) rfl ?_
          refine rw_p (ov_load (v := (AV.sl ((x189.Blocks).map cXApi_Block))) ag35 sz35 rfl rfl rfl) rfl ?_
          refine rw_p (ov_lenSl (m := x189.Blocks.length) Tryd.underlying35 rfl rfl rfl (List.length_map _)) rfl ?_
          obtain ⟨x214, hx215, hF⟩ := bindS hF
          refine rw_p (ov_call (args := [(I (x189.Blocks.length : Int)), (I 1), (I 40)]) (r := (R_turneryref2_in x214)) (v := (B x214)) rfl (cons_eq rfl (cons_eq rfl (cons_eq rfl rfl))) rfl rfl (T_turneryref2_in (nn + 1) (x189.Blocks.length : Int) 1 40 x214 hx215) fz30 rfl rfl) rfl ?_
          refine rw_p (ov_not (p := x214) rfl) rfl ?_
          refine rw_p (ov_move (v := (B (!x214))) rfl) rfl ?_
          refine rw_g rfl (ov_load (v := (AV.agg (cXApi_Func x189))) ag37 sz37 (congrArg (un _) e210) rfl rfl) rfl ?_
          obtain ⟨p216, hG217, hF⟩ := bindS hF
          refine rw_join 3 (fun t h => t 44 = (B p216)) ?_ ?_
          · refine if_elim hG217 (fun hb218 hG217 => ?_) (fun hb218 hG217 => ?_)
            · refine rw_no ((rfl).trans (congrArg some (by simp only [hb218]; first | rfl | simp))) rfl (fun u219 k220 hk221 => ?_)
              refine rw_no ((rfl).trans (congrArg some (by simp only [hb218]; first | rfl | simp))) rfl (fun u222 k223 hk224 => ?_)
              refine rw_p (ov_pickT ((rfl : _ = _).trans (congrArg (fun b => AV.val (.bool b)) hb218)) rfl) rfl ?_
              obtain rfl := Option.some.inj hG217
              refine rw_nil ⟨⟨(k220 ++ k223), by simp only [List.append_assoc], by simp only [readsOnly_append, hk221, hk224, Bool.and_self]⟩, _, _, rfl, rfl⟩
            · obtain ⟨x225, hx226, hG217⟩ := bindS hG217
              refine rw_gt rfl (by simp only [hb218]; rfl) (ov_call (args := [(AV.agg (cXApi_Func x189))]) (r := (R_turneryref2_Ins x225)) (v := (I x225)) rfl (cons_eq (un_imp (by simp only [hb218]; rfl)) rfl) rfl rfl (T_turneryref2_Ins (nn + 1) x189 x225 hx226) fz30 rfl rfl) rfl ?_
              refine rw_gt rfl (by simp only [hb218]; rfl) (ov_gtr (k := .i64) (a := x225) (b := 300) (un_self _) rfl) rfl ?_
              refine rw_p (ov_pickF ((rfl : _ = _).trans (congrArg (fun b => AV.val (.bool b)) hb218)) rfl) rfl ?_
              obtain rfl := Option.some.inj hG217
              refine rw_nil ⟨⟨[], (List.append_nil _).symm, rfl⟩, _, _, rfl, rfl⟩
          · rintro k230 t227 h228 hk231 e229
            refine rw_nil ?_
            refine q_seq ?_
            refine w_if (p := p216) hF (congrArg (un _) e229) (fun hb232 hF => ?_) (fun hb232 hF => ?_)
            · refine v_seq ?_
              refine w_reg ?_
              refine rw_p (ov_assign (v := (I 2)) rfl) rfl ?_
              refine rw_nil ?_
              refine q_seq ?_
              refine w_ret ?_
              refine q_seqR ?_
              obtain rfl := Option.some.inj hF
              exact (fin_ret (res_tmp (pk_of (v := (I 2)) rfl rfl) res_nil) rfl rfl)
            · refine w_skip ?_
              refine q_seq ?_
              refine v_seq ?_
              refine w_reg ?_
              refine rw_p (ov_assign (v := (I 0)) rfl) rfl ?_
              refine rw_nil ?_
              refine q_seq ?_
              refine w_ret ?_
              obtain rfl := Option.some.inj hF
              exact (fin_ret (res_tmp (pk_of (v := (I 0)) rfl rfl) res_nil) rfl rfl)

/-! turnery/turneryref2.val -/

noncomputable def turneryref2_val (a0 : XApi_Func) (a1 : XApi_Val) : Option Bool :=
  (if (!a1.Reg) then some true else (turneryref2_in a1.N 0 (w64 (a0.Regs - 1))).bind fun x319 =>
  some x319).bind fun p313 =>
  some p313
abbrev RV71 : List ResultVar := [.tmp 4]
def R_turneryref2_val (r : Bool) : AV := (B r)
set_option maxHeartbeats 2000000 in
theorem T_turneryref2_val (nn : Nat) (a0 : XApi_Func) (a1 : XApi_Val) (r : Bool) (hF : turneryref2_val a0 a1 = some r) : den cx (nn + 2) 71 [(AV.agg (cXApi_Func a0)), (AV.agg (cXApi_Val a1))] = some (R_turneryref2_val r, []) := by
  unfold turneryref2_val at hF
  refine fn_of (nn := (nn + 1)) (rv := RV71) (cxE _) Tryd.func71 rfl rfl Tryd.ntmps71 (cxL _) rfl ?_
  show W cx 71 _ _ ⟨16, (upd (upd (fun _ => AV.junk) 1 (AV.agg (cXApi_Val a1))) 0 (AV.agg (cXApi_Func a0))), (fun _ => none)⟩ _
  refine v_seq ?_
  refine w_reg ?_
  refine rw_p (ov_boxF (cs := cXApi_Func a0) (cs' := cXApi_Func a0) ag37 fz71 rfl rfl rfl rfl rfl) rfl ?_
  refine rw_p (ov_boxF (cs := cXApi_Val a1) (cs' := cXApi_Val a1) ag47 fz71 rfl rfl rfl rfl rfl) rfl ?_
  refine rw_p (ov_assign (v := (B false)) rfl) rfl ?_
  refine rw_nil ?_
  refine q_seq ?_
  refine v_seq ?_
  refine w_reg ?_
  refine rw_p (ov_fieldAddr (cells' := (cXApi_Val a1)) fd47_0 rfl rfl rfl rfl) rfl ?_
  refine rw_p (ov_load (v := (B a1.Reg)) ag4 sz4 rfl rfl rfl) rfl ?_
  refine rw_p (ov_not (p := a1.Reg) rfl) rfl ?_
  refine rw_p (ov_move (v := (B (!a1.Reg))) rfl) rfl ?_
  refine rw_g rfl (ov_fieldAddr (cells' := ((cXApi_Val a1).drop 1)) fd47_1 rfl rfl rfl rfl) rfl ?_
  refine rw_g rfl (ov_load (v := (I a1.N)) ag3 sz3 (un_self _) rfl rfl) rfl ?_
  refine rw_g rfl (ov_fieldAddr (cells' := ((cXApi_Func a0).drop 2)) fd37_2 rfl rfl rfl rfl) rfl ?_
  refine rw_g rfl (ov_load (v := (I a0.Regs)) ag3 sz3 (un_self _) rfl rfl) rfl ?_
  refine rw_g rfl (ov_sub (k := .i64) (a := a0.Regs) (b := 1) (un_self _) rfl) rfl ?_
  obtain ⟨p313, hG314, hF⟩ := bindS hF
  refine rw_join 2 (fun t h => t 15 = (B p313)) ?_ ?_
  · refine if_elim hG314 (fun hb315 hG314 => ?_) (fun hb315 hG314 => ?_)
    · refine rw_no ((rfl).trans (congrArg some (by simp only [hb315]; first | rfl | simp))) rfl (fun u316 k317 hk318 => ?_)
      refine rw_p (ov_pickT ((rfl : _ = _).trans (congrArg (fun b => AV.val (.bool b)) hb315)) rfl) rfl ?_
      obtain rfl := Option.some.inj hG314
      refine rw_nil ⟨⟨k317, by simp only [List.append_assoc], by simp only [readsOnly_append, hk318, Bool.and_self]⟩, _, _, rfl, rfl⟩
    · obtain ⟨x319, hx320, hG314⟩ := bindS hG314
      refine rw_gt rfl (by simp only [hb315]; rfl) (ov_call (args := [(I a1.N), (I 0), (I (w64 (a0.Regs - 1)))]) (r := (R_turneryref2_in x319)) (v := (B x319)) rfl (cons_eq (un_imp (by simp only [hb315]; rfl)) (cons_eq rfl (cons_eq (un_imp (by simp only [hb315]; rfl)) rfl))) rfl rfl (T_turneryref2_in nn a1.N 0 (w64 (a0.Regs - 1)) x319 hx320) fz71 rfl rfl) rfl ?_
      refine rw_p (ov_pickF ((rfl : _ = _).trans (congrArg (fun b => AV.val (.bool b)) hb315)) rfl) rfl ?_
      obtain rfl := Option.some.inj hG314
      refine rw_nil ⟨⟨[], (List.append_nil _).symm, rfl⟩, _, _, rfl, rfl⟩
  · rintro k324 t321 h322 hk325 e323
    refine rw_p (ov_assign (v := (B p313)) (congrArg (un _) e323)) rfl ?_
    refine rw_nil ?_
    refine q_seq ?_
    refine w_ret ?_
    obtain rfl := Option.some.inj hF
    exact (fin_ret (res_tmp (pk_of (v := (B p313)) rfl rfl) res_nil) rfl rfl)

/-! turnery/turneryref2.end -/
noncomputable def turneryref2_end_L1 (a0 : XApi_Func) (a1 : XApi_End) (y263 : Int) : Option (Lp Int (Br Unit Int)) :=
  if (decide (y263 < (a1.To.length : Int))) then
  ((idx a1.To y263).bind fun x265 =>
  (turneryref2_in x265 1 (w64 ((a0.Blocks.length : Int) - 1))).bind fun x267 =>
  if (!x267) then
  (some (.out (.ret 3)))
  else
  (some (.next (w64 (y263 + 1)))))
  else
  (some (.out (.brk ())))
noncomputable def turneryref2_end (a0 : XApi_Func) (a1 : XApi_End) : Option Int :=
  (turneryref2_in a1.Kind 1 3).bind fun x261 =>
  if (!x261) then
  (some 4)
  else
  (if ((a1.To.length : Int) != (w64 (a1.Kind - 1))) then
  (some 9)
  else
  ((Loop (fun (s : Int) => turneryref2_end_L1 a0 a1 s) 0).bind fun o271 => match o271 with
  | .ret r332 => some r332
  | .brk b273 =>
  (if (a1.Kind == 3) then (idx a1.To 0).bind fun x281 =>
  (idx a1.To 1).bind fun x283 =>
  some (x281 == x283) else some false).bind fun p278 =>
  if (if p278 then true else (if (a1.Kind == 2) then (!((a1.On.Reg == false) && ((a1.On.N == 0) && true))) else false)) then
  (some 5)
  else
  ((turneryref2_val a0 a1.On).bind fun x326 =>
  if (!x326) then
  (some 3)
  else
  (some 0))))
abbrev RV54 : List ResultVar := [.tmp 4]
def R_turneryref2_end (r : Int) : AV := (I r)
set_option maxHeartbeats 2000000 in
theorem T_turneryref2_end (nn : Nat) (a0 : XApi_Func) (a1 : XApi_End) (r : Int) (hF : turneryref2_end a0 a1 = some r) : den cx (nn + 3) 54 [(AV.agg (cXApi_Func a0)), (AV.agg (cXApi_End a1))] = some (R_turneryref2_end r, []) := by
  unfold turneryref2_end at hF
  refine fn_of (nn := (nn + 2)) (rv := RV54) (cxE _) Tryd.func54 rfl rfl Tryd.ntmps54 (cxL _) rfl ?_
  show W cx 54 _ _ ⟨65, (upd (upd (fun _ => AV.junk) 1 (AV.agg (cXApi_End a1))) 0 (AV.agg (cXApi_Func a0))), (fun _ => none)⟩ _
  refine v_seq ?_
  refine w_reg ?_
  refine rw_p (ov_boxF (cs := cXApi_Func a0) (cs' := cXApi_Func a0) ag37 fz54 rfl rfl rfl rfl rfl) rfl ?_
  refine rw_p (ov_boxF (cs := cXApi_End a1) (cs' := cXApi_End a1) ag49 fz54 rfl rfl rfl rfl rfl) rfl ?_
  refine rw_p (ov_assign (v := (I 0)) rfl) rfl ?_
  refine rw_nil ?_
  refine q_seq ?_
  refine v_seq ?_
  refine v_seq ?_
  refine w_reg ?_
  refine rw_p (ov_fieldAddr (cells' := (cXApi_End a1)) fd49_0 rfl rfl rfl rfl) rfl ?_
  refine rw_p (ov_load (v := (I a1.Kind)) ag3 sz3 rfl rfl rfl) rfl ?_
  obtain ⟨x261, hx262, hF⟩ := bindS hF
  refine rw_p (ov_call (args := [(I a1.Kind), (I 1), (I 3)]) (r := (R_turneryref2_in x261)) (v := (B x261)) rfl (cons_eq rfl (cons_eq rfl (cons_eq rfl rfl))) rfl rfl (T_turneryref2_in (nn + 1) a1.Kind 1 3 x261 hx262) fz54 rfl rfl) rfl ?_
  refine rw_p (ov_not (p := x261) rfl) rfl ?_
  refine rw_nil ?_
  refine q_seq ?_
  refine w_if (p := (!x261)) hF rfl (fun hb334 hF => ?_) (fun hb334 hF => ?_)
  · refine v_seq ?_
    refine w_reg ?_
    refine rw_p (ov_assign (v := (I 4)) rfl) rfl ?_
    refine rw_nil ?_
    refine q_seq ?_
    refine w_ret ?_
    refine q_seqR ?_
    obtain rfl := Option.some.inj hF
    exact (fin_ret (res_tmp (pk_of (v := (I 4)) rfl rfl) res_nil) rfl rfl)
  · refine w_skip ?_
    refine q_seq ?_
    refine v_seq ?_
    refine v_seq ?_
    refine w_reg ?_
    refine rw_p (ov_fieldAddr (cells' := ((cXApi_End a1).drop 3)) fd49_2 rfl rfl rfl rfl) rfl ?_
    refine rw_p (ov_load (v := (AV.sl ((a1.To).map cInt_i64))) ag42 sz42 rfl rfl rfl) rfl ?_
    refine rw_p (ov_lenSl (m := a1.To.length) Tryd.underlying42 rfl rfl rfl (List.length_map _)) rfl ?_
    refine rw_p (ov_fieldAddr (cells' := (cXApi_End a1)) fd49_0 rfl rfl rfl rfl) rfl ?_
    refine rw_p (ov_load (v := (I a1.Kind)) ag3 sz3 rfl rfl rfl) rfl ?_
    refine rw_p (ov_sub (k := .i64) (a := a1.Kind) (b := 1) rfl rfl) rfl ?_
    refine rw_p (ov_neq (k := .i64) (a := (a1.To.length : Int)) (b := (w64 (a1.Kind - 1))) rfl rfl) rfl ?_
    refine rw_nil ?_
    refine q_seq ?_
    refine w_if (p := ((a1.To.length : Int) != (w64 (a1.Kind - 1)))) hF rfl (fun hb333 hF => ?_) (fun hb333 hF => ?_)
    · refine v_seq ?_
      refine w_reg ?_
      refine rw_p (ov_assign (v := (I 9)) rfl) rfl ?_
      refine rw_nil ?_
      refine q_seq ?_
      refine w_ret ?_
      refine q_seqR ?_
      obtain rfl := Option.some.inj hF
      exact (fin_ret (res_tmp (pk_of (v := (I 9)) rfl rfl) res_nil) rfl rfl)
    · refine w_skip ?_
      refine q_seq ?_
      refine v_seq ?_
      refine v_seq ?_
      refine w_reg ?_
      refine rw_p (ov_assign (v := (I 0)) rfl) rfl ?_
      refine rw_nil ?_
      refine q_seq ?_
      refine v_block ?_
      obtain ⟨o271, hL272, hF⟩ := bindS hF
      refine v_loop (fun (s : Int) => [(AV.vp (cXApi_Func a0)), (AV.vp (cXApi_End a1)), (I s)]) (RelO (fun (s : Unit) x => ∃ t h, x = (Exit.exit 0, ⟨65, t, h⟩) ∧ t 2 = (AV.vp (cXApi_Func a0)) ∧ t 3 = (AV.vp (cXApi_End a1))) (fun r x => x.1 = Exit.ret ∧ Fin cx RV54 (R_turneryref2_end r) x)) hL272 lv54_6 (renorm_of (packL_mk (pk_of (v := (AV.vp (cXApi_Func a0))) rfl rfl) (packL_mk (pk_of (v := (AV.vp (cXApi_End a1))) rfl rfl) (packL_mk (pk_of (v := (I 0)) rfl rfl) packL_0))) rfl) ?_ ?_
      · rintro y263 z264 hF
        replace hF : turneryref2_end_L1 a0 a1 y263 = some z264 := hF
        unfold turneryref2_end_L1 at hF
        show W cx 54 _ _ ⟨65, (upd (upd (upd (fun _ => AV.junk) 5 (I y263)) 3 (AV.vp (cXApi_End a1))) 2 (AV.vp (cXApi_Func a0))), (fun _ => none)⟩ _
        refine v_seq ?_
        refine v_seq ?_
        refine w_reg ?_
        refine rw_p (ov_move (v := (I y263)) rfl) rfl ?_
        refine rw_p (ov_fieldAddr (cells' := ((cXApi_End a1).drop 3)) fd49_2 rfl rfl rfl rfl) rfl ?_
        refine rw_p (ov_load (v := (AV.sl ((a1.To).map cInt_i64))) ag42 sz42 rfl rfl rfl) rfl ?_
        refine rw_p (ov_lenSl (m := a1.To.length) Tryd.underlying42 rfl rfl rfl (List.length_map _)) rfl ?_
        refine rw_p (ov_lss (k := .i64) (a := y263) (b := (a1.To.length : Int)) rfl rfl) rfl ?_
        refine rw_nil ?_
        refine q_seq ?_
        refine w_if (p := (decide (y263 < (a1.To.length : Int)))) hF rfl (fun hb270 hF => ?_) (fun hb270 hF => ?_)
        · refine w_skip ?_
          refine q_seq ?_
          refine v_seq ?_
          refine v_block ?_
          refine v_seq ?_
          refine w_regD ?_
          refine rw_p (ov_fieldAddr (cells' := ((cXApi_End a1).drop 3)) fd49_2 rfl rfl rfl rfl) rfl ?_
          refine rw_p (ov_load (v := (AV.sl ((a1.To).map cInt_i64))) ag42 sz42 rfl rfl rfl) rfl ?_
          refine rw_p (ov_move (v := (I y263)) rfl) rfl ?_
          obtain ⟨x265, hx266, hF⟩ := bindS hF
          refine rw_p (ov_indexAddr (k := .i64) (c := cInt_i64) (q := a1.To) (i := y263) Tryd.underlying42 sz3 rfl rfl rfl hx266 rfl) rfl ?_
          refine rw_p (ov_load (v := (I x265)) ag3 sz3 rfl rfl rfl) rfl ?_
          refine rw_p (ov_fieldAddr (cells' := ((cXApi_Func a0).drop 3)) fd37_3 rfl rfl rfl rfl) rfl ?_
          refine rw_p (ov_load (v := (AV.sl ((a0.Blocks).map cXApi_Block))) ag35 sz35 rfl rfl rfl) rfl ?_
          refine rw_p (ov_lenSl (m := a0.Blocks.length) Tryd.underlying35 rfl rfl rfl (List.length_map _)) rfl ?_
          refine rw_p (ov_sub (k := .i64) (a := (a0.Blocks.length : Int)) (b := 1) rfl rfl) rfl ?_
          obtain ⟨x267, hx268, hF⟩ := bindS hF
          refine rw_p (ov_call (args := [(I x265), (I 1), (I (w64 ((a0.Blocks.length : Int) - 1)))]) (r := (R_turneryref2_in x267)) (v := (B x267)) rfl (cons_eq rfl (cons_eq rfl (cons_eq rfl rfl))) rfl rfl (T_turneryref2_in (nn + 1) x265 1 (w64 ((a0.Blocks.length : Int) - 1)) x267 hx268) fz54 rfl rfl) rfl ?_
          refine rw_p (ov_not (p := x267) rfl) rfl ?_
          refine rw_nil ⟨rfl, ?_⟩
          refine q_seq ?_
          refine w_if (p := (!x267)) hF rfl (fun hb269 hF => ?_) (fun hb269 hF => ?_)
          · refine v_seq ?_
            refine w_reg ?_
            refine rw_p (ov_assign (v := (I 3)) rfl) rfl ?_
            refine rw_nil ?_
            refine q_seq ?_
            refine w_ret ?_
            refine q_blkR ?_
            refine q_seqR ?_
            obtain rfl := Option.some.inj hF
            exact q_outR (relR ⟨rfl, (fin_ret (res_tmp (pk_of (v := (I 3)) rfl rfl) res_nil) rfl rfl)⟩)
          · refine w_skip ?_
            refine q_blk ?_
            refine q_seq ?_
            refine w_reg ?_
            refine rw_p (ov_move (v := (I y263)) rfl) rfl ?_
            refine rw_p (ov_add (k := .i64) (a := y263) (b := 1) rfl rfl) rfl ?_
            refine rw_p (ov_assign (v := (I (w64 (y263 + 1)))) rfl) rfl ?_
            refine rw_nil ?_
            obtain rfl := Option.some.inj hF
            exact q_next (renorm_of (packL_mk (pk_of (v := (AV.vp (cXApi_Func a0))) rfl rfl) (packL_mk (pk_of (v := (AV.vp (cXApi_End a1))) rfl rfl) (packL_mk (pk_of (v := (I (w64 (y263 + 1)))) rfl rfl) packL_0))) rfl)
        · refine w_exit ?_
          refine q_seqE ?_
          obtain rfl := Option.some.inj hF
          refine q_out (relB ?_)
          exact ⟨_, _, rfl, rfl, rfl⟩
      · rintro x330 hr331
        cases o271 with
        | ret r332 =>
          replace hF : some r332 = some r := hF
          obtain rfl := Option.some.inj hF
          obtain ⟨xe, xs⟩ := x330
          obtain ⟨hxe, hfin⟩ := hr331
          obtain rfl : xe = Exit.ret := hxe
          refine q_blkR ?_
          refine q_seqR ?_
          exact hfin
        | brk b273 =>
          obtain ⟨t274, h275, rfl, e276, e277⟩ := hr331
          refine q_blkH ?_
          refine q_seq ?_
          refine v_seq ?_
          refine v_seq ?_
          refine w_regD ?_
          refine rw_p (ov_fieldAddr (cells' := (cXApi_End a1)) fd49_0 rfl (congrArg (un _) e277) rfl rfl) rfl ?_
          refine rw_p (ov_load (v := (I a1.Kind)) ag3 sz3 rfl rfl rfl) rfl ?_
          refine rw_p (ov_eql (k := .i64) (a := a1.Kind) (b := 3) rfl rfl) rfl ?_
          refine rw_p (ov_move (v := (B (a1.Kind == 3))) rfl) rfl ?_
          refine rw_g rfl (ov_fieldAddr (cells' := ((cXApi_End a1).drop 3)) fd49_2 rfl (congrArg (un _) e277) rfl rfl) rfl ?_
          refine rw_g rfl (ov_load (v := (AV.sl ((a1.To).map cInt_i64))) ag42 sz42 (un_self _) rfl rfl) rfl ?_
          obtain ⟨p278, hG279, hF⟩ := bindS hF
          refine rw_join 8 (fun t h => t 2 = (AV.vp (cXApi_Func a0)) ∧ t 3 = (AV.vp (cXApi_End a1)) ∧ t 48 = (B p278)) ?_ ?_
          · refine if_elim hG279 (fun hb280 hG279 => ?_) (fun hb280 hG279 => ?_)
            · obtain ⟨x281, hx282, hG279⟩ := bindS hG279
              refine rw_gt rfl (by simp only [hb280]; rfl) (ov_indexAddr (k := .i64) (c := cInt_i64) (q := a1.To) (i := 0) Tryd.underlying42 sz3 rfl (un_imp (by simp only [hb280]; rfl)) rfl hx282 rfl) rfl ?_
              refine rw_gt rfl (by simp only [hb280]; rfl) (ov_load (v := (I x281)) ag3 sz3 (un_self _) rfl rfl) rfl ?_
              refine rw_gt rfl (by simp only [hb280]; rfl) (ov_fieldAddr (cells' := ((cXApi_End a1).drop 3)) fd49_2 rfl (congrArg (un _) e277) rfl rfl) rfl ?_
              refine rw_gt rfl (by simp only [hb280]; rfl) (ov_load (v := (AV.sl ((a1.To).map cInt_i64))) ag42 sz42 (un_self _) rfl rfl) rfl ?_
              obtain ⟨x283, hx284, hG279⟩ := bindS hG279
              refine rw_gt rfl (by simp only [hb280]; rfl) (ov_indexAddr (k := .i64) (c := cInt_i64) (q := a1.To) (i := 1) Tryd.underlying42 sz3 rfl (un_self _) rfl hx284 rfl) rfl ?_
              refine rw_gt rfl (by simp only [hb280]; rfl) (ov_load (v := (I x283)) ag3 sz3 (un_self _) rfl rfl) rfl ?_
              refine rw_gt rfl (by simp only [hb280]; rfl) (ov_eql (k := .i64) (a := x281) (b := x283) (un_self _) (un_self _)) rfl ?_
              refine rw_p (ov_pickT ((rfl : _ = _).trans (congrArg (fun b => AV.val (.bool b)) hb280)) rfl) rfl ?_
              obtain rfl := Option.some.inj hG279
              refine rw_nil ⟨⟨[], (List.append_nil _).symm, rfl⟩, _, _, rfl, e276, e277, rfl⟩
            · refine rw_no ((rfl).trans (congrArg some (by simp only [hb280]; first | rfl | simp))) rfl (fun u285 k286 hk287 => ?_)
              refine rw_no ((rfl).trans (congrArg some (by simp only [hb280]; first | rfl | simp))) rfl (fun u288 k289 hk290 => ?_)
              refine rw_no ((rfl).trans (congrArg some (by simp only [hb280]; first | rfl | simp))) rfl (fun u291 k292 hk293 => ?_)
              refine rw_no ((rfl).trans (congrArg some (by simp only [hb280]; first | rfl | simp))) rfl (fun u294 k295 hk296 => ?_)
              refine rw_no ((rfl).trans (congrArg some (by simp only [hb280]; first | rfl | simp))) rfl (fun u297 k298 hk299 => ?_)
              refine rw_no ((rfl).trans (congrArg some (by simp only [hb280]; first | rfl | simp))) rfl (fun u300 k301 hk302 => ?_)
              refine rw_no ((rfl).trans (congrArg some (by simp only [hb280]; first | rfl | simp))) rfl (fun u303 k304 hk305 => ?_)
              refine rw_p (ov_pickF ((rfl : _ = _).trans (congrArg (fun b => AV.val (.bool b)) hb280)) rfl) rfl ?_
              obtain rfl := Option.some.inj hG279
              refine rw_nil ⟨⟨(k286 ++ (k289 ++ (k292 ++ (k295 ++ (k298 ++ (k301 ++ k304)))))), by simp only [List.append_assoc], by simp only [readsOnly_append, hk287, hk290, hk293, hk296, hk299, hk302, hk305, Bool.and_self]⟩, _, _, rfl, e276, e277, rfl⟩
          · rintro k311 t306 h307 hk312 ⟨e308, e309, e310⟩
            refine rw_p (ov_move (v := (B p278)) (congrArg (un _) e310)) rfl ?_
            refine rw_g rfl (ov_fieldAddr (cells' := (cXApi_End a1)) fd49_0 rfl (congrArg (un _) e309) rfl rfl) rfl ?_
            refine rw_g rfl (ov_load (v := (I a1.Kind)) ag3 sz3 (un_self _) rfl rfl) rfl ?_
            refine rw_g rfl (ov_eql (k := .i64) (a := a1.Kind) (b := 2) (un_self _) rfl) rfl ?_
            refine rw_g rfl (ov_move (v := (B (a1.Kind == 2))) (un_self _)) rfl ?_
            refine rw_g rfl (ov_fieldAddr (cells' := ((cXApi_End a1).drop 1)) fd49_1 rfl (congrArg (un _) e309) rfl rfl) rfl ?_
            refine rw_g rfl (ov_load (v := (AV.agg (cXApi_Val a1.On))) ag47 sz47 (un_self _) rfl rfl) rfl ?_
            refine rw_g rfl (ov_build (ps := []) (cs := cXApi_Val (XApi_Val.mk false 0)) zc47 pl47  rfl rfl) rfl ?_
            refine rw_g rfl (ov_bin (un_self _) (un_self _) rfl rfl (eq47_neq _ _ a1.On.Reg false a1.On.N 0) rfl) rfl ?_
            refine rw_g rfl (ov_pickB (p := (a1.Kind == 2)) (q := (!((a1.On.Reg == false) && ((a1.On.N == 0) && true)))) (r := false) (un_self _) (un_imp (by generalize (a1.Kind == 2) = u0; generalize p278 = u1; cases u0 <;> cases u1 <;> rfl)) rfl) rfl ?_
            refine rw_p (ov_pickB (p := p278) (q := true) (r := (if (a1.Kind == 2) then (!((a1.On.Reg == false) && ((a1.On.N == 0) && true))) else false)) rfl rfl (un_imp (by generalize p278 = u0; cases u0 <;> rfl))) rfl ?_
            refine rw_nil ⟨(heapFree_reads _ _ (by simp only [readsOnly_append, hk312]; rfl)), ?_⟩
            refine q_seq ?_
            refine w_if (p := (if p278 then true else (if (a1.Kind == 2) then (!((a1.On.Reg == false) && ((a1.On.N == 0) && true))) else false))) hF rfl (fun hb329 hF => ?_) (fun hb329 hF => ?_)
            · refine v_seq ?_
              refine w_reg ?_
              refine rw_p (ov_assign (v := (I 5)) rfl) rfl ?_
              refine rw_nil ?_
              refine q_seq ?_
              refine w_ret ?_
              refine q_seqR ?_
              obtain rfl := Option.some.inj hF
              exact (fin_ret (res_tmp (pk_of (v := (I 5)) rfl rfl) res_nil) rfl rfl)
            · refine w_skip ?_
              refine q_seq ?_
              refine v_seq ?_
              refine v_seq ?_
              refine w_reg ?_
              refine rw_p (ov_load (v := (AV.agg (cXApi_Func a0))) ag37 sz37 (congrArg (un _) e308) rfl rfl) rfl ?_
              refine rw_p (ov_fieldAddr (cells' := ((cXApi_End a1).drop 1)) fd49_1 rfl (congrArg (un _) e309) rfl rfl) rfl ?_
              refine rw_p (ov_load (v := (AV.agg (cXApi_Val a1.On))) ag47 sz47 rfl rfl rfl) rfl ?_
              obtain ⟨x326, hx327, hF⟩ := bindS hF
              refine rw_p (ov_call (args := [(AV.agg (cXApi_Func a0)), (AV.agg (cXApi_Val a1.On))]) (r := (R_turneryref2_val x326)) (v := (B x326)) rfl (cons_eq rfl (cons_eq rfl rfl)) rfl rfl (T_turneryref2_val nn a0 a1.On x326 hx327) fz54 rfl rfl) rfl ?_
              refine rw_p (ov_not (p := x326) rfl) rfl ?_
              refine rw_nil ?_
              refine q_seq ?_
              refine w_if (p := (!x326)) hF rfl (fun hb328 hF => ?_) (fun hb328 hF => ?_)
              · refine v_seq ?_
                refine w_reg ?_
                refine rw_p (ov_assign (v := (I 3)) rfl) rfl ?_
                refine rw_nil ?_
                refine q_seq ?_
                refine w_ret ?_
                refine q_seqR ?_
                obtain rfl := Option.some.inj hF
                exact (fin_ret (res_tmp (pk_of (v := (I 3)) rfl rfl) res_nil) rfl rfl)
              · refine w_skip ?_
                refine q_seq ?_
                refine v_seq ?_
                refine w_reg ?_
                refine rw_p (ov_assign (v := (I 0)) rfl) rfl ?_
                refine rw_nil ?_
                refine q_seq ?_
                refine w_ret ?_
                obtain rfl := Option.some.inj hF
                exact (fin_ret (res_tmp (pk_of (v := (I 0)) rfl rfl) res_nil) rfl rfl)

/-! turnery/turneryref2.Ahead -/
noncomputable def turneryref2_Ahead_L2 (a0 : XApi_Func) (a1 : Int) (y357 : Int) (y359 : (List Int)) (y360 : Int) : Option (Lp ((List Int) × Int) (List Int)) :=
  (idx a0.Blocks y357).bind fun x362 =>
  if (decide (y360 < (x362.End.To.length : Int))) then
  ((idx a0.Blocks y357).bind fun x371 =>
  (idx x371.End.To y360).bind fun x373 =>
  if (x373 == a1) then
  ((app y359 [y357]).bind fun x375 =>
  some (.next (x375, (w64 (y360 + 1)))))
  else
  (some (.next (y359, (w64 (y360 + 1))))))
  else
  (some (.out y359))
noncomputable def turneryref2_Ahead_L1 (a0 : XApi_Func) (a1 : Int) (y356 : (List Int)) (y357 : Int) : Option (Lp ((List Int) × Int) (List Int)) :=
  if (decide (y357 < (a0.Blocks.length : Int))) then
  ((Loop (fun (s : ((List Int) × Int)) => turneryref2_Ahead_L2 a0 a1 y357 s.1 s.2) (y356, 0)).bind fun o379 =>
  some (.next (o379, (w64 (y357 + 1)))))
  else
  (some (.out y356))
noncomputable def turneryref2_Ahead (a0 : XApi_Func) (a1 : Int) : Option (List Int) :=
  (Loop (fun (s : ((List Int) × Int)) => turneryref2_Ahead_L1 a0 a1 s.1 s.2) ([], 0)).bind fun o391 =>
  some o391
abbrev RV20 : List ResultVar := [.tmp 4]
def R_turneryref2_Ahead (r : (List Int)) : AV := (.own ((r).map cInt_i64))
set_option maxHeartbeats 2000000 in
theorem T_turneryref2_Ahead (nn : Nat) (a0 : XApi_Func) (a1 : Int) (r : (List Int)) (hF : turneryref2_Ahead a0 a1 = some r) : den cx (nn + 1) 20 [(AV.agg (cXApi_Func a0)), (I a1)] = some (R_turneryref2_Ahead r, []) := by
  unfold turneryref2_Ahead at hF
  refine fn_of (nn := nn) (rv := RV20) (cxE _) Tryd.func20 rfl rfl Tryd.ntmps20 (cxL _) rfl ?_
  show W cx 20 _ _ ⟨44, (upd (upd (fun _ => AV.junk) 1 (I a1)) 0 (AV.agg (cXApi_Func a0))), (fun _ => none)⟩ _
  refine v_seq ?_
  refine w_reg ?_
  refine rw_p (ov_boxF (cs := cXApi_Func a0) (cs' := cXApi_Func a0) ag37 fz20 rfl rfl rfl rfl rfl) rfl ?_
  refine rw_p (ov_assign (v := AV.snil) rfl) rfl ?_
  refine rw_nil ?_
  refine q_seq ?_
  refine v_seq ?_
  refine w_reg ?_
  refine rw_p (ov_assign (v := AV.snil) rfl) rfl ?_
  refine rw_nil ?_
  refine q_seq ?_
  refine v_seq ?_
  refine v_seq ?_
  refine w_reg ?_
  refine rw_p (ov_assign (v := (I 0)) rfl) rfl ?_
  refine rw_nil ?_
  refine q_seq ?_
  refine v_block ?_
  obtain ⟨o391, hL392, hF⟩ := bindS hF
  refine v_loop (fun (s : ((List Int) × Int)) => [(I a1), (AV.vp (cXApi_Func a0)), (AV.own ((s.1).map cInt_i64)), (I s.2)]) (fun (s : (List Int)) x => ∃ t h, x = (Exit.exit 0, ⟨44, t, h⟩) ∧ t 5 = (AV.rs [5] 0 (s).length) ∧ h [5] = some (some ((s).map cInt_i64))) hL392 lv20_3 (renorm_of (packL_mk (pk_of (v := (I a1)) rfl rfl) (packL_mk (pk_of (v := (AV.vp (cXApi_Func a0))) rfl rfl) (packL_mk (pk_nilT (c := cInt_i64) rfl) (packL_mk (pk_of (v := (I 0)) rfl rfl) packL_0)))) rfl) ?_ ?_
  · rintro ⟨y356, y357⟩ z358 hF
    replace hF : turneryref2_Ahead_L1 a0 a1 y356 y357 = some z358 := hF
    unfold turneryref2_Ahead_L1 at hF
    show W cx 20 _ _ ⟨44, (upd (upd (upd (upd (fun _ => AV.junk) 6 (I y357)) 5 (AV.rs [5] 0 (y356.map cInt_i64).length)) 2 (AV.vp (cXApi_Func a0))) 1 (I a1)), (upd (fun _ => none) [5] (some (some (y356.map cInt_i64))))⟩ _
    refine v_seq ?_
    refine v_seq ?_
    refine w_reg ?_
    refine rw_p (ov_move (v := (I y357)) rfl) rfl ?_
    refine rw_p (ov_fieldAddr (cells' := ((cXApi_Func a0).drop 3)) fd37_3 rfl rfl rfl rfl) rfl ?_
    refine rw_p (ov_load (v := (AV.sl ((a0.Blocks).map cXApi_Block))) ag35 sz35 rfl rfl rfl) rfl ?_
    refine rw_p (ov_lenSl (m := a0.Blocks.length) Tryd.underlying35 rfl rfl rfl (List.length_map _)) rfl ?_
    refine rw_p (ov_lss (k := .i64) (a := y357) (b := (a0.Blocks.length : Int)) rfl rfl) rfl ?_
    refine rw_nil ?_
    refine q_seq ?_
    refine w_if (p := (decide (y357 < (a0.Blocks.length : Int)))) hF rfl (fun hb390 hF => ?_) (fun hb390 hF => ?_)
    · refine w_skip ?_
      refine q_seq ?_
      refine v_seq ?_
      refine v_block ?_
      refine v_seq ?_
      refine w_reg ?_
      refine rw_p (ov_assign (v := (I 0)) rfl) rfl ?_
      refine rw_nil ?_
      refine q_seq ?_
      refine v_block ?_
      obtain ⟨o379, hL380, hF⟩ := bindS hF
      refine v_loop (fun (s : ((List Int) × Int)) => [(I a1), (AV.vp (cXApi_Func a0)), (AV.own ((s.1).map cInt_i64)), (I y357), (I s.2)]) (fun (s : (List Int)) x => ∃ t h, x = (Exit.exit 2, ⟨44, t, h⟩) ∧ t 1 = (I a1) ∧ t 2 = (AV.vp (cXApi_Func a0)) ∧ t 5 = (AV.rs [5] 0 (s).length) ∧ h [5] = some (some ((s).map cInt_i64)) ∧ t 6 = (I y357)) hL380 lv20_6 (renorm_of (packL_mk (pk_of (v := (I a1)) rfl rfl) (packL_mk (pk_of (v := (AV.vp (cXApi_Func a0))) rfl rfl) (packL_mk (pk_rsT (c := cInt_i64) (q := y356) (congrArg (AV.rs [5] 0) (List.length_map _)) rfl fl_cInt_i64) (packL_mk (pk_of (v := (I y357)) rfl rfl) (packL_mk (pk_of (v := (I 0)) rfl rfl) packL_0))))) rfl) ?_ ?_
      · rintro ⟨y359, y360⟩ z361 hF
        replace hF : turneryref2_Ahead_L2 a0 a1 y357 y359 y360 = some z361 := hF
        unfold turneryref2_Ahead_L2 at hF
        show W cx 20 _ _ ⟨44, (upd (upd (upd (upd (upd (fun _ => AV.junk) 7 (I y360)) 6 (I y357)) 5 (AV.rs [5] 0 (y359.map cInt_i64).length)) 2 (AV.vp (cXApi_Func a0))) 1 (I a1)), (upd (fun _ => none) [5] (some (some (y359.map cInt_i64))))⟩ _
        refine v_seq ?_
        refine v_seq ?_
        refine w_reg ?_
        refine rw_p (ov_move (v := (I y360)) rfl) rfl ?_
        refine rw_p (ov_fieldAddr (cells' := ((cXApi_Func a0).drop 3)) fd37_3 rfl rfl rfl rfl) rfl ?_
        refine rw_p (ov_load (v := (AV.sl ((a0.Blocks).map cXApi_Block))) ag35 sz35 rfl rfl rfl) rfl ?_
        refine rw_p (ov_move (v := (I y357)) rfl) rfl ?_
        obtain ⟨x362, hx363, hF⟩ := bindS hF
        refine rw_p (ov_indexAddr (k := .i64) (c := cXApi_Block) (q := a0.Blocks) (i := y357) Tryd.underlying35 sz53 rfl rfl rfl hx363 rfl) rfl ?_
        refine rw_p (ov_fieldAddr (cells' := ((cXApi_Block x362).drop 2)) fd53_2 rfl rfl rfl rfl) rfl ?_
        refine rw_p (ov_fieldAddr (cells' := ((cXApi_Block x362).drop 5)) fd49_2 rfl rfl rfl rfl) rfl ?_
        refine rw_p (ov_load (v := (AV.sl ((x362.End.To).map cInt_i64))) ag42 sz42 rfl rfl rfl) rfl ?_
        refine rw_p (ov_lenSl (m := x362.End.To.length) Tryd.underlying42 rfl rfl rfl (List.length_map _)) rfl ?_
        refine rw_p (ov_lss (k := .i64) (a := y360) (b := (x362.End.To.length : Int)) rfl rfl) rfl ?_
        refine rw_nil ?_
        refine q_seq ?_
        refine w_if (p := (decide (y360 < (x362.End.To.length : Int)))) hF rfl (fun hb378 hF => ?_) (fun hb378 hF => ?_)
        · refine w_skip ?_
          refine q_seq ?_
          refine v_seq ?_
          refine v_block ?_
          refine v_seq ?_
          refine w_reg ?_
          refine rw_p (ov_fieldAddr (cells' := ((cXApi_Func a0).drop 3)) fd37_3 rfl rfl rfl rfl) rfl ?_
          refine rw_p (ov_load (v := (AV.sl ((a0.Blocks).map cXApi_Block))) ag35 sz35 rfl rfl rfl) rfl ?_
          refine rw_p (ov_move (v := (I y357)) rfl) rfl ?_
          obtain ⟨x371, hx372, hF⟩ := bindS hF
          refine rw_p (ov_indexAddr (k := .i64) (c := cXApi_Block) (q := a0.Blocks) (i := y357) Tryd.underlying35 sz53 rfl rfl rfl hx372 rfl) rfl ?_
          refine rw_p (ov_fieldAddr (cells' := ((cXApi_Block x371).drop 2)) fd53_2 rfl rfl rfl rfl) rfl ?_
          refine rw_p (ov_fieldAddr (cells' := ((cXApi_Block x371).drop 5)) fd49_2 rfl rfl rfl rfl) rfl ?_
          refine rw_p (ov_load (v := (AV.sl ((x371.End.To).map cInt_i64))) ag42 sz42 rfl rfl rfl) rfl ?_
          refine rw_p (ov_move (v := (I y360)) rfl) rfl ?_
          obtain ⟨x373, hx374, hF⟩ := bindS hF
          refine rw_p (ov_indexAddr (k := .i64) (c := cInt_i64) (q := x371.End.To) (i := y360) Tryd.underlying42 sz3 rfl rfl rfl hx374 rfl) rfl ?_
          refine rw_p (ov_load (v := (I x373)) ag3 sz3 rfl rfl rfl) rfl ?_
          refine rw_p (ov_move (v := (I a1)) rfl) rfl ?_
          refine rw_p (ov_eql (k := .i64) (a := x373) (b := a1) rfl rfl) rfl ?_
          refine rw_nil ?_
          refine q_seq ?_
          refine w_if (p := (x373 == a1)) hF rfl (fun hb377 hF => ?_) (fun hb377 hF => ?_)
          · refine w_reg ?_
            refine rw_p (ov_move (v := (AV.rs [5] 0 (y359).length)) (congrArg (un _) (congrArg (AV.rs [5] 0) (List.length_map _)))) rfl ?_
            refine rw_p (ov_move (v := (I y357)) rfl) rfl ?_
            refine rw_p (ov_buildSliceF (ps := [(0, (I y357))]) (rows := ([y357] : List Int).map cInt_i64) (rows' := ([y357] : List Int).map cInt_i64) Tryd.underlying42 zc3 ag3 sz3 rfl (cons_eqp rfl rfl) rfl fz20 rfl rfl rfl) rfl ?_
            obtain ⟨x375, hx376, hF⟩ := bindS hF
            refine rw_w (ov_append (c := cInt_i64) (q := y359) (q' := [y357]) rfl Tryd.underlying42 rfl Tryd.underlying42 ao3 rfl rfl rfl rfl ln_cInt_i64 rfl hx376 rfl) rfl ?_
            refine rw_p (ov_assign (v := (AV.rs [42] 0 (x375).length)) rfl) rfl ?_
            refine rw_nil ?_
            refine q_blk ?_
            refine q_seq ?_
            refine w_reg ?_
            refine rw_p (ov_move (v := (I y360)) rfl) rfl ?_
            refine rw_p (ov_add (k := .i64) (a := y360) (b := 1) rfl rfl) rfl ?_
            refine rw_p (ov_assign (v := (I (w64 (y360 + 1)))) rfl) rfl ?_
            refine rw_nil ?_
            obtain rfl := Option.some.inj hF
            exact q_next (renorm_of (packL_mk (pk_of (v := (I a1)) rfl rfl) (packL_mk (pk_of (v := (AV.vp (cXApi_Func a0))) rfl rfl) (packL_mk (pk_rsT (c := cInt_i64) (q := x375) rfl rfl fl_cInt_i64) (packL_mk (pk_of (v := (I y357)) rfl rfl) (packL_mk (pk_of (v := (I (w64 (y360 + 1)))) rfl rfl) packL_0))))) rfl)
          · refine w_skip ?_
            refine q_blk ?_
            refine q_seq ?_
            refine w_reg ?_
            refine rw_p (ov_move (v := (I y360)) rfl) rfl ?_
            refine rw_p (ov_add (k := .i64) (a := y360) (b := 1) rfl rfl) rfl ?_
            refine rw_p (ov_assign (v := (I (w64 (y360 + 1)))) rfl) rfl ?_
            refine rw_nil ?_
            obtain rfl := Option.some.inj hF
            exact q_next (renorm_of (packL_mk (pk_of (v := (I a1)) rfl rfl) (packL_mk (pk_of (v := (AV.vp (cXApi_Func a0))) rfl rfl) (packL_mk (pk_rsT (c := cInt_i64) (q := y359) (congrArg (AV.rs [5] 0) (List.length_map _)) rfl fl_cInt_i64) (packL_mk (pk_of (v := (I y357)) rfl rfl) (packL_mk (pk_of (v := (I (w64 (y360 + 1)))) rfl rfl) packL_0))))) rfl)
        · refine w_exit ?_
          refine q_seqE ?_
          obtain rfl := Option.some.inj hF
          refine q_out ?_
          exact ⟨_, _, rfl, rfl, rfl, (congrArg (AV.rs [5] 0) (List.length_map _)), rfl, rfl⟩
      · rintro x388 hr389
        obtain ⟨t381, h382, rfl, e383, e384, e385, e386, e387⟩ := hr389
        refine q_blkH ?_
        refine q_blk ?_
        refine q_seq ?_
        refine w_reg ?_
        refine rw_p (ov_move (v := (I y357)) (congrArg (un _) e387)) rfl ?_
        refine rw_p (ov_add (k := .i64) (a := y357) (b := 1) rfl rfl) rfl ?_
        refine rw_p (ov_assign (v := (I (w64 (y357 + 1)))) rfl) rfl ?_
        refine rw_nil ?_
        obtain rfl := Option.some.inj hF
        exact q_next (renorm_of (packL_mk (pk_of (v := (I a1)) e383 rfl) (packL_mk (pk_of (v := (AV.vp (cXApi_Func a0))) e384 rfl) (packL_mk (pk_rsT (c := cInt_i64) (q := o379) e385 e386 fl_cInt_i64) (packL_mk (pk_of (v := (I (w64 (y357 + 1)))) rfl rfl) packL_0)))) rfl)
    · refine w_exit ?_
      refine q_seqE ?_
      obtain rfl := Option.some.inj hF
      refine q_out ?_
      exact ⟨_, _, rfl, (congrArg (AV.rs [5] 0) (List.length_map _)), rfl⟩
  · rintro x397 hr398
    obtain ⟨t393, h394, rfl, e395, e396⟩ := hr398
    refine q_blkH ?_
    refine q_seq ?_
    refine v_seq ?_
    refine w_reg ?_
    refine rw_p (ov_move (v := (AV.rs [5] 0 (o391).length)) (congrArg (un _) e395)) rfl ?_
    refine rw_p (ov_assign (v := (AV.rs [5] 0 (o391).length)) rfl) rfl ?_
    refine rw_nil ?_
    refine q_seq ?_
    refine w_ret ?_
    obtain rfl := Option.some.inj hF
    exact (fin_ret (res_tmp (pk_rsT (c := cInt_i64) (q := o391) rfl e396 fl_cInt_i64) res_nil) rfl rfl)

/-! turnery/turneryref2.vals -/
noncomputable def turneryref2_vals_L1 (a0 : XApi_Func) (a1 : (List XApi_Val)) (y401 : Int) : Option (Lp Int (Br Unit Bool)) :=
  if (decide (y401 < (a1.length : Int))) then
  ((idx a1 y401).bind fun x403 =>
  (turneryref2_val a0 x403).bind fun x405 =>
  if (!x405) then
  (some (.out (.ret false)))
  else
  (some (.next (w64 (y401 + 1)))))
  else
  (some (.out (.brk ())))
noncomputable def turneryref2_vals (a0 : XApi_Func) (a1 : (List XApi_Val)) : Option Bool :=
  (Loop (fun (s : Int) => turneryref2_vals_L1 a0 a1 s) 0).bind fun o409 => match o409 with
  | .ret r416 => some r416
  | .brk b411 =>
  some true
abbrev RV72 : List ResultVar := [.tmp 4]
def R_turneryref2_vals (r : Bool) : AV := (B r)
set_option maxHeartbeats 2000000 in
theorem T_turneryref2_vals (nn : Nat) (a0 : XApi_Func) (a1 : (List XApi_Val)) (r : Bool) (hF : turneryref2_vals a0 a1 = some r) : den cx (nn + 3) 72 [(AV.agg (cXApi_Func a0)), (AV.sl ((a1).map cXApi_Val))] = some (R_turneryref2_vals r, []) := by
  unfold turneryref2_vals at hF
  refine fn_of (nn := (nn + 2)) (rv := RV72) (cxE _) Tryd.func72 rfl rfl Tryd.ntmps72 (cxL _) rfl ?_
  show W cx 72 _ _ ⟨19, (upd (upd (fun _ => AV.junk) 1 (AV.sl ((a1).map cXApi_Val))) 0 (AV.agg (cXApi_Func a0))), (fun _ => none)⟩ _
  refine v_seq ?_
  refine w_reg ?_
  refine rw_p (ov_boxF (cs := cXApi_Func a0) (cs' := cXApi_Func a0) ag37 fz72 rfl rfl rfl rfl rfl) rfl ?_
  refine rw_p (ov_assign (v := (B false)) rfl) rfl ?_
  refine rw_nil ?_
  refine q_seq ?_
  refine v_seq ?_
  refine v_seq ?_
  refine w_reg ?_
  refine rw_p (ov_assign (v := (I 0)) rfl) rfl ?_
  refine rw_nil ?_
  refine q_seq ?_
  refine v_block ?_
  obtain ⟨o409, hL410, hF⟩ := bindS hF
  refine v_loop (fun (s : Int) => [(AV.sl ((a1).map cXApi_Val)), (AV.vp (cXApi_Func a0)), (I s)]) (RelO (fun (s : Unit) x => ∃ t h, x = (Exit.exit 0, ⟨19, t, h⟩) ∧ True) (fun r x => x.1 = Exit.ret ∧ Fin cx RV72 (R_turneryref2_vals r) x)) hL410 lv72_2 (renorm_of (packL_mk (pk_of (v := (AV.sl ((a1).map cXApi_Val))) rfl rfl) (packL_mk (pk_of (v := (AV.vp (cXApi_Func a0))) rfl rfl) (packL_mk (pk_of (v := (I 0)) rfl rfl) packL_0))) rfl) ?_ ?_
  · rintro y401 z402 hF
    replace hF : turneryref2_vals_L1 a0 a1 y401 = some z402 := hF
    unfold turneryref2_vals_L1 at hF
    show W cx 72 _ _ ⟨19, (upd (upd (upd (fun _ => AV.junk) 5 (I y401)) 2 (AV.vp (cXApi_Func a0))) 1 (AV.sl ((a1).map cXApi_Val))), (fun _ => none)⟩ _
    refine v_seq ?_
    refine v_seq ?_
    refine w_reg ?_
    refine rw_p (ov_move (v := (I y401)) rfl) rfl ?_
    refine rw_p (ov_move (v := (AV.sl ((a1).map cXApi_Val))) rfl) rfl ?_
    refine rw_p (ov_lenSl (m := a1.length) Tryd.underlying54 rfl rfl rfl (List.length_map _)) rfl ?_
    refine rw_p (ov_lss (k := .i64) (a := y401) (b := (a1.length : Int)) rfl rfl) rfl ?_
    refine rw_nil ?_
    refine q_seq ?_
    refine w_if (p := (decide (y401 < (a1.length : Int)))) hF rfl (fun hb408 hF => ?_) (fun hb408 hF => ?_)
    · refine w_skip ?_
      refine q_seq ?_
      refine v_seq ?_
      refine v_block ?_
      refine v_seq ?_
      refine w_regD ?_
      refine rw_p (ov_load (v := (AV.agg (cXApi_Func a0))) ag37 sz37 rfl rfl rfl) rfl ?_
      refine rw_p (ov_move (v := (AV.sl ((a1).map cXApi_Val))) rfl) rfl ?_
      refine rw_p (ov_move (v := (I y401)) rfl) rfl ?_
      obtain ⟨x403, hx404, hF⟩ := bindS hF
      refine rw_p (ov_indexAddr (k := .i64) (c := cXApi_Val) (q := a1) (i := y401) Tryd.underlying54 sz47 rfl rfl rfl hx404 rfl) rfl ?_
      refine rw_p (ov_load (v := (AV.agg (cXApi_Val x403))) ag47 sz47 rfl rfl rfl) rfl ?_
      obtain ⟨x405, hx406, hF⟩ := bindS hF
      refine rw_p (ov_call (args := [(AV.agg (cXApi_Func a0)), (AV.agg (cXApi_Val x403))]) (r := (R_turneryref2_val x405)) (v := (B x405)) rfl (cons_eq rfl (cons_eq rfl rfl)) rfl rfl (T_turneryref2_val nn a0 x403 x405 hx406) fz72 rfl rfl) rfl ?_
      refine rw_p (ov_not (p := x405) rfl) rfl ?_
      refine rw_nil ⟨rfl, ?_⟩
      refine q_seq ?_
      refine w_if (p := (!x405)) hF rfl (fun hb407 hF => ?_) (fun hb407 hF => ?_)
      · refine v_seq ?_
        refine w_reg ?_
        refine rw_p (ov_assign (v := (B false)) rfl) rfl ?_
        refine rw_nil ?_
        refine q_seq ?_
        refine w_ret ?_
        refine q_blkR ?_
        refine q_seqR ?_
        obtain rfl := Option.some.inj hF
        exact q_outR (relR ⟨rfl, (fin_ret (res_tmp (pk_of (v := (B false)) rfl rfl) res_nil) rfl rfl)⟩)
      · refine w_skip ?_
        refine q_blk ?_
        refine q_seq ?_
        refine w_reg ?_
        refine rw_p (ov_move (v := (I y401)) rfl) rfl ?_
        refine rw_p (ov_add (k := .i64) (a := y401) (b := 1) rfl rfl) rfl ?_
        refine rw_p (ov_assign (v := (I (w64 (y401 + 1)))) rfl) rfl ?_
        refine rw_nil ?_
        obtain rfl := Option.some.inj hF
        exact q_next (renorm_of (packL_mk (pk_of (v := (AV.sl ((a1).map cXApi_Val))) rfl rfl) (packL_mk (pk_of (v := (AV.vp (cXApi_Func a0))) rfl rfl) (packL_mk (pk_of (v := (I (w64 (y401 + 1)))) rfl rfl) packL_0))) rfl)
    · refine w_exit ?_
      refine q_seqE ?_
      obtain rfl := Option.some.inj hF
      refine q_out (relB ?_)
      exact ⟨_, _, rfl, trivial⟩
  · rintro x414 hr415
    cases o409 with
    | ret r416 =>
      replace hF : some r416 = some r := hF
      obtain rfl := Option.some.inj hF
      obtain ⟨xe, xs⟩ := x414
      obtain ⟨hxe, hfin⟩ := hr415
      obtain rfl : xe = Exit.ret := hxe
      refine q_blkR ?_
      refine q_seqR ?_
      exact hfin
    | brk b411 =>
      obtain ⟨t412, h413, rfl, _⟩ := hr415
      refine q_blkH ?_
      refine q_seq ?_
      refine v_seq ?_
      refine w_reg ?_
      refine rw_p (ov_assign (v := (B true)) rfl) rfl ?_
      refine rw_nil ?_
      refine q_seq ?_
      refine w_ret ?_
      obtain rfl := Option.some.inj hF
      exact (fin_ret (res_tmp (pk_of (v := (B true)) rfl rfl) res_nil) rfl rfl)

/-! turnery/turneryref2.phi -/

noncomputable def turneryref2_phi (a0 : XApi_Func) (a1 : Int) (a2 : XApi_Phi) : Option Int :=
  if (a1 == 0) then
  (some 5)
  else
  ((turneryref2_in a2.Dst 0 (w64 (a0.Regs - 1))).bind fun x354 =>
  if (!x354) then
  (some 3)
  else
  ((turneryref2_Ahead a0 a1).bind fun x399 =>
  if ((a2.From.length : Int) != (x399.length : Int)) then
  (some 9)
  else
  ((turneryref2_vals a0 a2.From).bind fun x417 =>
  if (!x417) then
  (some 3)
  else
  (some 0))))
abbrev RV55 : List ResultVar := [.tmp 6]
def R_turneryref2_phi (r : Int) : AV := (I r)
set_option maxHeartbeats 2000000 in
theorem T_turneryref2_phi (nn : Nat) (a0 : XApi_Func) (a1 : Int) (a2 : XApi_Phi) (r : Int) (hF : turneryref2_phi a0 a1 a2 = some r) : den cx (nn + 4) 55 [(AV.agg (cXApi_Func a0)), (I a1), (AV.agg (cXApi_Phi a2))] = some (R_turneryref2_phi r, []) := by
  unfold turneryref2_phi at hF
  refine fn_of (nn := (nn + 3)) (rv := RV55) (cxE _) Tryd.func55 rfl rfl Tryd.ntmps55 (cxL _) rfl ?_
  show W cx 55 _ _ ⟨29, (upd (upd (upd (fun _ => AV.junk) 2 (AV.agg (cXApi_Phi a2))) 1 (I a1)) 0 (AV.agg (cXApi_Func a0))), (fun _ => none)⟩ _
  refine v_seq ?_
  refine w_reg ?_
  refine rw_p (ov_boxF (cs := cXApi_Func a0) (cs' := cXApi_Func a0) ag37 fz55 rfl rfl rfl rfl rfl) rfl ?_
  refine rw_p (ov_boxF (cs := cXApi_Phi a2) (cs' := cXApi_Phi a2) ag107 fz55 rfl rfl rfl rfl rfl) rfl ?_
  refine rw_p (ov_assign (v := (I 0)) rfl) rfl ?_
  refine rw_nil ?_
  refine q_seq ?_
  refine v_seq ?_
  refine v_seq ?_
  refine w_reg ?_
  refine rw_p (ov_move (v := (I a1)) rfl) rfl ?_
  refine rw_p (ov_eql (k := .i64) (a := a1) (b := 0) rfl rfl) rfl ?_
  refine rw_nil ?_
  refine q_seq ?_
  refine w_if (p := (a1 == 0)) hF rfl (fun hb422 hF => ?_) (fun hb422 hF => ?_)
  · refine v_seq ?_
    refine w_reg ?_
    refine rw_p (ov_assign (v := (I 5)) rfl) rfl ?_
    refine rw_nil ?_
    refine q_seq ?_
    refine w_ret ?_
    refine q_seqR ?_
    obtain rfl := Option.some.inj hF
    exact (fin_ret (res_tmp (pk_of (v := (I 5)) rfl rfl) res_nil) rfl rfl)
  · refine w_skip ?_
    refine q_seq ?_
    refine v_seq ?_
    refine v_seq ?_
    refine w_reg ?_
    refine rw_p (ov_fieldAddr (cells' := (cXApi_Phi a2)) fd107_0 rfl rfl rfl rfl) rfl ?_
    refine rw_p (ov_load (v := (I a2.Dst)) ag3 sz3 rfl rfl rfl) rfl ?_
    refine rw_p (ov_fieldAddr (cells' := ((cXApi_Func a0).drop 2)) fd37_2 rfl rfl rfl rfl) rfl ?_
    refine rw_p (ov_load (v := (I a0.Regs)) ag3 sz3 rfl rfl rfl) rfl ?_
    refine rw_p (ov_sub (k := .i64) (a := a0.Regs) (b := 1) rfl rfl) rfl ?_
    obtain ⟨x354, hx355, hF⟩ := bindS hF
    refine rw_p (ov_call (args := [(I a2.Dst), (I 0), (I (w64 (a0.Regs - 1)))]) (r := (R_turneryref2_in x354)) (v := (B x354)) rfl (cons_eq rfl (cons_eq rfl (cons_eq rfl rfl))) rfl rfl (T_turneryref2_in (nn + 2) a2.Dst 0 (w64 (a0.Regs - 1)) x354 hx355) fz55 rfl rfl) rfl ?_
    refine rw_p (ov_not (p := x354) rfl) rfl ?_
    refine rw_nil ?_
    refine q_seq ?_
    refine w_if (p := (!x354)) hF rfl (fun hb421 hF => ?_) (fun hb421 hF => ?_)
    · refine v_seq ?_
      refine w_reg ?_
      refine rw_p (ov_assign (v := (I 3)) rfl) rfl ?_
      refine rw_nil ?_
      refine q_seq ?_
      refine w_ret ?_
      refine q_seqR ?_
      obtain rfl := Option.some.inj hF
      exact (fin_ret (res_tmp (pk_of (v := (I 3)) rfl rfl) res_nil) rfl rfl)
    · refine w_skip ?_
      refine q_seq ?_
      refine v_seq ?_
      refine v_seq ?_
      refine w_regD ?_
      refine rw_p (ov_fieldAddr (cells' := ((cXApi_Phi a2).drop 1)) fd107_1 rfl rfl rfl rfl) rfl ?_
      refine rw_p (ov_load (v := (AV.sl ((a2.From).map cXApi_Val))) ag54 sz54 rfl rfl rfl) rfl ?_
      refine rw_p (ov_lenSl (m := a2.From.length) Tryd.underlying54 rfl rfl rfl (List.length_map _)) rfl ?_
      refine rw_p (ov_load (v := (AV.agg (cXApi_Func a0))) ag37 sz37 rfl rfl rfl) rfl ?_
      refine rw_p (ov_move (v := (I a1)) rfl) rfl ?_
      obtain ⟨x399, hx400, hF⟩ := bindS hF
      refine rw_p (ov_call (args := [(AV.agg (cXApi_Func a0)), (I a1)]) (r := (R_turneryref2_Ahead x399)) (v := (AV.sl ((x399).map cInt_i64))) rfl (cons_eq rfl (cons_eq rfl rfl)) rfl rfl (T_turneryref2_Ahead (nn + 2) a0 a1 x399 hx400) fz55 (by rw [if_pos (by rfl)]; exact (fz_map _ _ (fun _ => rfl) _)) rfl) rfl ?_
      refine rw_p (ov_lenSl (m := x399.length) Tryd.underlying42 rfl rfl rfl (List.length_map _)) rfl ?_
      refine rw_p (ov_neq (k := .i64) (a := (a2.From.length : Int)) (b := (x399.length : Int)) rfl rfl) rfl ?_
      refine rw_nil ⟨rfl, ?_⟩
      refine q_seq ?_
      refine w_if (p := ((a2.From.length : Int) != (x399.length : Int))) hF rfl (fun hb420 hF => ?_) (fun hb420 hF => ?_)
      · refine v_seq ?_
        refine w_reg ?_
        refine rw_p (ov_assign (v := (I 9)) rfl) rfl ?_
        refine rw_nil ?_
        refine q_seq ?_
        refine w_ret ?_
        refine q_seqR ?_
        obtain rfl := Option.some.inj hF
        exact (fin_ret (res_tmp (pk_of (v := (I 9)) rfl rfl) res_nil) rfl rfl)
      · refine w_skip ?_
        refine q_seq ?_
        refine v_seq ?_
        refine v_seq ?_
        refine w_reg ?_
        refine rw_p (ov_load (v := (AV.agg (cXApi_Func a0))) ag37 sz37 rfl rfl rfl) rfl ?_
        refine rw_p (ov_fieldAddr (cells' := ((cXApi_Phi a2).drop 1)) fd107_1 rfl rfl rfl rfl) rfl ?_
        refine rw_p (ov_load (v := (AV.sl ((a2.From).map cXApi_Val))) ag54 sz54 rfl rfl rfl) rfl ?_
        obtain ⟨x417, hx418, hF⟩ := bindS hF
        refine rw_p (ov_call (args := [(AV.agg (cXApi_Func a0)), (AV.sl ((a2.From).map cXApi_Val))]) (r := (R_turneryref2_vals x417)) (v := (B x417)) rfl (cons_eq rfl (cons_eq rfl rfl)) rfl rfl (T_turneryref2_vals nn a0 a2.From x417 hx418) fz55 rfl rfl) rfl ?_
        refine rw_p (ov_not (p := x417) rfl) rfl ?_
        refine rw_nil ?_
        refine q_seq ?_
        refine w_if (p := (!x417)) hF rfl (fun hb419 hF => ?_) (fun hb419 hF => ?_)
        · refine v_seq ?_
          refine w_reg ?_
          refine rw_p (ov_assign (v := (I 3)) rfl) rfl ?_
          refine rw_nil ?_
          refine q_seq ?_
          refine w_ret ?_
          refine q_seqR ?_
          obtain rfl := Option.some.inj hF
          exact (fin_ret (res_tmp (pk_of (v := (I 3)) rfl rfl) res_nil) rfl rfl)
        · refine w_skip ?_
          refine q_seq ?_
          refine v_seq ?_
          refine w_reg ?_
          refine rw_p (ov_assign (v := (I 0)) rfl) rfl ?_
          refine rw_nil ?_
          refine q_seq ?_
          refine w_ret ?_
          obtain rfl := Option.some.inj hF
          exact (fin_ret (res_tmp (pk_of (v := (I 0)) rfl rfl) res_nil) rfl rfl)

/-! turnery/turneryref2.Dst -/

noncomputable def turneryref2_Dst (a0 : Int) : Option Bool :=
  (turneryref2_in a0 1 18).bind fun x442 =>
  some (if (if x442 then true else (a0 == 20)) then true else (a0 == 21))
abbrev RV73 : List ResultVar := [.tmp 2]
def R_turneryref2_Dst (r : Bool) : AV := (B r)
set_option maxHeartbeats 2000000 in
theorem T_turneryref2_Dst (nn : Nat) (a0 : Int) (r : Bool) (hF : turneryref2_Dst a0 = some r) : den cx (nn + 2) 73 [(I a0)] = some (R_turneryref2_Dst r, []) := by
  unfold turneryref2_Dst at hF
  refine fn_of (nn := (nn + 1)) (rv := RV73) (cxE _) Tryd.func73 rfl rfl Tryd.ntmps73 (cxL _) rfl ?_
  show W cx 73 _ _ ⟨13, (upd (fun _ => AV.junk) 0 (I a0)), (fun _ => none)⟩ _
  refine v_seq ?_
  refine w_reg ?_
  refine rw_p (ov_assign (v := (B false)) rfl) rfl ?_
  refine rw_nil ?_
  refine q_seq ?_
  refine v_seq ?_
  refine w_reg ?_
  refine rw_p (ov_move (v := (I a0)) rfl) rfl ?_
  obtain ⟨x442, hx443, hF⟩ := bindS hF
  refine rw_p (ov_call (args := [(I a0), (I 1), (I 18)]) (r := (R_turneryref2_in x442)) (v := (B x442)) rfl (cons_eq rfl (cons_eq rfl (cons_eq rfl rfl))) rfl rfl (T_turneryref2_in nn a0 1 18 x442 hx443) fz73 rfl rfl) rfl ?_
  refine rw_p (ov_move (v := (B x442)) rfl) rfl ?_
  refine rw_g rfl (ov_move (v := (I a0)) rfl) rfl ?_
  refine rw_g rfl (ov_eql (k := .i64) (a := a0) (b := 20) (un_self _) rfl) rfl ?_
  refine rw_p (ov_pickB (p := x442) (q := true) (r := (a0 == 20)) rfl rfl (un_imp (by generalize x442 = u0; cases u0 <;> rfl))) rfl ?_
  refine rw_p (ov_move (v := (B (if x442 then true else (a0 == 20)))) rfl) rfl ?_
  refine rw_g rfl (ov_move (v := (I a0)) rfl) rfl ?_
  refine rw_g rfl (ov_eql (k := .i64) (a := a0) (b := 21) (un_self _) rfl) rfl ?_
  refine rw_p (ov_pickB (p := (if x442 then true else (a0 == 20))) (q := true) (r := (a0 == 21)) rfl rfl (un_imp (by generalize (if x442 then true else (a0 == 20)) = u0; cases u0 <;> rfl))) rfl ?_
  refine rw_p (ov_assign (v := (B (if (if x442 then true else (a0 == 20)) then true else (a0 == 21)))) rfl) rfl ?_
  refine rw_nil ?_
  refine q_seq ?_
  refine w_ret ?_
  obtain rfl := Option.some.inj hF
  exact (fin_ret (res_tmp (pk_of (v := (B (if (if x442 then true else (a0 == 20)) then true else (a0 == 21)))) rfl rfl) res_nil) rfl rfl)

/-! turnery/turneryref2.SpeaksA -/

noncomputable def turneryref2_SpeaksA (a0 : Int) : Option Bool :=
  (turneryref2_in a0 1 19).bind fun x473 =>
  some (if x473 then true else (a0 == 22))
abbrev RV74 : List ResultVar := [.tmp 2]
def R_turneryref2_SpeaksA (r : Bool) : AV := (B r)
set_option maxHeartbeats 2000000 in
theorem T_turneryref2_SpeaksA (nn : Nat) (a0 : Int) (r : Bool) (hF : turneryref2_SpeaksA a0 = some r) : den cx (nn + 2) 74 [(I a0)] = some (R_turneryref2_SpeaksA r, []) := by
  unfold turneryref2_SpeaksA at hF
  refine fn_of (nn := (nn + 1)) (rv := RV74) (cxE _) Tryd.func74 rfl rfl Tryd.ntmps74 (cxL _) rfl ?_
  show W cx 74 _ _ ⟨9, (upd (fun _ => AV.junk) 0 (I a0)), (fun _ => none)⟩ _
  refine v_seq ?_
  refine w_reg ?_
  refine rw_p (ov_assign (v := (B false)) rfl) rfl ?_
  refine rw_nil ?_
  refine q_seq ?_
  refine v_seq ?_
  refine w_reg ?_
  refine rw_p (ov_move (v := (I a0)) rfl) rfl ?_
  obtain ⟨x473, hx474, hF⟩ := bindS hF
  refine rw_p (ov_call (args := [(I a0), (I 1), (I 19)]) (r := (R_turneryref2_in x473)) (v := (B x473)) rfl (cons_eq rfl (cons_eq rfl (cons_eq rfl rfl))) rfl rfl (T_turneryref2_in nn a0 1 19 x473 hx474) fz74 rfl rfl) rfl ?_
  refine rw_p (ov_move (v := (B x473)) rfl) rfl ?_
  refine rw_g rfl (ov_move (v := (I a0)) rfl) rfl ?_
  refine rw_g rfl (ov_eql (k := .i64) (a := a0) (b := 22) (un_self _) rfl) rfl ?_
  refine rw_p (ov_pickB (p := x473) (q := true) (r := (a0 == 22)) rfl rfl (un_imp (by generalize x473 = u0; cases u0 <;> rfl))) rfl ?_
  refine rw_p (ov_assign (v := (B (if x473 then true else (a0 == 22)))) rfl) rfl ?_
  refine rw_nil ?_
  refine q_seq ?_
  refine w_ret ?_
  obtain rfl := Option.some.inj hF
  exact (fin_ret (res_tmp (pk_of (v := (B (if x473 then true else (a0 == 22)))) rfl rfl) res_nil) rfl rfl)

/-! turnery/turneryref2.SpeaksB -/

noncomputable def turneryref2_SpeaksB (a0 : Int) : Option Bool :=
  (turneryref2_in a0 2 15).bind fun x513 =>
  some (if x513 then true else (a0 == 19))
abbrev RV75 : List ResultVar := [.tmp 2]
def R_turneryref2_SpeaksB (r : Bool) : AV := (B r)
set_option maxHeartbeats 2000000 in
theorem T_turneryref2_SpeaksB (nn : Nat) (a0 : Int) (r : Bool) (hF : turneryref2_SpeaksB a0 = some r) : den cx (nn + 2) 75 [(I a0)] = some (R_turneryref2_SpeaksB r, []) := by
  unfold turneryref2_SpeaksB at hF
  refine fn_of (nn := (nn + 1)) (rv := RV75) (cxE _) Tryd.func75 rfl rfl Tryd.ntmps75 (cxL _) rfl ?_
  show W cx 75 _ _ ⟨9, (upd (fun _ => AV.junk) 0 (I a0)), (fun _ => none)⟩ _
  refine v_seq ?_
  refine w_reg ?_
  refine rw_p (ov_assign (v := (B false)) rfl) rfl ?_
  refine rw_nil ?_
  refine q_seq ?_
  refine v_seq ?_
  refine w_reg ?_
  refine rw_p (ov_move (v := (I a0)) rfl) rfl ?_
  obtain ⟨x513, hx514, hF⟩ := bindS hF
  refine rw_p (ov_call (args := [(I a0), (I 2), (I 15)]) (r := (R_turneryref2_in x513)) (v := (B x513)) rfl (cons_eq rfl (cons_eq rfl (cons_eq rfl rfl))) rfl rfl (T_turneryref2_in nn a0 2 15 x513 hx514) fz75 rfl rfl) rfl ?_
  refine rw_p (ov_move (v := (B x513)) rfl) rfl ?_
  refine rw_g rfl (ov_move (v := (I a0)) rfl) rfl ?_
  refine rw_g rfl (ov_eql (k := .i64) (a := a0) (b := 19) (un_self _) rfl) rfl ?_
  refine rw_p (ov_pickB (p := x513) (q := true) (r := (a0 == 19)) rfl rfl (un_imp (by generalize x513 = u0; cases u0 <;> rfl))) rfl ?_
  refine rw_p (ov_assign (v := (B (if x513 then true else (a0 == 19)))) rfl) rfl ?_
  refine rw_nil ?_
  refine q_seq ?_
  refine w_ret ?_
  obtain rfl := Option.some.inj hF
  exact (fin_ret (res_tmp (pk_of (v := (B (if x513 then true else (a0 == 19)))) rfl rfl) res_nil) rfl rfl)

end Go.Ab
