/-
  Functions of the program as functions on plain data (written by gen.py).
-/
import Derived.Test.YtbgakafgplbbnaaDoorAbGen2
namespace Go.Ab
open Go Go.Proofs
/-! (turnery/code.checker).head -/
noncomputable def code_checker_head_L1 (a0 : XCode_checker) (y769 : Int) (y770 : Int) : Option (Lp (Int × Int) Int) :=
  if (decide (y770 < (a0.f.Blocks.length : Int))) then
  ((idx a0.f.Blocks y770).bind fun x772 =>
  some (.next ((w64 (y769 + (w64 ((x772.Phis.length : Int) + (x772.List.length : Int))))), (w64 (y770 + 1)))))
  else
  (some (.out y769))
noncomputable def code_checker_head (a0 : XCode_checker) (a1 : (List ByteArray)) : Option Int :=
  (Loop (fun (s : (Int × Int)) => code_checker_head_L1 a0 s.1 s.2) (0, 0)).bind fun o775 =>
  (core_Name a0.f.Name).bind fun x782 =>
  if (!x782) then
  (some 12)
  else
  ((slices_Contains_string_string a1 a0.f.Name).bind fun x784 =>
  if x784 then
  (some 7)
  else
  ((core_Within a0.f.Params 0 6).bind fun x786 =>
  (if (!x786) then some true else (core_Within a0.f.Regs a0.f.Params 100).bind fun x797 =>
  some (!x797)).bind fun p788 =>
  if p788 then
  (some 3)
  else
  ((core_Within (a0.f.Blocks.length : Int) 1 40).bind fun x806 =>
  if (if (!x806) then true else (decide (300 < o775))) then
  (some 2)
  else
  (some 0))))
abbrev RV38 : List ResultVar := [.tmp 4]
def R_code_checker_head (r : Int) : AV := (I r)
set_option maxHeartbeats 2000000 in
theorem T_code_checker_head (nn : Nat) (a0 : XCode_checker) (a1 : (List ByteArray)) (r : Int) (hF : code_checker_head a0 a1 = some r) : den cx (nn + 3) 38 [(AV.agg (cXCode_checker a0)), (AV.sl ((a1).map cStr))] = some (R_code_checker_head r, []) := by
  unfold code_checker_head at hF
  refine fn_of (nn := (nn + 2)) (rv := RV38) (cxE _) Tryd.func38 rfl rfl Tryd.ntmps38 (cxL _) rfl ?_
  show W cx 38 _ _ ⟨65, (upd (upd (fun _ => AV.junk) 1 (AV.sl ((a1).map cStr))) 0 (AV.agg (cXCode_checker a0))), (fun _ => none)⟩ _
  refine v_seq ?_
  refine w_reg ?_
  refine rw_p (ov_boxF (cs := cXCode_checker a0) (cs' := cXCode_checker a0) ag82 fz38 rfl rfl rfl rfl rfl) rfl ?_
  refine rw_p (ov_assign (v := (I 0)) rfl) rfl ?_
  refine rw_nil ?_
  refine q_seq ?_
  refine v_seq ?_
  refine w_reg ?_
  refine rw_p (ov_assign (v := (I 0)) rfl) rfl ?_
  refine rw_nil ?_
  refine q_seq ?_
  refine v_seq ?_
  refine v_seq ?_
  refine w_reg ?_
  refine rw_p (ov_fieldAddr (cells' := ((cXCode_checker a0).drop 2)) fd82_1 rfl rfl rfl rfl) rfl ?_
  refine rw_p (ov_fieldAddr (cells' := ((cXCode_checker a0).drop 5)) fd37_3 rfl rfl rfl rfl) rfl ?_
  refine rw_p (ov_load (v := (AV.sl ((a0.f.Blocks).map cXApi_Block))) ag35 sz35 rfl rfl rfl) rfl ?_
  refine rw_p (ov_lenSl (m := a0.f.Blocks.length) Tryd.underlying35 rfl rfl rfl (List.length_map _)) rfl ?_
  refine rw_p (ov_move (v := (I 0)) rfl) rfl ?_
  refine rw_nil ?_
  refine q_seq ?_
  refine v_block ?_
  obtain ⟨o775, hL776, hF⟩ := bindS hF
  refine v_loop (fun (s : (Int × Int)) => [(AV.sl ((a1).map cStr)), (AV.vp (cXCode_checker a0)), (I s.1), (AV.sl ((a0.f.Blocks).map cXApi_Block)), (I (a0.f.Blocks.length : Int)), (I s.2)]) (fun (s : Int) x => ∃ t h, x = (Exit.exit 0, ⟨65, t, h⟩) ∧ t 1 = (AV.sl ((a1).map cStr)) ∧ t 2 = (AV.vp (cXCode_checker a0)) ∧ t 5 = (I s)) hL776 lv38_3 (renorm_of (packL_mk (pk_of (v := (AV.sl ((a1).map cStr))) rfl rfl) (packL_mk (pk_of (v := (AV.vp (cXCode_checker a0))) rfl rfl) (packL_mk (pk_of (v := (I 0)) rfl rfl) (packL_mk (pk_of (v := (AV.sl ((a0.f.Blocks).map cXApi_Block))) rfl rfl) (packL_mk (pk_of (v := (I (a0.f.Blocks.length : Int))) rfl rfl) (packL_mk (pk_of (v := (I 0)) rfl rfl) packL_0)))))) rfl) ?_ ?_
  · rintro ⟨y769, y770⟩ z771 hF
    replace hF : code_checker_head_L1 a0 y769 y770 = some z771 := hF
    unfold code_checker_head_L1 at hF
    show W cx 38 _ _ ⟨65, (upd (upd (upd (upd (upd (upd (fun _ => AV.junk) 12 (I y770)) 11 (I (a0.f.Blocks.length : Int))) 10 (AV.sl ((a0.f.Blocks).map cXApi_Block))) 5 (I y769)) 2 (AV.vp (cXCode_checker a0))) 1 (AV.sl ((a1).map cStr))), (fun _ => none)⟩ _
    refine v_seq ?_
    refine w_reg ?_
    refine rw_p (ov_lss (k := .i64) (a := y770) (b := (a0.f.Blocks.length : Int)) rfl rfl) rfl ?_
    refine rw_nil ?_
    refine q_seq ?_
    refine v_seq ?_
    refine w_if (p := (decide (y770 < (a0.f.Blocks.length : Int)))) hF rfl (fun hb774 hF => ?_) (fun hb774 hF => ?_)
    · refine w_skip ?_
      refine q_seq ?_
      refine v_seq ?_
      refine v_block ?_
      refine v_seq ?_
      refine w_reg ?_
      obtain ⟨x772, hx773, hF⟩ := bindS hF
      refine rw_p (ov_indexAddr (k := .i64) (c := cXApi_Block) (q := a0.f.Blocks) (i := y770) Tryd.underlying35 sz53 rfl rfl rfl hx773 rfl) rfl ?_
      refine rw_p (ov_load (v := (AV.agg (cXApi_Block x772))) ag53 sz53 rfl rfl rfl) rfl ?_
      refine rw_w (ov_alloc zm53 rfl) rfl ?_
      refine rw_w (ov_storeF (v := (AV.agg (cXApi_Block x772))) (cs := cXApi_Block x772) (cs' := cXApi_Block x772) ag53 sz53 rfl rfl rfl rfl rfl rfl fz38 rfl rfl rfl) rfl ?_
      refine rw_nil ?_
      refine q_seq ?_
      refine w_reg ?_
      refine rw_p (ov_move (v := (I y769)) rfl) rfl ?_
      refine rw_p (ov_fieldAddr (cells' := (cXApi_Block x772)) fd53_0 rfl rfl rfl rfl) rfl ?_
      refine rw_p (ov_load (v := (AV.sl ((x772.Phis).map cXApi_Phi))) ag50 sz50 rfl rfl rfl) rfl ?_
      refine rw_p (ov_lenSl (m := x772.Phis.length) Tryd.underlying50 rfl rfl rfl (List.length_map _)) rfl ?_
      refine rw_p (ov_fieldAddr (cells' := ((cXApi_Block x772).drop 1)) fd53_1 rfl rfl rfl rfl) rfl ?_
      refine rw_p (ov_load (v := (AV.sl ((x772.List).map cXApi_Ins))) ag51 sz51 rfl rfl rfl) rfl ?_
      refine rw_p (ov_lenSl (m := x772.List.length) Tryd.underlying51 rfl rfl rfl (List.length_map _)) rfl ?_
      refine rw_p (ov_add (k := .i64) (a := (x772.Phis.length : Int)) (b := (x772.List.length : Int)) rfl rfl) rfl ?_
      refine rw_p (ov_add (k := .i64) (a := y769) (b := (w64 ((x772.Phis.length : Int) + (x772.List.length : Int)))) rfl rfl) rfl ?_
      refine rw_p (ov_assign (v := (I (w64 (y769 + (w64 ((x772.Phis.length : Int) + (x772.List.length : Int))))))) rfl) rfl ?_
      refine rw_nil ?_
      refine q_blk ?_
      refine q_seq ?_
      refine w_reg ?_
      refine rw_p (ov_add (k := .i64) (a := y770) (b := 1) rfl rfl) rfl ?_
      refine rw_p (ov_move (v := (I (w64 (y770 + 1)))) rfl) rfl ?_
      refine rw_nil ?_
      obtain rfl := Option.some.inj hF
      exact q_next (renorm_of (packL_mk (pk_of (v := (AV.sl ((a1).map cStr))) rfl rfl) (packL_mk (pk_of (v := (AV.vp (cXCode_checker a0))) rfl rfl) (packL_mk (pk_of (v := (I (w64 (y769 + (w64 ((x772.Phis.length : Int) + (x772.List.length : Int))))))) rfl rfl) (packL_mk (pk_of (v := (AV.sl ((a0.f.Blocks).map cXApi_Block))) rfl rfl) (packL_mk (pk_of (v := (I (a0.f.Blocks.length : Int))) rfl rfl) (packL_mk (pk_of (v := (I (w64 (y770 + 1)))) rfl rfl) packL_0)))))) rfl)
    · refine w_exit ?_
      refine q_seqE ?_
      obtain rfl := Option.some.inj hF
      refine q_out ?_
      exact ⟨_, _, rfl, rfl, rfl, rfl⟩
  · rintro x812 hr813
    obtain ⟨t777, h778, rfl, e779, e780, e781⟩ := hr813
    refine q_blkH ?_
    refine q_seq ?_
    refine v_seq ?_
    refine v_block ?_
    refine v_seq ?_
    refine w_reg ?_
    refine rw_p (ov_fieldAddr (cells' := ((cXCode_checker a0).drop 2)) fd82_1 rfl (congrArg (un _) e780) rfl rfl) rfl ?_
    refine rw_p (ov_fieldAddr (cells' := ((cXCode_checker a0).drop 2)) fd37_0 rfl rfl rfl rfl) rfl ?_
    refine rw_p (ov_load (v := (AV.val (.string a0.f.Name))) ag9 sz9 rfl rfl rfl) rfl ?_
    obtain ⟨x782, hx783, hF⟩ := bindS hF
    refine rw_p (ov_call (args := [(AV.val (.string a0.f.Name))]) (r := (R_core_Name x782)) (v := (B x782)) rfl (cons_eq rfl rfl) rfl rfl (T_core_Name (nn + 1) a0.f.Name x782 hx783) fz38 rfl rfl) rfl ?_
    refine rw_p (ov_not (p := x782) rfl) rfl ?_
    refine rw_p (ov_assign (v := (B (!x782))) rfl) rfl ?_
    refine rw_nil ?_
    refine q_seq ?_
    refine w_if (p := (!x782)) hF rfl (fun hb811 hF => ?_) (fun hb811 hF => ?_)
    · refine v_seq ?_
      refine w_reg ?_
      refine rw_p (ov_assign (v := (I 12)) rfl) rfl ?_
      refine rw_nil ?_
      refine q_seq ?_
      refine w_ret ?_
      refine q_blkR ?_
      refine q_seqR ?_
      obtain rfl := Option.some.inj hF
      exact (fin_ret (res_tmp (pk_of (v := (I 12)) rfl rfl) res_nil) rfl rfl)
    · refine v_seq ?_
      refine w_reg ?_
      refine rw_p (ov_move (v := (AV.sl ((a1).map cStr))) (congrArg (un _) e779)) rfl ?_
      refine rw_p (ov_fieldAddr (cells' := ((cXCode_checker a0).drop 2)) fd82_1 rfl (congrArg (un _) e780) rfl rfl) rfl ?_
      refine rw_p (ov_fieldAddr (cells' := ((cXCode_checker a0).drop 2)) fd37_0 rfl rfl rfl rfl) rfl ?_
      refine rw_p (ov_load (v := (AV.val (.string a0.f.Name))) ag9 sz9 rfl rfl rfl) rfl ?_
      obtain ⟨x784, hx785, hF⟩ := bindS hF
      refine rw_p (ov_call (args := [(AV.sl ((a1).map cStr)), (AV.val (.string a0.f.Name))]) (r := (R_slices_Contains_string_string x784)) (v := (B x784)) rfl (cons_eq rfl (cons_eq rfl rfl)) rfl rfl (T_slices_Contains_string_string nn a1 a0.f.Name x784 hx785) fz38 rfl rfl) rfl ?_
      refine rw_p (ov_assign (v := (B x784)) rfl) rfl ?_
      refine rw_nil ?_
      refine q_seq ?_
      refine w_if (p := x784) hF rfl (fun hb810 hF => ?_) (fun hb810 hF => ?_)
      · refine v_seq ?_
        refine w_reg ?_
        refine rw_p (ov_assign (v := (I 7)) rfl) rfl ?_
        refine rw_nil ?_
        refine q_seq ?_
        refine w_ret ?_
        refine q_blkR ?_
        refine q_seqR ?_
        obtain rfl := Option.some.inj hF
        exact (fin_ret (res_tmp (pk_of (v := (I 7)) rfl rfl) res_nil) rfl rfl)
      · refine v_seq ?_
        refine w_reg ?_
        refine rw_p (ov_fieldAddr (cells' := ((cXCode_checker a0).drop 2)) fd82_1 rfl (congrArg (un _) e780) rfl rfl) rfl ?_
        refine rw_p (ov_fieldAddr (cells' := ((cXCode_checker a0).drop 3)) fd37_1 rfl rfl rfl rfl) rfl ?_
        refine rw_p (ov_load (v := (I a0.f.Params)) ag3 sz3 rfl rfl rfl) rfl ?_
        obtain ⟨x786, hx787, hF⟩ := bindS hF
        refine rw_p (ov_call (args := [(I a0.f.Params), (I 0), (I 6)]) (r := (R_core_Within x786)) (v := (B x786)) rfl (cons_eq rfl (cons_eq rfl (cons_eq rfl rfl))) rfl rfl (T_core_Within (nn + 1) a0.f.Params 0 6 x786 hx787) fz38 rfl rfl) rfl ?_
        refine rw_p (ov_not (p := x786) rfl) rfl ?_
        refine rw_p (ov_move (v := (B (!x786))) rfl) rfl ?_
        refine rw_g rfl (ov_fieldAddr (cells' := ((cXCode_checker a0).drop 2)) fd82_1 rfl (congrArg (un _) e780) rfl rfl) rfl ?_
        refine rw_g rfl (ov_fieldAddr (cells' := ((cXCode_checker a0).drop 4)) fd37_2 rfl (un_self _) rfl rfl) rfl ?_
        refine rw_g rfl (ov_load (v := (I a0.f.Regs)) ag3 sz3 (un_self _) rfl rfl) rfl ?_
        refine rw_g rfl (ov_fieldAddr (cells' := ((cXCode_checker a0).drop 2)) fd82_1 rfl (congrArg (un _) e780) rfl rfl) rfl ?_
        refine rw_g rfl (ov_fieldAddr (cells' := ((cXCode_checker a0).drop 3)) fd37_1 rfl (un_self _) rfl rfl) rfl ?_
        refine rw_g rfl (ov_load (v := (I a0.f.Params)) ag3 sz3 (un_self _) rfl rfl) rfl ?_
        obtain ⟨p788, hG789, hF⟩ := bindS hF
        refine rw_join 3 (fun t h => t 2 = (AV.vp (cXCode_checker a0)) ∧ t 5 = (I o775) ∧ t 53 = (B p788)) ?_ ?_
        · refine if_elim hG789 (fun hb790 hG789 => ?_) (fun hb790 hG789 => ?_)
          · refine rw_no ((rfl).trans (congrArg some (by simp only [hb790]; first | rfl | simp))) rfl (fun u791 k792 hk793 => ?_)
            refine rw_no ((rfl).trans (congrArg some (by simp only [hb790]; first | rfl | simp))) rfl (fun u794 k795 hk796 => ?_)
            refine rw_p (ov_pickT ((rfl : _ = _).trans (congrArg (fun b => AV.val (.bool b)) hb790)) rfl) rfl ?_
            obtain rfl := Option.some.inj hG789
            refine rw_nil ⟨⟨(k792 ++ k795), by simp only [List.append_assoc], by simp only [readsOnly_append, hk793, hk796, Bool.and_self]⟩, _, _, rfl, e780, e781, rfl⟩
          · obtain ⟨x797, hx798, hG789⟩ := bindS hG789
            refine rw_gt rfl (by simp only [hb790]; rfl) (ov_call (args := [(I a0.f.Regs), (I a0.f.Params), (I 100)]) (r := (R_core_Within x797)) (v := (B x797)) rfl (cons_eq (un_imp (by simp only [hb790]; rfl)) (cons_eq (un_imp (by simp only [hb790]; rfl)) (cons_eq rfl rfl))) rfl rfl (T_core_Within (nn + 1) a0.f.Regs a0.f.Params 100 x797 hx798) fz38 rfl rfl) rfl ?_
            refine rw_gt rfl (by simp only [hb790]; rfl) (ov_not (p := x797) (un_self _)) rfl ?_
            refine rw_p (ov_pickF ((rfl : _ = _).trans (congrArg (fun b => AV.val (.bool b)) hb790)) rfl) rfl ?_
            obtain rfl := Option.some.inj hG789
            refine rw_nil ⟨⟨[], (List.append_nil _).symm, rfl⟩, _, _, rfl, e780, e781, rfl⟩
        · rintro k804 t799 h800 hk805 ⟨e801, e802, e803⟩
          refine rw_p (ov_assign (v := (B p788)) (congrArg (un _) e803)) rfl ?_
          refine rw_nil ?_
          refine q_seq ?_
          refine w_if (p := p788) hF rfl (fun hb809 hF => ?_) (fun hb809 hF => ?_)
          · refine v_seq ?_
            refine w_reg ?_
            refine rw_p (ov_assign (v := (I 3)) rfl) rfl ?_
            refine rw_nil ?_
            refine q_seq ?_
            refine w_ret ?_
            refine q_blkR ?_
            refine q_seqR ?_
            obtain rfl := Option.some.inj hF
            exact (fin_ret (res_tmp (pk_of (v := (I 3)) rfl rfl) res_nil) rfl rfl)
          · refine v_seq ?_
            refine w_reg ?_
            refine rw_p (ov_fieldAddr (cells' := ((cXCode_checker a0).drop 2)) fd82_1 rfl (congrArg (un _) e801) rfl rfl) rfl ?_
            refine rw_p (ov_fieldAddr (cells' := ((cXCode_checker a0).drop 5)) fd37_3 rfl rfl rfl rfl) rfl ?_
            refine rw_p (ov_load (v := (AV.sl ((a0.f.Blocks).map cXApi_Block))) ag35 sz35 rfl rfl rfl) rfl ?_
            refine rw_p (ov_lenSl (m := a0.f.Blocks.length) Tryd.underlying35 rfl rfl rfl (List.length_map _)) rfl ?_
            obtain ⟨x806, hx807, hF⟩ := bindS hF
            refine rw_p (ov_call (args := [(I (a0.f.Blocks.length : Int)), (I 1), (I 40)]) (r := (R_core_Within x806)) (v := (B x806)) rfl (cons_eq rfl (cons_eq rfl (cons_eq rfl rfl))) rfl rfl (T_core_Within (nn + 1) (a0.f.Blocks.length : Int) 1 40 x806 hx807) fz38 rfl rfl) rfl ?_
            refine rw_p (ov_not (p := x806) rfl) rfl ?_
            refine rw_p (ov_move (v := (B (!x806))) rfl) rfl ?_
            refine rw_g rfl (ov_move (v := (I o775)) (congrArg (un _) e802)) rfl ?_
            refine rw_g rfl (ov_gtr (k := .i64) (a := o775) (b := 300) (un_self _) rfl) rfl ?_
            refine rw_p (ov_pickB (p := (!x806)) (q := true) (r := (decide (300 < o775))) rfl rfl (un_imp (by generalize (!x806) = u0; cases u0 <;> rfl))) rfl ?_
            refine rw_p (ov_assign (v := (B (if (!x806) then true else (decide (300 < o775))))) rfl) rfl ?_
            refine rw_nil ?_
            refine q_seq ?_
            refine w_if (p := (if (!x806) then true else (decide (300 < o775)))) hF rfl (fun hb808 hF => ?_) (fun hb808 hF => ?_)
            · refine v_seq ?_
              refine w_reg ?_
              refine rw_p (ov_assign (v := (I 2)) rfl) rfl ?_
              refine rw_nil ?_
              refine q_seq ?_
              refine w_ret ?_
              refine q_blkR ?_
              refine q_seqR ?_
              obtain rfl := Option.some.inj hF
              exact (fin_ret (res_tmp (pk_of (v := (I 2)) rfl rfl) res_nil) rfl rfl)
            · refine w_skip ?_
              refine q_blk ?_
              refine q_seq ?_
              refine v_seq ?_
              refine w_reg ?_
              refine rw_p (ov_assign (v := (I 0)) rfl) rfl ?_
              refine rw_nil ?_
              refine q_seq ?_
              refine w_ret ?_
              obtain rfl := Option.some.inj hF
              exact (fin_ret (res_tmp (pk_of (v := (I 0)) rfl rfl) res_nil) rfl rfl)

/-! (turnery/code.checker).end$1 -/

noncomputable def code_checker_end_1 (a0 : Int) (a1 : XCode_checker) : Option Bool :=
  (core_Within a0 1 (w64 ((a1.f.Blocks.length : Int) - 1))).bind fun x850 =>
  some (!x850)
abbrev RV77 : List ResultVar := [.tmp 3]
def R_code_checker_end_1 (r : Bool) : AV := (B r)
set_option maxHeartbeats 2000000 in
theorem T_code_checker_end_1 (nn : Nat) (a0 : Int) (a1 : XCode_checker) (r : Bool) (hF : code_checker_end_1 a0 a1 = some r) : den cx (nn + 2) 77 [(I a0), (AV.vp (cXCode_checker a1))] = some (R_code_checker_end_1 r, []) := by
  unfold code_checker_end_1 at hF
  refine fn_of (nn := (nn + 1)) (rv := RV77) (cxE _) Tryd.func77 rfl rfl Tryd.ntmps77 (cxL _) rfl ?_
  show W cx 77 _ _ ⟨12, (upd (upd (fun _ => AV.junk) 1 (AV.vp (cXCode_checker a1))) 0 (I a0)), (fun _ => none)⟩ _
  refine v_seq ?_
  refine w_reg ?_
  refine rw_p (ov_assign (v := (B false)) rfl) rfl ?_
  refine rw_nil ?_
  refine q_seq ?_
  refine v_seq ?_
  refine w_reg ?_
  refine rw_p (ov_move (v := (I a0)) rfl) rfl ?_
  refine rw_p (ov_fieldAddr (cells' := ((cXCode_checker a1).drop 2)) fd82_1 rfl rfl rfl rfl) rfl ?_
  refine rw_p (ov_fieldAddr (cells' := ((cXCode_checker a1).drop 5)) fd37_3 rfl rfl rfl rfl) rfl ?_
  refine rw_p (ov_load (v := (AV.sl ((a1.f.Blocks).map cXApi_Block))) ag35 sz35 rfl rfl rfl) rfl ?_
  refine rw_p (ov_lenSl (m := a1.f.Blocks.length) Tryd.underlying35 rfl rfl rfl (List.length_map _)) rfl ?_
  refine rw_p (ov_sub (k := .i64) (a := (a1.f.Blocks.length : Int)) (b := 1) rfl rfl) rfl ?_
  obtain ⟨x850, hx851, hF⟩ := bindS hF
  refine rw_p (ov_call (args := [(I a0), (I 1), (I (w64 ((a1.f.Blocks.length : Int) - 1)))]) (r := (R_core_Within x850)) (v := (B x850)) rfl (cons_eq rfl (cons_eq rfl (cons_eq rfl rfl))) rfl rfl (T_core_Within nn a0 1 (w64 ((a1.f.Blocks.length : Int) - 1)) x850 hx851) fz77 rfl rfl) rfl ?_
  refine rw_p (ov_not (p := x850) rfl) rfl ?_
  refine rw_p (ov_assign (v := (B (!x850))) rfl) rfl ?_
  refine rw_nil ?_
  refine q_seq ?_
  refine w_ret ?_
  obtain rfl := Option.some.inj hF
  exact (fin_ret (res_tmp (pk_of (v := (B (!x850))) rfl rfl) res_nil) rfl rfl)

/-! slices.IndexFunc[[]int,int] -/
noncomputable def slices_IndexFunc_int_int__f77_L1 (a0 : (List Int)) (a1 : XCode_checker) (y846 : Int) : Option (Lp Int (Br Unit Int)) :=
  if (decide (y846 < (a0.length : Int))) then
  ((idx a0 y846).bind fun x848 =>
  (code_checker_end_1 x848 a1).bind fun x852 =>
  if x852 then
  (some (.out (.ret y846)))
  else
  (some (.next (w64 (y846 + 1)))))
  else
  (some (.out (.brk ())))
noncomputable def slices_IndexFunc_int_int__f77 (a0 : (List Int)) (a1 : XCode_checker) : Option Int :=
  (Loop (fun (s : Int) => slices_IndexFunc_int_int__f77_L1 a0 a1 s) 0).bind fun o856 => match o856 with
  | .ret r863 => some r863
  | .brk b858 =>
  some (-1)
abbrev RV90 : List ResultVar := [.tmp 4]
def R_slices_IndexFunc_int_int__f77 (r : Int) : AV := (I r)
set_option maxHeartbeats 2000000 in
theorem T_slices_IndexFunc_int_int__f77 (nn : Nat) (a0 : (List Int)) (a1 : XCode_checker) (r : Int) (hF : slices_IndexFunc_int_int__f77 a0 a1 = some r) : den cx (nn + 3) 90 [(AV.sl ((a0).map cInt_i64)), (AV.fn (.func 77) [] [(AV.vp (cXCode_checker a1))])] = some (R_slices_IndexFunc_int_int__f77 r, []) := by
  unfold slices_IndexFunc_int_int__f77 at hF
  refine fn_of (nn := (nn + 2)) (rv := RV90) (cxE _) Tryd.func90 rfl rfl Tryd.ntmps90 (cxL _) rfl ?_
  show W cx 90 _ _ ⟨19, (upd (upd (fun _ => AV.junk) 1 (AV.fn (.func 77) [] [(AV.vp (cXCode_checker a1))])) 0 (AV.sl ((a0).map cInt_i64))), (fun _ => none)⟩ _
  refine v_seq ?_
  refine w_reg ?_
  refine rw_p (ov_assign (v := (I 0)) rfl) rfl ?_
  refine rw_nil ?_
  refine q_seq ?_
  refine v_seq ?_
  refine v_seq ?_
  refine w_reg ?_
  refine rw_p (ov_move (v := (AV.sl ((a0).map cInt_i64))) rfl) rfl ?_
  refine rw_p (ov_lenSl (m := a0.length) Tryd.underlying42 rfl rfl rfl (List.length_map _)) rfl ?_
  refine rw_p (ov_move (v := (I 0)) rfl) rfl ?_
  refine rw_nil ?_
  refine q_seq ?_
  refine v_block ?_
  obtain ⟨o856, hL857, hF⟩ := bindS hF
  refine v_loop (fun (s : Int) => [(AV.sl ((a0).map cInt_i64)), (AV.fn (.func 77) [] [(AV.vp (cXCode_checker a1))]), (I (a0.length : Int)), (I s)]) (RelO (fun (s : Unit) x => ∃ t h, x = (Exit.exit 0, ⟨19, t, h⟩) ∧ True) (fun r x => x.1 = Exit.ret ∧ Fin cx RV90 (R_slices_IndexFunc_int_int__f77 r) x)) hL857 lv90_2 (renorm_of (packL_mk (pk_of (v := (AV.sl ((a0).map cInt_i64))) rfl rfl) (packL_mk (pk_of (v := (AV.fn (.func 77) [] [(AV.vp (cXCode_checker a1))])) rfl rfl) (packL_mk (pk_of (v := (I (a0.length : Int))) rfl rfl) (packL_mk (pk_of (v := (I 0)) rfl rfl) packL_0)))) rfl) ?_ ?_
  · rintro y846 z847 hF
    replace hF : slices_IndexFunc_int_int__f77_L1 a0 a1 y846 = some z847 := hF
    unfold slices_IndexFunc_int_int__f77_L1 at hF
    show W cx 90 _ _ ⟨19, (upd (upd (upd (upd (fun _ => AV.junk) 8 (I y846)) 7 (I (a0.length : Int))) 1 (AV.fn (.func 77) [] [(AV.vp (cXCode_checker a1))])) 0 (AV.sl ((a0).map cInt_i64))), (fun _ => none)⟩ _
    refine v_seq ?_
    refine w_reg ?_
    refine rw_p (ov_lss (k := .i64) (a := y846) (b := (a0.length : Int)) rfl rfl) rfl ?_
    refine rw_nil ?_
    refine q_seq ?_
    refine v_seq ?_
    refine w_if (p := (decide (y846 < (a0.length : Int)))) hF rfl (fun hb855 hF => ?_) (fun hb855 hF => ?_)
    · refine w_skip ?_
      refine q_seq ?_
      refine v_seq ?_
      refine v_block ?_
      refine v_seq ?_
      refine w_reg ?_
      refine rw_p (ov_move (v := (I y846)) rfl) rfl ?_
      refine rw_p (ov_assign (v := (I y846)) rfl) rfl ?_
      refine rw_nil ?_
      refine q_seq ?_
      refine v_seq ?_
      refine w_reg ?_
      refine rw_p (ov_move (v := (AV.fn (.func 77) [] [(AV.vp (cXCode_checker a1))])) rfl) rfl ?_
      refine rw_p (ov_move (v := (AV.sl ((a0).map cInt_i64))) rfl) rfl ?_
      refine rw_p (ov_move (v := (I y846)) rfl) rfl ?_
      obtain ⟨x848, hx849, hF⟩ := bindS hF
      refine rw_p (ov_indexAddr (k := .i64) (c := cInt_i64) (q := a0) (i := y846) Tryd.underlying42 sz3 rfl rfl rfl hx849 rfl) rfl ?_
      refine rw_p (ov_load (v := (I x848)) ag3 sz3 rfl rfl rfl) rfl ?_
      obtain ⟨x852, hx853, hF⟩ := bindS hF
      refine rw_p (ov_call (args := [(I x848), (AV.vp (cXCode_checker a1))]) (r := (R_code_checker_end_1 x852)) (v := (B x852)) rfl (cons_eq rfl rfl) rfl rfl (T_code_checker_end_1 nn x848 a1 x852 hx853) fz90 rfl rfl) rfl ?_
      refine rw_nil ?_
      refine q_seq ?_
      refine w_if (p := x852) hF rfl (fun hb854 hF => ?_) (fun hb854 hF => ?_)
      · refine v_seq ?_
        refine w_reg ?_
        refine rw_p (ov_move (v := (I y846)) rfl) rfl ?_
        refine rw_p (ov_assign (v := (I y846)) rfl) rfl ?_
        refine rw_nil ?_
        refine q_seq ?_
        refine w_ret ?_
        refine q_blkR ?_
        refine q_seqR ?_
        obtain rfl := Option.some.inj hF
        exact q_outR (relR ⟨rfl, (fin_ret (res_tmp (pk_of (v := (I y846)) rfl rfl) res_nil) rfl rfl)⟩)
      · refine w_skip ?_
        refine q_blk ?_
        refine q_seq ?_
        refine w_reg ?_
        refine rw_p (ov_add (k := .i64) (a := y846) (b := 1) rfl rfl) rfl ?_
        refine rw_p (ov_move (v := (I (w64 (y846 + 1)))) rfl) rfl ?_
        refine rw_nil ?_
        obtain rfl := Option.some.inj hF
        exact q_next (renorm_of (packL_mk (pk_of (v := (AV.sl ((a0).map cInt_i64))) rfl rfl) (packL_mk (pk_of (v := (AV.fn (.func 77) [] [(AV.vp (cXCode_checker a1))])) rfl rfl) (packL_mk (pk_of (v := (I (a0.length : Int))) rfl rfl) (packL_mk (pk_of (v := (I (w64 (y846 + 1)))) rfl rfl) packL_0)))) rfl)
    · refine w_exit ?_
      refine q_seqE ?_
      obtain rfl := Option.some.inj hF
      refine q_out (relB ?_)
      exact ⟨_, _, rfl, trivial⟩
  · rintro x861 hr862
    cases o856 with
    | ret r863 =>
      replace hF : some r863 = some r := hF
      obtain rfl := Option.some.inj hF
      obtain ⟨xe, xs⟩ := x861
      obtain ⟨hxe, hfin⟩ := hr862
      obtain rfl : xe = Exit.ret := hxe
      refine q_blkR ?_
      refine q_seqR ?_
      exact hfin
    | brk b858 =>
      obtain ⟨t859, h860, rfl, _⟩ := hr862
      refine q_blkH ?_
      refine q_seq ?_
      refine v_seq ?_
      refine w_reg ?_
      refine rw_p (ov_assign (v := (I (-1))) rfl) rfl ?_
      refine rw_nil ?_
      refine q_seq ?_
      refine w_ret ?_
      obtain rfl := Option.some.inj hF
      exact (fin_ret (res_tmp (pk_of (v := (I (-1))) rfl rfl) res_nil) rfl rfl)

/-! slices.ContainsFunc[[]int,int] -/

noncomputable def slices_ContainsFunc_int_int__f77 (a0 : (List Int)) (a1 : XCode_checker) : Option Bool :=
  (slices_IndexFunc_int_int__f77 a0 a1).bind fun x864 =>
  some (decide (0 ≤ x864))
abbrev RV76 : List ResultVar := [.tmp 4]
def R_slices_ContainsFunc_int_int__f77 (r : Bool) : AV := (B r)
set_option maxHeartbeats 2000000 in
theorem T_slices_ContainsFunc_int_int__f77 (nn : Nat) (a0 : (List Int)) (a1 : XCode_checker) (r : Bool) (hF : slices_ContainsFunc_int_int__f77 a0 a1 = some r) : den cx (nn + 4) 76 [(AV.sl ((a0).map cInt_i64)), (AV.fn (.func 77) [] [(AV.vp (cXCode_checker a1))])] = some (R_slices_ContainsFunc_int_int__f77 r, []) := by
  unfold slices_ContainsFunc_int_int__f77 at hF
  refine fn_of (nn := (nn + 3)) (rv := RV76) (cxE _) Tryd.func76 rfl rfl Tryd.ntmps76 (cxL _) rfl ?_
  show W cx 76 _ _ ⟨9, (upd (upd (fun _ => AV.junk) 1 (AV.fn (.func 77) [] [(AV.vp (cXCode_checker a1))])) 0 (AV.sl ((a0).map cInt_i64))), (fun _ => none)⟩ _
  refine v_seq ?_
  refine w_reg ?_
  refine rw_p (ov_assign (v := (B false)) rfl) rfl ?_
  refine rw_nil ?_
  refine q_seq ?_
  refine v_seq ?_
  refine w_reg ?_
  refine rw_p (ov_move (v := (AV.sl ((a0).map cInt_i64))) rfl) rfl ?_
  refine rw_p (ov_move (v := (AV.fn (.func 77) [] [(AV.vp (cXCode_checker a1))])) rfl) rfl ?_
  obtain ⟨x864, hx865, hF⟩ := bindS hF
  refine rw_p (ov_call (args := [(AV.sl ((a0).map cInt_i64)), (AV.fn (.func 77) [] [(AV.vp (cXCode_checker a1))])]) (r := (R_slices_IndexFunc_int_int__f77 x864)) (v := (I x864)) rfl (cons_eq rfl (cons_eq rfl rfl)) rfl rfl (T_slices_IndexFunc_int_int__f77 nn a0 a1 x864 hx865) fz76 rfl rfl) rfl ?_
  refine rw_p (ov_geq (k := .i64) (a := x864) (b := 0) rfl rfl) rfl ?_
  refine rw_p (ov_assign (v := (B (decide (0 ≤ x864)))) rfl) rfl ?_
  refine rw_nil ?_
  refine q_seq ?_
  refine w_ret ?_
  obtain rfl := Option.some.inj hF
  exact (fin_ret (res_tmp (pk_of (v := (B (decide (0 ≤ x864)))) rfl rfl) res_nil) rfl rfl)

/-! (turnery/code.checker).val -/

noncomputable def code_checker_val (a0 : XCode_checker) (a1 : XApi_Val) : Option Int :=
  (if a1.Reg then (core_Within a1.N 0 (w64 (a0.f.Regs - 1))).bind fun x907 =>
  some (!x907) else some false).bind fun p904 =>
  if p904 then
  (some 3)
  else
  (some 0)
abbrev RV78 : List ResultVar := [.tmp 4]
def R_code_checker_val (r : Int) : AV := (I r)
set_option maxHeartbeats 2000000 in
theorem T_code_checker_val (nn : Nat) (a0 : XCode_checker) (a1 : XApi_Val) (r : Int) (hF : code_checker_val a0 a1 = some r) : den cx (nn + 2) 78 [(AV.agg (cXCode_checker a0)), (AV.agg (cXApi_Val a1))] = some (R_code_checker_val r, []) := by
  unfold code_checker_val at hF
  refine fn_of (nn := (nn + 1)) (rv := RV78) (cxE _) Tryd.func78 rfl rfl Tryd.ntmps78 (cxL _) rfl ?_
  show W cx 78 _ _ ⟨17, (upd (upd (fun _ => AV.junk) 1 (AV.agg (cXApi_Val a1))) 0 (AV.agg (cXCode_checker a0))), (fun _ => none)⟩ _
  refine v_seq ?_
  refine w_reg ?_
  refine rw_p (ov_boxF (cs := cXCode_checker a0) (cs' := cXCode_checker a0) ag82 fz78 rfl rfl rfl rfl rfl) rfl ?_
  refine rw_p (ov_boxF (cs := cXApi_Val a1) (cs' := cXApi_Val a1) ag47 fz78 rfl rfl rfl rfl rfl) rfl ?_
  refine rw_p (ov_assign (v := (I 0)) rfl) rfl ?_
  refine rw_nil ?_
  refine q_seq ?_
  refine v_seq ?_
  refine v_seq ?_
  refine w_reg ?_
  refine rw_p (ov_fieldAddr (cells' := (cXApi_Val a1)) fd47_0 rfl rfl rfl rfl) rfl ?_
  refine rw_p (ov_load (v := (B a1.Reg)) ag4 sz4 rfl rfl rfl) rfl ?_
  refine rw_p (ov_move (v := (B a1.Reg)) rfl) rfl ?_
  refine rw_g rfl (ov_fieldAddr (cells' := ((cXApi_Val a1).drop 1)) fd47_1 rfl rfl rfl rfl) rfl ?_
  refine rw_g rfl (ov_load (v := (I a1.N)) ag3 sz3 (un_self _) rfl rfl) rfl ?_
  refine rw_g rfl (ov_fieldAddr (cells' := ((cXCode_checker a0).drop 2)) fd82_1 rfl rfl rfl rfl) rfl ?_
  refine rw_g rfl (ov_fieldAddr (cells' := ((cXCode_checker a0).drop 4)) fd37_2 rfl (un_self _) rfl rfl) rfl ?_
  refine rw_g rfl (ov_load (v := (I a0.f.Regs)) ag3 sz3 (un_self _) rfl rfl) rfl ?_
  refine rw_g rfl (ov_sub (k := .i64) (a := a0.f.Regs) (b := 1) (un_self _) rfl) rfl ?_
  obtain ⟨p904, hG905, hF⟩ := bindS hF
  refine rw_join 3 (fun t h => t 16 = (B p904)) ?_ ?_
  · refine if_elim hG905 (fun hb906 hG905 => ?_) (fun hb906 hG905 => ?_)
    · obtain ⟨x907, hx908, hG905⟩ := bindS hG905
      refine rw_gt rfl (by simp only [hb906]; rfl) (ov_call (args := [(I a1.N), (I 0), (I (w64 (a0.f.Regs - 1)))]) (r := (R_core_Within x907)) (v := (B x907)) rfl (cons_eq (un_imp (by simp only [hb906]; rfl)) (cons_eq rfl (cons_eq (un_imp (by simp only [hb906]; rfl)) rfl))) rfl rfl (T_core_Within nn a1.N 0 (w64 (a0.f.Regs - 1)) x907 hx908) fz78 rfl rfl) rfl ?_
      refine rw_gt rfl (by simp only [hb906]; rfl) (ov_not (p := x907) (un_self _)) rfl ?_
      refine rw_p (ov_pickT ((rfl : _ = _).trans (congrArg (fun b => AV.val (.bool b)) hb906)) rfl) rfl ?_
      obtain rfl := Option.some.inj hG905
      refine rw_nil ⟨⟨[], (List.append_nil _).symm, rfl⟩, _, _, rfl, rfl⟩
    · refine rw_no ((rfl).trans (congrArg some (by simp only [hb906]; first | rfl | simp))) rfl (fun u909 k910 hk911 => ?_)
      refine rw_no ((rfl).trans (congrArg some (by simp only [hb906]; first | rfl | simp))) rfl (fun u912 k913 hk914 => ?_)
      refine rw_p (ov_pickF ((rfl : _ = _).trans (congrArg (fun b => AV.val (.bool b)) hb906)) rfl) rfl ?_
      obtain rfl := Option.some.inj hG905
      refine rw_nil ⟨⟨(k910 ++ k913), by simp only [List.append_assoc], by simp only [readsOnly_append, hk911, hk914, Bool.and_self]⟩, _, _, rfl, rfl⟩
  · rintro k918 t915 h916 hk919 e917
    refine rw_nil ?_
    refine q_seq ?_
    refine w_if (p := p904) hF (congrArg (un _) e917) (fun hb920 hF => ?_) (fun hb920 hF => ?_)
    · refine v_seq ?_
      refine w_reg ?_
      refine rw_p (ov_assign (v := (I 3)) rfl) rfl ?_
      refine rw_nil ?_
      refine q_seq ?_
      refine w_ret ?_
      refine q_seqR ?_
      obtain rfl := Option.some.inj hF
      exact (fin_ret (res_tmp (pk_of (v := (I 3)) rfl rfl) res_nil) rfl rfl)
    · refine w_skip ?_
      refine q_seq ?_
      refine v_seq ?_
      refine w_reg ?_
      refine rw_p (ov_assign (v := (I 0)) rfl) rfl ?_
      refine rw_nil ?_
      refine q_seq ?_
      refine w_ret ?_
      obtain rfl := Option.some.inj hF
      exact (fin_ret (res_tmp (pk_of (v := (I 0)) rfl rfl) res_nil) rfl rfl)

/-! (turnery/code.checker).end -/

noncomputable def code_checker_end (a0 : XCode_checker) (a1 : XApi_End) : Option Int :=
  (core_Within a1.Kind 1 3).bind fun x842 =>
  if (!x842) then
  (some 4)
  else
  ((idx ([0, 0, 1, 2] : List Int) a1.Kind).bind fun x844 =>
  if ((a1.To.length : Int) != x844) then
  (some 9)
  else
  ((slices_ContainsFunc_int_int__f77 a1.To a0).bind fun x866 =>
  if x866 then
  (some 3)
  else
  ((if (a1.Kind == 3) then (idx a1.To 0).bind fun x871 =>
  (idx a1.To 1).bind fun x873 =>
  some (x871 == x873) else some false).bind fun p868 =>
  if (if p868 then true else (if (a1.Kind == 2) then (!((a1.On.Reg == false) && ((a1.On.N == 0) && true))) else false)) then
  (some 5)
  else
  ((code_checker_val a0 a1.On).bind fun x921 =>
  some x921))))
abbrev RV58 : List ResultVar := [.tmp 4]
def R_code_checker_end (r : Int) : AV := (I r)
set_option maxHeartbeats 2000000 in
theorem T_code_checker_end (nn : Nat) (a0 : XCode_checker) (a1 : XApi_End) (r : Int) (hF : code_checker_end a0 a1 = some r) : den cx (nn + 5) 58 [(AV.agg (cXCode_checker a0)), (AV.agg (cXApi_End a1))] = some (R_code_checker_end r, []) := by
  unfold code_checker_end at hF
  refine fn_of (nn := (nn + 4)) (rv := RV58) (cxE _) Tryd.func58 rfl rfl Tryd.ntmps58 (cxL _) rfl ?_
  show W cx 58 _ _ ⟨54, (upd (upd (fun _ => AV.junk) 1 (AV.agg (cXApi_End a1))) 0 (AV.agg (cXCode_checker a0))), (fun _ => none)⟩ _
  refine v_seq ?_
  refine w_reg ?_
  refine rw_p (ov_boxF (cs := cXCode_checker a0) (cs' := cXCode_checker a0) ag82 fz58 rfl rfl rfl rfl rfl) rfl ?_
  refine rw_p (ov_boxF (cs := cXApi_End a1) (cs' := cXApi_End a1) ag49 fz58 rfl rfl rfl rfl rfl) rfl ?_
  refine rw_p (ov_assign (v := (I 0)) rfl) rfl ?_
  refine rw_nil ?_
  refine q_seq ?_
  refine v_seq ?_
  refine v_block ?_
  refine v_seq ?_
  refine w_reg ?_
  refine rw_p (ov_fieldAddr (cells' := (cXApi_End a1)) fd49_0 rfl rfl rfl rfl) rfl ?_
  refine rw_p (ov_load (v := (I a1.Kind)) ag3 sz3 rfl rfl rfl) rfl ?_
  obtain ⟨x842, hx843, hF⟩ := bindS hF
  refine rw_p (ov_call (args := [(I a1.Kind), (I 1), (I 3)]) (r := (R_core_Within x842)) (v := (B x842)) rfl (cons_eq rfl (cons_eq rfl (cons_eq rfl rfl))) rfl rfl (T_core_Within (nn + 3) a1.Kind 1 3 x842 hx843) fz58 rfl rfl) rfl ?_
  refine rw_p (ov_not (p := x842) rfl) rfl ?_
  refine rw_p (ov_assign (v := (B (!x842))) rfl) rfl ?_
  refine rw_nil ?_
  refine q_seq ?_
  refine w_if (p := (!x842)) hF rfl (fun hb926 hF => ?_) (fun hb926 hF => ?_)
  · refine v_seq ?_
    refine w_reg ?_
    refine rw_p (ov_assign (v := (I 4)) rfl) rfl ?_
    refine rw_nil ?_
    refine q_seq ?_
    refine w_ret ?_
    refine q_blkR ?_
    refine q_seqR ?_
    obtain rfl := Option.some.inj hF
    exact (fin_ret (res_tmp (pk_of (v := (I 4)) rfl rfl) res_nil) rfl rfl)
  · refine v_seq ?_
    refine w_regD ?_
    refine rw_p (ov_fieldAddr (cells' := ((cXApi_End a1).drop 3)) fd49_2 rfl rfl rfl rfl) rfl ?_
    refine rw_p (ov_load (v := (AV.sl ((a1.To).map cInt_i64))) ag42 sz42 rfl rfl rfl) rfl ?_
    refine rw_p (ov_lenSl (m := a1.To.length) Tryd.underlying42 rfl rfl rfl (List.length_map _)) rfl ?_
    refine rw_p (ov_fieldAddr (cells' := (cXApi_End a1)) fd49_0 rfl rfl rfl rfl) rfl ?_
    refine rw_p (ov_load (v := (I a1.Kind)) ag3 sz3 rfl rfl rfl) rfl ?_
    obtain ⟨x844, hx845, hF⟩ := bindS hF
    refine rw_p (ov_indexArr (k := .i64) (cells := (([0, 0, 1, 2] : List Int).map fun n => I n)) (i := a1.Kind) Tryd.underlying127 sz3 rfl rfl (idx_arr hx845) rfl) rfl ?_
    refine rw_p (ov_load (v := (I x844)) ag3 sz3 rfl (idx_drop_len hx845) (idx_drop_one hx845)) rfl ?_
    refine rw_p (ov_neq (k := .i64) (a := (a1.To.length : Int)) (b := x844) rfl rfl) rfl ?_
    refine rw_p (ov_assign (v := (B ((a1.To.length : Int) != x844))) rfl) rfl ?_
    refine rw_nil ⟨rfl, ?_⟩
    refine q_seq ?_
    refine w_if (p := ((a1.To.length : Int) != x844)) hF rfl (fun hb925 hF => ?_) (fun hb925 hF => ?_)
    · refine v_seq ?_
      refine w_reg ?_
      refine rw_p (ov_assign (v := (I 9)) rfl) rfl ?_
      refine rw_nil ?_
      refine q_seq ?_
      refine w_ret ?_
      refine q_blkR ?_
      refine q_seqR ?_
      obtain rfl := Option.some.inj hF
      exact (fin_ret (res_tmp (pk_of (v := (I 9)) rfl rfl) res_nil) rfl rfl)
    · refine v_seq ?_
      refine w_reg ?_
      refine rw_p (ov_fieldAddr (cells' := ((cXApi_End a1).drop 3)) fd49_2 rfl rfl rfl rfl) rfl ?_
      refine rw_p (ov_load (v := (AV.sl ((a1.To).map cInt_i64))) ag42 sz42 rfl rfl rfl) rfl ?_
      refine rw_p (ov_func (fa := []) (fb := [(AV.vp (cXCode_checker a0))]) rfl (cons_eq rfl rfl)) rfl ?_
      obtain ⟨x866, hx867, hF⟩ := bindS hF
      refine rw_p (ov_call (args := [(AV.sl ((a1.To).map cInt_i64)), (AV.fn (.func 77) [] [(AV.vp (cXCode_checker a0))])]) (r := (R_slices_ContainsFunc_int_int__f77 x866)) (v := (B x866)) rfl (cons_eq rfl (cons_eq rfl rfl)) rfl rfl (T_slices_ContainsFunc_int_int__f77 nn a1.To a0 x866 hx867) fz58 rfl rfl) rfl ?_
      refine rw_p (ov_assign (v := (B x866)) rfl) rfl ?_
      refine rw_nil ?_
      refine q_seq ?_
      refine w_if (p := x866) hF rfl (fun hb924 hF => ?_) (fun hb924 hF => ?_)
      · refine v_seq ?_
        refine w_reg ?_
        refine rw_p (ov_assign (v := (I 3)) rfl) rfl ?_
        refine rw_nil ?_
        refine q_seq ?_
        refine w_ret ?_
        refine q_blkR ?_
        refine q_seqR ?_
        obtain rfl := Option.some.inj hF
        exact (fin_ret (res_tmp (pk_of (v := (I 3)) rfl rfl) res_nil) rfl rfl)
      · refine v_seq ?_
        refine w_regD ?_
        refine rw_p (ov_fieldAddr (cells' := (cXApi_End a1)) fd49_0 rfl rfl rfl rfl) rfl ?_
        refine rw_p (ov_load (v := (I a1.Kind)) ag3 sz3 rfl rfl rfl) rfl ?_
        refine rw_p (ov_eql (k := .i64) (a := a1.Kind) (b := 3) rfl rfl) rfl ?_
        refine rw_p (ov_move (v := (B (a1.Kind == 3))) rfl) rfl ?_
        refine rw_g rfl (ov_fieldAddr (cells' := ((cXApi_End a1).drop 3)) fd49_2 rfl rfl rfl rfl) rfl ?_
        refine rw_g rfl (ov_load (v := (AV.sl ((a1.To).map cInt_i64))) ag42 sz42 (un_self _) rfl rfl) rfl ?_
        obtain ⟨p868, hG869, hF⟩ := bindS hF
        refine rw_join 8 (fun t h => t 2 = (AV.vp (cXCode_checker a0)) ∧ t 3 = (AV.vp (cXApi_End a1)) ∧ t 38 = (B p868) ∧ h [53] = none) ?_ ?_
        · refine if_elim hG869 (fun hb870 hG869 => ?_) (fun hb870 hG869 => ?_)
          · obtain ⟨x871, hx872, hG869⟩ := bindS hG869
            refine rw_gt rfl (by simp only [hb870]; rfl) (ov_indexAddr (k := .i64) (c := cInt_i64) (q := a1.To) (i := 0) Tryd.underlying42 sz3 rfl (un_imp (by simp only [hb870]; rfl)) rfl hx872 rfl) rfl ?_
            refine rw_gt rfl (by simp only [hb870]; rfl) (ov_load (v := (I x871)) ag3 sz3 (un_self _) rfl rfl) rfl ?_
            refine rw_gt rfl (by simp only [hb870]; rfl) (ov_fieldAddr (cells' := ((cXApi_End a1).drop 3)) fd49_2 rfl rfl rfl rfl) rfl ?_
            refine rw_gt rfl (by simp only [hb870]; rfl) (ov_load (v := (AV.sl ((a1.To).map cInt_i64))) ag42 sz42 (un_self _) rfl rfl) rfl ?_
            obtain ⟨x873, hx874, hG869⟩ := bindS hG869
            refine rw_gt rfl (by simp only [hb870]; rfl) (ov_indexAddr (k := .i64) (c := cInt_i64) (q := a1.To) (i := 1) Tryd.underlying42 sz3 rfl (un_self _) rfl hx874 rfl) rfl ?_
            refine rw_gt rfl (by simp only [hb870]; rfl) (ov_load (v := (I x873)) ag3 sz3 (un_self _) rfl rfl) rfl ?_
            refine rw_gt rfl (by simp only [hb870]; rfl) (ov_eql (k := .i64) (a := x871) (b := x873) (un_self _) (un_self _)) rfl ?_
            refine rw_p (ov_pickT ((rfl : _ = _).trans (congrArg (fun b => AV.val (.bool b)) hb870)) rfl) rfl ?_
            obtain rfl := Option.some.inj hG869
            refine rw_nil ⟨⟨[], (List.append_nil _).symm, rfl⟩, _, _, rfl, rfl, rfl, rfl, rfl⟩
          · refine rw_no ((rfl).trans (congrArg some (by simp only [hb870]; first | rfl | simp))) rfl (fun u875 k876 hk877 => ?_)
            refine rw_no ((rfl).trans (congrArg some (by simp only [hb870]; first | rfl | simp))) rfl (fun u878 k879 hk880 => ?_)
            refine rw_no ((rfl).trans (congrArg some (by simp only [hb870]; first | rfl | simp))) rfl (fun u881 k882 hk883 => ?_)
            refine rw_no ((rfl).trans (congrArg some (by simp only [hb870]; first | rfl | simp))) rfl (fun u884 k885 hk886 => ?_)
            refine rw_no ((rfl).trans (congrArg some (by simp only [hb870]; first | rfl | simp))) rfl (fun u887 k888 hk889 => ?_)
            refine rw_no ((rfl).trans (congrArg some (by simp only [hb870]; first | rfl | simp))) rfl (fun u890 k891 hk892 => ?_)
            refine rw_no ((rfl).trans (congrArg some (by simp only [hb870]; first | rfl | simp))) rfl (fun u893 k894 hk895 => ?_)
            refine rw_p (ov_pickF ((rfl : _ = _).trans (congrArg (fun b => AV.val (.bool b)) hb870)) rfl) rfl ?_
            obtain rfl := Option.some.inj hG869
            refine rw_nil ⟨⟨(k876 ++ (k879 ++ (k882 ++ (k885 ++ (k888 ++ (k891 ++ k894)))))), by simp only [List.append_assoc], by simp only [readsOnly_append, hk877, hk880, hk883, hk886, hk889, hk892, hk895, Bool.and_self]⟩, _, _, rfl, rfl, rfl, rfl, rfl⟩
        · rintro k902 t896 h897 hk903 ⟨e898, e899, e900, e901⟩
          refine rw_p (ov_move (v := (B p868)) (congrArg (un _) e900)) rfl ?_
          refine rw_g rfl (ov_fieldAddr (cells' := (cXApi_End a1)) fd49_0 rfl (congrArg (un _) e899) rfl rfl) rfl ?_
          refine rw_g rfl (ov_load (v := (I a1.Kind)) ag3 sz3 (un_self _) rfl rfl) rfl ?_
          refine rw_g rfl (ov_eql (k := .i64) (a := a1.Kind) (b := 2) (un_self _) rfl) rfl ?_
          refine rw_g rfl (ov_move (v := (B (a1.Kind == 2))) (un_self _)) rfl ?_
          refine rw_g rfl (ov_fieldAddr (cells' := ((cXApi_End a1).drop 1)) fd49_1 rfl (congrArg (un _) e899) rfl rfl) rfl ?_
          refine rw_g rfl (ov_load (v := (AV.agg (cXApi_Val a1.On))) ag47 sz47 (un_self _) rfl rfl) rfl ?_
          refine rw_g rfl (ov_build (ps := []) (cs := cXApi_Val (XApi_Val.mk false 0)) zc47 pl47  rfl rfl) rfl ?_
          refine rw_g rfl (ov_bin (un_self _) (un_self _) rfl rfl (eq47_neq _ _ a1.On.Reg false a1.On.N 0) rfl) rfl ?_
          refine rw_g rfl (ov_pickB (p := (a1.Kind == 2)) (q := (!((a1.On.Reg == false) && ((a1.On.N == 0) && true)))) (r := false) (un_self _) (un_imp (by generalize (a1.Kind == 2) = u0; generalize p868 = u1; cases u0 <;> cases u1 <;> rfl)) rfl) rfl ?_
          refine rw_p (ov_pickB (p := p868) (q := true) (r := (if (a1.Kind == 2) then (!((a1.On.Reg == false) && ((a1.On.N == 0) && true))) else false)) rfl rfl (un_imp (by generalize p868 = u0; cases u0 <;> rfl))) rfl ?_
          refine rw_p (ov_assign (v := (B (if p868 then true else (if (a1.Kind == 2) then (!((a1.On.Reg == false) && ((a1.On.N == 0) && true))) else false)))) rfl) rfl ?_
          refine rw_nil ⟨(heapFree_reads _ _ (by simp only [readsOnly_append, hk903]; rfl)), ?_⟩
          refine q_seq ?_
          refine w_if (p := (if p868 then true else (if (a1.Kind == 2) then (!((a1.On.Reg == false) && ((a1.On.N == 0) && true))) else false))) hF rfl (fun hb923 hF => ?_) (fun hb923 hF => ?_)
          · refine v_seq ?_
            refine w_reg ?_
            refine rw_p (ov_assign (v := (I 5)) rfl) rfl ?_
            refine rw_nil ?_
            refine q_seq ?_
            refine w_ret ?_
            refine q_blkR ?_
            refine q_seqR ?_
            obtain rfl := Option.some.inj hF
            exact (fin_ret (res_tmp (pk_of (v := (I 5)) rfl rfl) res_nil) rfl rfl)
          · refine w_skip ?_
            refine q_blk ?_
            refine q_seq ?_
            refine v_seq ?_
            refine w_reg ?_
            refine rw_p (ov_load (v := (AV.agg (cXCode_checker a0))) ag82 sz82 (congrArg (un _) e898) rfl rfl) rfl ?_
            refine rw_p (ov_fieldAddr (cells' := ((cXApi_End a1).drop 1)) fd49_1 rfl (congrArg (un _) e899) rfl rfl) rfl ?_
            refine rw_p (ov_load (v := (AV.agg (cXApi_Val a1.On))) ag47 sz47 rfl rfl rfl) rfl ?_
            obtain ⟨x921, hx922, hF⟩ := bindS hF
            refine rw_p (ov_call (args := [(AV.agg (cXCode_checker a0)), (AV.agg (cXApi_Val a1.On))]) (r := (R_code_checker_val x921)) (v := (I x921)) rfl (cons_eq rfl (cons_eq rfl rfl)) rfl rfl (T_code_checker_val (nn + 2) a0 a1.On x921 hx922) fz58 rfl rfl) rfl ?_
            refine rw_p (ov_assign (v := (I x921)) rfl) rfl ?_
            refine rw_nil ?_
            refine q_seq ?_
            refine w_ret ?_
            obtain rfl := Option.some.inj hF
            exact (fin_ret (res_tmp (pk_of (v := (I x921)) rfl rfl) res_nil) rfl rfl)

/-! turnery/code.ahead -/
noncomputable def code_ahead_L2 (y955 : Int) (x957 : XApi_Block) (y959 : (List (List Int))) (y960 : Int) : Option (Lp ((List (List Int)) × Int) (List (List Int))) :=
  if (decide (y960 < (x957.End.To.length : Int))) then
  ((idx x957.End.To y960).bind fun x962 =>
  (idx y959 x962).bind fun x964 =>
  (app x964 [y955]).bind fun x966 =>
  some (.next ((List.set y959 (x962).toNat x966), (w64 (y960 + 1)))))
  else
  (some (.out y959))
noncomputable def code_ahead_L1 (a0 : XApi_Func) (y954 : (List (List Int))) (y955 : Int) : Option (Lp ((List (List Int)) × Int) (List (List Int))) :=
  if (decide (y955 < (a0.Blocks.length : Int))) then
  ((idx a0.Blocks y955).bind fun x957 =>
  (Loop (fun (s : ((List (List Int)) × Int)) => code_ahead_L2 y955 x957 s.1 s.2) (y954, 0)).bind fun o971 =>
  some (.next (o971, (w64 (y955 + 1)))))
  else
  (some (.out y954))
noncomputable def code_ahead (a0 : XApi_Func) : Option (List (List Int)) :=
  (mks (a0.Blocks.length : Int) ([] : (List Int))).bind fun x952 =>
  (Loop (fun (s : ((List (List Int)) × Int)) => code_ahead_L1 a0 s.1 s.2) (x952, 0)).bind fun o983 =>
  some o983
abbrev RV35 : List ResultVar := [.tmp 2]
def R_code_ahead (r : (List (List Int))) : AV := (.own ((r).map co_cInt_i64))
set_option maxHeartbeats 2000000 in
theorem T_code_ahead (nn : Nat) (a0 : XApi_Func) (r : (List (List Int))) (hF : code_ahead a0 = some r) : den cx (nn + 1) 35 [(AV.agg (cXApi_Func a0))] = some (R_code_ahead r, []) := by
  unfold code_ahead at hF
  refine fn_of (nn := nn) (rv := RV35) (cxE _) Tryd.func35 rfl rfl Tryd.ntmps35 (cxL _) rfl ?_
  show W cx 35 _ _ ⟨41, (upd (fun _ => AV.junk) 0 (AV.agg (cXApi_Func a0))), (fun _ => none)⟩ _
  refine v_seq ?_
  refine w_reg ?_
  refine rw_p (ov_boxF (cs := cXApi_Func a0) (cs' := cXApi_Func a0) ag37 fz35 rfl rfl rfl rfl rfl) rfl ?_
  refine rw_p (ov_assign (v := AV.snil) rfl) rfl ?_
  refine rw_nil ?_
  refine q_seq ?_
  refine v_seq ?_
  refine w_reg ?_
  refine rw_p (ov_fieldAddr (cells' := ((cXApi_Func a0).drop 3)) fd37_3 rfl rfl rfl rfl) rfl ?_
  refine rw_p (ov_load (v := (AV.sl ((a0.Blocks).map cXApi_Block))) ag35 sz35 rfl rfl rfl) rfl ?_
  refine rw_p (ov_lenSl (m := a0.Blocks.length) Tryd.underlying35 rfl rfl rfl (List.length_map _)) rfl ?_
  obtain ⟨x952, hx953, hF⟩ := bindS hF
  refine rw_w (ov_make (c := co_cInt_i64) (zv := []) Tryd.underlying32 ao42 zm42 rfl rfl rfl rfl hx953 rfl) rfl ?_
  refine rw_p (ov_assign (v := (AV.rs [11] 0 (x952).length)) rfl) rfl ?_
  refine rw_nil ?_
  refine q_seq ?_
  refine v_seq ?_
  refine v_seq ?_
  refine w_reg ?_
  refine rw_p (ov_fieldAddr (cells' := ((cXApi_Func a0).drop 3)) fd37_3 rfl rfl rfl rfl) rfl ?_
  refine rw_p (ov_load (v := (AV.sl ((a0.Blocks).map cXApi_Block))) ag35 sz35 rfl rfl rfl) rfl ?_
  refine rw_p (ov_lenSl (m := a0.Blocks.length) Tryd.underlying35 rfl rfl rfl (List.length_map _)) rfl ?_
  refine rw_p (ov_move (v := (I 0)) rfl) rfl ?_
  refine rw_nil ?_
  refine q_seq ?_
  refine v_block ?_
  obtain ⟨o983, hL984, hF⟩ := bindS hF
  refine v_loop (fun (s : ((List (List Int)) × Int)) => [(AV.own ((s.1).map co_cInt_i64)), (AV.sl ((a0.Blocks).map cXApi_Block)), (I (a0.Blocks.length : Int)), (I s.2)]) (fun (s : (List (List Int))) x => ∃ t h, x = (Exit.exit 0, ⟨41, t, h⟩) ∧ t 3 = (AV.rs [3] 0 (s).length) ∧ h [3] = some (some ((s).map co_cInt_i64))) hL984 lv35_3 (renorm_of (packL_mk (pk_rsT (c := co_cInt_i64) (q := x952) rfl rfl fl_co_cInt_i64) (packL_mk (pk_of (v := (AV.sl ((a0.Blocks).map cXApi_Block))) rfl rfl) (packL_mk (pk_of (v := (I (a0.Blocks.length : Int))) rfl rfl) (packL_mk (pk_of (v := (I 0)) rfl rfl) packL_0)))) rfl) ?_ ?_
  · rintro ⟨y954, y955⟩ z956 hF
    replace hF : code_ahead_L1 a0 y954 y955 = some z956 := hF
    unfold code_ahead_L1 at hF
    show W cx 35 _ _ ⟨41, (upd (upd (upd (upd (fun _ => AV.junk) 15 (I y955)) 14 (I (a0.Blocks.length : Int))) 13 (AV.sl ((a0.Blocks).map cXApi_Block))) 3 (AV.rs [3] 0 (y954.map co_cInt_i64).length)), (upd (fun _ => none) [3] (some (some (y954.map co_cInt_i64))))⟩ _
    refine v_seq ?_
    refine w_reg ?_
    refine rw_p (ov_lss (k := .i64) (a := y955) (b := (a0.Blocks.length : Int)) rfl rfl) rfl ?_
    refine rw_nil ?_
    refine q_seq ?_
    refine v_seq ?_
    refine w_if (p := (decide (y955 < (a0.Blocks.length : Int)))) hF rfl (fun hb982 hF => ?_) (fun hb982 hF => ?_)
    · refine w_skip ?_
      refine q_seq ?_
      refine v_seq ?_
      refine v_block ?_
      refine v_seq ?_
      refine w_reg ?_
      refine rw_p (ov_move (v := (I y955)) rfl) rfl ?_
      obtain ⟨x957, hx958, hF⟩ := bindS hF
      refine rw_p (ov_indexAddr (k := .i64) (c := cXApi_Block) (q := a0.Blocks) (i := y955) Tryd.underlying35 sz53 rfl rfl rfl hx958 rfl) rfl ?_
      refine rw_p (ov_load (v := (AV.agg (cXApi_Block x957))) ag53 sz53 rfl rfl rfl) rfl ?_
      refine rw_w (ov_alloc zm53 rfl) rfl ?_
      refine rw_p (ov_assign (v := (I y955)) rfl) rfl ?_
      refine rw_w (ov_storeF (v := (AV.agg (cXApi_Block x957))) (cs := cXApi_Block x957) (cs' := cXApi_Block x957) ag53 sz53 rfl rfl rfl rfl rfl rfl fz35 rfl rfl rfl) rfl ?_
      refine rw_nil ?_
      refine q_seq ?_
      refine v_seq ?_
      refine w_reg ?_
      refine rw_p (ov_fieldAddr (cells' := ((cXApi_Block x957).drop 2)) fd53_2 rfl rfl rfl rfl) rfl ?_
      refine rw_p (ov_fieldAddr (cells' := ((cXApi_Block x957).drop 5)) fd49_2 rfl rfl rfl rfl) rfl ?_
      refine rw_p (ov_load (v := (AV.sl ((x957.End.To).map cInt_i64))) ag42 sz42 rfl rfl rfl) rfl ?_
      refine rw_p (ov_lenSl (m := x957.End.To.length) Tryd.underlying42 rfl rfl rfl (List.length_map _)) rfl ?_
      refine rw_p (ov_move (v := (I 0)) rfl) rfl ?_
      refine rw_nil ?_
      refine q_seq ?_
      refine v_block ?_
      obtain ⟨o971, hL972, hF⟩ := bindS hF
      refine v_loop (fun (s : ((List (List Int)) × Int)) => [(AV.own ((s.1).map co_cInt_i64)), (I y955), (AV.sl ((a0.Blocks).map cXApi_Block)), (I (a0.Blocks.length : Int)), (I y955), (AV.sl ((x957.End.To).map cInt_i64)), (I (x957.End.To.length : Int)), (I s.2)]) (fun (s : (List (List Int))) x => ∃ t h, x = (Exit.exit 2, ⟨41, t, h⟩) ∧ t 3 = (AV.rs [3] 0 (s).length) ∧ h [3] = some (some ((s).map co_cInt_i64)) ∧ t 13 = (AV.sl ((a0.Blocks).map cXApi_Block)) ∧ t 14 = (I (a0.Blocks.length : Int)) ∧ t 15 = (I y955)) hL972 lv35_6 (renorm_of (packL_mk (pk_rsT (c := co_cInt_i64) (q := y954) (congrArg (AV.rs [3] 0) (List.length_map _)) rfl fl_co_cInt_i64) (packL_mk (pk_of (v := (I y955)) rfl rfl) (packL_mk (pk_of (v := (AV.sl ((a0.Blocks).map cXApi_Block))) rfl rfl) (packL_mk (pk_of (v := (I (a0.Blocks.length : Int))) rfl rfl) (packL_mk (pk_of (v := (I y955)) rfl rfl) (packL_mk (pk_of (v := (AV.sl ((x957.End.To).map cInt_i64))) rfl rfl) (packL_mk (pk_of (v := (I (x957.End.To.length : Int))) rfl rfl) (packL_mk (pk_of (v := (I 0)) rfl rfl) packL_0)))))))) rfl) ?_ ?_
      · rintro ⟨y959, y960⟩ z961 hF
        replace hF : code_ahead_L2 y955 x957 y959 y960 = some z961 := hF
        unfold code_ahead_L2 at hF
        show W cx 35 _ _ ⟨41, (upd (upd (upd (upd (upd (upd (upd (upd (fun _ => AV.junk) 24 (I y960)) 23 (I (x957.End.To.length : Int))) 22 (AV.sl ((x957.End.To).map cInt_i64))) 15 (I y955)) 14 (I (a0.Blocks.length : Int))) 13 (AV.sl ((a0.Blocks).map cXApi_Block))) 4 (I y955)) 3 (AV.rs [3] 0 (y959.map co_cInt_i64).length)), (upd (fun _ => none) [3] (some (some (y959.map co_cInt_i64))))⟩ _
        refine v_seq ?_
        refine w_reg ?_
        refine rw_p (ov_lss (k := .i64) (a := y960) (b := (x957.End.To.length : Int)) rfl rfl) rfl ?_
        refine rw_nil ?_
        refine q_seq ?_
        refine v_seq ?_
        refine w_if (p := (decide (y960 < (x957.End.To.length : Int)))) hF rfl (fun hb970 hF => ?_) (fun hb970 hF => ?_)
        · refine w_skip ?_
          refine q_seq ?_
          refine v_seq ?_
          refine v_block ?_
          refine v_seq ?_
          refine w_reg ?_
          obtain ⟨x962, hx963, hF⟩ := bindS hF
          refine rw_p (ov_indexAddr (k := .i64) (c := cInt_i64) (q := x957.End.To) (i := y960) Tryd.underlying42 sz3 rfl rfl rfl hx963 rfl) rfl ?_
          refine rw_p (ov_load (v := (I x962)) ag3 sz3 rfl rfl rfl) rfl ?_
          refine rw_p (ov_assign (v := (I x962)) rfl) rfl ?_
          refine rw_nil ?_
          refine q_seq ?_
          refine w_reg ?_
          refine rw_p (ov_move (v := (AV.rs [3] 0 (y959).length)) (congrArg (un _) (congrArg (AV.rs [3] 0) (List.length_map _)))) rfl ?_
          refine rw_p (ov_move (v := (I x962)) rfl) rfl ?_
          refine rw_p (ov_move (v := (AV.rs [3] 0 (y959).length)) (congrArg (un _) (congrArg (AV.rs [3] 0) (List.length_map _)))) rfl ?_
          refine rw_p (ov_move (v := (I x962)) rfl) rfl ?_
          obtain ⟨x964, hx965, hF⟩ := bindS hF
          refine rw_r (ov_indexAddrM (k := .i64) (c := co_cInt_i64) (q := y959) (i := x962) Tryd.underlying32 sz42 rfl rfl rfl hx965 rfl) rfl ?_
          refine rw_w (ov_loadO (c := co_cInt_i64) (c' := cInt_i64) (q := y959) (r := x964) (l := x964) ag42 sz42 rfl rfl (idx_nat hx965) rfl rfl rfl) rfl ?_
          refine rw_p (ov_move (v := (I y955)) rfl) rfl ?_
          refine rw_p (ov_buildSliceF (ps := [(0, (I y955))]) (rows := ([y955] : List Int).map cInt_i64) (rows' := ([y955] : List Int).map cInt_i64) Tryd.underlying42 zc3 ag3 sz3 rfl (cons_eqp rfl rfl) rfl fz35 rfl rfl rfl) rfl ?_
          obtain ⟨x966, hx967, hF⟩ := bindS hF
          refine rw_w (ov_append (c := cInt_i64) (q := x964) (q' := [y955]) rfl Tryd.underlying42 rfl Tryd.underlying42 ao3 rfl rfl rfl rfl ln_cInt_i64 rfl hx967 rfl) rfl ?_
          refine rw_r (ov_indexAddrO (k := .i64) (rows := ((y959).map co_cInt_i64).set (x962).toNat [(AV.rs [0, 33] 0 (x964).length)]) (rc := [(AV.rs [0, 33] 0 (x964).length)]) (i := x962) Tryd.underlying32 sz42 rfl rfl rfl (idx_bounds hx965) (set_get (getE_map (idx_nat hx965))) rfl) rfl ?_
          refine rw_w (ov_storeO (rows := ((y959).map co_cInt_i64).set (x962).toNat [(AV.rs [0, 33] 0 (x964).length)]) (rc := [(AV.rs [0, 33] 0 (x964).length)]) (v := (AV.rs [36] 0 (x966).length)) (cs := [(AV.rs [36] 0 (x966).length)]) ag42 sz42 rfl rfl rfl rfl rfl (set_get (getE_map (idx_nat hx965))) rfl fz35 rfl) rfl ?_
          refine rw_nil ?_
          refine q_blk ?_
          refine q_seq ?_
          refine w_reg ?_
          refine rw_p (ov_add (k := .i64) (a := y960) (b := 1) rfl rfl) rfl ?_
          refine rw_p (ov_move (v := (I (w64 (y960 + 1)))) rfl) rfl ?_
          refine rw_nil ?_
          obtain rfl := Option.some.inj hF
          exact q_next (renorm_of (packL_mk (pk_open (c := co_cInt_i64) (q := y959) (row := (x962).toNat) (r := x964) (r' := x966) (rc := [(AV.rs [36] 0 (x966).length)]) (congrArg (AV.rs [3] 0) (List.length_map _)) rfl (congrArg (fun z => some (some z)) (List.set_set ..)) (idx_nat hx965) fl_co_cInt_i64 rfl (foldC_1 (pk8_rs (c := cInt_i64) (q := x966) (by simp) rfl fl_cInt_i64) foldC_0)) (packL_mk (pk_of (v := (I y955)) rfl rfl) (packL_mk (pk_of (v := (AV.sl ((a0.Blocks).map cXApi_Block))) rfl rfl) (packL_mk (pk_of (v := (I (a0.Blocks.length : Int))) rfl rfl) (packL_mk (pk_of (v := (I y955)) rfl rfl) (packL_mk (pk_of (v := (AV.sl ((x957.End.To).map cInt_i64))) rfl rfl) (packL_mk (pk_of (v := (I (x957.End.To.length : Int))) rfl rfl) (packL_mk (pk_of (v := (I (w64 (y960 + 1)))) rfl rfl) packL_0)))))))) rfl)
        · refine w_exit ?_
          refine q_seqE ?_
          obtain rfl := Option.some.inj hF
          refine q_out ?_
          exact ⟨_, _, rfl, (congrArg (AV.rs [3] 0) (List.length_map _)), rfl, rfl, rfl, rfl⟩
      · rintro x980 hr981
        obtain ⟨t973, h974, rfl, e975, e976, e977, e978, e979⟩ := hr981
        refine q_blkH ?_
        refine q_blk ?_
        refine q_seq ?_
        refine w_reg ?_
        refine rw_p (ov_add (k := .i64) (a := y955) (b := 1) (congrArg (un _) e979) rfl) rfl ?_
        refine rw_p (ov_move (v := (I (w64 (y955 + 1)))) rfl) rfl ?_
        refine rw_nil ?_
        obtain rfl := Option.some.inj hF
        exact q_next (renorm_of (packL_mk (pk_rsT (c := co_cInt_i64) (q := o971) e975 e976 fl_co_cInt_i64) (packL_mk (pk_of (v := (AV.sl ((a0.Blocks).map cXApi_Block))) e977 rfl) (packL_mk (pk_of (v := (I (a0.Blocks.length : Int))) e978 rfl) (packL_mk (pk_of (v := (I (w64 (y955 + 1)))) rfl rfl) packL_0)))) rfl)
    · refine w_exit ?_
      refine q_seqE ?_
      obtain rfl := Option.some.inj hF
      refine q_out ?_
      exact ⟨_, _, rfl, (congrArg (AV.rs [3] 0) (List.length_map _)), rfl⟩
  · rintro x989 hr990
    obtain ⟨t985, h986, rfl, e987, e988⟩ := hr990
    refine q_blkH ?_
    refine q_seq ?_
    refine v_seq ?_
    refine w_reg ?_
    refine rw_p (ov_move (v := (AV.rs [3] 0 (o983).length)) (congrArg (un _) e987)) rfl ?_
    refine rw_p (ov_assign (v := (AV.rs [3] 0 (o983).length)) rfl) rfl ?_
    refine rw_nil ?_
    refine q_seq ?_
    refine w_ret ?_
    obtain rfl := Option.some.inj hF
    exact (fin_ret (res_tmp (pk_rsT (c := co_cInt_i64) (q := o983) rfl e988 fl_co_cInt_i64) res_nil) rfl rfl)

/-! (turnery/code.checker).dst -/

noncomputable def code_checker_dst (a0 : XCode_checker) (a1 : Int) : Option Int :=
  (core_Within a1 0 (w64 (a0.f.Regs - 1))).bind fun x1003 =>
  if (!x1003) then
  (some 3)
  else
  (some 0)
abbrev RV79 : List ResultVar := [.tmp 4]
def R_code_checker_dst (r : Int) : AV := (I r)
set_option maxHeartbeats 2000000 in
theorem T_code_checker_dst (nn : Nat) (a0 : XCode_checker) (a1 : Int) (r : Int) (hF : code_checker_dst a0 a1 = some r) : den cx (nn + 2) 79 [(AV.agg (cXCode_checker a0)), (I a1)] = some (R_code_checker_dst r, []) := by
  unfold code_checker_dst at hF
  refine fn_of (nn := (nn + 1)) (rv := RV79) (cxE _) Tryd.func79 rfl rfl Tryd.ntmps79 (cxL _) rfl ?_
  show W cx 79 _ _ ⟨12, (upd (upd (fun _ => AV.junk) 1 (I a1)) 0 (AV.agg (cXCode_checker a0))), (fun _ => none)⟩ _
  refine v_seq ?_
  refine w_reg ?_
  refine rw_p (ov_boxF (cs := cXCode_checker a0) (cs' := cXCode_checker a0) ag82 fz79 rfl rfl rfl rfl rfl) rfl ?_
  refine rw_p (ov_assign (v := (I 0)) rfl) rfl ?_
  refine rw_nil ?_
  refine q_seq ?_
  refine v_seq ?_
  refine v_seq ?_
  refine w_reg ?_
  refine rw_p (ov_move (v := (I a1)) rfl) rfl ?_
  refine rw_p (ov_fieldAddr (cells' := ((cXCode_checker a0).drop 2)) fd82_1 rfl rfl rfl rfl) rfl ?_
  refine rw_p (ov_fieldAddr (cells' := ((cXCode_checker a0).drop 4)) fd37_2 rfl rfl rfl rfl) rfl ?_
  refine rw_p (ov_load (v := (I a0.f.Regs)) ag3 sz3 rfl rfl rfl) rfl ?_
  refine rw_p (ov_sub (k := .i64) (a := a0.f.Regs) (b := 1) rfl rfl) rfl ?_
  obtain ⟨x1003, hx1004, hF⟩ := bindS hF
  refine rw_p (ov_call (args := [(I a1), (I 0), (I (w64 (a0.f.Regs - 1)))]) (r := (R_core_Within x1003)) (v := (B x1003)) rfl (cons_eq rfl (cons_eq rfl (cons_eq rfl rfl))) rfl rfl (T_core_Within nn a1 0 (w64 (a0.f.Regs - 1)) x1003 hx1004) fz79 rfl rfl) rfl ?_
  refine rw_p (ov_not (p := x1003) rfl) rfl ?_
  refine rw_nil ?_
  refine q_seq ?_
  refine w_if (p := (!x1003)) hF rfl (fun hb1005 hF => ?_) (fun hb1005 hF => ?_)
  · refine v_seq ?_
    refine w_reg ?_
    refine rw_p (ov_assign (v := (I 3)) rfl) rfl ?_
    refine rw_nil ?_
    refine q_seq ?_
    refine w_ret ?_
    refine q_seqR ?_
    obtain rfl := Option.some.inj hF
    exact (fin_ret (res_tmp (pk_of (v := (I 3)) rfl rfl) res_nil) rfl rfl)
  · refine w_skip ?_
    refine q_seq ?_
    refine v_seq ?_
    refine w_reg ?_
    refine rw_p (ov_assign (v := (I 0)) rfl) rfl ?_
    refine rw_nil ?_
    refine q_seq ?_
    refine w_ret ?_
    obtain rfl := Option.some.inj hF
    exact (fin_ret (res_tmp (pk_of (v := (I 0)) rfl rfl) res_nil) rfl rfl)

/-! (turnery/code.checker).phi -/
noncomputable def code_checker_phi_L1 (a0 : XCode_checker) (a2 : XApi_Phi) (y1010 : Int) : Option (Lp Int (Br Unit Int)) :=
  if (decide (y1010 < (a2.From.length : Int))) then
  ((idx a2.From y1010).bind fun x1012 =>
  (code_checker_val a0 x1012).bind fun x1014 =>
  if (x1014 != 0) then
  (some (.out (.ret x1014)))
  else
  (some (.next (w64 (y1010 + 1)))))
  else
  (some (.out (.brk ())))
noncomputable def code_checker_phi (a0 : XCode_checker) (a1 : Int) (a2 : XApi_Phi) : Option Int :=
  if (a1 == 0) then
  (some 5)
  else
  ((code_checker_dst a0 a2.Dst).bind fun x1006 =>
  if (x1006 != 0) then
  (some x1006)
  else
  ((idx a0.ahead a1).bind fun x1008 =>
  if ((a2.From.length : Int) != (x1008.length : Int)) then
  (some 9)
  else
  ((Loop (fun (s : Int) => code_checker_phi_L1 a0 a2 s) 0).bind fun o1018 => match o1018 with
  | .ret r1025 => some r1025
  | .brk b1020 =>
  some 0)))
abbrev RV59 : List ResultVar := [.tmp 6]
def R_code_checker_phi (r : Int) : AV := (I r)
set_option maxHeartbeats 2000000 in
theorem T_code_checker_phi (nn : Nat) (a0 : XCode_checker) (a1 : Int) (a2 : XApi_Phi) (r : Int) (hF : code_checker_phi a0 a1 a2 = some r) : den cx (nn + 3) 59 [(AV.agg (cXCode_checker a0)), (I a1), (AV.agg (cXApi_Phi a2))] = some (R_code_checker_phi r, []) := by
  unfold code_checker_phi at hF
  refine fn_of (nn := (nn + 2)) (rv := RV59) (cxE _) Tryd.func59 rfl rfl Tryd.ntmps59 (cxL _) rfl ?_
  show W cx 59 _ _ ⟨44, (upd (upd (upd (fun _ => AV.junk) 2 (AV.agg (cXApi_Phi a2))) 1 (I a1)) 0 (AV.agg (cXCode_checker a0))), (fun _ => none)⟩ _
  refine v_seq ?_
  refine w_reg ?_
  refine rw_p (ov_boxF (cs := cXCode_checker a0) (cs' := cXCode_checker a0) ag82 fz59 rfl rfl rfl rfl rfl) rfl ?_
  refine rw_p (ov_boxF (cs := cXApi_Phi a2) (cs' := cXApi_Phi a2) ag107 fz59 rfl rfl rfl rfl rfl) rfl ?_
  refine rw_p (ov_assign (v := (I 0)) rfl) rfl ?_
  refine rw_nil ?_
  refine q_seq ?_
  refine v_seq ?_
  refine v_seq ?_
  refine w_reg ?_
  refine rw_p (ov_move (v := (I a1)) rfl) rfl ?_
  refine rw_p (ov_eql (k := .i64) (a := a1) (b := 0) rfl rfl) rfl ?_
  refine rw_nil ?_
  refine q_seq ?_
  refine w_if (p := (a1 == 0)) hF rfl (fun hb1028 hF => ?_) (fun hb1028 hF => ?_)
  · refine v_seq ?_
    refine w_reg ?_
    refine rw_p (ov_assign (v := (I 5)) rfl) rfl ?_
    refine rw_nil ?_
    refine q_seq ?_
    refine w_ret ?_
    refine q_seqR ?_
    obtain rfl := Option.some.inj hF
    exact (fin_ret (res_tmp (pk_of (v := (I 5)) rfl rfl) res_nil) rfl rfl)
  · refine w_skip ?_
    refine q_seq ?_
    refine v_seq ?_
    refine v_seq ?_
    refine w_reg ?_
    refine rw_p (ov_load (v := (AV.agg (cXCode_checker a0))) ag82 sz82 rfl rfl rfl) rfl ?_
    refine rw_p (ov_fieldAddr (cells' := (cXApi_Phi a2)) fd107_0 rfl rfl rfl rfl) rfl ?_
    refine rw_p (ov_load (v := (I a2.Dst)) ag3 sz3 rfl rfl rfl) rfl ?_
    obtain ⟨x1006, hx1007, hF⟩ := bindS hF
    refine rw_p (ov_call (args := [(AV.agg (cXCode_checker a0)), (I a2.Dst)]) (r := (R_code_checker_dst x1006)) (v := (I x1006)) rfl (cons_eq rfl (cons_eq rfl rfl)) rfl rfl (T_code_checker_dst nn a0 a2.Dst x1006 hx1007) fz59 rfl rfl) rfl ?_
    refine rw_p (ov_assign (v := (I x1006)) rfl) rfl ?_
    refine rw_nil ?_
    refine q_seq ?_
    refine v_seq ?_
    refine w_reg ?_
    refine rw_p (ov_move (v := (I x1006)) rfl) rfl ?_
    refine rw_p (ov_neq (k := .i64) (a := x1006) (b := 0) rfl rfl) rfl ?_
    refine rw_nil ?_
    refine q_seq ?_
    refine w_if (p := (x1006 != 0)) hF rfl (fun hb1027 hF => ?_) (fun hb1027 hF => ?_)
    · refine v_seq ?_
      refine w_reg ?_
      refine rw_p (ov_move (v := (I x1006)) rfl) rfl ?_
      refine rw_p (ov_assign (v := (I x1006)) rfl) rfl ?_
      refine rw_nil ?_
      refine q_seq ?_
      refine w_ret ?_
      refine q_seqR ?_
      obtain rfl := Option.some.inj hF
      exact (fin_ret (res_tmp (pk_of (v := (I x1006)) rfl rfl) res_nil) rfl rfl)
    · refine w_skip ?_
      refine q_seq ?_
      refine v_seq ?_
      refine v_seq ?_
      refine w_regD ?_
      refine rw_p (ov_fieldAddr (cells' := ((cXApi_Phi a2).drop 1)) fd107_1 rfl rfl rfl rfl) rfl ?_
      refine rw_p (ov_load (v := (AV.sl ((a2.From).map cXApi_Val))) ag54 sz54 rfl rfl rfl) rfl ?_
      refine rw_p (ov_lenSl (m := a2.From.length) Tryd.underlying54 rfl rfl rfl (List.length_map _)) rfl ?_
      refine rw_p (ov_fieldAddr (cells' := ((cXCode_checker a0).drop 6)) fd82_2 rfl rfl rfl rfl) rfl ?_
      refine rw_p (ov_load (v := (AV.sl ((a0.ahead).map cs_cInt_i64))) ag32 sz32 rfl rfl rfl) rfl ?_
      refine rw_p (ov_move (v := (I a1)) rfl) rfl ?_
      obtain ⟨x1008, hx1009, hF⟩ := bindS hF
      refine rw_p (ov_indexAddr (k := .i64) (c := cs_cInt_i64) (q := a0.ahead) (i := a1) Tryd.underlying32 sz42 rfl rfl rfl hx1009 rfl) rfl ?_
      refine rw_p (ov_load (v := (AV.sl ((x1008).map cInt_i64))) ag42 sz42 rfl rfl rfl) rfl ?_
      refine rw_p (ov_lenSl (m := x1008.length) Tryd.underlying42 rfl rfl rfl (List.length_map _)) rfl ?_
      refine rw_p (ov_neq (k := .i64) (a := (a2.From.length : Int)) (b := (x1008.length : Int)) rfl rfl) rfl ?_
      refine rw_nil ⟨rfl, ?_⟩
      refine q_seq ?_
      refine w_if (p := ((a2.From.length : Int) != (x1008.length : Int))) hF rfl (fun hb1026 hF => ?_) (fun hb1026 hF => ?_)
      · refine v_seq ?_
        refine w_reg ?_
        refine rw_p (ov_assign (v := (I 9)) rfl) rfl ?_
        refine rw_nil ?_
        refine q_seq ?_
        refine w_ret ?_
        refine q_seqR ?_
        obtain rfl := Option.some.inj hF
        exact (fin_ret (res_tmp (pk_of (v := (I 9)) rfl rfl) res_nil) rfl rfl)
      · refine w_skip ?_
        refine q_seq ?_
        refine v_seq ?_
        refine v_seq ?_
        refine w_reg ?_
        refine rw_p (ov_fieldAddr (cells' := ((cXApi_Phi a2).drop 1)) fd107_1 rfl rfl rfl rfl) rfl ?_
        refine rw_p (ov_load (v := (AV.sl ((a2.From).map cXApi_Val))) ag54 sz54 rfl rfl rfl) rfl ?_
        refine rw_p (ov_lenSl (m := a2.From.length) Tryd.underlying54 rfl rfl rfl (List.length_map _)) rfl ?_
        refine rw_p (ov_move (v := (I 0)) rfl) rfl ?_
        refine rw_nil ?_
        refine q_seq ?_
        refine v_block ?_
        obtain ⟨o1018, hL1019, hF⟩ := bindS hF
        refine v_loop (fun (s : Int) => [(AV.vp (cXCode_checker a0)), (AV.sl ((a2.From).map cXApi_Val)), (I (a2.From.length : Int)), (I s)]) (RelO (fun (s : Unit) x => ∃ t h, x = (Exit.exit 0, ⟨44, t, h⟩) ∧ True) (fun r x => x.1 = Exit.ret ∧ Fin cx RV59 (R_code_checker_phi r) x)) hL1019 lv59_9 (renorm_of (packL_mk (pk_of (v := (AV.vp (cXCode_checker a0))) rfl rfl) (packL_mk (pk_of (v := (AV.sl ((a2.From).map cXApi_Val))) rfl rfl) (packL_mk (pk_of (v := (I (a2.From.length : Int))) rfl rfl) (packL_mk (pk_of (v := (I 0)) rfl rfl) packL_0)))) rfl) ?_ ?_
        · rintro y1010 z1011 hF
          replace hF : code_checker_phi_L1 a0 a2 y1010 = some z1011 := hF
          unfold code_checker_phi_L1 at hF
          show W cx 59 _ _ ⟨44, (upd (upd (upd (upd (fun _ => AV.junk) 33 (I y1010)) 32 (I (a2.From.length : Int))) 31 (AV.sl ((a2.From).map cXApi_Val))) 3 (AV.vp (cXCode_checker a0))), (fun _ => none)⟩ _
          refine v_seq ?_
          refine w_reg ?_
          refine rw_p (ov_lss (k := .i64) (a := y1010) (b := (a2.From.length : Int)) rfl rfl) rfl ?_
          refine rw_nil ?_
          refine q_seq ?_
          refine v_seq ?_
          refine w_if (p := (decide (y1010 < (a2.From.length : Int)))) hF rfl (fun hb1017 hF => ?_) (fun hb1017 hF => ?_)
          · refine w_skip ?_
            refine q_seq ?_
            refine v_seq ?_
            refine v_block ?_
            refine v_seq ?_
            refine w_reg ?_
            obtain ⟨x1012, hx1013, hF⟩ := bindS hF
            refine rw_p (ov_indexAddr (k := .i64) (c := cXApi_Val) (q := a2.From) (i := y1010) Tryd.underlying54 sz47 rfl rfl rfl hx1013 rfl) rfl ?_
            refine rw_p (ov_load (v := (AV.agg (cXApi_Val x1012))) ag47 sz47 rfl rfl rfl) rfl ?_
            refine rw_w (ov_alloc zm47 rfl) rfl ?_
            refine rw_w (ov_storeF (v := (AV.agg (cXApi_Val x1012))) (cs := cXApi_Val x1012) (cs' := cXApi_Val x1012) ag47 sz47 rfl rfl rfl rfl rfl rfl fz59 rfl rfl rfl) rfl ?_
            refine rw_nil ?_
            refine q_seq ?_
            refine v_seq ?_
            refine w_reg ?_
            refine rw_p (ov_load (v := (AV.agg (cXCode_checker a0))) ag82 sz82 rfl rfl rfl) rfl ?_
            refine rw_p (ov_load (v := (AV.agg (cXApi_Val x1012))) ag47 sz47 rfl rfl rfl) rfl ?_
            obtain ⟨x1014, hx1015, hF⟩ := bindS hF
            refine rw_p (ov_call (args := [(AV.agg (cXCode_checker a0)), (AV.agg (cXApi_Val x1012))]) (r := (R_code_checker_val x1014)) (v := (I x1014)) rfl (cons_eq rfl (cons_eq rfl rfl)) rfl rfl (T_code_checker_val nn a0 x1012 x1014 hx1015) fz59 rfl rfl) rfl ?_
            refine rw_p (ov_assign (v := (I x1014)) rfl) rfl ?_
            refine rw_nil ?_
            refine q_seq ?_
            refine v_seq ?_
            refine w_reg ?_
            refine rw_p (ov_move (v := (I x1014)) rfl) rfl ?_
            refine rw_p (ov_neq (k := .i64) (a := x1014) (b := 0) rfl rfl) rfl ?_
            refine rw_nil ?_
            refine q_seq ?_
            refine w_if (p := (x1014 != 0)) hF rfl (fun hb1016 hF => ?_) (fun hb1016 hF => ?_)
            · refine v_seq ?_
              refine w_reg ?_
              refine rw_p (ov_move (v := (I x1014)) rfl) rfl ?_
              refine rw_p (ov_assign (v := (I x1014)) rfl) rfl ?_
              refine rw_nil ?_
              refine q_seq ?_
              refine w_ret ?_
              refine q_blkR ?_
              refine q_seqR ?_
              obtain rfl := Option.some.inj hF
              exact q_outR (relR ⟨rfl, (fin_ret (res_tmp (pk_of (v := (I x1014)) rfl rfl) res_nil) rfl rfl)⟩)
            · refine w_skip ?_
              refine q_blk ?_
              refine q_seq ?_
              refine w_reg ?_
              refine rw_p (ov_add (k := .i64) (a := y1010) (b := 1) rfl rfl) rfl ?_
              refine rw_p (ov_move (v := (I (w64 (y1010 + 1)))) rfl) rfl ?_
              refine rw_nil ?_
              obtain rfl := Option.some.inj hF
              exact q_next (renorm_of (packL_mk (pk_of (v := (AV.vp (cXCode_checker a0))) rfl rfl) (packL_mk (pk_of (v := (AV.sl ((a2.From).map cXApi_Val))) rfl rfl) (packL_mk (pk_of (v := (I (a2.From.length : Int))) rfl rfl) (packL_mk (pk_of (v := (I (w64 (y1010 + 1)))) rfl rfl) packL_0)))) rfl)
          · refine w_exit ?_
            refine q_seqE ?_
            obtain rfl := Option.some.inj hF
            refine q_out (relB ?_)
            exact ⟨_, _, rfl, trivial⟩
        · rintro x1023 hr1024
          cases o1018 with
          | ret r1025 =>
            replace hF : some r1025 = some r := hF
            obtain rfl := Option.some.inj hF
            obtain ⟨xe, xs⟩ := x1023
            obtain ⟨hxe, hfin⟩ := hr1024
            obtain rfl : xe = Exit.ret := hxe
            refine q_blkR ?_
            refine q_seqR ?_
            exact hfin
          | brk b1020 =>
            obtain ⟨t1021, h1022, rfl, _⟩ := hr1024
            refine q_blkH ?_
            refine q_seq ?_
            refine v_seq ?_
            refine w_reg ?_
            refine rw_p (ov_assign (v := (I 0)) rfl) rfl ?_
            refine rw_nil ?_
            refine q_seq ?_
            refine w_ret ?_
            obtain rfl := Option.some.inj hF
            exact (fin_ret (res_tmp (pk_of (v := (I 0)) rfl rfl) res_nil) rfl rfl)

/-! turnery/core.Shapes -/

noncomputable def core_Shapes (a0 : Int) : Option XCore_Shape :=
  if (if (if (if (a0 == 1) then true else (a0 == 16)) then true else (a0 == 17)) then true else (a0 == 18)) then
  (some (XCore_Shape.mk true true false))
  else
  (if (if (decide (2 ≤ a0)) then (decide (a0 ≤ 15)) else false) then
  (some (XCore_Shape.mk true true true))
  else
  (if (a0 == 19) then
  (some (XCore_Shape.mk false true true))
  else
  (if (if (a0 == 20) then true else (a0 == 21)) then
  (some (XCore_Shape.mk true false false))
  else
  (if (a0 == 22) then
  (some (XCore_Shape.mk false true false))
  else
  (some (XCore_Shape.mk false false false))))))
abbrev RV80 : List ResultVar := [.cell 2 131]
def R_core_Shapes (r : XCore_Shape) : AV := (.agg (cXCore_Shape r))
set_option maxHeartbeats 2000000 in
theorem T_core_Shapes (nn : Nat) (a0 : Int) (r : XCore_Shape) (hF : core_Shapes a0 = some r) : den cx (nn + 1) 80 [(I a0)] = some (R_core_Shapes r, []) := by
  unfold core_Shapes at hF
  refine fn_of (nn := nn) (rv := RV80) (cxE _) Tryd.func80 rfl rfl Tryd.ntmps80 (cxL _) rfl ?_
  show W cx 80 _ _ ⟨44, (upd (fun _ => AV.junk) 0 (I a0)), (fun _ => none)⟩ _
  refine v_seq ?_
  refine w_reg ?_
  refine rw_w (ov_alloc zm131 rfl) rfl ?_
  refine rw_nil ?_
  refine q_seq ?_
  refine v_seq ?_
  refine v_block ?_
  refine v_seq ?_
  refine w_reg ?_
  refine rw_p (ov_move (v := (I a0)) rfl) rfl ?_
  refine rw_p (ov_eql (k := .i64) (a := a0) (b := 1) rfl rfl) rfl ?_
  refine rw_p (ov_move (v := (B (a0 == 1))) rfl) rfl ?_
  refine rw_g rfl (ov_move (v := (I a0)) rfl) rfl ?_
  refine rw_g rfl (ov_eql (k := .i64) (a := a0) (b := 16) (un_self _) rfl) rfl ?_
  refine rw_p (ov_pickB (p := (a0 == 1)) (q := true) (r := (a0 == 16)) rfl rfl (un_imp (by generalize (a0 == 1) = u0; cases u0 <;> rfl))) rfl ?_
  refine rw_p (ov_move (v := (B (if (a0 == 1) then true else (a0 == 16)))) rfl) rfl ?_
  refine rw_g rfl (ov_move (v := (I a0)) rfl) rfl ?_
  refine rw_g rfl (ov_eql (k := .i64) (a := a0) (b := 17) (un_self _) rfl) rfl ?_
  refine rw_p (ov_pickB (p := (if (a0 == 1) then true else (a0 == 16))) (q := true) (r := (a0 == 17)) rfl rfl (un_imp (by generalize (if (a0 == 1) then true else (a0 == 16)) = u0; cases u0 <;> rfl))) rfl ?_
  refine rw_p (ov_move (v := (B (if (if (a0 == 1) then true else (a0 == 16)) then true else (a0 == 17)))) rfl) rfl ?_
  refine rw_g rfl (ov_move (v := (I a0)) rfl) rfl ?_
  refine rw_g rfl (ov_eql (k := .i64) (a := a0) (b := 18) (un_self _) rfl) rfl ?_
  refine rw_p (ov_pickB (p := (if (if (a0 == 1) then true else (a0 == 16)) then true else (a0 == 17))) (q := true) (r := (a0 == 18)) rfl rfl (un_imp (by generalize (if (if (a0 == 1) then true else (a0 == 16)) then true else (a0 == 17)) = u0; cases u0 <;> rfl))) rfl ?_
  refine rw_p (ov_assign (v := (B (if (if (if (a0 == 1) then true else (a0 == 16)) then true else (a0 == 17)) then true else (a0 == 18)))) rfl) rfl ?_
  refine rw_nil ?_
  refine q_seq ?_
  refine w_if (p := (if (if (if (a0 == 1) then true else (a0 == 16)) then true else (a0 == 17)) then true else (a0 == 18))) hF rfl (fun hb1055 hF => ?_) (fun hb1055 hF => ?_)
  · refine v_seq ?_
    refine w_reg ?_
    refine rw_p (ov_build (ps := [(0, (B true)), (1, (B true)), (2, (B false))]) (cs := cXCore_Shape (XCore_Shape.mk true true false)) zc131 pl131 (cons_eqp rfl (cons_eqp rfl (cons_eqp rfl rfl))) rfl) rfl ?_
    refine rw_w (ov_storeM (c := cXCore_Shape) (q := [(XCore_Shape.mk false false false)]) (r := (XCore_Shape.mk false false false)) (r' := (XCore_Shape.mk true true false)) (v := (AV.agg (cXCore_Shape (XCore_Shape.mk true true false)))) (cs := cXCore_Shape (XCore_Shape.mk true true false)) ag131 sz131 rfl rfl rfl rfl rfl rfl rfl fz80 rfl rfl) rfl ?_
    refine rw_nil ?_
    refine q_seq ?_
    refine w_ret ?_
    refine q_blkR ?_
    refine q_seqR ?_
    obtain rfl := Option.some.inj hF
    exact (fin_ret (res_cellM (v := (AV.agg (cXCore_Shape (XCore_Shape.mk true true false)))) (v' := (AV.agg (cXCore_Shape (XCore_Shape.mk true true false)))) ag131 sz131 rfl rfl rfl rfl rfl rfl res_nil) rfl rfl)
  · refine v_seq ?_
    refine w_reg ?_
    refine rw_p (ov_move (v := (I a0)) rfl) rfl ?_
    refine rw_p (ov_geq (k := .i64) (a := a0) (b := 2) rfl rfl) rfl ?_
    refine rw_p (ov_move (v := (B (decide (2 ≤ a0)))) rfl) rfl ?_
    refine rw_g rfl (ov_move (v := (I a0)) rfl) rfl ?_
    refine rw_g rfl (ov_leq (k := .i64) (a := a0) (b := 15) (un_self _) rfl) rfl ?_
    refine rw_p (ov_pickB (p := (decide (2 ≤ a0))) (q := (decide (a0 ≤ 15))) (r := false) rfl (un_imp (by generalize (decide (2 ≤ a0)) = u0; cases u0 <;> rfl)) rfl) rfl ?_
    refine rw_p (ov_assign (v := (B (if (decide (2 ≤ a0)) then (decide (a0 ≤ 15)) else false))) rfl) rfl ?_
    refine rw_nil ?_
    refine q_seq ?_
    refine w_if (p := (if (decide (2 ≤ a0)) then (decide (a0 ≤ 15)) else false)) hF rfl (fun hb1054 hF => ?_) (fun hb1054 hF => ?_)
    · refine v_seq ?_
      refine w_reg ?_
      refine rw_p (ov_build (ps := [(0, (B true)), (1, (B true)), (2, (B true))]) (cs := cXCore_Shape (XCore_Shape.mk true true true)) zc131 pl131 (cons_eqp rfl (cons_eqp rfl (cons_eqp rfl rfl))) rfl) rfl ?_
      refine rw_w (ov_storeM (c := cXCore_Shape) (q := [(XCore_Shape.mk false false false)]) (r := (XCore_Shape.mk false false false)) (r' := (XCore_Shape.mk true true true)) (v := (AV.agg (cXCore_Shape (XCore_Shape.mk true true true)))) (cs := cXCore_Shape (XCore_Shape.mk true true true)) ag131 sz131 rfl rfl rfl rfl rfl rfl rfl fz80 rfl rfl) rfl ?_
      refine rw_nil ?_
      refine q_seq ?_
      refine w_ret ?_
      refine q_blkR ?_
      refine q_seqR ?_
      obtain rfl := Option.some.inj hF
      exact (fin_ret (res_cellM (v := (AV.agg (cXCore_Shape (XCore_Shape.mk true true true)))) (v' := (AV.agg (cXCore_Shape (XCore_Shape.mk true true true)))) ag131 sz131 rfl rfl rfl rfl rfl rfl res_nil) rfl rfl)
    · refine v_seq ?_
      refine w_reg ?_
      refine rw_p (ov_move (v := (I a0)) rfl) rfl ?_
      refine rw_p (ov_eql (k := .i64) (a := a0) (b := 19) rfl rfl) rfl ?_
      refine rw_p (ov_assign (v := (B (a0 == 19))) rfl) rfl ?_
      refine rw_nil ?_
      refine q_seq ?_
      refine w_if (p := (a0 == 19)) hF rfl (fun hb1053 hF => ?_) (fun hb1053 hF => ?_)
      · refine v_seq ?_
        refine w_reg ?_
        refine rw_p (ov_build (ps := [(0, (B false)), (1, (B true)), (2, (B true))]) (cs := cXCore_Shape (XCore_Shape.mk false true true)) zc131 pl131 (cons_eqp rfl (cons_eqp rfl (cons_eqp rfl rfl))) rfl) rfl ?_
        refine rw_w (ov_storeM (c := cXCore_Shape) (q := [(XCore_Shape.mk false false false)]) (r := (XCore_Shape.mk false false false)) (r' := (XCore_Shape.mk false true true)) (v := (AV.agg (cXCore_Shape (XCore_Shape.mk false true true)))) (cs := cXCore_Shape (XCore_Shape.mk false true true)) ag131 sz131 rfl rfl rfl rfl rfl rfl rfl fz80 rfl rfl) rfl ?_
        refine rw_nil ?_
        refine q_seq ?_
        refine w_ret ?_
        refine q_blkR ?_
        refine q_seqR ?_
        obtain rfl := Option.some.inj hF
        exact (fin_ret (res_cellM (v := (AV.agg (cXCore_Shape (XCore_Shape.mk false true true)))) (v' := (AV.agg (cXCore_Shape (XCore_Shape.mk false true true)))) ag131 sz131 rfl rfl rfl rfl rfl rfl res_nil) rfl rfl)
      · refine v_seq ?_
        refine w_reg ?_
        refine rw_p (ov_move (v := (I a0)) rfl) rfl ?_
        refine rw_p (ov_eql (k := .i64) (a := a0) (b := 20) rfl rfl) rfl ?_
        refine rw_p (ov_move (v := (B (a0 == 20))) rfl) rfl ?_
        refine rw_g rfl (ov_move (v := (I a0)) rfl) rfl ?_
        refine rw_g rfl (ov_eql (k := .i64) (a := a0) (b := 21) (un_self _) rfl) rfl ?_
        refine rw_p (ov_pickB (p := (a0 == 20)) (q := true) (r := (a0 == 21)) rfl rfl (un_imp (by generalize (a0 == 20) = u0; cases u0 <;> rfl))) rfl ?_
        refine rw_p (ov_assign (v := (B (if (a0 == 20) then true else (a0 == 21)))) rfl) rfl ?_
        refine rw_nil ?_
        refine q_seq ?_
        refine w_if (p := (if (a0 == 20) then true else (a0 == 21))) hF rfl (fun hb1052 hF => ?_) (fun hb1052 hF => ?_)
        · refine v_seq ?_
          refine w_reg ?_
          refine rw_p (ov_build (ps := [(0, (B true)), (1, (B false)), (2, (B false))]) (cs := cXCore_Shape (XCore_Shape.mk true false false)) zc131 pl131 (cons_eqp rfl (cons_eqp rfl (cons_eqp rfl rfl))) rfl) rfl ?_
          refine rw_w (ov_storeM (c := cXCore_Shape) (q := [(XCore_Shape.mk false false false)]) (r := (XCore_Shape.mk false false false)) (r' := (XCore_Shape.mk true false false)) (v := (AV.agg (cXCore_Shape (XCore_Shape.mk true false false)))) (cs := cXCore_Shape (XCore_Shape.mk true false false)) ag131 sz131 rfl rfl rfl rfl rfl rfl rfl fz80 rfl rfl) rfl ?_
          refine rw_nil ?_
          refine q_seq ?_
          refine w_ret ?_
          refine q_blkR ?_
          refine q_seqR ?_
          obtain rfl := Option.some.inj hF
          exact (fin_ret (res_cellM (v := (AV.agg (cXCore_Shape (XCore_Shape.mk true false false)))) (v' := (AV.agg (cXCore_Shape (XCore_Shape.mk true false false)))) ag131 sz131 rfl rfl rfl rfl rfl rfl res_nil) rfl rfl)
        · refine v_seq ?_
          refine w_reg ?_
          refine rw_p (ov_move (v := (I a0)) rfl) rfl ?_
          refine rw_p (ov_eql (k := .i64) (a := a0) (b := 22) rfl rfl) rfl ?_
          refine rw_p (ov_assign (v := (B (a0 == 22))) rfl) rfl ?_
          refine rw_nil ?_
          refine q_seq ?_
          refine w_if (p := (a0 == 22)) hF rfl (fun hb1051 hF => ?_) (fun hb1051 hF => ?_)
          · refine v_seq ?_
            refine w_reg ?_
            refine rw_p (ov_build (ps := [(0, (B false)), (1, (B true)), (2, (B false))]) (cs := cXCore_Shape (XCore_Shape.mk false true false)) zc131 pl131 (cons_eqp rfl (cons_eqp rfl (cons_eqp rfl rfl))) rfl) rfl ?_
            refine rw_w (ov_storeM (c := cXCore_Shape) (q := [(XCore_Shape.mk false false false)]) (r := (XCore_Shape.mk false false false)) (r' := (XCore_Shape.mk false true false)) (v := (AV.agg (cXCore_Shape (XCore_Shape.mk false true false)))) (cs := cXCore_Shape (XCore_Shape.mk false true false)) ag131 sz131 rfl rfl rfl rfl rfl rfl rfl fz80 rfl rfl) rfl ?_
            refine rw_nil ?_
            refine q_seq ?_
            refine w_ret ?_
            refine q_blkR ?_
            refine q_seqR ?_
            obtain rfl := Option.some.inj hF
            exact (fin_ret (res_cellM (v := (AV.agg (cXCore_Shape (XCore_Shape.mk false true false)))) (v' := (AV.agg (cXCore_Shape (XCore_Shape.mk false true false)))) ag131 sz131 rfl rfl rfl rfl rfl rfl res_nil) rfl rfl)
          · refine w_skip ?_
            refine q_blk ?_
            refine q_seq ?_
            refine v_seq ?_
            refine w_reg ?_
            refine rw_p (ov_build (ps := []) (cs := cXCore_Shape (XCore_Shape.mk false false false)) zc131 pl131  rfl rfl) rfl ?_
            refine rw_w (ov_storeM (c := cXCore_Shape) (q := [(XCore_Shape.mk false false false)]) (r := (XCore_Shape.mk false false false)) (r' := (XCore_Shape.mk false false false)) (v := (AV.agg (cXCore_Shape (XCore_Shape.mk false false false)))) (cs := cXCore_Shape (XCore_Shape.mk false false false)) ag131 sz131 rfl rfl rfl rfl rfl rfl rfl fz80 rfl rfl) rfl ?_
            refine rw_nil ?_
            refine q_seq ?_
            refine w_ret ?_
            obtain rfl := Option.some.inj hF
            exact (fin_ret (res_cellM (v := (AV.agg (cXCore_Shape (XCore_Shape.mk false false false)))) (v' := (AV.agg (cXCore_Shape (XCore_Shape.mk false false false)))) ag131 sz131 rfl rfl rfl rfl rfl rfl res_nil) rfl rfl)

/-! (turnery/code.checker).ins$3 -/
noncomputable def code_checker_ins_3_L1 (a1 : XApi_Ins) (a2 : XCode_checker) (y1076 : Int) : Option (Lp Int (Br Unit Int)) :=
  if (decide (y1076 < (a1.Args.length : Int))) then
  ((idx a1.Args y1076).bind fun x1078 =>
  (code_checker_val a2 x1078).bind fun x1080 =>
  if (x1080 != 0) then
  (some (.out (.ret x1080)))
  else
  (some (.next (w64 (y1076 + 1)))))
  else
  (some (.out (.brk ())))
noncomputable def code_checker_ins_3 (a0 : Bool) (a1 : XApi_Ins) (a2 : XCode_checker) : Option Int :=
  if (!a0) then
  (some 0)
  else
  ((core_Within a1.Func 0 (w64 ((a2.u.Funcs.length : Int) - 1))).bind fun x1072 =>
  if (!x1072) then
  (some 3)
  else
  ((idx a2.u.Funcs a1.Func).bind fun x1074 =>
  if ((a1.Args.length : Int) != x1074.Params) then
  (some 9)
  else
  ((Loop (fun (s : Int) => code_checker_ins_3_L1 a1 a2 s) 0).bind fun o1084 => match o1084 with
  | .ret r1091 => some r1091
  | .brk b1086 =>
  some 0)))
abbrev RV84 : List ResultVar := [.tmp 3]
def R_code_checker_ins_3 (r : Int) : AV := (I r)
set_option maxHeartbeats 2000000 in
theorem T_code_checker_ins_3 (nn : Nat) (a0 : Bool) (a1 : XApi_Ins) (a2 : XCode_checker) (r : Int) (hF : code_checker_ins_3 a0 a1 a2 = some r) : den cx (nn + 3) 84 [(AV.vp (cBool a0)), (AV.vp (cXApi_Ins a1)), (AV.vp (cXCode_checker a2))] = some (R_code_checker_ins_3 r, []) := by
  unfold code_checker_ins_3 at hF
  refine fn_of (nn := (nn + 2)) (rv := RV84) (cxE _) Tryd.func84 rfl rfl Tryd.ntmps84 (cxL _) rfl ?_
  show W cx 84 _ _ ⟨47, (upd (upd (upd (fun _ => AV.junk) 2 (AV.vp (cXCode_checker a2))) 1 (AV.vp (cXApi_Ins a1))) 0 (AV.vp (cBool a0))), (fun _ => none)⟩ _
  refine v_seq ?_
  refine w_reg ?_
  refine rw_p (ov_assign (v := (I 0)) rfl) rfl ?_
  refine rw_nil ?_
  refine q_seq ?_
  refine v_seq ?_
  refine v_block ?_
  refine v_seq ?_
  refine w_reg ?_
  refine rw_p (ov_load (v := (B a0)) ag4 sz4 rfl rfl rfl) rfl ?_
  refine rw_p (ov_not (p := a0) rfl) rfl ?_
  refine rw_p (ov_assign (v := (B (!a0))) rfl) rfl ?_
  refine rw_nil ?_
  refine q_seq ?_
  refine w_if (p := (!a0)) hF rfl (fun hb1094 hF => ?_) (fun hb1094 hF => ?_)
  · refine v_seq ?_
    refine w_reg ?_
    refine rw_p (ov_assign (v := (I 0)) rfl) rfl ?_
    refine rw_nil ?_
    refine q_seq ?_
    refine w_ret ?_
    refine q_blkR ?_
    refine q_seqR ?_
    obtain rfl := Option.some.inj hF
    exact (fin_ret (res_tmp (pk_of (v := (I 0)) rfl rfl) res_nil) rfl rfl)
  · refine v_seq ?_
    refine w_reg ?_
    refine rw_p (ov_fieldAddr (cells' := ((cXApi_Ins a1).drop 6)) fd56_4 rfl rfl rfl rfl) rfl ?_
    refine rw_p (ov_load (v := (I a1.Func)) ag3 sz3 rfl rfl rfl) rfl ?_
    refine rw_p (ov_fieldAddr (cells' := (cXCode_checker a2)) fd82_0 rfl rfl rfl rfl) rfl ?_
    refine rw_p (ov_fieldAddr (cells' := ((cXCode_checker a2).drop 1)) fd25_1 rfl rfl rfl rfl) rfl ?_
    refine rw_p (ov_load (v := (AV.sl ((a2.u.Funcs).map cXApi_Func))) ag23 sz23 rfl rfl rfl) rfl ?_
    refine rw_p (ov_lenSl (m := a2.u.Funcs.length) Tryd.underlying23 rfl rfl rfl (List.length_map _)) rfl ?_
    refine rw_p (ov_sub (k := .i64) (a := (a2.u.Funcs.length : Int)) (b := 1) rfl rfl) rfl ?_
    obtain ⟨x1072, hx1073, hF⟩ := bindS hF
    refine rw_p (ov_call (args := [(I a1.Func), (I 0), (I (w64 ((a2.u.Funcs.length : Int) - 1)))]) (r := (R_core_Within x1072)) (v := (B x1072)) rfl (cons_eq rfl (cons_eq rfl (cons_eq rfl rfl))) rfl rfl (T_core_Within (nn + 1) a1.Func 0 (w64 ((a2.u.Funcs.length : Int) - 1)) x1072 hx1073) fz84 rfl rfl) rfl ?_
    refine rw_p (ov_not (p := x1072) rfl) rfl ?_
    refine rw_p (ov_assign (v := (B (!x1072))) rfl) rfl ?_
    refine rw_nil ?_
    refine q_seq ?_
    refine w_if (p := (!x1072)) hF rfl (fun hb1093 hF => ?_) (fun hb1093 hF => ?_)
    · refine v_seq ?_
      refine w_reg ?_
      refine rw_p (ov_assign (v := (I 3)) rfl) rfl ?_
      refine rw_nil ?_
      refine q_seq ?_
      refine w_ret ?_
      refine q_blkR ?_
      refine q_seqR ?_
      obtain rfl := Option.some.inj hF
      exact (fin_ret (res_tmp (pk_of (v := (I 3)) rfl rfl) res_nil) rfl rfl)
    · refine v_seq ?_
      refine w_regD ?_
      refine rw_p (ov_fieldAddr (cells' := ((cXApi_Ins a1).drop 7)) fd56_5 rfl rfl rfl rfl) rfl ?_
      refine rw_p (ov_load (v := (AV.sl ((a1.Args).map cXApi_Val))) ag54 sz54 rfl rfl rfl) rfl ?_
      refine rw_p (ov_lenSl (m := a1.Args.length) Tryd.underlying54 rfl rfl rfl (List.length_map _)) rfl ?_
      refine rw_p (ov_fieldAddr (cells' := (cXCode_checker a2)) fd82_0 rfl rfl rfl rfl) rfl ?_
      refine rw_p (ov_fieldAddr (cells' := ((cXCode_checker a2).drop 1)) fd25_1 rfl rfl rfl rfl) rfl ?_
      refine rw_p (ov_load (v := (AV.sl ((a2.u.Funcs).map cXApi_Func))) ag23 sz23 rfl rfl rfl) rfl ?_
      refine rw_p (ov_fieldAddr (cells' := ((cXApi_Ins a1).drop 6)) fd56_4 rfl rfl rfl rfl) rfl ?_
      refine rw_p (ov_load (v := (I a1.Func)) ag3 sz3 rfl rfl rfl) rfl ?_
      obtain ⟨x1074, hx1075, hF⟩ := bindS hF
      refine rw_p (ov_indexAddr (k := .i64) (c := cXApi_Func) (q := a2.u.Funcs) (i := a1.Func) Tryd.underlying23 sz37 rfl rfl rfl hx1075 rfl) rfl ?_
      refine rw_p (ov_fieldAddr (cells' := ((cXApi_Func x1074).drop 1)) fd37_1 rfl rfl rfl rfl) rfl ?_
      refine rw_p (ov_load (v := (I x1074.Params)) ag3 sz3 rfl rfl rfl) rfl ?_
      refine rw_p (ov_neq (k := .i64) (a := (a1.Args.length : Int)) (b := x1074.Params) rfl rfl) rfl ?_
      refine rw_p (ov_assign (v := (B ((a1.Args.length : Int) != x1074.Params))) rfl) rfl ?_
      refine rw_nil ⟨rfl, ?_⟩
      refine q_seq ?_
      refine w_if (p := ((a1.Args.length : Int) != x1074.Params)) hF rfl (fun hb1092 hF => ?_) (fun hb1092 hF => ?_)
      · refine v_seq ?_
        refine w_reg ?_
        refine rw_p (ov_assign (v := (I 9)) rfl) rfl ?_
        refine rw_nil ?_
        refine q_seq ?_
        refine w_ret ?_
        refine q_blkR ?_
        refine q_seqR ?_
        obtain rfl := Option.some.inj hF
        exact (fin_ret (res_tmp (pk_of (v := (I 9)) rfl rfl) res_nil) rfl rfl)
      · refine w_skip ?_
        refine q_blk ?_
        refine q_seq ?_
        refine v_seq ?_
        refine v_seq ?_
        refine w_reg ?_
        refine rw_p (ov_fieldAddr (cells' := ((cXApi_Ins a1).drop 7)) fd56_5 rfl rfl rfl rfl) rfl ?_
        refine rw_p (ov_load (v := (AV.sl ((a1.Args).map cXApi_Val))) ag54 sz54 rfl rfl rfl) rfl ?_
        refine rw_p (ov_lenSl (m := a1.Args.length) Tryd.underlying54 rfl rfl rfl (List.length_map _)) rfl ?_
        refine rw_p (ov_move (v := (I 0)) rfl) rfl ?_
        refine rw_nil ?_
        refine q_seq ?_
        refine v_block ?_
        obtain ⟨o1084, hL1085, hF⟩ := bindS hF
        refine v_loop (fun (s : Int) => [(AV.vp (cXCode_checker a2)), (AV.sl ((a1.Args).map cXApi_Val)), (I (a1.Args.length : Int)), (I s)]) (RelO (fun (s : Unit) x => ∃ t h, x = (Exit.exit 1, ⟨47, t, h⟩) ∧ True) (fun r x => x.1 = Exit.ret ∧ Fin cx RV84 (R_code_checker_ins_3 r) x)) hL1085 lv84_8 (renorm_of (packL_mk (pk_of (v := (AV.vp (cXCode_checker a2))) rfl rfl) (packL_mk (pk_of (v := (AV.sl ((a1.Args).map cXApi_Val))) rfl rfl) (packL_mk (pk_of (v := (I (a1.Args.length : Int))) rfl rfl) (packL_mk (pk_of (v := (I 0)) rfl rfl) packL_0)))) rfl) ?_ ?_
        · rintro y1076 z1077 hF
          replace hF : code_checker_ins_3_L1 a1 a2 y1076 = some z1077 := hF
          unfold code_checker_ins_3_L1 at hF
          show W cx 84 _ _ ⟨47, (upd (upd (upd (upd (fun _ => AV.junk) 36 (I y1076)) 35 (I (a1.Args.length : Int))) 34 (AV.sl ((a1.Args).map cXApi_Val))) 2 (AV.vp (cXCode_checker a2))), (fun _ => none)⟩ _
          refine v_seq ?_
          refine w_reg ?_
          refine rw_p (ov_lss (k := .i64) (a := y1076) (b := (a1.Args.length : Int)) rfl rfl) rfl ?_
          refine rw_nil ?_
          refine q_seq ?_
          refine v_seq ?_
          refine w_if (p := (decide (y1076 < (a1.Args.length : Int)))) hF rfl (fun hb1083 hF => ?_) (fun hb1083 hF => ?_)
          · refine w_skip ?_
            refine q_seq ?_
            refine v_seq ?_
            refine v_block ?_
            refine v_seq ?_
            refine w_reg ?_
            obtain ⟨x1078, hx1079, hF⟩ := bindS hF
            refine rw_p (ov_indexAddr (k := .i64) (c := cXApi_Val) (q := a1.Args) (i := y1076) Tryd.underlying54 sz47 rfl rfl rfl hx1079 rfl) rfl ?_
            refine rw_p (ov_load (v := (AV.agg (cXApi_Val x1078))) ag47 sz47 rfl rfl rfl) rfl ?_
            refine rw_w (ov_alloc zm47 rfl) rfl ?_
            refine rw_w (ov_storeF (v := (AV.agg (cXApi_Val x1078))) (cs := cXApi_Val x1078) (cs' := cXApi_Val x1078) ag47 sz47 rfl rfl rfl rfl rfl rfl fz84 rfl rfl rfl) rfl ?_
            refine rw_nil ?_
            refine q_seq ?_
            refine v_seq ?_
            refine w_reg ?_
            refine rw_p (ov_load (v := (AV.agg (cXCode_checker a2))) ag82 sz82 rfl rfl rfl) rfl ?_
            refine rw_p (ov_load (v := (AV.agg (cXApi_Val x1078))) ag47 sz47 rfl rfl rfl) rfl ?_
            obtain ⟨x1080, hx1081, hF⟩ := bindS hF
            refine rw_p (ov_call (args := [(AV.agg (cXCode_checker a2)), (AV.agg (cXApi_Val x1078))]) (r := (R_code_checker_val x1080)) (v := (I x1080)) rfl (cons_eq rfl (cons_eq rfl rfl)) rfl rfl (T_code_checker_val nn a2 x1078 x1080 hx1081) fz84 rfl rfl) rfl ?_
            refine rw_p (ov_assign (v := (I x1080)) rfl) rfl ?_
            refine rw_nil ?_
            refine q_seq ?_
            refine v_seq ?_
            refine w_reg ?_
            refine rw_p (ov_move (v := (I x1080)) rfl) rfl ?_
            refine rw_p (ov_neq (k := .i64) (a := x1080) (b := 0) rfl rfl) rfl ?_
            refine rw_nil ?_
            refine q_seq ?_
            refine w_if (p := (x1080 != 0)) hF rfl (fun hb1082 hF => ?_) (fun hb1082 hF => ?_)
            · refine v_seq ?_
              refine w_reg ?_
              refine rw_p (ov_move (v := (I x1080)) rfl) rfl ?_
              refine rw_p (ov_assign (v := (I x1080)) rfl) rfl ?_
              refine rw_nil ?_
              refine q_seq ?_
              refine w_ret ?_
              refine q_blkR ?_
              refine q_seqR ?_
              obtain rfl := Option.some.inj hF
              exact q_outR (relR ⟨rfl, (fin_ret (res_tmp (pk_of (v := (I x1080)) rfl rfl) res_nil) rfl rfl)⟩)
            · refine w_skip ?_
              refine q_blk ?_
              refine q_seq ?_
              refine w_reg ?_
              refine rw_p (ov_add (k := .i64) (a := y1076) (b := 1) rfl rfl) rfl ?_
              refine rw_p (ov_move (v := (I (w64 (y1076 + 1)))) rfl) rfl ?_
              refine rw_nil ?_
              obtain rfl := Option.some.inj hF
              exact q_next (renorm_of (packL_mk (pk_of (v := (AV.vp (cXCode_checker a2))) rfl rfl) (packL_mk (pk_of (v := (AV.sl ((a1.Args).map cXApi_Val))) rfl rfl) (packL_mk (pk_of (v := (I (a1.Args.length : Int))) rfl rfl) (packL_mk (pk_of (v := (I (w64 (y1076 + 1)))) rfl rfl) packL_0)))) rfl)
          · refine w_exit ?_
            refine q_seqE ?_
            obtain rfl := Option.some.inj hF
            refine q_out (relB ?_)
            exact ⟨_, _, rfl, trivial⟩
        · rintro x1089 hr1090
          cases o1084 with
          | ret r1091 =>
            replace hF : some r1091 = some r := hF
            obtain rfl := Option.some.inj hF
            obtain ⟨xe, xs⟩ := x1089
            obtain ⟨hxe, hfin⟩ := hr1090
            obtain rfl : xe = Exit.ret := hxe
            refine q_blkR ?_
            refine q_seqR ?_
            exact hfin
          | brk b1086 =>
            obtain ⟨t1087, h1088, rfl, _⟩ := hr1090
            refine q_blkH ?_
            refine q_seq ?_
            refine v_seq ?_
            refine w_reg ?_
            refine rw_p (ov_assign (v := (I 0)) rfl) rfl ?_
            refine rw_nil ?_
            refine q_seq ?_
            refine w_ret ?_
            obtain rfl := Option.some.inj hF
            exact (fin_ret (res_tmp (pk_of (v := (I 0)) rfl rfl) res_nil) rfl rfl)

/-! (turnery/code.checker).ins$2 -/

noncomputable def code_checker_ins_2 (a0 : XCode_checker) (a1 : XApi_Ins) : Option Int :=
  (code_checker_val a0 a1.B).bind fun x1099 =>
  some x1099
abbrev RV83 : List ResultVar := [.tmp 2]
def R_code_checker_ins_2 (r : Int) : AV := (I r)
set_option maxHeartbeats 2000000 in
theorem T_code_checker_ins_2 (nn : Nat) (a0 : XCode_checker) (a1 : XApi_Ins) (r : Int) (hF : code_checker_ins_2 a0 a1 = some r) : den cx (nn + 3) 83 [(AV.vp (cXCode_checker a0)), (AV.vp (cXApi_Ins a1))] = some (R_code_checker_ins_2 r, []) := by
  unfold code_checker_ins_2 at hF
  refine fn_of (nn := (nn + 2)) (rv := RV83) (cxE _) Tryd.func83 rfl rfl Tryd.ntmps83 (cxL _) rfl ?_
  show W cx 83 _ _ ⟨7, (upd (upd (fun _ => AV.junk) 1 (AV.vp (cXApi_Ins a1))) 0 (AV.vp (cXCode_checker a0))), (fun _ => none)⟩ _
  refine v_seq ?_
  refine w_reg ?_
  refine rw_p (ov_assign (v := (I 0)) rfl) rfl ?_
  refine rw_nil ?_
  refine q_seq ?_
  refine v_seq ?_
  refine w_reg ?_
  refine rw_p (ov_load (v := (AV.agg (cXCode_checker a0))) ag82 sz82 rfl rfl rfl) rfl ?_
  refine rw_p (ov_fieldAddr (cells' := ((cXApi_Ins a1).drop 4)) fd56_3 rfl rfl rfl rfl) rfl ?_
  refine rw_p (ov_load (v := (AV.agg (cXApi_Val a1.B))) ag47 sz47 rfl rfl rfl) rfl ?_
  obtain ⟨x1099, hx1100, hF⟩ := bindS hF
  refine rw_p (ov_call (args := [(AV.agg (cXCode_checker a0)), (AV.agg (cXApi_Val a1.B))]) (r := (R_code_checker_val x1099)) (v := (I x1099)) rfl (cons_eq rfl (cons_eq rfl rfl)) rfl rfl (T_code_checker_val nn a0 a1.B x1099 hx1100) fz83 rfl rfl) rfl ?_
  refine rw_p (ov_assign (v := (I x1099)) rfl) rfl ?_
  refine rw_nil ?_
  refine q_seq ?_
  refine w_ret ?_
  obtain rfl := Option.some.inj hF
  exact (fin_ret (res_tmp (pk_of (v := (I x1099)) rfl rfl) res_nil) rfl rfl)

/-! (turnery/code.checker).ins$1 -/

noncomputable def code_checker_ins_1 (a0 : XCode_checker) (a1 : XApi_Ins) : Option Int :=
  (code_checker_val a0 a1.A).bind fun x1105 =>
  some x1105
abbrev RV82 : List ResultVar := [.tmp 2]
def R_code_checker_ins_1 (r : Int) : AV := (I r)
set_option maxHeartbeats 2000000 in
theorem T_code_checker_ins_1 (nn : Nat) (a0 : XCode_checker) (a1 : XApi_Ins) (r : Int) (hF : code_checker_ins_1 a0 a1 = some r) : den cx (nn + 3) 82 [(AV.vp (cXCode_checker a0)), (AV.vp (cXApi_Ins a1))] = some (R_code_checker_ins_1 r, []) := by
  unfold code_checker_ins_1 at hF
  refine fn_of (nn := (nn + 2)) (rv := RV82) (cxE _) Tryd.func82 rfl rfl Tryd.ntmps82 (cxL _) rfl ?_
  show W cx 82 _ _ ⟨7, (upd (upd (fun _ => AV.junk) 1 (AV.vp (cXApi_Ins a1))) 0 (AV.vp (cXCode_checker a0))), (fun _ => none)⟩ _
  refine v_seq ?_
  refine w_reg ?_
  refine rw_p (ov_assign (v := (I 0)) rfl) rfl ?_
  refine rw_nil ?_
  refine q_seq ?_
  refine v_seq ?_
  refine w_reg ?_
  refine rw_p (ov_load (v := (AV.agg (cXCode_checker a0))) ag82 sz82 rfl rfl rfl) rfl ?_
  refine rw_p (ov_fieldAddr (cells' := ((cXApi_Ins a1).drop 2)) fd56_2 rfl rfl rfl rfl) rfl ?_
  refine rw_p (ov_load (v := (AV.agg (cXApi_Val a1.A))) ag47 sz47 rfl rfl rfl) rfl ?_
  obtain ⟨x1105, hx1106, hF⟩ := bindS hF
  refine rw_p (ov_call (args := [(AV.agg (cXCode_checker a0)), (AV.agg (cXApi_Val a1.A))]) (r := (R_code_checker_val x1105)) (v := (I x1105)) rfl (cons_eq rfl (cons_eq rfl rfl)) rfl rfl (T_code_checker_val nn a0 a1.A x1105 hx1106) fz82 rfl rfl) rfl ?_
  refine rw_p (ov_assign (v := (I x1105)) rfl) rfl ?_
  refine rw_nil ?_
  refine q_seq ?_
  refine w_ret ?_
  obtain rfl := Option.some.inj hF
  exact (fin_ret (res_tmp (pk_of (v := (I x1105)) rfl rfl) res_nil) rfl rfl)

/-! turnery/code.first -/
noncomputable def code_first__f82_f83_f84_L1 (a0 : XCode_checker) (a1 : XApi_Ins) (a2 : XCode_checker) (a3 : XApi_Ins) (a4 : Bool) (a5 : XApi_Ins) (a6 : XCode_checker) (y1068 : Int) : Option (Lp Int (Br Unit Int)) :=
  if (decide (y1068 < (3 : Int))) then
  ((idx ([0, 1, 2] : List Nat) y1068).bind fun x1070 =>
  if (x1070 == 0) then
  ((code_checker_ins_1 a0 a1).bind fun x1107 =>
  if (x1107 != 0) then
  (some (.out (.ret x1107)))
  else
  (some (.next (w64 (y1068 + 1)))))
  else
  (if (x1070 == 1) then
  ((code_checker_ins_2 a2 a3).bind fun x1101 =>
  if (x1101 != 0) then
  (some (.out (.ret x1101)))
  else
  (some (.next (w64 (y1068 + 1)))))
  else
  (if (x1070 == 2) then
  ((code_checker_ins_3 a4 a5 a6).bind fun x1095 =>
  if (x1095 != 0) then
  (some (.out (.ret x1095)))
  else
  (some (.next (w64 (y1068 + 1)))))
  else
  (none))))
  else
  (some (.out (.brk ())))
noncomputable def code_first__f82_f83_f84 (a0 : XCode_checker) (a1 : XApi_Ins) (a2 : XCode_checker) (a3 : XApi_Ins) (a4 : Bool) (a5 : XApi_Ins) (a6 : XCode_checker) : Option Int :=
  (Loop (fun (s : Int) => code_first__f82_f83_f84_L1 a0 a1 a2 a3 a4 a5 a6 s) 0).bind fun o1112 => match o1112 with
  | .ret r1119 => some r1119
  | .brk b1114 =>
  some 0
abbrev RV81 : List ResultVar := [.tmp 2]
def R_code_first__f82_f83_f84 (r : Int) : AV := (I r)
set_option maxHeartbeats 2000000 in
theorem T_code_first__f82_f83_f84 (nn : Nat) (a0 : XCode_checker) (a1 : XApi_Ins) (a2 : XCode_checker) (a3 : XApi_Ins) (a4 : Bool) (a5 : XApi_Ins) (a6 : XCode_checker) (r : Int) (hF : code_first__f82_f83_f84 a0 a1 a2 a3 a4 a5 a6 = some r) : den cx (nn + 4) 81 [(AV.sl ((([0, 1, 2] : List Nat)).map (fun k => [sel [(AV.fn (.func 82) [] [(AV.vp (cXCode_checker a0)), (AV.vp (cXApi_Ins a1))]), (AV.fn (.func 83) [] [(AV.vp (cXCode_checker a2)), (AV.vp (cXApi_Ins a3))]), (AV.fn (.func 84) [] [(AV.vp (cBool a4)), (AV.vp (cXApi_Ins a5)), (AV.vp (cXCode_checker a6))])] k])))] = some (R_code_first__f82_f83_f84 r, []) := by
  unfold code_first__f82_f83_f84 at hF
  refine fn_of (nn := (nn + 3)) (rv := RV81) (cxE _) Tryd.func81 rfl rfl Tryd.ntmps81 (cxL _) rfl ?_
  show W cx 81 _ _ ⟨18, (upd (fun _ => AV.junk) 0 (AV.sl ((([0, 1, 2] : List Nat)).map (fun k => [sel [(AV.fn (.func 82) [] [(AV.vp (cXCode_checker a0)), (AV.vp (cXApi_Ins a1))]), (AV.fn (.func 83) [] [(AV.vp (cXCode_checker a2)), (AV.vp (cXApi_Ins a3))]), (AV.fn (.func 84) [] [(AV.vp (cBool a4)), (AV.vp (cXApi_Ins a5)), (AV.vp (cXCode_checker a6))])] k])))), (fun _ => none)⟩ _
  refine v_seq ?_
  refine w_reg ?_
  refine rw_p (ov_assign (v := (I 0)) rfl) rfl ?_
  refine rw_nil ?_
  refine q_seq ?_
  refine v_seq ?_
  refine v_seq ?_
  refine w_reg ?_
  refine rw_p (ov_move (v := (AV.sl ((([0, 1, 2] : List Nat)).map (fun k => [sel [(AV.fn (.func 82) [] [(AV.vp (cXCode_checker a0)), (AV.vp (cXApi_Ins a1))]), (AV.fn (.func 83) [] [(AV.vp (cXCode_checker a2)), (AV.vp (cXApi_Ins a3))]), (AV.fn (.func 84) [] [(AV.vp (cBool a4)), (AV.vp (cXApi_Ins a5)), (AV.vp (cXCode_checker a6))])] k])))) rfl) rfl ?_
  refine rw_p (ov_lenSl (m := 3) Tryd.underlying138 rfl rfl rfl rfl) rfl ?_
  refine rw_p (ov_move (v := (I 0)) rfl) rfl ?_
  refine rw_nil ?_
  refine q_seq ?_
  refine v_block ?_
  obtain ⟨o1112, hL1113, hF⟩ := bindS hF
  refine v_loop (fun (s : Int) => [(AV.sl ((([0, 1, 2] : List Nat)).map (fun k => [sel [(AV.fn (.func 82) [] [(AV.vp (cXCode_checker a0)), (AV.vp (cXApi_Ins a1))]), (AV.fn (.func 83) [] [(AV.vp (cXCode_checker a2)), (AV.vp (cXApi_Ins a3))]), (AV.fn (.func 84) [] [(AV.vp (cBool a4)), (AV.vp (cXApi_Ins a5)), (AV.vp (cXCode_checker a6))])] k]))), (I (3 : Int)), (I s)]) (RelO (fun (s : Unit) x => ∃ t h, x = (Exit.exit 0, ⟨18, t, h⟩) ∧ True) (fun r x => x.1 = Exit.ret ∧ Fin cx RV81 (R_code_first__f82_f83_f84 r) x)) hL1113 lv81_2 (renorm_of (packL_mk (pk_of (v := (AV.sl ((([0, 1, 2] : List Nat)).map (fun k => [sel [(AV.fn (.func 82) [] [(AV.vp (cXCode_checker a0)), (AV.vp (cXApi_Ins a1))]), (AV.fn (.func 83) [] [(AV.vp (cXCode_checker a2)), (AV.vp (cXApi_Ins a3))]), (AV.fn (.func 84) [] [(AV.vp (cBool a4)), (AV.vp (cXApi_Ins a5)), (AV.vp (cXCode_checker a6))])] k])))) rfl rfl) (packL_mk (pk_of (v := (I (3 : Int))) rfl rfl) (packL_mk (pk_of (v := (I 0)) rfl rfl) packL_0))) rfl) ?_ ?_
  · rintro y1068 z1069 hF
    replace hF : code_first__f82_f83_f84_L1 a0 a1 a2 a3 a4 a5 a6 y1068 = some z1069 := hF
    unfold code_first__f82_f83_f84_L1 at hF
    show W cx 81 _ _ ⟨18, (upd (upd (upd (fun _ => AV.junk) 8 (I y1068)) 7 (I (3 : Int))) 6 (AV.sl ((([0, 1, 2] : List Nat)).map (fun k => [sel [(AV.fn (.func 82) [] [(AV.vp (cXCode_checker a0)), (AV.vp (cXApi_Ins a1))]), (AV.fn (.func 83) [] [(AV.vp (cXCode_checker a2)), (AV.vp (cXApi_Ins a3))]), (AV.fn (.func 84) [] [(AV.vp (cBool a4)), (AV.vp (cXApi_Ins a5)), (AV.vp (cXCode_checker a6))])] k])))), (fun _ => none)⟩ _
    refine v_seq ?_
    refine w_reg ?_
    refine rw_p (ov_lss (k := .i64) (a := y1068) (b := (3 : Int)) rfl rfl) rfl ?_
    refine rw_nil ?_
    refine q_seq ?_
    refine v_seq ?_
    refine w_if (p := (decide (y1068 < (3 : Int)))) hF rfl (fun hb1111 hF => ?_) (fun hb1111 hF => ?_)
    · refine w_skip ?_
      refine q_seq ?_
      refine v_seq ?_
      refine v_block ?_
      refine v_seq ?_
      refine w_reg ?_
      obtain ⟨x1070, hx1071, hF⟩ := bindS hF
      refine rw_p (ov_indexAddr (k := .i64) (c := fun k => [sel [(AV.fn (.func 82) [] [(AV.vp (cXCode_checker a0)), (AV.vp (cXApi_Ins a1))]), (AV.fn (.func 83) [] [(AV.vp (cXCode_checker a2)), (AV.vp (cXApi_Ins a3))]), (AV.fn (.func 84) [] [(AV.vp (cBool a4)), (AV.vp (cXApi_Ins a5)), (AV.vp (cXCode_checker a6))])] k]) (q := ([0, 1, 2] : List Nat)) (i := y1068) Tryd.underlying138 sz84 rfl rfl rfl hx1071 rfl) rfl ?_
      refine if_elim hF (fun hb1110 hF => ?_) (fun hb1110 hF => ?_)
      · obtain rfl : x1070 = 0 := by simpa using hb1110
        refine rw_p (ov_load (v := (AV.fn (.func 82) [] [(AV.vp (cXCode_checker a0)), (AV.vp (cXApi_Ins a1))])) ag84 sz84 rfl rfl rfl) rfl ?_
        refine rw_p (ov_assign (v := (AV.fn (.func 82) [] [(AV.vp (cXCode_checker a0)), (AV.vp (cXApi_Ins a1))])) rfl) rfl ?_
        refine rw_nil ?_
        refine q_seq ?_
        refine v_seq ?_
        refine w_reg ?_
        refine rw_p (ov_move (v := (AV.fn (.func 82) [] [(AV.vp (cXCode_checker a0)), (AV.vp (cXApi_Ins a1))])) rfl) rfl ?_
        obtain ⟨x1107, hx1108, hF⟩ := bindS hF
        refine rw_p (ov_call (args := [(AV.vp (cXCode_checker a0)), (AV.vp (cXApi_Ins a1))]) (r := (R_code_checker_ins_1 x1107)) (v := (I x1107)) rfl rfl rfl rfl (T_code_checker_ins_1 nn a0 a1 x1107 hx1108) fz81 rfl rfl) rfl ?_
        refine rw_p (ov_assign (v := (I x1107)) rfl) rfl ?_
        refine rw_nil ?_
        refine q_seq ?_
        refine v_seq ?_
        refine w_reg ?_
        refine rw_p (ov_move (v := (I x1107)) rfl) rfl ?_
        refine rw_p (ov_neq (k := .i64) (a := x1107) (b := 0) rfl rfl) rfl ?_
        refine rw_nil ?_
        refine q_seq ?_
        refine w_if (p := (x1107 != 0)) hF rfl (fun hb1109 hF => ?_) (fun hb1109 hF => ?_)
        · refine v_seq ?_
          refine w_reg ?_
          refine rw_p (ov_move (v := (I x1107)) rfl) rfl ?_
          refine rw_p (ov_assign (v := (I x1107)) rfl) rfl ?_
          refine rw_nil ?_
          refine q_seq ?_
          refine w_ret ?_
          refine q_blkR ?_
          refine q_seqR ?_
          obtain rfl := Option.some.inj hF
          exact q_outR (relR ⟨rfl, (fin_ret (res_tmp (pk_of (v := (I x1107)) rfl rfl) res_nil) rfl rfl)⟩)
        · refine w_skip ?_
          refine q_blk ?_
          refine q_seq ?_
          refine w_reg ?_
          refine rw_p (ov_add (k := .i64) (a := y1068) (b := 1) rfl rfl) rfl ?_
          refine rw_p (ov_move (v := (I (w64 (y1068 + 1)))) rfl) rfl ?_
          refine rw_nil ?_
          obtain rfl := Option.some.inj hF
          exact q_next (renorm_of (packL_mk (pk_of (v := (AV.sl ((([0, 1, 2] : List Nat)).map (fun k => [sel [(AV.fn (.func 82) [] [(AV.vp (cXCode_checker a0)), (AV.vp (cXApi_Ins a1))]), (AV.fn (.func 83) [] [(AV.vp (cXCode_checker a2)), (AV.vp (cXApi_Ins a3))]), (AV.fn (.func 84) [] [(AV.vp (cBool a4)), (AV.vp (cXApi_Ins a5)), (AV.vp (cXCode_checker a6))])] k])))) rfl rfl) (packL_mk (pk_of (v := (I (3 : Int))) rfl rfl) (packL_mk (pk_of (v := (I (w64 (y1068 + 1)))) rfl rfl) packL_0))) rfl)
      · refine if_elim hF (fun hb1104 hF => ?_) (fun hb1104 hF => ?_)
        · obtain rfl : x1070 = 1 := by simpa using hb1104
          refine rw_p (ov_load (v := (AV.fn (.func 83) [] [(AV.vp (cXCode_checker a2)), (AV.vp (cXApi_Ins a3))])) ag84 sz84 rfl rfl rfl) rfl ?_
          refine rw_p (ov_assign (v := (AV.fn (.func 83) [] [(AV.vp (cXCode_checker a2)), (AV.vp (cXApi_Ins a3))])) rfl) rfl ?_
          refine rw_nil ?_
          refine q_seq ?_
          refine v_seq ?_
          refine w_reg ?_
          refine rw_p (ov_move (v := (AV.fn (.func 83) [] [(AV.vp (cXCode_checker a2)), (AV.vp (cXApi_Ins a3))])) rfl) rfl ?_
          obtain ⟨x1101, hx1102, hF⟩ := bindS hF
          refine rw_p (ov_call (args := [(AV.vp (cXCode_checker a2)), (AV.vp (cXApi_Ins a3))]) (r := (R_code_checker_ins_2 x1101)) (v := (I x1101)) rfl rfl rfl rfl (T_code_checker_ins_2 nn a2 a3 x1101 hx1102) fz81 rfl rfl) rfl ?_
          refine rw_p (ov_assign (v := (I x1101)) rfl) rfl ?_
          refine rw_nil ?_
          refine q_seq ?_
          refine v_seq ?_
          refine w_reg ?_
          refine rw_p (ov_move (v := (I x1101)) rfl) rfl ?_
          refine rw_p (ov_neq (k := .i64) (a := x1101) (b := 0) rfl rfl) rfl ?_
          refine rw_nil ?_
          refine q_seq ?_
          refine w_if (p := (x1101 != 0)) hF rfl (fun hb1103 hF => ?_) (fun hb1103 hF => ?_)
          · refine v_seq ?_
            refine w_reg ?_
            refine rw_p (ov_move (v := (I x1101)) rfl) rfl ?_
            refine rw_p (ov_assign (v := (I x1101)) rfl) rfl ?_
            refine rw_nil ?_
            refine q_seq ?_
            refine w_ret ?_
            refine q_blkR ?_
            refine q_seqR ?_
            obtain rfl := Option.some.inj hF
            exact q_outR (relR ⟨rfl, (fin_ret (res_tmp (pk_of (v := (I x1101)) rfl rfl) res_nil) rfl rfl)⟩)
          · refine w_skip ?_
            refine q_blk ?_
            refine q_seq ?_
            refine w_reg ?_
            refine rw_p (ov_add (k := .i64) (a := y1068) (b := 1) rfl rfl) rfl ?_
            refine rw_p (ov_move (v := (I (w64 (y1068 + 1)))) rfl) rfl ?_
            refine rw_nil ?_
            obtain rfl := Option.some.inj hF
            exact q_next (renorm_of (packL_mk (pk_of (v := (AV.sl ((([0, 1, 2] : List Nat)).map (fun k => [sel [(AV.fn (.func 82) [] [(AV.vp (cXCode_checker a0)), (AV.vp (cXApi_Ins a1))]), (AV.fn (.func 83) [] [(AV.vp (cXCode_checker a2)), (AV.vp (cXApi_Ins a3))]), (AV.fn (.func 84) [] [(AV.vp (cBool a4)), (AV.vp (cXApi_Ins a5)), (AV.vp (cXCode_checker a6))])] k])))) rfl rfl) (packL_mk (pk_of (v := (I (3 : Int))) rfl rfl) (packL_mk (pk_of (v := (I (w64 (y1068 + 1)))) rfl rfl) packL_0))) rfl)
        · refine if_elim hF (fun hb1098 hF => ?_) (fun hb1098 hF => ?_)
          · obtain rfl : x1070 = 2 := by simpa using hb1098
            refine rw_p (ov_load (v := (AV.fn (.func 84) [] [(AV.vp (cBool a4)), (AV.vp (cXApi_Ins a5)), (AV.vp (cXCode_checker a6))])) ag84 sz84 rfl rfl rfl) rfl ?_
            refine rw_p (ov_assign (v := (AV.fn (.func 84) [] [(AV.vp (cBool a4)), (AV.vp (cXApi_Ins a5)), (AV.vp (cXCode_checker a6))])) rfl) rfl ?_
            refine rw_nil ?_
            refine q_seq ?_
            refine v_seq ?_
            refine w_reg ?_
            refine rw_p (ov_move (v := (AV.fn (.func 84) [] [(AV.vp (cBool a4)), (AV.vp (cXApi_Ins a5)), (AV.vp (cXCode_checker a6))])) rfl) rfl ?_
            obtain ⟨x1095, hx1096, hF⟩ := bindS hF
            refine rw_p (ov_call (args := [(AV.vp (cBool a4)), (AV.vp (cXApi_Ins a5)), (AV.vp (cXCode_checker a6))]) (r := (R_code_checker_ins_3 x1095)) (v := (I x1095)) rfl rfl rfl rfl (T_code_checker_ins_3 nn a4 a5 a6 x1095 hx1096) fz81 rfl rfl) rfl ?_
            refine rw_p (ov_assign (v := (I x1095)) rfl) rfl ?_
            refine rw_nil ?_
            refine q_seq ?_
            refine v_seq ?_
            refine w_reg ?_
            refine rw_p (ov_move (v := (I x1095)) rfl) rfl ?_
            refine rw_p (ov_neq (k := .i64) (a := x1095) (b := 0) rfl rfl) rfl ?_
            refine rw_nil ?_
            refine q_seq ?_
            refine w_if (p := (x1095 != 0)) hF rfl (fun hb1097 hF => ?_) (fun hb1097 hF => ?_)
            · refine v_seq ?_
              refine w_reg ?_
              refine rw_p (ov_move (v := (I x1095)) rfl) rfl ?_
              refine rw_p (ov_assign (v := (I x1095)) rfl) rfl ?_
              refine rw_nil ?_
              refine q_seq ?_
              refine w_ret ?_
              refine q_blkR ?_
              refine q_seqR ?_
              obtain rfl := Option.some.inj hF
              exact q_outR (relR ⟨rfl, (fin_ret (res_tmp (pk_of (v := (I x1095)) rfl rfl) res_nil) rfl rfl)⟩)
            · refine w_skip ?_
              refine q_blk ?_
              refine q_seq ?_
              refine w_reg ?_
              refine rw_p (ov_add (k := .i64) (a := y1068) (b := 1) rfl rfl) rfl ?_
              refine rw_p (ov_move (v := (I (w64 (y1068 + 1)))) rfl) rfl ?_
              refine rw_nil ?_
              obtain rfl := Option.some.inj hF
              exact q_next (renorm_of (packL_mk (pk_of (v := (AV.sl ((([0, 1, 2] : List Nat)).map (fun k => [sel [(AV.fn (.func 82) [] [(AV.vp (cXCode_checker a0)), (AV.vp (cXApi_Ins a1))]), (AV.fn (.func 83) [] [(AV.vp (cXCode_checker a2)), (AV.vp (cXApi_Ins a3))]), (AV.fn (.func 84) [] [(AV.vp (cBool a4)), (AV.vp (cXApi_Ins a5)), (AV.vp (cXCode_checker a6))])] k])))) rfl rfl) (packL_mk (pk_of (v := (I (3 : Int))) rfl rfl) (packL_mk (pk_of (v := (I (w64 (y1068 + 1)))) rfl rfl) packL_0))) rfl)
          · cases hF
    · refine w_exit ?_
      refine q_seqE ?_
      obtain rfl := Option.some.inj hF
      refine q_out (relB ?_)
      exact ⟨_, _, rfl, trivial⟩
  · rintro x1117 hr1118
    cases o1112 with
    | ret r1119 =>
      replace hF : some r1119 = some r := hF
      obtain rfl := Option.some.inj hF
      obtain ⟨xe, xs⟩ := x1117
      obtain ⟨hxe, hfin⟩ := hr1118
      obtain rfl : xe = Exit.ret := hxe
      refine q_blkR ?_
      refine q_seqR ?_
      exact hfin
    | brk b1114 =>
      obtain ⟨t1115, h1116, rfl, _⟩ := hr1118
      refine q_blkH ?_
      refine q_seq ?_
      refine v_seq ?_
      refine w_reg ?_
      refine rw_p (ov_assign (v := (I 0)) rfl) rfl ?_
      refine rw_nil ?_
      refine q_seq ?_
      refine w_ret ?_
      obtain rfl := Option.some.inj hF
      exact (fin_ret (res_tmp (pk_of (v := (I 0)) rfl rfl) res_nil) rfl rfl)

end Go.Ab
