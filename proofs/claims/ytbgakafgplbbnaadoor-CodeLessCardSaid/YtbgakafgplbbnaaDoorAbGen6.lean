/-
  Functions of the program as functions on plain data (written by gen.py).
-/
import Derived.Test.YtbgakafgplbbnaaDoorAbGen5
namespace Go.Ab
open Go Go.Proofs
/-! turnery/turnerylaw2.CodeLess -/
noncomputable def turnerylaw2_CodeLess_L2 (y1721 : Int) (y1723 : XApi_Unit) (y1724 : Int) : Option (Lp (XApi_Unit × Int) (Br XApi_Unit Bool)) :=
  if (decide (y1724 < y1721)) then
  ((idx y1723.Funcs y1721).bind fun x1726 =>
  (idx y1723.Funcs y1724).bind fun x1728 =>
  if (x1726.Name.toList == x1728.Name.toList) then
  (some (.out (.ret false)))
  else
  (some (.next (y1723, (w64 (y1724 + 1))))))
  else
  (some (.out (.brk y1723)))
noncomputable def turnerylaw2_CodeLess_L4 (a0 : XApi_Unit) (y1721 : Int) (x1742 : XApi_Func) (y1745 : Int) (y1747 : XApi_Unit) (y1748 : Int) : Option (Lp (XApi_Unit × Int) (Br XApi_Unit Bool)) :=
  (idx x1742.Blocks y1745).bind fun x1750 =>
  if (decide (y1748 < (x1750.List.length : Int))) then
  ((idx x1742.Blocks y1745).bind fun x1752 =>
  (idx x1752.List y1748).bind fun x1754 =>
  (if (x1754.Op == 20) then (idx x1742.Blocks y1745).bind fun x1759 =>
  (idx x1759.List y1748).bind fun x1761 =>
  some (x1761.Func == (w64 ((a0.Funcs.length : Int) - 1))) else some false).bind fun p1756 =>
  if (if p1756 then (decide (y1721 < (w64 ((a0.Funcs.length : Int) - 1)))) else false) then
  (some (.out (.ret true)))
  else
  (some (.next (y1747, (w64 (y1748 + 1))))))
  else
  (some (.out (.brk y1747)))
noncomputable def turnerylaw2_CodeLess_L3 (a0 : XApi_Unit) (y1721 : Int) (x1742 : XApi_Func) (y1744 : XApi_Unit) (y1745 : Int) : Option (Lp (XApi_Unit × Int) (Br XApi_Unit Bool)) :=
  if (decide (y1745 < (x1742.Blocks.length : Int))) then
  ((Loop (fun (s : (XApi_Unit × Int)) => turnerylaw2_CodeLess_L4 a0 y1721 x1742 y1745 s.1 s.2) (y1744, 0)).bind fun o1804 => match o1804 with
  | .ret r1817 => some (.out (.ret r1817))
  | .brk b1806 =>
  some (.next (b1806, (w64 (y1745 + 1)))))
  else
  (some (.out (.brk y1744)))
noncomputable def turnerylaw2_CodeLess_L1 (a0 : XApi_Unit) (y1720 : XApi_Unit) (y1721 : Int) : Option (Lp (XApi_Unit × Int) (Br XApi_Unit Bool)) :=
  if (decide (y1721 ≤ (w64 ((a0.Funcs.length : Int) - 1)))) then
  ((Loop (fun (s : (XApi_Unit × Int)) => turnerylaw2_CodeLess_L2 y1721 s.1 s.2) (y1720, 0)).bind fun o1732 => match o1732 with
  | .ret r1833 => some (.out (.ret r1833))
  | .brk b1734 =>
  (idx b1734.Funcs y1721).bind fun x1742 =>
  (Loop (fun (s : (XApi_Unit × Int)) => turnerylaw2_CodeLess_L3 a0 y1721 x1742 s.1 s.2) (b1734, 0)).bind fun o1819 => match o1819 with
  | .ret r1830 => some (.out (.ret r1830))
  | .brk b1821 =>
  some (.next (b1821, (w64 (y1721 + 1)))))
  else
  (some (.out (.brk y1720)))
noncomputable def turnerylaw2_CodeLess (a0 : XApi_Unit) : Option Bool :=
  (turnerylaw2_codeFact).bind fun x1701 =>
  if (!x1701) then
  (some false)
  else
  ((code_Check a0).bind fun x1703 =>
  (if (x1703.Code != 0) then some true else (turnerylaw2_vast a0).bind fun x1711 =>
  some x1711).bind fun p1705 =>
  if p1705 then
  (some true)
  else
  (if (decide ((w64 ((a0.Funcs.length : Int) - 1)) < 0)) then
  (some false)
  else
  ((Loop (fun (s : (XApi_Unit × Int)) => turnerylaw2_CodeLess_L1 a0 s.1 s.2) (a0, 0)).bind fun o1835 => match o1835 with
  | .ret r1852 => some r1852
  | .brk b1837 =>
  (idx b1837.Funcs (w64 ((a0.Funcs.length : Int) - 1))).bind fun x1843 =>
  if (x1843.Name.toList == (ByteArray.mk #[109, 97, 105, 110]).toList) then
  (some true)
  else
  ((slc b1837.Funcs none (some (w64 ((a0.Funcs.length : Int) - 1)))).bind fun x1845 =>
  (code_Check (XApi_Unit.mk b1837.Globals x1845)).bind fun x1847 =>
  some (x1847.Code == 0)))))
abbrev RV5 : List ResultVar := [.tmp 2]
def R_turnerylaw2_CodeLess (r : Bool) : AV := (B r)
set_option maxHeartbeats 2000000 in
theorem T_turnerylaw2_CodeLess (nn : Nat) (a0 : XApi_Unit) (r : Bool) (hF : turnerylaw2_CodeLess a0 = some r) : den cx (nn + 10) 5 [(AV.agg (cXApi_Unit a0))] = some (R_turnerylaw2_CodeLess r, []) := by
  unfold turnerylaw2_CodeLess at hF
  refine fn_of (nn := (nn + 9)) (rv := RV5) (cxE _) Tryd.func5 rfl rfl Tryd.ntmps5 (cxL _) rfl ?_
  show W cx 5 _ _ ⟨119, (upd (fun _ => AV.junk) 0 (AV.agg (cXApi_Unit a0))), (fun _ => none)⟩ _
  refine v_seq ?_
  refine w_reg ?_
  refine rw_w (ov_boxM (cs := cXApi_Unit a0) ag25 fz5 rfl rfl rfl rfl) rfl ?_
  refine rw_p (ov_assign (v := (B false)) rfl) rfl ?_
  refine rw_nil ?_
  refine q_seq ?_
  refine v_seq ?_
  refine w_reg ?_
  obtain ⟨x1701, hx1702, hF⟩ := bindS hF
  refine rw_p (ov_call (args := []) (r := (R_turnerylaw2_codeFact x1701)) (v := (B x1701)) rfl rfl rfl rfl (T_turnerylaw2_codeFact nn  x1701 hx1702) fz5 rfl rfl) rfl ?_
  refine rw_p (ov_assign (v := (B x1701)) rfl) rfl ?_
  refine rw_nil ?_
  refine q_seq ?_
  refine v_seq ?_
  refine v_seq ?_
  refine w_reg ?_
  refine rw_p (ov_move (v := (B x1701)) rfl) rfl ?_
  refine rw_p (ov_not (p := x1701) rfl) rfl ?_
  refine rw_nil ?_
  refine q_seq ?_
  refine w_if (p := (!x1701)) hF rfl (fun hb1855 hF => ?_) (fun hb1855 hF => ?_)
  · refine v_seq ?_
    refine w_reg ?_
    refine rw_p (ov_assign (v := (B false)) rfl) rfl ?_
    refine rw_nil ?_
    refine q_seq ?_
    refine w_ret ?_
    refine q_seqR ?_
    obtain rfl := Option.some.inj hF
    exact (fin_ret (res_tmp (pk_of (v := (B false)) rfl rfl) res_nil) rfl rfl)
  · refine w_skip ?_
    refine q_seq ?_
    refine v_seq ?_
    refine v_seq ?_
    refine w_reg ?_
    refine rw_r (ov_loadM (c := cXApi_Unit) (q := [a0]) (r := a0) (cs := cXApi_Unit a0) (v := (AV.agg (cXApi_Unit a0))) ag25 sz25 rfl rfl rfl rfl rfl rfl) rfl ?_
    obtain ⟨x1703, hx1704, hF⟩ := bindS hF
    refine rw_p (ov_call (args := [(AV.agg (cXApi_Unit a0))]) (r := (R_code_Check x1703)) (v := (AV.agg (cXApi_Fault x1703))) rfl (cons_eq rfl rfl) rfl rfl (T_code_Check (nn + 2) a0 x1703 hx1704) fz5 rfl rfl) rfl ?_
    refine rw_p (ov_field (v := (I x1703.Code)) fd28_0 rfl rfl rfl) rfl ?_
    refine rw_p (ov_neq (k := .i64) (a := x1703.Code) (b := 0) rfl rfl) rfl ?_
    refine rw_p (ov_move (v := (B (x1703.Code != 0))) rfl) rfl ?_
    refine rw_gr rfl (ov_loadM (c := cXApi_Unit) (q := [a0]) (r := a0) (cs := cXApi_Unit a0) (v := (AV.agg (cXApi_Unit a0))) ag25 sz25 rfl rfl rfl rfl rfl rfl) rfl ?_
    obtain ⟨p1705, hG1706, hF⟩ := bindS hF
    refine rw_join 2 (fun t h => t 1 = (AV.mp [1] 0 0) ∧ t 20 = (B p1705) ∧ h [1] = some (some ([a0].map cXApi_Unit))) ?_ ?_
    · refine if_elim hG1706 (fun hb1707 hG1706 => ?_) (fun hb1707 hG1706 => ?_)
      · refine rw_no ((rfl).trans (congrArg some (by simp only [hb1707]; first | rfl | simp))) rfl (fun u1708 k1709 hk1710 => ?_)
        refine rw_p (ov_pickT ((rfl : _ = _).trans (congrArg (fun b => AV.val (.bool b)) hb1707)) rfl) rfl ?_
        obtain rfl := Option.some.inj hG1706
        refine rw_nil ⟨⟨k1709, by simp only [List.append_assoc], by simp only [readsOnly_append, hk1710, Bool.and_self]⟩, _, _, rfl, rfl, rfl, rfl⟩
      · obtain ⟨x1711, hx1712, hG1706⟩ := bindS hG1706
        refine rw_gt rfl (by simp only [hb1707]; rfl) (ov_call (args := [(AV.agg (cXApi_Unit a0))]) (r := (R_turnerylaw2_vast x1711)) (v := (B x1711)) rfl (cons_eq (un_imp (by simp only [hb1707]; rfl)) rfl) rfl rfl (T_turnerylaw2_vast (nn + 7) a0 x1711 hx1712) fz5 rfl rfl) rfl ?_
        refine rw_p (ov_pickF ((rfl : _ = _).trans (congrArg (fun b => AV.val (.bool b)) hb1707)) rfl) rfl ?_
        obtain rfl := Option.some.inj hG1706
        refine rw_nil ⟨⟨[], (List.append_nil _).symm, rfl⟩, _, _, rfl, rfl, rfl, rfl⟩
    · rintro k1718 t1713 h1714 hk1719 ⟨e1715, e1716, e1717⟩
      refine rw_nil ?_
      refine q_seq ?_
      refine w_if (p := p1705) hF (congrArg (un _) e1716) (fun hb1854 hF => ?_) (fun hb1854 hF => ?_)
      · refine v_seq ?_
        refine w_reg ?_
        refine rw_p (ov_assign (v := (B true)) rfl) rfl ?_
        refine rw_nil ?_
        refine q_seq ?_
        refine w_ret ?_
        refine q_seqR ?_
        obtain rfl := Option.some.inj hF
        exact (fin_ret (res_tmp (pk_of (v := (B true)) rfl rfl) res_nil) rfl rfl)
      · refine w_skip ?_
        refine q_seq ?_
        refine v_seq ?_
        refine w_reg ?_
        refine rw_p (ov_fieldAddrM fd25_1 rfl (congrArg (un _) e1715)) rfl ?_
        refine rw_r (ov_loadM (c := cXApi_Unit) (q := [a0]) (r := a0) (cs := cs_cXApi_Func a0.Funcs) (v := (AV.sl ((a0.Funcs).map cXApi_Func))) ag23 sz23 rfl e1717 rfl rfl rfl rfl) rfl ?_
        refine rw_p (ov_lenSl (m := a0.Funcs.length) Tryd.underlying23 rfl rfl rfl (List.length_map _)) rfl ?_
        refine rw_p (ov_sub (k := .i64) (a := (a0.Funcs.length : Int)) (b := 1) rfl rfl) rfl ?_
        refine rw_p (ov_assign (v := (I (w64 ((a0.Funcs.length : Int) - 1)))) rfl) rfl ?_
        refine rw_nil ?_
        refine q_seq ?_
        refine v_seq ?_
        refine v_seq ?_
        refine w_reg ?_
        refine rw_p (ov_move (v := (I (w64 ((a0.Funcs.length : Int) - 1)))) rfl) rfl ?_
        refine rw_p (ov_lss (k := .i64) (a := (w64 ((a0.Funcs.length : Int) - 1))) (b := 0) rfl rfl) rfl ?_
        refine rw_nil ?_
        refine q_seq ?_
        refine w_if (p := (decide ((w64 ((a0.Funcs.length : Int) - 1)) < 0))) hF rfl (fun hb1853 hF => ?_) (fun hb1853 hF => ?_)
        · refine v_seq ?_
          refine w_reg ?_
          refine rw_p (ov_assign (v := (B false)) rfl) rfl ?_
          refine rw_nil ?_
          refine q_seq ?_
          refine w_ret ?_
          refine q_seqR ?_
          obtain rfl := Option.some.inj hF
          exact (fin_ret (res_tmp (pk_of (v := (B false)) rfl rfl) res_nil) rfl rfl)
        · refine w_skip ?_
          refine q_seq ?_
          refine v_seq ?_
          refine v_seq ?_
          refine w_reg ?_
          refine rw_p (ov_assign (v := (I 0)) rfl) rfl ?_
          refine rw_nil ?_
          refine q_seq ?_
          refine v_block ?_
          obtain ⟨o1835, hL1836, hF⟩ := bindS hF
          refine v_loop (fun (s : (XApi_Unit × Int)) => [(AV.ownp (cXApi_Unit s.1)), (I (w64 ((a0.Funcs.length : Int) - 1))), (I s.2)]) (RelO (fun (s : XApi_Unit) x => ∃ t h, x = (Exit.exit 0, ⟨119, t, h⟩) ∧ t 1 = (AV.mp [1] 0 0) ∧ h [1] = some (some ([s].map cXApi_Unit)) ∧ t 4 = (I (w64 ((a0.Funcs.length : Int) - 1)))) (fun r x => x.1 = Exit.ret ∧ Fin cx RV5 (R_turnerylaw2_CodeLess r) x)) hL1836 lv5_10 (renorm_of (packL_mk (pk_mpT (cs := cXApi_Unit a0) e1715 e1717 (fl_cXApi_Unit _)) (packL_mk (pk_of (v := (I (w64 ((a0.Funcs.length : Int) - 1)))) rfl rfl) (packL_mk (pk_of (v := (I 0)) rfl rfl) packL_0))) rfl) ?_ ?_
          · rintro ⟨y1720, y1721⟩ z1722 hF
            replace hF : turnerylaw2_CodeLess_L1 a0 y1720 y1721 = some z1722 := hF
            unfold turnerylaw2_CodeLess_L1 at hF
            show W cx 5 _ _ ⟨119, (upd (upd (upd (fun _ => AV.junk) 5 (I y1721)) 4 (I (w64 ((a0.Funcs.length : Int) - 1)))) 1 (AV.mp [1] 0 0)), (upd (fun _ => none) [1] (some (some [cXApi_Unit y1720])))⟩ _
            refine v_seq ?_
            refine v_seq ?_
            refine w_reg ?_
            refine rw_p (ov_move (v := (I y1721)) rfl) rfl ?_
            refine rw_p (ov_move (v := (I (w64 ((a0.Funcs.length : Int) - 1)))) rfl) rfl ?_
            refine rw_p (ov_leq (k := .i64) (a := y1721) (b := (w64 ((a0.Funcs.length : Int) - 1))) rfl rfl) rfl ?_
            refine rw_nil ?_
            refine q_seq ?_
            refine w_if (p := (decide (y1721 ≤ (w64 ((a0.Funcs.length : Int) - 1))))) hF rfl (fun hb1834 hF => ?_) (fun hb1834 hF => ?_)
            · refine w_skip ?_
              refine q_seq ?_
              refine v_seq ?_
              refine v_block ?_
              refine v_seq ?_
              refine v_seq ?_
              refine w_reg ?_
              refine rw_p (ov_assign (v := (I 0)) rfl) rfl ?_
              refine rw_nil ?_
              refine q_seq ?_
              refine v_block ?_
              obtain ⟨o1732, hL1733, hF⟩ := bindS hF
              refine v_loop (fun (s : (XApi_Unit × Int)) => [(AV.ownp (cXApi_Unit s.1)), (I (w64 ((a0.Funcs.length : Int) - 1))), (I y1721), (I s.2)]) (RelO (fun (s : XApi_Unit) x => ∃ t h, x = (Exit.exit 2, ⟨119, t, h⟩) ∧ t 1 = (AV.mp [1] 0 0) ∧ h [1] = some (some ([s].map cXApi_Unit)) ∧ t 4 = (I (w64 ((a0.Funcs.length : Int) - 1))) ∧ t 5 = (I y1721) ∧ h [7] = none) (fun r x => x.1 = Exit.ret ∧ Fin cx RV5 (R_turnerylaw2_CodeLess r) x)) hL1733 lv5_13 (renorm_of (packL_mk (pk_mpT (cs := cXApi_Unit y1720) rfl rfl (fl_cXApi_Unit _)) (packL_mk (pk_of (v := (I (w64 ((a0.Funcs.length : Int) - 1)))) rfl rfl) (packL_mk (pk_of (v := (I y1721)) rfl rfl) (packL_mk (pk_of (v := (I 0)) rfl rfl) packL_0)))) rfl) ?_ ?_
              · rintro ⟨y1723, y1724⟩ z1725 hF
                replace hF : turnerylaw2_CodeLess_L2 y1721 y1723 y1724 = some z1725 := hF
                unfold turnerylaw2_CodeLess_L2 at hF
                show W cx 5 _ _ ⟨119, (upd (upd (upd (upd (fun _ => AV.junk) 6 (I y1724)) 5 (I y1721)) 4 (I (w64 ((a0.Funcs.length : Int) - 1)))) 1 (AV.mp [1] 0 0)), (upd (fun _ => none) [1] (some (some [cXApi_Unit y1723])))⟩ _
                refine v_seq ?_
                refine v_seq ?_
                refine w_reg ?_
                refine rw_p (ov_move (v := (I y1724)) rfl) rfl ?_
                refine rw_p (ov_move (v := (I y1721)) rfl) rfl ?_
                refine rw_p (ov_lss (k := .i64) (a := y1724) (b := y1721) rfl rfl) rfl ?_
                refine rw_nil ?_
                refine q_seq ?_
                refine w_if (p := (decide (y1724 < y1721))) hF rfl (fun hb1731 hF => ?_) (fun hb1731 hF => ?_)
                · refine w_skip ?_
                  refine q_seq ?_
                  refine v_seq ?_
                  refine v_block ?_
                  refine v_seq ?_
                  refine w_regD ?_
                  refine rw_p (ov_fieldAddrM fd25_1 rfl rfl) rfl ?_
                  refine rw_r (ov_loadM (c := cXApi_Unit) (q := [y1723]) (r := y1723) (cs := cs_cXApi_Func y1723.Funcs) (v := (AV.sl ((y1723.Funcs).map cXApi_Func))) ag23 sz23 rfl rfl rfl rfl rfl rfl) rfl ?_
                  refine rw_p (ov_move (v := (I y1721)) rfl) rfl ?_
                  obtain ⟨x1726, hx1727, hF⟩ := bindS hF
                  refine rw_p (ov_indexAddr (k := .i64) (c := cXApi_Func) (q := y1723.Funcs) (i := y1721) Tryd.underlying23 sz37 rfl rfl rfl hx1727 rfl) rfl ?_
                  refine rw_p (ov_fieldAddr (cells' := (cXApi_Func x1726)) fd37_0 rfl rfl rfl rfl) rfl ?_
                  refine rw_p (ov_load (v := (AV.val (.string x1726.Name))) ag9 sz9 rfl rfl rfl) rfl ?_
                  refine rw_p (ov_fieldAddrM fd25_1 rfl rfl) rfl ?_
                  refine rw_r (ov_loadM (c := cXApi_Unit) (q := [y1723]) (r := y1723) (cs := cs_cXApi_Func y1723.Funcs) (v := (AV.sl ((y1723.Funcs).map cXApi_Func))) ag23 sz23 rfl rfl rfl rfl rfl rfl) rfl ?_
                  refine rw_p (ov_move (v := (I y1724)) rfl) rfl ?_
                  obtain ⟨x1728, hx1729, hF⟩ := bindS hF
                  refine rw_p (ov_indexAddr (k := .i64) (c := cXApi_Func) (q := y1723.Funcs) (i := y1724) Tryd.underlying23 sz37 rfl rfl rfl hx1729 rfl) rfl ?_
                  refine rw_p (ov_fieldAddr (cells' := (cXApi_Func x1728)) fd37_0 rfl rfl rfl rfl) rfl ?_
                  refine rw_p (ov_load (v := (AV.val (.string x1728.Name))) ag9 sz9 rfl rfl rfl) rfl ?_
                  refine rw_p (ov_eqlS rfl rfl) rfl ?_
                  refine rw_nil ⟨(heapFree_reads _ _ (by simp only [readsOnly_append]; rfl)), ?_⟩
                  refine q_seq ?_
                  refine w_if (p := (x1726.Name.toList == x1728.Name.toList)) hF rfl (fun hb1730 hF => ?_) (fun hb1730 hF => ?_)
                  · refine v_seq ?_
                    refine w_reg ?_
                    refine rw_p (ov_assign (v := (B false)) rfl) rfl ?_
                    refine rw_nil ?_
                    refine q_seq ?_
                    refine w_ret ?_
                    refine q_blkR ?_
                    refine q_seqR ?_
                    obtain rfl := Option.some.inj hF
                    exact q_outR (relR ⟨rfl, (fin_ret (res_tmp (pk_of (v := (B false)) rfl rfl) res_nil) rfl rfl)⟩)
                  · refine w_skip ?_
                    refine q_blk ?_
                    refine q_seq ?_
                    refine w_reg ?_
                    refine rw_p (ov_move (v := (I y1724)) rfl) rfl ?_
                    refine rw_p (ov_add (k := .i64) (a := y1724) (b := 1) rfl rfl) rfl ?_
                    refine rw_p (ov_assign (v := (I (w64 (y1724 + 1)))) rfl) rfl ?_
                    refine rw_nil ?_
                    obtain rfl := Option.some.inj hF
                    exact q_next (renorm_of (packL_mk (pk_mpT (cs := cXApi_Unit y1723) rfl rfl (fl_cXApi_Unit _)) (packL_mk (pk_of (v := (I (w64 ((a0.Funcs.length : Int) - 1)))) rfl rfl) (packL_mk (pk_of (v := (I y1721)) rfl rfl) (packL_mk (pk_of (v := (I (w64 (y1724 + 1)))) rfl rfl) packL_0)))) rfl)
                · refine w_exit ?_
                  refine q_seqE ?_
                  obtain rfl := Option.some.inj hF
                  refine q_out (relB ?_)
                  exact ⟨_, _, rfl, rfl, rfl, rfl, rfl, rfl⟩
              · rintro x1831 hr1832
                cases o1732 with
                | ret r1833 =>
                  replace hF : some (.out (.ret r1833)) = some z1722 := hF
                  obtain rfl := Option.some.inj hF
                  obtain ⟨xe, xs⟩ := x1831
                  obtain ⟨hxe, hfin⟩ := hr1832
                  obtain rfl : xe = Exit.ret := hxe
                  refine q_blkR ?_
                  refine q_seqR ?_
                  refine q_blkR ?_
                  refine q_seqR ?_
                  exact q_outR (relR ⟨rfl, hfin⟩)
                | brk b1734 =>
                  obtain ⟨t1735, h1736, rfl, e1737, e1738, e1739, e1740, e1741⟩ := hr1832
                  refine q_blkH ?_
                  refine q_seq ?_
                  refine v_seq ?_
                  refine w_reg ?_
                  refine rw_p (ov_fieldAddrM fd25_1 rfl (congrArg (un _) e1737)) rfl ?_
                  refine rw_r (ov_loadM (c := cXApi_Unit) (q := [b1734]) (r := b1734) (cs := cs_cXApi_Func b1734.Funcs) (v := (AV.sl ((b1734.Funcs).map cXApi_Func))) ag23 sz23 rfl e1738 rfl rfl rfl rfl) rfl ?_
                  refine rw_p (ov_move (v := (I y1721)) (congrArg (un _) e1740)) rfl ?_
                  obtain ⟨x1742, hx1743, hF⟩ := bindS hF
                  refine rw_p (ov_indexAddr (k := .i64) (c := cXApi_Func) (q := b1734.Funcs) (i := y1721) Tryd.underlying23 sz37 rfl rfl rfl hx1743 rfl) rfl ?_
                  refine rw_p (ov_load (v := (AV.agg (cXApi_Func x1742))) ag37 sz37 rfl rfl rfl) rfl ?_
                  refine rw_w (ov_alloc zm37 e1741) rfl ?_
                  refine rw_w (ov_storeF (v := (AV.agg (cXApi_Func x1742))) (cs := cXApi_Func x1742) (cs' := cXApi_Func x1742) ag37 sz37 rfl rfl rfl rfl rfl rfl fz5 rfl rfl rfl) rfl ?_
                  refine rw_nil ?_
                  refine q_seq ?_
                  refine v_seq ?_
                  refine w_reg ?_
                  refine rw_p (ov_assign (v := (I 0)) rfl) rfl ?_
                  refine rw_nil ?_
                  refine q_seq ?_
                  refine v_block ?_
                  obtain ⟨o1819, hL1820, hF⟩ := bindS hF
                  refine v_loop (fun (s : (XApi_Unit × Int)) => [(AV.ownp (cXApi_Unit s.1)), (I (w64 ((a0.Funcs.length : Int) - 1))), (I y1721), (AV.vp (cXApi_Func x1742)), (I s.2)]) (RelO (fun (s : XApi_Unit) x => ∃ t h, x = (Exit.exit 4, ⟨119, t, h⟩) ∧ t 1 = (AV.mp [1] 0 0) ∧ h [1] = some (some ([s].map cXApi_Unit)) ∧ t 4 = (I (w64 ((a0.Funcs.length : Int) - 1))) ∧ t 5 = (I y1721)) (fun r x => x.1 = Exit.ret ∧ Fin cx RV5 (R_turnerylaw2_CodeLess r) x)) hL1820 lv5_19 (renorm_of (packL_mk (pk_mpT (cs := cXApi_Unit b1734) e1737 e1738 (fl_cXApi_Unit _)) (packL_mk (pk_of (v := (I (w64 ((a0.Funcs.length : Int) - 1)))) e1739 rfl) (packL_mk (pk_of (v := (I y1721)) e1740 rfl) (packL_mk (pk_of (v := (AV.vp (cXApi_Func x1742))) rfl rfl) (packL_mk (pk_of (v := (I 0)) rfl rfl) packL_0))))) rfl) ?_ ?_
                  · rintro ⟨y1744, y1745⟩ z1746 hF
                    replace hF : turnerylaw2_CodeLess_L3 a0 y1721 x1742 y1744 y1745 = some z1746 := hF
                    unfold turnerylaw2_CodeLess_L3 at hF
                    show W cx 5 _ _ ⟨119, (upd (upd (upd (upd (upd (fun _ => AV.junk) 8 (I y1745)) 7 (AV.vp (cXApi_Func x1742))) 5 (I y1721)) 4 (I (w64 ((a0.Funcs.length : Int) - 1)))) 1 (AV.mp [1] 0 0)), (upd (fun _ => none) [1] (some (some [cXApi_Unit y1744])))⟩ _
                    refine v_seq ?_
                    refine v_seq ?_
                    refine w_reg ?_
                    refine rw_p (ov_move (v := (I y1745)) rfl) rfl ?_
                    refine rw_p (ov_fieldAddr (cells' := ((cXApi_Func x1742).drop 3)) fd37_3 rfl rfl rfl rfl) rfl ?_
                    refine rw_p (ov_load (v := (AV.sl ((x1742.Blocks).map cXApi_Block))) ag35 sz35 rfl rfl rfl) rfl ?_
                    refine rw_p (ov_lenSl (m := x1742.Blocks.length) Tryd.underlying35 rfl rfl rfl (List.length_map _)) rfl ?_
                    refine rw_p (ov_lss (k := .i64) (a := y1745) (b := (x1742.Blocks.length : Int)) rfl rfl) rfl ?_
                    refine rw_nil ?_
                    refine q_seq ?_
                    refine w_if (p := (decide (y1745 < (x1742.Blocks.length : Int)))) hF rfl (fun hb1818 hF => ?_) (fun hb1818 hF => ?_)
                    · refine w_skip ?_
                      refine q_seq ?_
                      refine v_seq ?_
                      refine v_block ?_
                      refine v_seq ?_
                      refine w_reg ?_
                      refine rw_p (ov_assign (v := (I 0)) rfl) rfl ?_
                      refine rw_nil ?_
                      refine q_seq ?_
                      refine v_block ?_
                      obtain ⟨o1804, hL1805, hF⟩ := bindS hF
                      refine v_loop (fun (s : (XApi_Unit × Int)) => [(AV.ownp (cXApi_Unit s.1)), (I (w64 ((a0.Funcs.length : Int) - 1))), (I y1721), (AV.vp (cXApi_Func x1742)), (I y1745), (I s.2)]) (RelO (fun (s : XApi_Unit) x => ∃ t h, x = (Exit.exit 6, ⟨119, t, h⟩) ∧ t 1 = (AV.mp [1] 0 0) ∧ h [1] = some (some ([s].map cXApi_Unit)) ∧ t 4 = (I (w64 ((a0.Funcs.length : Int) - 1))) ∧ t 5 = (I y1721) ∧ t 7 = (AV.vp (cXApi_Func x1742)) ∧ t 8 = (I y1745)) (fun r x => x.1 = Exit.ret ∧ Fin cx RV5 (R_turnerylaw2_CodeLess r) x)) hL1805 lv5_22 (renorm_of (packL_mk (pk_mpT (cs := cXApi_Unit y1744) rfl rfl (fl_cXApi_Unit _)) (packL_mk (pk_of (v := (I (w64 ((a0.Funcs.length : Int) - 1)))) rfl rfl) (packL_mk (pk_of (v := (I y1721)) rfl rfl) (packL_mk (pk_of (v := (AV.vp (cXApi_Func x1742))) rfl rfl) (packL_mk (pk_of (v := (I y1745)) rfl rfl) (packL_mk (pk_of (v := (I 0)) rfl rfl) packL_0)))))) rfl) ?_ ?_
                      · rintro ⟨y1747, y1748⟩ z1749 hF
                        replace hF : turnerylaw2_CodeLess_L4 a0 y1721 x1742 y1745 y1747 y1748 = some z1749 := hF
                        unfold turnerylaw2_CodeLess_L4 at hF
                        show W cx 5 _ _ ⟨119, (upd (upd (upd (upd (upd (upd (fun _ => AV.junk) 9 (I y1748)) 8 (I y1745)) 7 (AV.vp (cXApi_Func x1742))) 5 (I y1721)) 4 (I (w64 ((a0.Funcs.length : Int) - 1)))) 1 (AV.mp [1] 0 0)), (upd (fun _ => none) [1] (some (some [cXApi_Unit y1747])))⟩ _
                        refine v_seq ?_
                        refine v_seq ?_
                        refine w_reg ?_
                        refine rw_p (ov_move (v := (I y1748)) rfl) rfl ?_
                        refine rw_p (ov_fieldAddr (cells' := ((cXApi_Func x1742).drop 3)) fd37_3 rfl rfl rfl rfl) rfl ?_
                        refine rw_p (ov_load (v := (AV.sl ((x1742.Blocks).map cXApi_Block))) ag35 sz35 rfl rfl rfl) rfl ?_
                        refine rw_p (ov_move (v := (I y1745)) rfl) rfl ?_
                        obtain ⟨x1750, hx1751, hF⟩ := bindS hF
                        refine rw_p (ov_indexAddr (k := .i64) (c := cXApi_Block) (q := x1742.Blocks) (i := y1745) Tryd.underlying35 sz53 rfl rfl rfl hx1751 rfl) rfl ?_
                        refine rw_p (ov_fieldAddr (cells' := ((cXApi_Block x1750).drop 1)) fd53_1 rfl rfl rfl rfl) rfl ?_
                        refine rw_p (ov_load (v := (AV.sl ((x1750.List).map cXApi_Ins))) ag51 sz51 rfl rfl rfl) rfl ?_
                        refine rw_p (ov_lenSl (m := x1750.List.length) Tryd.underlying51 rfl rfl rfl (List.length_map _)) rfl ?_
                        refine rw_p (ov_lss (k := .i64) (a := y1748) (b := (x1750.List.length : Int)) rfl rfl) rfl ?_
                        refine rw_nil ?_
                        refine q_seq ?_
                        refine w_if (p := (decide (y1748 < (x1750.List.length : Int)))) hF rfl (fun hb1803 hF => ?_) (fun hb1803 hF => ?_)
                        · refine w_skip ?_
                          refine q_seq ?_
                          refine v_seq ?_
                          refine v_block ?_
                          refine v_seq ?_
                          refine w_reg ?_
                          refine rw_p (ov_fieldAddr (cells' := ((cXApi_Func x1742).drop 3)) fd37_3 rfl rfl rfl rfl) rfl ?_
                          refine rw_p (ov_load (v := (AV.sl ((x1742.Blocks).map cXApi_Block))) ag35 sz35 rfl rfl rfl) rfl ?_
                          refine rw_p (ov_move (v := (I y1745)) rfl) rfl ?_
                          obtain ⟨x1752, hx1753, hF⟩ := bindS hF
                          refine rw_p (ov_indexAddr (k := .i64) (c := cXApi_Block) (q := x1742.Blocks) (i := y1745) Tryd.underlying35 sz53 rfl rfl rfl hx1753 rfl) rfl ?_
                          refine rw_p (ov_fieldAddr (cells' := ((cXApi_Block x1752).drop 1)) fd53_1 rfl rfl rfl rfl) rfl ?_
                          refine rw_p (ov_load (v := (AV.sl ((x1752.List).map cXApi_Ins))) ag51 sz51 rfl rfl rfl) rfl ?_
                          refine rw_p (ov_move (v := (I y1748)) rfl) rfl ?_
                          obtain ⟨x1754, hx1755, hF⟩ := bindS hF
                          refine rw_p (ov_indexAddr (k := .i64) (c := cXApi_Ins) (q := x1752.List) (i := y1748) Tryd.underlying51 sz56 rfl rfl rfl hx1755 rfl) rfl ?_
                          refine rw_p (ov_fieldAddr (cells' := (cXApi_Ins x1754)) fd56_0 rfl rfl rfl rfl) rfl ?_
                          refine rw_p (ov_load (v := (I x1754.Op)) ag3 sz3 rfl rfl rfl) rfl ?_
                          refine rw_p (ov_eql (k := .i64) (a := x1754.Op) (b := 20) rfl rfl) rfl ?_
                          refine rw_p (ov_move (v := (B (x1754.Op == 20))) rfl) rfl ?_
                          refine rw_g rfl (ov_fieldAddr (cells' := ((cXApi_Func x1742).drop 3)) fd37_3 rfl rfl rfl rfl) rfl ?_
                          refine rw_g rfl (ov_load (v := (AV.sl ((x1742.Blocks).map cXApi_Block))) ag35 sz35 (un_self _) rfl rfl) rfl ?_
                          refine rw_g rfl (ov_move (v := (I y1745)) rfl) rfl ?_
                          obtain ⟨p1756, hG1757, hF⟩ := bindS hF
                          refine rw_join 10 (fun t h => t 1 = (AV.mp [1] 0 0) ∧ t 4 = (I (w64 ((a0.Funcs.length : Int) - 1))) ∧ t 5 = (I y1721) ∧ t 7 = (AV.vp (cXApi_Func x1742)) ∧ t 8 = (I y1745) ∧ t 9 = (I y1748) ∧ t 97 = (B p1756) ∧ h [1] = some (some ([y1747].map cXApi_Unit))) ?_ ?_
                          · refine if_elim hG1757 (fun hb1758 hG1757 => ?_) (fun hb1758 hG1757 => ?_)
                            · obtain ⟨x1759, hx1760, hG1757⟩ := bindS hG1757
                              refine rw_gt rfl (by simp only [hb1758]; rfl) (ov_indexAddr (k := .i64) (c := cXApi_Block) (q := x1742.Blocks) (i := y1745) Tryd.underlying35 sz53 rfl (un_imp (by simp only [hb1758]; rfl)) (un_imp (by simp only [hb1758]; rfl)) hx1760 rfl) rfl ?_
                              refine rw_gt rfl (by simp only [hb1758]; rfl) (ov_fieldAddr (cells' := ((cXApi_Block x1759).drop 1)) fd53_1 rfl (un_self _) rfl rfl) rfl ?_
                              refine rw_gt rfl (by simp only [hb1758]; rfl) (ov_load (v := (AV.sl ((x1759.List).map cXApi_Ins))) ag51 sz51 (un_self _) rfl rfl) rfl ?_
                              refine rw_gt rfl (by simp only [hb1758]; rfl) (ov_move (v := (I y1748)) rfl) rfl ?_
                              obtain ⟨x1761, hx1762, hG1757⟩ := bindS hG1757
                              refine rw_gt rfl (by simp only [hb1758]; rfl) (ov_indexAddr (k := .i64) (c := cXApi_Ins) (q := x1759.List) (i := y1748) Tryd.underlying51 sz56 rfl (un_self _) (un_self _) hx1762 rfl) rfl ?_
                              refine rw_gt rfl (by simp only [hb1758]; rfl) (ov_fieldAddr (cells' := ((cXApi_Ins x1761).drop 6)) fd56_4 rfl (un_self _) rfl rfl) rfl ?_
                              refine rw_gt rfl (by simp only [hb1758]; rfl) (ov_load (v := (I x1761.Func)) ag3 sz3 (un_self _) rfl rfl) rfl ?_
                              refine rw_gt rfl (by simp only [hb1758]; rfl) (ov_move (v := (I (w64 ((a0.Funcs.length : Int) - 1)))) rfl) rfl ?_
                              refine rw_gt rfl (by simp only [hb1758]; rfl) (ov_eql (k := .i64) (a := x1761.Func) (b := (w64 ((a0.Funcs.length : Int) - 1))) (un_self _) (un_self _)) rfl ?_
                              refine rw_p (ov_pickT ((rfl : _ = _).trans (congrArg (fun b => AV.val (.bool b)) hb1758)) rfl) rfl ?_
                              obtain rfl := Option.some.inj hG1757
                              refine rw_nil ⟨⟨[], (List.append_nil _).symm, rfl⟩, _, _, rfl, rfl, rfl, rfl, rfl, rfl, rfl, rfl, rfl⟩
                            · refine rw_no ((rfl).trans (congrArg some (by simp only [hb1758]; first | rfl | simp))) rfl (fun u1763 k1764 hk1765 => ?_)
                              refine rw_no ((rfl).trans (congrArg some (by simp only [hb1758]; first | rfl | simp))) rfl (fun u1766 k1767 hk1768 => ?_)
                              refine rw_no ((rfl).trans (congrArg some (by simp only [hb1758]; first | rfl | simp))) rfl (fun u1769 k1770 hk1771 => ?_)
                              refine rw_no ((rfl).trans (congrArg some (by simp only [hb1758]; first | rfl | simp))) rfl (fun u1772 k1773 hk1774 => ?_)
                              refine rw_no ((rfl).trans (congrArg some (by simp only [hb1758]; first | rfl | simp))) rfl (fun u1775 k1776 hk1777 => ?_)
                              refine rw_no ((rfl).trans (congrArg some (by simp only [hb1758]; first | rfl | simp))) rfl (fun u1778 k1779 hk1780 => ?_)
                              refine rw_no ((rfl).trans (congrArg some (by simp only [hb1758]; first | rfl | simp))) rfl (fun u1781 k1782 hk1783 => ?_)
                              refine rw_no ((rfl).trans (congrArg some (by simp only [hb1758]; first | rfl | simp))) rfl (fun u1784 k1785 hk1786 => ?_)
                              refine rw_no ((rfl).trans (congrArg some (by simp only [hb1758]; first | rfl | simp))) rfl (fun u1787 k1788 hk1789 => ?_)
                              refine rw_p (ov_pickF ((rfl : _ = _).trans (congrArg (fun b => AV.val (.bool b)) hb1758)) rfl) rfl ?_
                              obtain rfl := Option.some.inj hG1757
                              refine rw_nil ⟨⟨(k1764 ++ (k1767 ++ (k1770 ++ (k1773 ++ (k1776 ++ (k1779 ++ (k1782 ++ (k1785 ++ k1788)))))))), by simp only [List.append_assoc], by simp only [readsOnly_append, hk1765, hk1768, hk1771, hk1774, hk1777, hk1780, hk1783, hk1786, hk1789, Bool.and_self]⟩, _, _, rfl, rfl, rfl, rfl, rfl, rfl, rfl, rfl, rfl⟩
                          · rintro k1800 t1790 h1791 hk1801 ⟨e1792, e1793, e1794, e1795, e1796, e1797, e1798, e1799⟩
                            refine rw_p (ov_move (v := (B p1756)) (congrArg (un _) e1798)) rfl ?_
                            refine rw_g rfl (ov_move (v := (I y1721)) (congrArg (un _) e1794)) rfl ?_
                            refine rw_g rfl (ov_move (v := (I (w64 ((a0.Funcs.length : Int) - 1)))) (congrArg (un _) e1793)) rfl ?_
                            refine rw_g rfl (ov_lss (k := .i64) (a := y1721) (b := (w64 ((a0.Funcs.length : Int) - 1))) (un_self _) (un_self _)) rfl ?_
                            refine rw_p (ov_pickB (p := p1756) (q := (decide (y1721 < (w64 ((a0.Funcs.length : Int) - 1))))) (r := false) rfl (un_imp (by generalize p1756 = u0; cases u0 <;> rfl)) rfl) rfl ?_
                            refine rw_nil ?_
                            refine q_seq ?_
                            refine w_if (p := (if p1756 then (decide (y1721 < (w64 ((a0.Funcs.length : Int) - 1)))) else false)) hF rfl (fun hb1802 hF => ?_) (fun hb1802 hF => ?_)
                            · refine v_seq ?_
                              refine w_reg ?_
                              refine rw_p (ov_assign (v := (B true)) rfl) rfl ?_
                              refine rw_nil ?_
                              refine q_seq ?_
                              refine w_ret ?_
                              refine q_blkR ?_
                              refine q_seqR ?_
                              obtain rfl := Option.some.inj hF
                              exact q_outR (relR ⟨rfl, (fin_ret (res_tmp (pk_of (v := (B true)) rfl rfl) res_nil) rfl rfl)⟩)
                            · refine w_skip ?_
                              refine q_blk ?_
                              refine q_seq ?_
                              refine w_reg ?_
                              refine rw_p (ov_move (v := (I y1748)) (congrArg (un _) e1797)) rfl ?_
                              refine rw_p (ov_add (k := .i64) (a := y1748) (b := 1) rfl rfl) rfl ?_
                              refine rw_p (ov_assign (v := (I (w64 (y1748 + 1)))) rfl) rfl ?_
                              refine rw_nil ?_
                              obtain rfl := Option.some.inj hF
                              exact q_next (renorm_of (packL_mk (pk_mpT (cs := cXApi_Unit y1747) e1792 e1799 (fl_cXApi_Unit _)) (packL_mk (pk_of (v := (I (w64 ((a0.Funcs.length : Int) - 1)))) e1793 rfl) (packL_mk (pk_of (v := (I y1721)) e1794 rfl) (packL_mk (pk_of (v := (AV.vp (cXApi_Func x1742))) e1795 rfl) (packL_mk (pk_of (v := (I y1745)) e1796 rfl) (packL_mk (pk_of (v := (I (w64 (y1748 + 1)))) rfl rfl) packL_0)))))) rfl)
                        · refine w_exit ?_
                          refine q_seqE ?_
                          obtain rfl := Option.some.inj hF
                          refine q_out (relB ?_)
                          exact ⟨_, _, rfl, rfl, rfl, rfl, rfl, rfl, rfl⟩
                      · rintro x1815 hr1816
                        cases o1804 with
                        | ret r1817 =>
                          replace hF : some (.out (.ret r1817)) = some z1746 := hF
                          obtain rfl := Option.some.inj hF
                          obtain ⟨xe, xs⟩ := x1815
                          obtain ⟨hxe, hfin⟩ := hr1816
                          obtain rfl : xe = Exit.ret := hxe
                          refine q_blkR ?_
                          refine q_blkR ?_
                          refine q_seqR ?_
                          exact q_outR (relR ⟨rfl, hfin⟩)
                        | brk b1806 =>
                          obtain ⟨t1807, h1808, rfl, e1809, e1810, e1811, e1812, e1813, e1814⟩ := hr1816
                          refine q_blkH ?_
                          refine q_blk ?_
                          refine q_seq ?_
                          refine w_reg ?_
                          refine rw_p (ov_move (v := (I y1745)) (congrArg (un _) e1814)) rfl ?_
                          refine rw_p (ov_add (k := .i64) (a := y1745) (b := 1) rfl rfl) rfl ?_
                          refine rw_p (ov_assign (v := (I (w64 (y1745 + 1)))) rfl) rfl ?_
                          refine rw_nil ?_
                          obtain rfl := Option.some.inj hF
                          exact q_next (renorm_of (packL_mk (pk_mpT (cs := cXApi_Unit b1806) e1809 e1810 (fl_cXApi_Unit _)) (packL_mk (pk_of (v := (I (w64 ((a0.Funcs.length : Int) - 1)))) e1811 rfl) (packL_mk (pk_of (v := (I y1721)) e1812 rfl) (packL_mk (pk_of (v := (AV.vp (cXApi_Func x1742))) e1813 rfl) (packL_mk (pk_of (v := (I (w64 (y1745 + 1)))) rfl rfl) packL_0))))) rfl)
                    · refine w_exit ?_
                      refine q_seqE ?_
                      obtain rfl := Option.some.inj hF
                      refine q_out (relB ?_)
                      exact ⟨_, _, rfl, rfl, rfl, rfl, rfl⟩
                  · rintro x1828 hr1829
                    cases o1819 with
                    | ret r1830 =>
                      replace hF : some (.out (.ret r1830)) = some z1722 := hF
                      obtain rfl := Option.some.inj hF
                      obtain ⟨xe, xs⟩ := x1828
                      obtain ⟨hxe, hfin⟩ := hr1829
                      obtain rfl : xe = Exit.ret := hxe
                      refine q_blkR ?_
                      refine q_blkR ?_
                      refine q_seqR ?_
                      exact q_outR (relR ⟨rfl, hfin⟩)
                    | brk b1821 =>
                      obtain ⟨t1822, h1823, rfl, e1824, e1825, e1826, e1827⟩ := hr1829
                      refine q_blkH ?_
                      refine q_blk ?_
                      refine q_seq ?_
                      refine w_reg ?_
                      refine rw_p (ov_move (v := (I y1721)) (congrArg (un _) e1827)) rfl ?_
                      refine rw_p (ov_add (k := .i64) (a := y1721) (b := 1) rfl rfl) rfl ?_
                      refine rw_p (ov_assign (v := (I (w64 (y1721 + 1)))) rfl) rfl ?_
                      refine rw_nil ?_
                      obtain rfl := Option.some.inj hF
                      exact q_next (renorm_of (packL_mk (pk_mpT (cs := cXApi_Unit b1821) e1824 e1825 (fl_cXApi_Unit _)) (packL_mk (pk_of (v := (I (w64 ((a0.Funcs.length : Int) - 1)))) e1826 rfl) (packL_mk (pk_of (v := (I (w64 (y1721 + 1)))) rfl rfl) packL_0))) rfl)
            · refine w_exit ?_
              refine q_seqE ?_
              obtain rfl := Option.some.inj hF
              refine q_out (relB ?_)
              exact ⟨_, _, rfl, rfl, rfl, rfl⟩
          · rintro x1850 hr1851
            cases o1835 with
            | ret r1852 =>
              replace hF : some r1852 = some r := hF
              obtain rfl := Option.some.inj hF
              obtain ⟨xe, xs⟩ := x1850
              obtain ⟨hxe, hfin⟩ := hr1851
              obtain rfl : xe = Exit.ret := hxe
              refine q_blkR ?_
              refine q_seqR ?_
              exact hfin
            | brk b1837 =>
              obtain ⟨t1838, h1839, rfl, e1840, e1841, e1842⟩ := hr1851
              refine q_blkH ?_
              refine q_seq ?_
              refine v_seq ?_
              refine v_seq ?_
              refine w_reg ?_
              refine rw_p (ov_fieldAddrM fd25_1 rfl (congrArg (un _) e1840)) rfl ?_
              refine rw_r (ov_loadM (c := cXApi_Unit) (q := [b1837]) (r := b1837) (cs := cs_cXApi_Func b1837.Funcs) (v := (AV.sl ((b1837.Funcs).map cXApi_Func))) ag23 sz23 rfl e1841 rfl rfl rfl rfl) rfl ?_
              refine rw_p (ov_move (v := (I (w64 ((a0.Funcs.length : Int) - 1)))) (congrArg (un _) e1842)) rfl ?_
              obtain ⟨x1843, hx1844, hF⟩ := bindS hF
              refine rw_p (ov_indexAddr (k := .i64) (c := cXApi_Func) (q := b1837.Funcs) (i := (w64 ((a0.Funcs.length : Int) - 1))) Tryd.underlying23 sz37 rfl rfl rfl hx1844 rfl) rfl ?_
              refine rw_p (ov_fieldAddr (cells' := (cXApi_Func x1843)) fd37_0 rfl rfl rfl rfl) rfl ?_
              refine rw_p (ov_load (v := (AV.val (.string x1843.Name))) ag9 sz9 rfl rfl rfl) rfl ?_
              refine rw_p (ov_eqlS rfl rfl) rfl ?_
              refine rw_nil ?_
              refine q_seq ?_
              refine w_if (p := (x1843.Name.toList == (ByteArray.mk #[109, 97, 105, 110]).toList)) hF rfl (fun hb1849 hF => ?_) (fun hb1849 hF => ?_)
              · refine v_seq ?_
                refine w_reg ?_
                refine rw_p (ov_assign (v := (B true)) rfl) rfl ?_
                refine rw_nil ?_
                refine q_seq ?_
                refine w_ret ?_
                refine q_seqR ?_
                obtain rfl := Option.some.inj hF
                exact (fin_ret (res_tmp (pk_of (v := (B true)) rfl rfl) res_nil) rfl rfl)
              · refine w_skip ?_
                refine q_seq ?_
                refine v_seq ?_
                refine w_reg ?_
                refine rw_p (ov_fieldAddrM fd25_1 rfl (congrArg (un _) e1840)) rfl ?_
                refine rw_r (ov_loadM (c := cXApi_Unit) (q := [b1837]) (r := b1837) (cs := cs_cXApi_Func b1837.Funcs) (v := (AV.sl ((b1837.Funcs).map cXApi_Func))) ag23 sz23 rfl e1841 rfl rfl rfl rfl) rfl ?_
                refine rw_p (ov_move (v := (I (w64 ((a0.Funcs.length : Int) - 1)))) (congrArg (un _) e1842)) rfl ?_
                obtain ⟨x1845, hx1846, hF⟩ := bindS hF
                refine rw_p (ov_sliceT (c := cXApi_Func) (q := b1837.Funcs) (r := x1845) (lo' := none) (hi' := (some (w64 ((a0.Funcs.length : Int) - 1)))) Tryd.underlying23 sz37 rfl rfl ln_cXApi_Func rfl (lo_some (k := .i64) (n := (w64 ((a0.Funcs.length : Int) - 1))) rfl) hx1846) rfl ?_
                refine rw_p (ov_fieldAddrM fd25_1 rfl (congrArg (un _) e1840)) rfl ?_
                refine rw_w (ov_storeM (c := cXApi_Unit) (q := [b1837]) (r := b1837) (r' := (XApi_Unit.mk b1837.Globals x1845)) (v := (AV.sl ((x1845).map cXApi_Func))) (cs := cs_cXApi_Func x1845) ag23 sz23 rfl rfl rfl rfl e1841 rfl rfl fz5 rfl rfl) rfl ?_
                refine rw_nil ?_
                refine q_seq ?_
                refine v_seq ?_
                refine w_reg ?_
                refine rw_r (ov_loadM (c := cXApi_Unit) (q := [(XApi_Unit.mk b1837.Globals x1845)]) (r := (XApi_Unit.mk b1837.Globals x1845)) (cs := cXApi_Unit (XApi_Unit.mk b1837.Globals x1845)) (v := (AV.agg (cXApi_Unit (XApi_Unit.mk b1837.Globals x1845)))) ag25 sz25 (congrArg (un _) e1840) rfl rfl rfl rfl rfl) rfl ?_
                obtain ⟨x1847, hx1848, hF⟩ := bindS hF
                refine rw_p (ov_call (args := [(AV.agg (cXApi_Unit (XApi_Unit.mk b1837.Globals x1845)))]) (r := (R_code_Check x1847)) (v := (AV.agg (cXApi_Fault x1847))) rfl (cons_eq rfl rfl) rfl rfl (T_code_Check (nn + 2) (XApi_Unit.mk b1837.Globals x1845) x1847 hx1848) fz5 rfl rfl) rfl ?_
                refine rw_p (ov_field (v := (I x1847.Code)) fd28_0 rfl rfl rfl) rfl ?_
                refine rw_p (ov_eql (k := .i64) (a := x1847.Code) (b := 0) rfl rfl) rfl ?_
                refine rw_p (ov_assign (v := (B (x1847.Code == 0))) rfl) rfl ?_
                refine rw_nil ?_
                refine q_seq ?_
                refine w_ret ?_
                obtain rfl := Option.some.inj hF
                exact (fin_ret (res_tmp (pk_of (v := (B (x1847.Code == 0))) rfl rfl) res_nil) rfl rfl)

/-! turnery/turnerysame.Rows -/
noncomputable def turnerysame_Rows_L1 (a0 : (List (List Int))) (a1 : (List (List Int))) (y1856 : Int) : Option (Lp Int (Br Unit Bool)) :=
  if (decide (y1856 < (a0.length : Int))) then
  ((idx a0 y1856).bind fun x1858 =>
  (idx a1 y1856).bind fun x1860 =>
  (turnerysame_Ints x1858 x1860).bind fun x1862 =>
  if (!x1862) then
  (some (.out (.ret false)))
  else
  (some (.next (w64 (y1856 + 1)))))
  else
  (some (.out (.brk ())))
noncomputable def turnerysame_Rows (a0 : (List (List Int))) (a1 : (List (List Int))) : Option Bool :=
  if ((a0.length : Int) != (a1.length : Int)) then
  (some false)
  else
  ((Loop (fun (s : Int) => turnerysame_Rows_L1 a0 a1 s) 0).bind fun o1866 => match o1866 with
  | .ret r1873 => some r1873
  | .brk b1868 =>
  some true)
abbrev RV26 : List ResultVar := [.tmp 4]
def R_turnerysame_Rows (r : Bool) : AV := (B r)
set_option maxHeartbeats 2000000 in
theorem T_turnerysame_Rows (nn : Nat) (a0 : (List (List Int))) (a1 : (List (List Int))) (r : Bool) (hF : turnerysame_Rows a0 a1 = some r) : den cx (nn + 2) 26 [(AV.sl ((a0).map cs_cInt_i64)), (AV.sl ((a1).map cs_cInt_i64))] = some (R_turnerysame_Rows r, []) := by
  unfold turnerysame_Rows at hF
  refine fn_of (nn := (nn + 1)) (rv := RV26) (cxE _) Tryd.func26 rfl rfl Tryd.ntmps26 (cxL _) rfl ?_
  show W cx 26 _ _ ⟨27, (upd (upd (fun _ => AV.junk) 1 (AV.sl ((a1).map cs_cInt_i64))) 0 (AV.sl ((a0).map cs_cInt_i64))), (fun _ => none)⟩ _
  refine v_seq ?_
  refine w_reg ?_
  refine rw_p (ov_assign (v := (B false)) rfl) rfl ?_
  refine rw_nil ?_
  refine q_seq ?_
  refine v_seq ?_
  refine v_seq ?_
  refine w_reg ?_
  refine rw_p (ov_move (v := (AV.sl ((a0).map cs_cInt_i64))) rfl) rfl ?_
  refine rw_p (ov_lenSl (m := a0.length) Tryd.underlying32 rfl rfl rfl (List.length_map _)) rfl ?_
  refine rw_p (ov_move (v := (AV.sl ((a1).map cs_cInt_i64))) rfl) rfl ?_
  refine rw_p (ov_lenSl (m := a1.length) Tryd.underlying32 rfl rfl rfl (List.length_map _)) rfl ?_
  refine rw_p (ov_neq (k := .i64) (a := (a0.length : Int)) (b := (a1.length : Int)) rfl rfl) rfl ?_
  refine rw_nil ?_
  refine q_seq ?_
  refine w_if (p := ((a0.length : Int) != (a1.length : Int))) hF rfl (fun hb1874 hF => ?_) (fun hb1874 hF => ?_)
  · refine v_seq ?_
    refine w_reg ?_
    refine rw_p (ov_assign (v := (B false)) rfl) rfl ?_
    refine rw_nil ?_
    refine q_seq ?_
    refine w_ret ?_
    refine q_seqR ?_
    obtain rfl := Option.some.inj hF
    exact (fin_ret (res_tmp (pk_of (v := (B false)) rfl rfl) res_nil) rfl rfl)
  · refine w_skip ?_
    refine q_seq ?_
    refine v_seq ?_
    refine v_seq ?_
    refine w_reg ?_
    refine rw_p (ov_assign (v := (I 0)) rfl) rfl ?_
    refine rw_nil ?_
    refine q_seq ?_
    refine v_block ?_
    obtain ⟨o1866, hL1867, hF⟩ := bindS hF
    refine v_loop (fun (s : Int) => [(AV.sl ((a0).map cs_cInt_i64)), (AV.sl ((a1).map cs_cInt_i64)), (I s)]) (RelO (fun (s : Unit) x => ∃ t h, x = (Exit.exit 0, ⟨27, t, h⟩) ∧ True) (fun r x => x.1 = Exit.ret ∧ Fin cx RV26 (R_turnerysame_Rows r) x)) hL1867 lv26_4 (renorm_of (packL_mk (pk_of (v := (AV.sl ((a0).map cs_cInt_i64))) rfl rfl) (packL_mk (pk_of (v := (AV.sl ((a1).map cs_cInt_i64))) rfl rfl) (packL_mk (pk_of (v := (I 0)) rfl rfl) packL_0))) rfl) ?_ ?_
    · rintro y1856 z1857 hF
      replace hF : turnerysame_Rows_L1 a0 a1 y1856 = some z1857 := hF
      unfold turnerysame_Rows_L1 at hF
      show W cx 26 _ _ ⟨27, (upd (upd (upd (fun _ => AV.junk) 5 (I y1856)) 1 (AV.sl ((a1).map cs_cInt_i64))) 0 (AV.sl ((a0).map cs_cInt_i64))), (fun _ => none)⟩ _
      refine v_seq ?_
      refine v_seq ?_
      refine w_reg ?_
      refine rw_p (ov_move (v := (I y1856)) rfl) rfl ?_
      refine rw_p (ov_move (v := (AV.sl ((a0).map cs_cInt_i64))) rfl) rfl ?_
      refine rw_p (ov_lenSl (m := a0.length) Tryd.underlying32 rfl rfl rfl (List.length_map _)) rfl ?_
      refine rw_p (ov_lss (k := .i64) (a := y1856) (b := (a0.length : Int)) rfl rfl) rfl ?_
      refine rw_nil ?_
      refine q_seq ?_
      refine w_if (p := (decide (y1856 < (a0.length : Int)))) hF rfl (fun hb1865 hF => ?_) (fun hb1865 hF => ?_)
      · refine w_skip ?_
        refine q_seq ?_
        refine v_seq ?_
        refine v_block ?_
        refine v_seq ?_
        refine w_regD ?_
        refine rw_p (ov_move (v := (AV.sl ((a0).map cs_cInt_i64))) rfl) rfl ?_
        refine rw_p (ov_move (v := (I y1856)) rfl) rfl ?_
        obtain ⟨x1858, hx1859, hF⟩ := bindS hF
        refine rw_p (ov_indexAddr (k := .i64) (c := cs_cInt_i64) (q := a0) (i := y1856) Tryd.underlying32 sz42 rfl rfl rfl hx1859 rfl) rfl ?_
        refine rw_p (ov_load (v := (AV.sl ((x1858).map cInt_i64))) ag42 sz42 rfl rfl rfl) rfl ?_
        refine rw_p (ov_move (v := (AV.sl ((a1).map cs_cInt_i64))) rfl) rfl ?_
        refine rw_p (ov_move (v := (I y1856)) rfl) rfl ?_
        obtain ⟨x1860, hx1861, hF⟩ := bindS hF
        refine rw_p (ov_indexAddr (k := .i64) (c := cs_cInt_i64) (q := a1) (i := y1856) Tryd.underlying32 sz42 rfl rfl rfl hx1861 rfl) rfl ?_
        refine rw_p (ov_load (v := (AV.sl ((x1860).map cInt_i64))) ag42 sz42 rfl rfl rfl) rfl ?_
        obtain ⟨x1862, hx1863, hF⟩ := bindS hF
        refine rw_p (ov_call (args := [(AV.sl ((x1858).map cInt_i64)), (AV.sl ((x1860).map cInt_i64))]) (r := (R_turnerysame_Ints x1862)) (v := (B x1862)) rfl (cons_eq rfl (cons_eq rfl rfl)) rfl rfl (T_turnerysame_Ints nn x1858 x1860 x1862 hx1863) fz26 rfl rfl) rfl ?_
        refine rw_p (ov_not (p := x1862) rfl) rfl ?_
        refine rw_nil ⟨rfl, ?_⟩
        refine q_seq ?_
        refine w_if (p := (!x1862)) hF rfl (fun hb1864 hF => ?_) (fun hb1864 hF => ?_)
        · refine v_seq ?_
          refine w_reg ?_
          refine rw_p (ov_assign (v := (B false)) rfl) rfl ?_
          refine rw_nil ?_
          refine q_seq ?_
          refine w_ret ?_
          refine q_blkR ?_
          refine q_seqR ?_
          obtain rfl := Option.some.inj hF
          exact q_outR (relR ⟨rfl, (fin_ret (res_tmp (pk_of (v := (B false)) rfl rfl) res_nil) rfl rfl)⟩)
        · refine w_skip ?_
          refine q_blk ?_
          refine q_seq ?_
          refine w_reg ?_
          refine rw_p (ov_move (v := (I y1856)) rfl) rfl ?_
          refine rw_p (ov_add (k := .i64) (a := y1856) (b := 1) rfl rfl) rfl ?_
          refine rw_p (ov_assign (v := (I (w64 (y1856 + 1)))) rfl) rfl ?_
          refine rw_nil ?_
          obtain rfl := Option.some.inj hF
          exact q_next (renorm_of (packL_mk (pk_of (v := (AV.sl ((a0).map cs_cInt_i64))) rfl rfl) (packL_mk (pk_of (v := (AV.sl ((a1).map cs_cInt_i64))) rfl rfl) (packL_mk (pk_of (v := (I (w64 (y1856 + 1)))) rfl rfl) packL_0))) rfl)
      · refine w_exit ?_
        refine q_seqE ?_
        obtain rfl := Option.some.inj hF
        refine q_out (relB ?_)
        exact ⟨_, _, rfl, trivial⟩
    · rintro x1871 hr1872
      cases o1866 with
      | ret r1873 =>
        replace hF : some r1873 = some r := hF
        obtain rfl := Option.some.inj hF
        obtain ⟨xe, xs⟩ := x1871
        obtain ⟨hxe, hfin⟩ := hr1872
        obtain rfl : xe = Exit.ret := hxe
        refine q_blkR ?_
        refine q_seqR ?_
        exact hfin
      | brk b1868 =>
        obtain ⟨t1869, h1870, rfl, _⟩ := hr1872
        refine q_blkH ?_
        refine q_seq ?_
        refine v_seq ?_
        refine w_reg ?_
        refine rw_p (ov_assign (v := (B true)) rfl) rfl ?_
        refine rw_nil ?_
        refine q_seq ?_
        refine w_ret ?_
        obtain rfl := Option.some.inj hF
        exact (fin_ret (res_tmp (pk_of (v := (B true)) rfl rfl) res_nil) rfl rfl)

/-! turnery/turnerysame.Comes -/

noncomputable def turnerysame_Comes (a0 : XApi_Outcome) (a1 : XApi_Outcome) : Option Bool :=
  (if (if (a0.State == a1.State) then (a0.Value == a1.Value) else false) then (turnerysame_Ints a0.Out a1.Out).bind fun x1878 =>
  some x1878 else some false).bind fun p1875 =>
  some p1875
abbrev RV47 : List ResultVar := [.tmp 4]
def R_turnerysame_Comes (r : Bool) : AV := (B r)
set_option maxHeartbeats 2000000 in
theorem T_turnerysame_Comes (nn : Nat) (a0 : XApi_Outcome) (a1 : XApi_Outcome) (r : Bool) (hF : turnerysame_Comes a0 a1 = some r) : den cx (nn + 2) 47 [(AV.agg (cXApi_Outcome a0)), (AV.agg (cXApi_Outcome a1))] = some (R_turnerysame_Comes r, []) := by
  unfold turnerysame_Comes at hF
  refine fn_of (nn := (nn + 1)) (rv := RV47) (cxE _) Tryd.func47 rfl rfl Tryd.ntmps47 (cxL _) rfl ?_
  show W cx 47 _ _ ⟨24, (upd (upd (fun _ => AV.junk) 1 (AV.agg (cXApi_Outcome a1))) 0 (AV.agg (cXApi_Outcome a0))), (fun _ => none)⟩ _
  refine v_seq ?_
  refine w_reg ?_
  refine rw_p (ov_boxF (cs := cXApi_Outcome a0) (cs' := cXApi_Outcome a0) ag58 fz47 rfl rfl rfl rfl rfl) rfl ?_
  refine rw_p (ov_boxF (cs := cXApi_Outcome a1) (cs' := cXApi_Outcome a1) ag58 fz47 rfl rfl rfl rfl rfl) rfl ?_
  refine rw_p (ov_assign (v := (B false)) rfl) rfl ?_
  refine rw_nil ?_
  refine q_seq ?_
  refine v_seq ?_
  refine w_reg ?_
  refine rw_p (ov_fieldAddr (cells' := (cXApi_Outcome a0)) fd58_0 rfl rfl rfl rfl) rfl ?_
  refine rw_p (ov_load (v := (I a0.State)) ag3 sz3 rfl rfl rfl) rfl ?_
  refine rw_p (ov_fieldAddr (cells' := (cXApi_Outcome a1)) fd58_0 rfl rfl rfl rfl) rfl ?_
  refine rw_p (ov_load (v := (I a1.State)) ag3 sz3 rfl rfl rfl) rfl ?_
  refine rw_p (ov_eql (k := .i64) (a := a0.State) (b := a1.State) rfl rfl) rfl ?_
  refine rw_p (ov_move (v := (B (a0.State == a1.State))) rfl) rfl ?_
  refine rw_g rfl (ov_fieldAddr (cells' := ((cXApi_Outcome a0).drop 1)) fd58_1 rfl rfl rfl rfl) rfl ?_
  refine rw_g rfl (ov_load (v := (I a0.Value)) ag3 sz3 (un_self _) rfl rfl) rfl ?_
  refine rw_g rfl (ov_fieldAddr (cells' := ((cXApi_Outcome a1).drop 1)) fd58_1 rfl rfl rfl rfl) rfl ?_
  refine rw_g rfl (ov_load (v := (I a1.Value)) ag3 sz3 (un_self _) rfl rfl) rfl ?_
  refine rw_g rfl (ov_eql (k := .i64) (a := a0.Value) (b := a1.Value) (un_self _) (un_self _)) rfl ?_
  refine rw_p (ov_pickB (p := (a0.State == a1.State)) (q := (a0.Value == a1.Value)) (r := false) rfl (un_imp (by generalize (a0.State == a1.State) = u0; cases u0 <;> rfl)) rfl) rfl ?_
  refine rw_p (ov_move (v := (B (if (a0.State == a1.State) then (a0.Value == a1.Value) else false))) rfl) rfl ?_
  refine rw_g rfl (ov_fieldAddr (cells' := ((cXApi_Outcome a0).drop 2)) fd58_2 rfl rfl rfl rfl) rfl ?_
  refine rw_g rfl (ov_load (v := (AV.sl ((a0.Out).map cInt_i64))) ag42 sz42 (un_self _) rfl rfl) rfl ?_
  refine rw_g rfl (ov_fieldAddr (cells' := ((cXApi_Outcome a1).drop 2)) fd58_2 rfl rfl rfl rfl) rfl ?_
  refine rw_g rfl (ov_load (v := (AV.sl ((a1.Out).map cInt_i64))) ag42 sz42 (un_self _) rfl rfl) rfl ?_
  obtain ⟨p1875, hG1876, hF⟩ := bindS hF
  refine rw_join 2 (fun t h => t 23 = (B p1875)) ?_ ?_
  · refine if_elim hG1876 (fun hb1877 hG1876 => ?_) (fun hb1877 hG1876 => ?_)
    · obtain ⟨x1878, hx1879, hG1876⟩ := bindS hG1876
      refine rw_gt rfl (by simp only [hb1877]; rfl) (ov_call (args := [(AV.sl ((a0.Out).map cInt_i64)), (AV.sl ((a1.Out).map cInt_i64))]) (r := (R_turnerysame_Ints x1878)) (v := (B x1878)) rfl (cons_eq (un_imp (by simp only [hb1877]; rfl)) (cons_eq (un_imp (by simp only [hb1877]; rfl)) rfl)) rfl rfl (T_turnerysame_Ints nn a0.Out a1.Out x1878 hx1879) fz47 rfl rfl) rfl ?_
      refine rw_p (ov_pickT ((rfl : _ = _).trans (congrArg (fun b => AV.val (.bool b)) hb1877)) rfl) rfl ?_
      obtain rfl := Option.some.inj hG1876
      refine rw_nil ⟨⟨[], (List.append_nil _).symm, rfl⟩, _, _, rfl, rfl⟩
    · refine rw_no ((rfl).trans (congrArg some (by simp only [hb1877]; first | rfl | simp))) rfl (fun u1880 k1881 hk1882 => ?_)
      refine rw_p (ov_pickF ((rfl : _ = _).trans (congrArg (fun b => AV.val (.bool b)) hb1877)) rfl) rfl ?_
      obtain rfl := Option.some.inj hG1876
      refine rw_nil ⟨⟨k1881, by simp only [List.append_assoc], by simp only [readsOnly_append, hk1882, Bool.and_self]⟩, _, _, rfl, rfl⟩
  · rintro k1886 t1883 h1884 hk1887 e1885
    refine rw_p (ov_assign (v := (B p1875)) (congrArg (un _) e1885)) rfl ?_
    refine rw_nil ?_
    refine q_seq ?_
    refine w_ret ?_
    obtain rfl := Option.some.inj hF
    exact (fin_ret (res_tmp (pk_of (v := (B p1875)) rfl rfl) res_nil) rfl rfl)

/-! turnery/turnerysame.Outcomes -/

noncomputable def turnerysame_Outcomes (a0 : XApi_Outcome) (a1 : XApi_Outcome) : Option Bool :=
  (turnerysame_Comes a0 a1).bind fun x1888 =>
  some (if x1888 then (a0.Steps == a1.Steps) else false)
abbrev RV24 : List ResultVar := [.tmp 4]
def R_turnerysame_Outcomes (r : Bool) : AV := (B r)
set_option maxHeartbeats 2000000 in
theorem T_turnerysame_Outcomes (nn : Nat) (a0 : XApi_Outcome) (a1 : XApi_Outcome) (r : Bool) (hF : turnerysame_Outcomes a0 a1 = some r) : den cx (nn + 3) 24 [(AV.agg (cXApi_Outcome a0)), (AV.agg (cXApi_Outcome a1))] = some (R_turnerysame_Outcomes r, []) := by
  unfold turnerysame_Outcomes at hF
  refine fn_of (nn := (nn + 2)) (rv := RV24) (cxE _) Tryd.func24 rfl rfl Tryd.ntmps24 (cxL _) rfl ?_
  show W cx 24 _ _ ⟨15, (upd (upd (fun _ => AV.junk) 1 (AV.agg (cXApi_Outcome a1))) 0 (AV.agg (cXApi_Outcome a0))), (fun _ => none)⟩ _
  refine v_seq ?_
  refine w_reg ?_
  refine rw_p (ov_boxF (cs := cXApi_Outcome a0) (cs' := cXApi_Outcome a0) ag58 fz24 rfl rfl rfl rfl rfl) rfl ?_
  refine rw_p (ov_boxF (cs := cXApi_Outcome a1) (cs' := cXApi_Outcome a1) ag58 fz24 rfl rfl rfl rfl rfl) rfl ?_
  refine rw_p (ov_assign (v := (B false)) rfl) rfl ?_
  refine rw_nil ?_
  refine q_seq ?_
  refine v_seq ?_
  refine w_reg ?_
  refine rw_p (ov_load (v := (AV.agg (cXApi_Outcome a0))) ag58 sz58 rfl rfl rfl) rfl ?_
  refine rw_p (ov_load (v := (AV.agg (cXApi_Outcome a1))) ag58 sz58 rfl rfl rfl) rfl ?_
  obtain ⟨x1888, hx1889, hF⟩ := bindS hF
  refine rw_p (ov_call (args := [(AV.agg (cXApi_Outcome a0)), (AV.agg (cXApi_Outcome a1))]) (r := (R_turnerysame_Comes x1888)) (v := (B x1888)) rfl (cons_eq rfl (cons_eq rfl rfl)) rfl rfl (T_turnerysame_Comes nn a0 a1 x1888 hx1889) fz24 rfl rfl) rfl ?_
  refine rw_p (ov_move (v := (B x1888)) rfl) rfl ?_
  refine rw_g rfl (ov_fieldAddr (cells' := ((cXApi_Outcome a0).drop 3)) fd58_3 rfl rfl rfl rfl) rfl ?_
  refine rw_g rfl (ov_load (v := (I a0.Steps)) ag3 sz3 (un_self _) rfl rfl) rfl ?_
  refine rw_g rfl (ov_fieldAddr (cells' := ((cXApi_Outcome a1).drop 3)) fd58_3 rfl rfl rfl rfl) rfl ?_
  refine rw_g rfl (ov_load (v := (I a1.Steps)) ag3 sz3 (un_self _) rfl rfl) rfl ?_
  refine rw_g rfl (ov_eql (k := .i64) (a := a0.Steps) (b := a1.Steps) (un_self _) (un_self _)) rfl ?_
  refine rw_p (ov_pickB (p := x1888) (q := (a0.Steps == a1.Steps)) (r := false) rfl (un_imp (by generalize x1888 = u0; cases u0 <;> rfl)) rfl) rfl ?_
  refine rw_p (ov_assign (v := (B (if x1888 then (a0.Steps == a1.Steps) else false))) rfl) rfl ?_
  refine rw_nil ?_
  refine q_seq ?_
  refine w_ret ?_
  obtain rfl := Option.some.inj hF
  exact (fin_ret (res_tmp (pk_of (v := (B (if x1888 then (a0.Steps == a1.Steps) else false))) rfl rfl) res_nil) rfl rfl)

end Go.Ab
