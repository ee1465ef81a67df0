/-
  Functions whose equation is proved by hand.
-/
import Derived.Test.YtbgakafgplbbnaaDoorAbGenTy
namespace Go.Ab
open Go Go.Proofs
def smallU : XApi_Unit := ⟨[], [⟨ByteArray.mk #[109, 97, 105, 110], 0, 0, [⟨[], [⟨22, -1, ⟨false, 5⟩, ⟨false, 0⟩, 0, []⟩], ⟨1, ⟨false, 7⟩, []⟩⟩]⟩]⟩
def turnerylaw2_small : Option XApi_Unit := some smallU
def R_turnerylaw2_small (r : XApi_Unit) : AV := .agg (cXApi_Unit_O r)
abbrev RV42 : List ResultVar := [.cell 0 25]
attribute [local simp] pkC pkR foldC foldR mkV cellsOfV AV.cell fillC fillRows in
theorem T_turnerylaw2_small (nn : Nat) (r : XApi_Unit) (hF : turnerylaw2_small = some r) : den cx (nn + 1) 42 [] = some (R_turnerylaw2_small r, []) := by
  obtain rfl := Option.some.inj hF
  refine fn_of (nn := nn) (rv := RV42) (cxE _) Tryd.func42 rfl rfl Tryd.ntmps42 (cxL _) rfl ?_
  refine v_seq ?_
  refine w_reg ?_
  refine rw_w (ov_alloc zm25 rfl) rfl ?_
  refine rw_nil ?_
  refine q_seq ?_
  refine v_seq ?_
  refine w_reg ?_
  refine rw_p (ov_build (cs := [B false, I 5]) zc47 pl47 (cons_eqp rfl rfl) rfl) rfl ?_
  refine rw_p (ov_build (cs := [I 22, I (-1), B false, I 5, B false, I 0, I 0, .snil]) zc56 pl56 (cons_eqp rfl (cons_eqp rfl (cons_eqp rfl rfl))) rfl) rfl ?_
  refine rw_w (ov_buildSliceM (rows := [[I 22, I (-1), B false, I 5, B false, I 0, I 0, .snil]]) Tryd.underlying51 zc56 ag56 sz56 rfl (cons_eqp rfl rfl) rfl fz42 rfl rfl) rfl ?_
  refine rw_p (ov_build (cs := [B false, I 7]) zc47 pl47 (cons_eqp rfl rfl) rfl) rfl ?_
  refine rw_p (ov_build (cs := [I 1, B false, I 7, .snil]) zc49 pl49 (cons_eqp rfl (cons_eqp rfl rfl)) rfl) rfl ?_
  refine rw_p (ov_build (cs := [.snil, .rs [3] 0 1, I 1, B false, I 7, .snil]) zc53 pl53 (cons_eqp rfl (cons_eqp rfl rfl)) rfl) rfl ?_
  refine rw_w (ov_buildSliceM (rows := [[.snil, .rs [3] 0 1, I 1, B false, I 7, .snil]]) Tryd.underlying35 zc53 ag53 sz53 rfl (cons_eqp rfl rfl) rfl fz42 rfl rfl) rfl ?_
  refine rw_p (ov_build (cs := [.val (.string (ByteArray.mk #[109, 97, 105, 110])), I 0, I 0, .rs [7] 0 1]) zc37 pl37 (cons_eqp rfl (cons_eqp rfl rfl)) rfl) rfl ?_
  refine rw_w (ov_buildSliceM (rows := [[.val (.string (ByteArray.mk #[109, 97, 105, 110])), I 0, I 0, .rs [7] 0 1]]) Tryd.underlying23 zc37 ag37 sz37 rfl (cons_eqp rfl rfl) rfl fz42 rfl rfl) rfl ?_
  refine rw_p (ov_build (cs := [.snil, .rs [9] 0 1]) zc25 pl25 (cons_eqp rfl rfl) rfl) rfl ?_
  refine rw_w (ov_storeO (rows := [[.own [], .own []]]) (rc := [.own [], .own []]) (v := .agg [.snil, .rs [9] 0 1]) (cs := [.snil, .rs [9] 0 1]) ag25 sz25 rfl rfl rfl rfl rfl rfl rfl fz42 rfl) rfl ?_
  refine rw_nil ?_
  refine q_seq ?_
  refine w_ret ?_
  exact fin_ret (res_cellM (v := .agg [.snil, .rs [9] 0 1]) (v' := R_turnerylaw2_small smallU) ag25 sz25 rfl rfl rfl rfl rfl rfl res_nil) rfl rfl
end Go.Ab
