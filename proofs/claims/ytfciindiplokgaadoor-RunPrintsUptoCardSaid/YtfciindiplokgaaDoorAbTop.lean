/-
  The function that tells the last frame's place.
-/
import Derived.Test.YtfciindiplokgaaDoorAbPath
import Derived.KernelRfl
import Derived.Test.YtfciindiplokgaaDoorChecked
namespace Go.Ab
open Go Go.Proofs
theorem topS : PathSound Tryd.prog 52 (9, 5) :=
  path_sound (S := 76) (T := 74) (e := 107) (ti := 3) (fi := 5) (fl := _) (fields := _) (by kernel_rfl) (Tryd.underlying76) rfl rfl Tryd.underlying74 (by kernel_rfl) (by kernel_rfl) Tryd.underlying3 Tryd.func52 rfl rfl rfl (by kernel_rfl)
end Go.Ab
