import Derived.Test.YtbbhbdlljfffdaaGreatDoorAbIn
import Derived.Test.YtbbhbdlljfffdaaGreatDoorAbGenTy
set_option linter.all false
namespace Go.Ab
open Go Go.Proofs
variable[jv]
end Go.Ab
