import Derived.Test.YtmboghefgckkpaaGreatAbSc6
import Derived.Test.YtmboghefgckkpaaGreatAbDec
namespace Go.Ab
open Go Go.Proofs
theorem anC{B:Nat}(hB:B≤maxLen){t:ay}(h:OF B t):l7 t.aK:=by obtain⟨h3,h4⟩:=h;exact⟨Nat.le_trans h3 hB,fun n hn=>⟨Nat.le_trans (h4 n hn).2.2.2.2.1.1 hB,Nat.le_trans (h4 n hn).2.1 hB⟩⟩
theorem anB{B:Nat}(hB:B≤1048576){t:ay}(h:OF B t):qK t.aK:=fun n hn=>by have:=(h.2 n hn).2.2.2.2.1.1;omega
end Go.Ab
