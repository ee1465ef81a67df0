import Derived.Test.YtbikcahlonfnmaaGreatAbSc6
import Derived.Test.YtbikcahlonfnmaaGreatAbDec
namespace Go.Ab
open Go Go.Proofs
theorem akV{B:Nat}(hB:B≤maxLen){t:aB}(h:NG B t):nu t.aP:=by obtain⟨h3,h4⟩:=h;exact⟨Nat.le_trans h3 hB,fun n hn=>⟨Nat.le_trans (h4 n hn).2.2.2.2.1.1 hB,Nat.le_trans (h4 n hn).2.1 hB⟩⟩
theorem akU{B:Nat}(hB:B≤1048576){t:aB}(h:NG B t):qG t.aP:=fun n hn=>by have:=(h.2 n hn).2.2.2.2.1.1;omega
end Go.Ab
