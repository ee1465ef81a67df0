import Derived.Test.YtbhpblokoecoaaaAbSc6
import Derived.Test.YtbhpblokoecoaaaAbDec
namespace Go.Ab
open Go Go.Proofs
theorem afN{B:Nat}(hB:B≤maxLen){t:aN}(h:KD B t):kS t.aP:=by obtain⟨h3,h4⟩:=h;exact⟨Nat.le_trans h3 hB,fun n hn=>⟨Nat.le_trans (h4 n hn).2.2.2.2.1.1 hB,Nat.le_trans (h4 n hn).2.1 hB⟩⟩
theorem afM{B:Nat}(hB:B≤1048576){t:aN}(h:KD B t):pF t.aP:=fun n hn=>by have:=(h.2 n hn).2.2.2.2.1.1;omega
end Go.Ab
