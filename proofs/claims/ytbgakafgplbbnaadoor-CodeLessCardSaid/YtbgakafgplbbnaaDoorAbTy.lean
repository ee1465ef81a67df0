/-
  THE SEAT's TYPES, as equations (written by gentypes.py).
-/
import Derived.Test.YtbgakafgplbbnaaDoorAbCx
namespace Go.Ab
open Go Go.Proofs

@[simp] theorem sz1 : sizeC cx 1 = some 1 := by kernel_rfl
@[simp] theorem ag1 : isAggC cx 1 = some false := by kernel_rfl
@[simp] theorem zc1 : zeroC cx 1 = some [.val .nilFunc] := by kernel_rfl
@[simp] theorem zm1 : zeroM cx 1 = some [.val .nilFunc] := by kernel_rfl
@[simp] theorem sz2 : sizeC cx 2 = some 1 := by kernel_rfl
@[simp] theorem ag2 : isAggC cx 2 = some false := by kernel_rfl
@[simp] theorem zc2 : zeroC cx 2 = some [.val (.int .i64 0)] := by kernel_rfl
@[simp] theorem zm2 : zeroM cx 2 = some [.val (.int .i64 0)] := by kernel_rfl
@[simp] theorem sz3 : sizeC cx 3 = some 1 := by kernel_rfl
@[simp] theorem ag3 : isAggC cx 3 = some false := by kernel_rfl
@[simp] theorem zc3 : zeroC cx 3 = some [.val (.int .i64 0)] := by kernel_rfl
@[simp] theorem zm3 : zeroM cx 3 = some [.val (.int .i64 0)] := by kernel_rfl
@[simp] theorem sz4 : sizeC cx 4 = some 1 := by kernel_rfl
@[simp] theorem ag4 : isAggC cx 4 = some false := by kernel_rfl
@[simp] theorem zc4 : zeroC cx 4 = some [.val (.bool false)] := by kernel_rfl
@[simp] theorem zm4 : zeroM cx 4 = some [.val (.bool false)] := by kernel_rfl
@[simp] theorem sz5 : sizeC cx 5 = some 1 := by kernel_rfl
@[simp] theorem ag5 : isAggC cx 5 = some false := by kernel_rfl
@[simp] theorem zc5 : zeroC cx 5 = some [.val (.int .u8 0)] := by kernel_rfl
@[simp] theorem zm5 : zeroM cx 5 = some [.val (.int .u8 0)] := by kernel_rfl
@[simp] theorem sz6 : sizeC cx 6 = some 1 := by kernel_rfl
@[simp] theorem ag6 : isAggC cx 6 = some false := by kernel_rfl
@[simp] theorem zc6 : zeroC cx 6 = some [.val (.int .u8 0)] := by kernel_rfl
@[simp] theorem zm6 : zeroM cx 6 = some [.val (.int .u8 0)] := by kernel_rfl
@[simp] theorem sz7 : sizeC cx 7 = some 4 := by kernel_rfl
@[simp] theorem ag7 : isAggC cx 7 = some true := by kernel_rfl
@[simp] theorem zc7 : zeroC cx 7 = some [.val (.int .i64 0), .val (.int .i64 0), .val (.bool false), .val (.int .u8 0)] := by kernel_rfl
@[simp] theorem zm7 : zeroM cx 7 = some [.val (.int .i64 0), .val (.int .i64 0), .val (.bool false), .val (.int .u8 0)] := by kernel_rfl
@[simp] theorem fd7_0 : fieldC cx 7 0 = some (0, 1, false) := by kernel_rfl
@[simp] theorem fd7_1 : fieldC cx 7 1 = some (1, 1, false) := by kernel_rfl
@[simp] theorem fd7_2 : fieldC cx 7 2 = some (2, 1, false) := by kernel_rfl
@[simp] theorem fd7_3 : fieldC cx 7 3 = some (3, 1, false) := by kernel_rfl
@[simp] theorem pl7 : placesC cx 7 = some [(0, 1, false), (1, 1, false), (2, 1, false), (3, 1, false)] := by kernel_rfl
@[simp] theorem sz8 : sizeC cx 8 = some 4 := by kernel_rfl
@[simp] theorem ag8 : isAggC cx 8 = some true := by kernel_rfl
@[simp] theorem zc8 : zeroC cx 8 = some [.val (.int .i64 0), .val (.int .i64 0), .val (.bool false), .val (.int .u8 0)] := by kernel_rfl
@[simp] theorem zm8 : zeroM cx 8 = some [.val (.int .i64 0), .val (.int .i64 0), .val (.bool false), .val (.int .u8 0)] := by kernel_rfl
@[simp] theorem fd8_0 : fieldC cx 8 0 = some (0, 1, false) := by kernel_rfl
@[simp] theorem fd8_1 : fieldC cx 8 1 = some (1, 1, false) := by kernel_rfl
@[simp] theorem fd8_2 : fieldC cx 8 2 = some (2, 1, false) := by kernel_rfl
@[simp] theorem fd8_3 : fieldC cx 8 3 = some (3, 1, false) := by kernel_rfl
@[simp] theorem pl8 : placesC cx 8 = some [(0, 1, false), (1, 1, false), (2, 1, false), (3, 1, false)] := by kernel_rfl
attribute [simp] Tryd.underlying9
@[simp] theorem sz9 : sizeC cx 9 = some 1 := by kernel_rfl
@[simp] theorem ag9 : isAggC cx 9 = some false := by kernel_rfl
@[simp] theorem zc9 : zeroC cx 9 = some [.val (.string ⟨#[]⟩)] := by kernel_rfl
@[simp] theorem zm9 : zeroM cx 9 = some [.val (.string ⟨#[]⟩)] := by kernel_rfl
attribute [simp] Tryd.underlying10
@[simp] theorem sz10 : sizeC cx 10 = some 1 := by kernel_rfl
@[simp] theorem ag10 : isAggC cx 10 = some false := by kernel_rfl
@[simp] theorem zc10 : zeroC cx 10 = some [.val (.string ⟨#[]⟩)] := by kernel_rfl
@[simp] theorem zm10 : zeroM cx 10 = some [.val (.string ⟨#[]⟩)] := by kernel_rfl
attribute [simp] Tryd.underlying11
@[simp] theorem sz11 : sizeC cx 11 = some 1 := by kernel_rfl
@[simp] theorem ag11 : isAggC cx 11 = some false := by kernel_rfl
@[simp] theorem zc11 : zeroC cx 11 = some [.val (.string ⟨#[]⟩)] := by kernel_rfl
@[simp] theorem zm11 : zeroM cx 11 = some [.val (.string ⟨#[]⟩)] := by kernel_rfl
@[simp] theorem sz12 : sizeC cx 12 = some 1 := by kernel_rfl
@[simp] theorem ag12 : isAggC cx 12 = some false := by kernel_rfl
@[simp] theorem zc12 : zeroC cx 12 = some [.val (.int .u64 0)] := by kernel_rfl
@[simp] theorem zm12 : zeroM cx 12 = some [.val (.int .u64 0)] := by kernel_rfl
@[simp] theorem sz13 : sizeC cx 13 = some 2 := by kernel_rfl
@[simp] theorem ag13 : isAggC cx 13 = some true := by kernel_rfl
@[simp] theorem zc13 : zeroC cx 13 = some [.val (.string ⟨#[]⟩), .val (.int .u64 0)] := by kernel_rfl
@[simp] theorem zm13 : zeroM cx 13 = some [.val (.string ⟨#[]⟩), .val (.int .u64 0)] := by kernel_rfl
@[simp] theorem fd13_0 : fieldC cx 13 0 = some (0, 1, false) := by kernel_rfl
@[simp] theorem fd13_1 : fieldC cx 13 1 = some (1, 1, false) := by kernel_rfl
@[simp] theorem pl13 : placesC cx 13 = some [(0, 1, false), (1, 1, false)] := by kernel_rfl
@[simp] theorem sz14 : sizeC cx 14 = some 2 := by kernel_rfl
@[simp] theorem ag14 : isAggC cx 14 = some true := by kernel_rfl
@[simp] theorem zc14 : zeroC cx 14 = some [.val (.string ⟨#[]⟩), .val (.int .u64 0)] := by kernel_rfl
@[simp] theorem zm14 : zeroM cx 14 = some [.val (.string ⟨#[]⟩), .val (.int .u64 0)] := by kernel_rfl
@[simp] theorem fd14_0 : fieldC cx 14 0 = some (0, 1, false) := by kernel_rfl
@[simp] theorem fd14_1 : fieldC cx 14 1 = some (1, 1, false) := by kernel_rfl
@[simp] theorem pl14 : placesC cx 14 = some [(0, 1, false), (1, 1, false)] := by kernel_rfl
@[simp] theorem sz15 : sizeC cx 15 = some 1 := by kernel_rfl
@[simp] theorem ag15 : isAggC cx 15 = some false := by kernel_rfl
@[simp] theorem zc15 : zeroC cx 15 = some [.val (.pointer none)] := by kernel_rfl
@[simp] theorem zm15 : zeroM cx 15 = some [.val (.pointer none)] := by kernel_rfl
@[simp] theorem sz16 : sizeC cx 16 = some 1 := by kernel_rfl
@[simp] theorem ag16 : isAggC cx 16 = some false := by kernel_rfl
@[simp] theorem zc16 : zeroC cx 16 = some [.val (.pointer none)] := by kernel_rfl
@[simp] theorem zm16 : zeroM cx 16 = some [.val (.pointer none)] := by kernel_rfl
@[simp] theorem sz17 : sizeC cx 17 = some 1 := by kernel_rfl
@[simp] theorem ag17 : isAggC cx 17 = some false := by kernel_rfl
@[simp] theorem zc17 : zeroC cx 17 = some [.val (.pointer none)] := by kernel_rfl
@[simp] theorem zm17 : zeroM cx 17 = some [.val (.pointer none)] := by kernel_rfl
@[simp] theorem sz18 : sizeC cx 18 = some 1 := by kernel_rfl
@[simp] theorem ag18 : isAggC cx 18 = some true := by kernel_rfl
@[simp] theorem zc18 : zeroC cx 18 = some [.val (.pointer none)] := by kernel_rfl
@[simp] theorem zm18 : zeroM cx 18 = some [.val (.pointer none)] := by kernel_rfl
@[simp] theorem fd18_0 : fieldC cx 18 0 = some (0, 1, false) := by kernel_rfl
@[simp] theorem pl18 : placesC cx 18 = some [(0, 1, false)] := by kernel_rfl
@[simp] theorem sz19 : sizeC cx 19 = some 1 := by kernel_rfl
@[simp] theorem ag19 : isAggC cx 19 = some true := by kernel_rfl
@[simp] theorem zc19 : zeroC cx 19 = some [.val (.pointer none)] := by kernel_rfl
@[simp] theorem zm19 : zeroM cx 19 = some [.val (.pointer none)] := by kernel_rfl
@[simp] theorem fd19_0 : fieldC cx 19 0 = some (0, 1, false) := by kernel_rfl
@[simp] theorem pl19 : placesC cx 19 = some [(0, 1, false)] := by kernel_rfl
@[simp] theorem sz20 : sizeC cx 20 = some 1 := by kernel_rfl
@[simp] theorem ag20 : isAggC cx 20 = some false := by kernel_rfl
@[simp] theorem zc20 : zeroC cx 20 = some [.val .nilIface] := by kernel_rfl
@[simp] theorem zm20 : zeroM cx 20 = some [.val .nilIface] := by kernel_rfl
@[simp] theorem sz21 : sizeC cx 21 = some 1 := by kernel_rfl
@[simp] theorem ag21 : isAggC cx 21 = some false := by kernel_rfl
@[simp] theorem zc21 : zeroC cx 21 = some [.val (.int .i32 0)] := by kernel_rfl
@[simp] theorem zm21 : zeroM cx 21 = some [.val (.int .i32 0)] := by kernel_rfl
attribute [simp] Tryd.underlying22
@[simp] theorem sz22 : sizeC cx 22 = some 1 := by kernel_rfl
@[simp] theorem ag22 : isAggC cx 22 = some false := by kernel_rfl
@[simp] theorem zc22 : zeroC cx 22 = some [.snil] := by kernel_rfl
@[simp] theorem zm22 : zeroM cx 22 = some [.own []] := by kernel_rfl
attribute [simp] Tryd.underlying23
@[simp] theorem sz23 : sizeC cx 23 = some 1 := by kernel_rfl
@[simp] theorem ag23 : isAggC cx 23 = some false := by kernel_rfl
@[simp] theorem zc23 : zeroC cx 23 = some [.snil] := by kernel_rfl
@[simp] theorem zm23 : zeroM cx 23 = some [.own []] := by kernel_rfl
@[simp] theorem sz24 : sizeC cx 24 = some 2 := by kernel_rfl
@[simp] theorem ag24 : isAggC cx 24 = some true := by kernel_rfl
@[simp] theorem zc24 : zeroC cx 24 = some [.snil, .snil] := by kernel_rfl
@[simp] theorem zm24 : zeroM cx 24 = some [.own [], .own []] := by kernel_rfl
@[simp] theorem fd24_0 : fieldC cx 24 0 = some (0, 1, false) := by kernel_rfl
@[simp] theorem fd24_1 : fieldC cx 24 1 = some (1, 1, false) := by kernel_rfl
@[simp] theorem pl24 : placesC cx 24 = some [(0, 1, false), (1, 1, false)] := by kernel_rfl
@[simp] theorem sz25 : sizeC cx 25 = some 2 := by kernel_rfl
@[simp] theorem ag25 : isAggC cx 25 = some true := by kernel_rfl
@[simp] theorem zc25 : zeroC cx 25 = some [.snil, .snil] := by kernel_rfl
@[simp] theorem zm25 : zeroM cx 25 = some [.own [], .own []] := by kernel_rfl
@[simp] theorem fd25_0 : fieldC cx 25 0 = some (0, 1, false) := by kernel_rfl
@[simp] theorem fd25_1 : fieldC cx 25 1 = some (1, 1, false) := by kernel_rfl
@[simp] theorem pl25 : placesC cx 25 = some [(0, 1, false), (1, 1, false)] := by kernel_rfl
@[simp] theorem sz26 : sizeC cx 26 = some 1 := by kernel_rfl
@[simp] theorem ag26 : isAggC cx 26 = some false := by kernel_rfl
@[simp] theorem zc26 : zeroC cx 26 = some [.val .nilFunc] := by kernel_rfl
@[simp] theorem zm26 : zeroM cx 26 = some [.val .nilFunc] := by kernel_rfl
@[simp] theorem sz27 : sizeC cx 27 = some 2 := by kernel_rfl
@[simp] theorem ag27 : isAggC cx 27 = some true := by kernel_rfl
@[simp] theorem zc27 : zeroC cx 27 = some [.val (.int .i64 0), .val (.int .i64 0)] := by kernel_rfl
@[simp] theorem zm27 : zeroM cx 27 = some [.val (.int .i64 0), .val (.int .i64 0)] := by kernel_rfl
@[simp] theorem fd27_0 : fieldC cx 27 0 = some (0, 1, false) := by kernel_rfl
@[simp] theorem fd27_1 : fieldC cx 27 1 = some (1, 1, false) := by kernel_rfl
@[simp] theorem pl27 : placesC cx 27 = some [(0, 1, false), (1, 1, false)] := by kernel_rfl
@[simp] theorem sz28 : sizeC cx 28 = some 2 := by kernel_rfl
@[simp] theorem ag28 : isAggC cx 28 = some true := by kernel_rfl
@[simp] theorem zc28 : zeroC cx 28 = some [.val (.int .i64 0), .val (.int .i64 0)] := by kernel_rfl
@[simp] theorem zm28 : zeroM cx 28 = some [.val (.int .i64 0), .val (.int .i64 0)] := by kernel_rfl
@[simp] theorem fd28_0 : fieldC cx 28 0 = some (0, 1, false) := by kernel_rfl
@[simp] theorem fd28_1 : fieldC cx 28 1 = some (1, 1, false) := by kernel_rfl
@[simp] theorem pl28 : placesC cx 28 = some [(0, 1, false), (1, 1, false)] := by kernel_rfl
@[simp] theorem sz29 : sizeC cx 29 = some 1 := by kernel_rfl
@[simp] theorem ag29 : isAggC cx 29 = some false := by kernel_rfl
@[simp] theorem zc29 : zeroC cx 29 = some [.val .nilFunc] := by kernel_rfl
@[simp] theorem zm29 : zeroM cx 29 = some [.val .nilFunc] := by kernel_rfl
@[simp] theorem sz31 : sizeC cx 31 = some 1 := by kernel_rfl
@[simp] theorem ag31 : isAggC cx 31 = some false := by kernel_rfl
@[simp] theorem zc31 : zeroC cx 31 = some [.val .nilFunc] := by kernel_rfl
@[simp] theorem zm31 : zeroM cx 31 = some [.val .nilFunc] := by kernel_rfl
attribute [simp] Tryd.underlying32
@[simp] theorem sz32 : sizeC cx 32 = some 1 := by kernel_rfl
@[simp] theorem ag32 : isAggC cx 32 = some false := by kernel_rfl
@[simp] theorem zc32 : zeroC cx 32 = some [.snil] := by kernel_rfl
@[simp] theorem zm32 : zeroM cx 32 = some [.own []] := by kernel_rfl
@[simp] theorem sz34 : sizeC cx 34 = some 1 := by kernel_rfl
@[simp] theorem ag34 : isAggC cx 34 = some false := by kernel_rfl
@[simp] theorem zc34 : zeroC cx 34 = some [.val .nilFunc] := by kernel_rfl
@[simp] theorem zm34 : zeroM cx 34 = some [.val .nilFunc] := by kernel_rfl
attribute [simp] Tryd.underlying35
@[simp] theorem sz35 : sizeC cx 35 = some 1 := by kernel_rfl
@[simp] theorem ag35 : isAggC cx 35 = some false := by kernel_rfl
@[simp] theorem zc35 : zeroC cx 35 = some [.snil] := by kernel_rfl
@[simp] theorem zm35 : zeroM cx 35 = some [.own []] := by kernel_rfl
@[simp] theorem sz36 : sizeC cx 36 = some 4 := by kernel_rfl
@[simp] theorem ag36 : isAggC cx 36 = some true := by kernel_rfl
@[simp] theorem zc36 : zeroC cx 36 = some [.val (.string ⟨#[]⟩), .val (.int .i64 0), .val (.int .i64 0), .snil] := by kernel_rfl
@[simp] theorem zm36 : zeroM cx 36 = some [.val (.string ⟨#[]⟩), .val (.int .i64 0), .val (.int .i64 0), .own []] := by kernel_rfl
@[simp] theorem fd36_0 : fieldC cx 36 0 = some (0, 1, false) := by kernel_rfl
@[simp] theorem fd36_1 : fieldC cx 36 1 = some (1, 1, false) := by kernel_rfl
@[simp] theorem fd36_2 : fieldC cx 36 2 = some (2, 1, false) := by kernel_rfl
@[simp] theorem fd36_3 : fieldC cx 36 3 = some (3, 1, false) := by kernel_rfl
@[simp] theorem pl36 : placesC cx 36 = some [(0, 1, false), (1, 1, false), (2, 1, false), (3, 1, false)] := by kernel_rfl
@[simp] theorem sz37 : sizeC cx 37 = some 4 := by kernel_rfl
@[simp] theorem ag37 : isAggC cx 37 = some true := by kernel_rfl
@[simp] theorem zc37 : zeroC cx 37 = some [.val (.string ⟨#[]⟩), .val (.int .i64 0), .val (.int .i64 0), .snil] := by kernel_rfl
@[simp] theorem zm37 : zeroM cx 37 = some [.val (.string ⟨#[]⟩), .val (.int .i64 0), .val (.int .i64 0), .own []] := by kernel_rfl
@[simp] theorem fd37_0 : fieldC cx 37 0 = some (0, 1, false) := by kernel_rfl
@[simp] theorem fd37_1 : fieldC cx 37 1 = some (1, 1, false) := by kernel_rfl
@[simp] theorem fd37_2 : fieldC cx 37 2 = some (2, 1, false) := by kernel_rfl
@[simp] theorem fd37_3 : fieldC cx 37 3 = some (3, 1, false) := by kernel_rfl
@[simp] theorem pl37 : placesC cx 37 = some [(0, 1, false), (1, 1, false), (2, 1, false), (3, 1, false)] := by kernel_rfl
@[simp] theorem sz38 : sizeC cx 38 = some 1 := by kernel_rfl
@[simp] theorem ag38 : isAggC cx 38 = some false := by kernel_rfl
@[simp] theorem zc38 : zeroC cx 38 = some [.val .nilFunc] := by kernel_rfl
@[simp] theorem zm38 : zeroM cx 38 = some [.val .nilFunc] := by kernel_rfl
@[simp] theorem sz39 : sizeC cx 39 = some 1 := by kernel_rfl
@[simp] theorem ag39 : isAggC cx 39 = some false := by kernel_rfl
@[simp] theorem zc39 : zeroC cx 39 = some [.val .nilFunc] := by kernel_rfl
@[simp] theorem zm39 : zeroM cx 39 = some [.val .nilFunc] := by kernel_rfl
@[simp] theorem sz40 : sizeC cx 40 = some 1 := by kernel_rfl
@[simp] theorem ag40 : isAggC cx 40 = some false := by kernel_rfl
@[simp] theorem zc40 : zeroC cx 40 = some [.val .nilFunc] := by kernel_rfl
@[simp] theorem zm40 : zeroM cx 40 = some [.val .nilFunc] := by kernel_rfl
@[simp] theorem sz41 : sizeC cx 41 = some 1 := by kernel_rfl
@[simp] theorem ag41 : isAggC cx 41 = some false := by kernel_rfl
@[simp] theorem zc41 : zeroC cx 41 = some [.val .nilFunc] := by kernel_rfl
@[simp] theorem zm41 : zeroM cx 41 = some [.val .nilFunc] := by kernel_rfl
attribute [simp] Tryd.underlying42
@[simp] theorem sz42 : sizeC cx 42 = some 1 := by kernel_rfl
@[simp] theorem ag42 : isAggC cx 42 = some false := by kernel_rfl
@[simp] theorem zc42 : zeroC cx 42 = some [.snil] := by kernel_rfl
@[simp] theorem zm42 : zeroM cx 42 = some [.own []] := by kernel_rfl
@[simp] theorem sz43 : sizeC cx 43 = some 1 := by kernel_rfl
@[simp] theorem ag43 : isAggC cx 43 = some false := by kernel_rfl
@[simp] theorem zc43 : zeroC cx 43 = some [.val .nilFunc] := by kernel_rfl
@[simp] theorem zm43 : zeroM cx 43 = some [.val .nilFunc] := by kernel_rfl
@[simp] theorem sz44 : sizeC cx 44 = some 1 := by kernel_rfl
@[simp] theorem ag44 : isAggC cx 44 = some false := by kernel_rfl
@[simp] theorem zc44 : zeroC cx 44 = some [.val .nilFunc] := by kernel_rfl
@[simp] theorem zm44 : zeroM cx 44 = some [.val .nilFunc] := by kernel_rfl
@[simp] theorem sz45 : sizeC cx 45 = some 1 := by kernel_rfl
@[simp] theorem ag45 : isAggC cx 45 = some false := by kernel_rfl
@[simp] theorem zc45 : zeroC cx 45 = some [.val .nilFunc] := by kernel_rfl
@[simp] theorem zm45 : zeroM cx 45 = some [.val .nilFunc] := by kernel_rfl
@[simp] theorem sz46 : sizeC cx 46 = some 2 := by kernel_rfl
@[simp] theorem ag46 : isAggC cx 46 = some true := by kernel_rfl
@[simp] theorem zc46 : zeroC cx 46 = some [.val (.bool false), .val (.int .i64 0)] := by kernel_rfl
@[simp] theorem zm46 : zeroM cx 46 = some [.val (.bool false), .val (.int .i64 0)] := by kernel_rfl
@[simp] theorem fd46_0 : fieldC cx 46 0 = some (0, 1, false) := by kernel_rfl
@[simp] theorem fd46_1 : fieldC cx 46 1 = some (1, 1, false) := by kernel_rfl
@[simp] theorem pl46 : placesC cx 46 = some [(0, 1, false), (1, 1, false)] := by kernel_rfl
@[simp] theorem sz47 : sizeC cx 47 = some 2 := by kernel_rfl
@[simp] theorem ag47 : isAggC cx 47 = some true := by kernel_rfl
@[simp] theorem zc47 : zeroC cx 47 = some [.val (.bool false), .val (.int .i64 0)] := by kernel_rfl
@[simp] theorem zm47 : zeroM cx 47 = some [.val (.bool false), .val (.int .i64 0)] := by kernel_rfl
@[simp] theorem fd47_0 : fieldC cx 47 0 = some (0, 1, false) := by kernel_rfl
@[simp] theorem fd47_1 : fieldC cx 47 1 = some (1, 1, false) := by kernel_rfl
@[simp] theorem pl47 : placesC cx 47 = some [(0, 1, false), (1, 1, false)] := by kernel_rfl
@[simp] theorem sz48 : sizeC cx 48 = some 4 := by kernel_rfl
@[simp] theorem ag48 : isAggC cx 48 = some true := by kernel_rfl
@[simp] theorem zc48 : zeroC cx 48 = some [.val (.int .i64 0), .val (.bool false), .val (.int .i64 0), .snil] := by kernel_rfl
@[simp] theorem zm48 : zeroM cx 48 = some [.val (.int .i64 0), .val (.bool false), .val (.int .i64 0), .own []] := by kernel_rfl
@[simp] theorem fd48_0 : fieldC cx 48 0 = some (0, 1, false) := by kernel_rfl
@[simp] theorem fd48_1 : fieldC cx 48 1 = some (1, 2, true) := by kernel_rfl
@[simp] theorem fd48_2 : fieldC cx 48 2 = some (3, 1, false) := by kernel_rfl
@[simp] theorem pl48 : placesC cx 48 = some [(0, 1, false), (1, 2, true), (3, 1, false)] := by kernel_rfl
@[simp] theorem sz49 : sizeC cx 49 = some 4 := by kernel_rfl
@[simp] theorem ag49 : isAggC cx 49 = some true := by kernel_rfl
@[simp] theorem zc49 : zeroC cx 49 = some [.val (.int .i64 0), .val (.bool false), .val (.int .i64 0), .snil] := by kernel_rfl
@[simp] theorem zm49 : zeroM cx 49 = some [.val (.int .i64 0), .val (.bool false), .val (.int .i64 0), .own []] := by kernel_rfl
@[simp] theorem fd49_0 : fieldC cx 49 0 = some (0, 1, false) := by kernel_rfl
@[simp] theorem fd49_1 : fieldC cx 49 1 = some (1, 2, true) := by kernel_rfl
@[simp] theorem fd49_2 : fieldC cx 49 2 = some (3, 1, false) := by kernel_rfl
@[simp] theorem pl49 : placesC cx 49 = some [(0, 1, false), (1, 2, true), (3, 1, false)] := by kernel_rfl
attribute [simp] Tryd.underlying50
@[simp] theorem sz50 : sizeC cx 50 = some 1 := by kernel_rfl
@[simp] theorem ag50 : isAggC cx 50 = some false := by kernel_rfl
@[simp] theorem zc50 : zeroC cx 50 = some [.snil] := by kernel_rfl
@[simp] theorem zm50 : zeroM cx 50 = some [.own []] := by kernel_rfl
attribute [simp] Tryd.underlying51
@[simp] theorem sz51 : sizeC cx 51 = some 1 := by kernel_rfl
@[simp] theorem ag51 : isAggC cx 51 = some false := by kernel_rfl
@[simp] theorem zc51 : zeroC cx 51 = some [.snil] := by kernel_rfl
@[simp] theorem zm51 : zeroM cx 51 = some [.own []] := by kernel_rfl
@[simp] theorem sz52 : sizeC cx 52 = some 6 := by kernel_rfl
@[simp] theorem ag52 : isAggC cx 52 = some true := by kernel_rfl
@[simp] theorem zc52 : zeroC cx 52 = some [.snil, .snil, .val (.int .i64 0), .val (.bool false), .val (.int .i64 0), .snil] := by kernel_rfl
@[simp] theorem zm52 : zeroM cx 52 = some [.own [], .own [], .val (.int .i64 0), .val (.bool false), .val (.int .i64 0), .own []] := by kernel_rfl
@[simp] theorem fd52_0 : fieldC cx 52 0 = some (0, 1, false) := by kernel_rfl
@[simp] theorem fd52_1 : fieldC cx 52 1 = some (1, 1, false) := by kernel_rfl
@[simp] theorem fd52_2 : fieldC cx 52 2 = some (2, 4, true) := by kernel_rfl
@[simp] theorem pl52 : placesC cx 52 = some [(0, 1, false), (1, 1, false), (2, 4, true)] := by kernel_rfl
@[simp] theorem sz53 : sizeC cx 53 = some 6 := by kernel_rfl
@[simp] theorem ag53 : isAggC cx 53 = some true := by kernel_rfl
@[simp] theorem zc53 : zeroC cx 53 = some [.snil, .snil, .val (.int .i64 0), .val (.bool false), .val (.int .i64 0), .snil] := by kernel_rfl
@[simp] theorem zm53 : zeroM cx 53 = some [.own [], .own [], .val (.int .i64 0), .val (.bool false), .val (.int .i64 0), .own []] := by kernel_rfl
@[simp] theorem fd53_0 : fieldC cx 53 0 = some (0, 1, false) := by kernel_rfl
@[simp] theorem fd53_1 : fieldC cx 53 1 = some (1, 1, false) := by kernel_rfl
@[simp] theorem fd53_2 : fieldC cx 53 2 = some (2, 4, true) := by kernel_rfl
@[simp] theorem pl53 : placesC cx 53 = some [(0, 1, false), (1, 1, false), (2, 4, true)] := by kernel_rfl
attribute [simp] Tryd.underlying54
@[simp] theorem sz54 : sizeC cx 54 = some 1 := by kernel_rfl
@[simp] theorem ag54 : isAggC cx 54 = some false := by kernel_rfl
@[simp] theorem zc54 : zeroC cx 54 = some [.snil] := by kernel_rfl
@[simp] theorem zm54 : zeroM cx 54 = some [.own []] := by kernel_rfl
@[simp] theorem sz55 : sizeC cx 55 = some 8 := by kernel_rfl
@[simp] theorem ag55 : isAggC cx 55 = some true := by kernel_rfl
@[simp] theorem zc55 : zeroC cx 55 = some [.val (.int .i64 0), .val (.int .i64 0), .val (.bool false), .val (.int .i64 0), .val (.bool false), .val (.int .i64 0), .val (.int .i64 0), .snil] := by kernel_rfl
@[simp] theorem zm55 : zeroM cx 55 = some [.val (.int .i64 0), .val (.int .i64 0), .val (.bool false), .val (.int .i64 0), .val (.bool false), .val (.int .i64 0), .val (.int .i64 0), .own []] := by kernel_rfl
@[simp] theorem fd55_0 : fieldC cx 55 0 = some (0, 1, false) := by kernel_rfl
@[simp] theorem fd55_1 : fieldC cx 55 1 = some (1, 1, false) := by kernel_rfl
@[simp] theorem fd55_2 : fieldC cx 55 2 = some (2, 2, true) := by kernel_rfl
@[simp] theorem fd55_3 : fieldC cx 55 3 = some (4, 2, true) := by kernel_rfl
@[simp] theorem fd55_4 : fieldC cx 55 4 = some (6, 1, false) := by kernel_rfl
@[simp] theorem fd55_5 : fieldC cx 55 5 = some (7, 1, false) := by kernel_rfl
@[simp] theorem pl55 : placesC cx 55 = some [(0, 1, false), (1, 1, false), (2, 2, true), (4, 2, true), (6, 1, false), (7, 1, false)] := by kernel_rfl
@[simp] theorem sz56 : sizeC cx 56 = some 8 := by kernel_rfl
@[simp] theorem ag56 : isAggC cx 56 = some true := by kernel_rfl
@[simp] theorem zc56 : zeroC cx 56 = some [.val (.int .i64 0), .val (.int .i64 0), .val (.bool false), .val (.int .i64 0), .val (.bool false), .val (.int .i64 0), .val (.int .i64 0), .snil] := by kernel_rfl
@[simp] theorem zm56 : zeroM cx 56 = some [.val (.int .i64 0), .val (.int .i64 0), .val (.bool false), .val (.int .i64 0), .val (.bool false), .val (.int .i64 0), .val (.int .i64 0), .own []] := by kernel_rfl
@[simp] theorem fd56_0 : fieldC cx 56 0 = some (0, 1, false) := by kernel_rfl
@[simp] theorem fd56_1 : fieldC cx 56 1 = some (1, 1, false) := by kernel_rfl
@[simp] theorem fd56_2 : fieldC cx 56 2 = some (2, 2, true) := by kernel_rfl
@[simp] theorem fd56_3 : fieldC cx 56 3 = some (4, 2, true) := by kernel_rfl
@[simp] theorem fd56_4 : fieldC cx 56 4 = some (6, 1, false) := by kernel_rfl
@[simp] theorem fd56_5 : fieldC cx 56 5 = some (7, 1, false) := by kernel_rfl
@[simp] theorem pl56 : placesC cx 56 = some [(0, 1, false), (1, 1, false), (2, 2, true), (4, 2, true), (6, 1, false), (7, 1, false)] := by kernel_rfl
@[simp] theorem sz57 : sizeC cx 57 = some 4 := by kernel_rfl
@[simp] theorem ag57 : isAggC cx 57 = some true := by kernel_rfl
@[simp] theorem zc57 : zeroC cx 57 = some [.val (.int .i64 0), .val (.int .i64 0), .snil, .val (.int .i64 0)] := by kernel_rfl
@[simp] theorem zm57 : zeroM cx 57 = some [.val (.int .i64 0), .val (.int .i64 0), .own [], .val (.int .i64 0)] := by kernel_rfl
@[simp] theorem fd57_0 : fieldC cx 57 0 = some (0, 1, false) := by kernel_rfl
@[simp] theorem fd57_1 : fieldC cx 57 1 = some (1, 1, false) := by kernel_rfl
@[simp] theorem fd57_2 : fieldC cx 57 2 = some (2, 1, false) := by kernel_rfl
@[simp] theorem fd57_3 : fieldC cx 57 3 = some (3, 1, false) := by kernel_rfl
@[simp] theorem pl57 : placesC cx 57 = some [(0, 1, false), (1, 1, false), (2, 1, false), (3, 1, false)] := by kernel_rfl
@[simp] theorem sz58 : sizeC cx 58 = some 4 := by kernel_rfl
@[simp] theorem ag58 : isAggC cx 58 = some true := by kernel_rfl
@[simp] theorem zc58 : zeroC cx 58 = some [.val (.int .i64 0), .val (.int .i64 0), .snil, .val (.int .i64 0)] := by kernel_rfl
@[simp] theorem zm58 : zeroM cx 58 = some [.val (.int .i64 0), .val (.int .i64 0), .own [], .val (.int .i64 0)] := by kernel_rfl
@[simp] theorem fd58_0 : fieldC cx 58 0 = some (0, 1, false) := by kernel_rfl
@[simp] theorem fd58_1 : fieldC cx 58 1 = some (1, 1, false) := by kernel_rfl
@[simp] theorem fd58_2 : fieldC cx 58 2 = some (2, 1, false) := by kernel_rfl
@[simp] theorem fd58_3 : fieldC cx 58 3 = some (3, 1, false) := by kernel_rfl
@[simp] theorem pl58 : placesC cx 58 = some [(0, 1, false), (1, 1, false), (2, 1, false), (3, 1, false)] := by kernel_rfl
@[simp] theorem sz60 : sizeC cx 60 = some 1 := by kernel_rfl
@[simp] theorem ag60 : isAggC cx 60 = some false := by kernel_rfl
@[simp] theorem zc60 : zeroC cx 60 = some [.val .nilFunc] := by kernel_rfl
@[simp] theorem zm60 : zeroM cx 60 = some [.val .nilFunc] := by kernel_rfl
@[simp] theorem sz62 : sizeC cx 62 = some 1 := by kernel_rfl
@[simp] theorem ag62 : isAggC cx 62 = some false := by kernel_rfl
@[simp] theorem zc62 : zeroC cx 62 = some [.val .nilFunc] := by kernel_rfl
@[simp] theorem zm62 : zeroM cx 62 = some [.val .nilFunc] := by kernel_rfl
@[simp] theorem sz63 : sizeC cx 63 = some 1 := by kernel_rfl
@[simp] theorem ag63 : isAggC cx 63 = some false := by kernel_rfl
@[simp] theorem zc63 : zeroC cx 63 = some [.val .nilFunc] := by kernel_rfl
@[simp] theorem zm63 : zeroM cx 63 = some [.val .nilFunc] := by kernel_rfl
@[simp] theorem sz65 : sizeC cx 65 = some 1 := by kernel_rfl
@[simp] theorem ag65 : isAggC cx 65 = some false := by kernel_rfl
@[simp] theorem zc65 : zeroC cx 65 = some [.val .nilFunc] := by kernel_rfl
@[simp] theorem zm65 : zeroM cx 65 = some [.val .nilFunc] := by kernel_rfl
@[simp] theorem sz66 : sizeC cx 66 = some 1 := by kernel_rfl
@[simp] theorem ag66 : isAggC cx 66 = some false := by kernel_rfl
@[simp] theorem zc66 : zeroC cx 66 = some [.val .nilFunc] := by kernel_rfl
@[simp] theorem zm66 : zeroM cx 66 = some [.val .nilFunc] := by kernel_rfl
@[simp] theorem sz67 : sizeC cx 67 = some 1 := by kernel_rfl
@[simp] theorem ag67 : isAggC cx 67 = some false := by kernel_rfl
@[simp] theorem zc67 : zeroC cx 67 = some [.val .nilFunc] := by kernel_rfl
@[simp] theorem zm67 : zeroM cx 67 = some [.val .nilFunc] := by kernel_rfl
@[simp] theorem sz68 : sizeC cx 68 = some 1 := by kernel_rfl
@[simp] theorem ag68 : isAggC cx 68 = some false := by kernel_rfl
@[simp] theorem zc68 : zeroC cx 68 = some [.val .nilFunc] := by kernel_rfl
@[simp] theorem zm68 : zeroM cx 68 = some [.val .nilFunc] := by kernel_rfl
attribute [simp] Tryd.underlying69
@[simp] theorem sz69 : sizeC cx 69 = some 1 := by kernel_rfl
@[simp] theorem ag69 : isAggC cx 69 = some false := by kernel_rfl
@[simp] theorem zc69 : zeroC cx 69 = some [.snil] := by kernel_rfl
@[simp] theorem zm69 : zeroM cx 69 = some [.own []] := by kernel_rfl
@[simp] theorem sz70 : sizeC cx 70 = some 1 := by kernel_rfl
@[simp] theorem ag70 : isAggC cx 70 = some false := by kernel_rfl
@[simp] theorem zc70 : zeroC cx 70 = some [.val .nilFunc] := by kernel_rfl
@[simp] theorem zm70 : zeroM cx 70 = some [.val .nilFunc] := by kernel_rfl
@[simp] theorem sz71 : sizeC cx 71 = some 1 := by kernel_rfl
@[simp] theorem ag71 : isAggC cx 71 = some false := by kernel_rfl
@[simp] theorem zc71 : zeroC cx 71 = some [.val .nilFunc] := by kernel_rfl
@[simp] theorem zm71 : zeroM cx 71 = some [.val .nilFunc] := by kernel_rfl
@[simp] theorem sz72 : sizeC cx 72 = some 3 := by kernel_rfl
@[simp] theorem ag72 : isAggC cx 72 = some true := by kernel_rfl
@[simp] theorem zc72 : zeroC cx 72 = some [.val (.string ⟨#[]⟩), .val (.int .i64 0), .snil] := by kernel_rfl
@[simp] theorem zm72 : zeroM cx 72 = some [.val (.string ⟨#[]⟩), .val (.int .i64 0), .own []] := by kernel_rfl
@[simp] theorem fd72_0 : fieldC cx 72 0 = some (0, 1, false) := by kernel_rfl
@[simp] theorem fd72_1 : fieldC cx 72 1 = some (1, 1, false) := by kernel_rfl
@[simp] theorem fd72_2 : fieldC cx 72 2 = some (2, 1, false) := by kernel_rfl
@[simp] theorem pl72 : placesC cx 72 = some [(0, 1, false), (1, 1, false), (2, 1, false)] := by kernel_rfl
@[simp] theorem sz73 : sizeC cx 73 = some 3 := by kernel_rfl
@[simp] theorem ag73 : isAggC cx 73 = some true := by kernel_rfl
@[simp] theorem zc73 : zeroC cx 73 = some [.val (.string ⟨#[]⟩), .val (.int .i64 0), .snil] := by kernel_rfl
@[simp] theorem zm73 : zeroM cx 73 = some [.val (.string ⟨#[]⟩), .val (.int .i64 0), .own []] := by kernel_rfl
@[simp] theorem fd73_0 : fieldC cx 73 0 = some (0, 1, false) := by kernel_rfl
@[simp] theorem fd73_1 : fieldC cx 73 1 = some (1, 1, false) := by kernel_rfl
@[simp] theorem fd73_2 : fieldC cx 73 2 = some (2, 1, false) := by kernel_rfl
@[simp] theorem pl73 : placesC cx 73 = some [(0, 1, false), (1, 1, false), (2, 1, false)] := by kernel_rfl
@[simp] theorem sz74 : sizeC cx 74 = some 1 := by kernel_rfl
@[simp] theorem ag74 : isAggC cx 74 = some false := by kernel_rfl
@[simp] theorem zc74 : zeroC cx 74 = some [.val .nilFunc] := by kernel_rfl
@[simp] theorem zm74 : zeroM cx 74 = some [.val .nilFunc] := by kernel_rfl
@[simp] theorem sz75 : sizeC cx 75 = some 1 := by kernel_rfl
@[simp] theorem ag75 : isAggC cx 75 = some false := by kernel_rfl
@[simp] theorem zc75 : zeroC cx 75 = some [.val .nilFunc] := by kernel_rfl
@[simp] theorem zm75 : zeroM cx 75 = some [.val .nilFunc] := by kernel_rfl
@[simp] theorem sz76 : sizeC cx 76 = some 1 := by kernel_rfl
@[simp] theorem ag76 : isAggC cx 76 = some false := by kernel_rfl
@[simp] theorem zc76 : zeroC cx 76 = some [.val .nilFunc] := by kernel_rfl
@[simp] theorem zm76 : zeroM cx 76 = some [.val .nilFunc] := by kernel_rfl
@[simp] theorem sz77 : sizeC cx 77 = some 1 := by kernel_rfl
@[simp] theorem ag77 : isAggC cx 77 = some false := by kernel_rfl
@[simp] theorem zc77 : zeroC cx 77 = some [.val .nilFunc] := by kernel_rfl
@[simp] theorem zm77 : zeroM cx 77 = some [.val .nilFunc] := by kernel_rfl
attribute [simp] Tryd.underlying78
@[simp] theorem sz78 : sizeC cx 78 = some 1 := by kernel_rfl
@[simp] theorem ag78 : isAggC cx 78 = some false := by kernel_rfl
@[simp] theorem zc78 : zeroC cx 78 = some [.snil] := by kernel_rfl
@[simp] theorem zm78 : zeroM cx 78 = some [.own []] := by kernel_rfl
@[simp] theorem sz79 : sizeC cx 79 = some 1 := by kernel_rfl
@[simp] theorem ag79 : isAggC cx 79 = some false := by kernel_rfl
@[simp] theorem zc79 : zeroC cx 79 = some [.val .nilFunc] := by kernel_rfl
@[simp] theorem zm79 : zeroM cx 79 = some [.val .nilFunc] := by kernel_rfl
@[simp] theorem sz80 : sizeC cx 80 = some 1 := by kernel_rfl
@[simp] theorem ag80 : isAggC cx 80 = some false := by kernel_rfl
@[simp] theorem zc80 : zeroC cx 80 = some [.val .nilFunc] := by kernel_rfl
@[simp] theorem zm80 : zeroM cx 80 = some [.val .nilFunc] := by kernel_rfl
@[simp] theorem sz81 : sizeC cx 81 = some 7 := by kernel_rfl
@[simp] theorem ag81 : isAggC cx 81 = some true := by kernel_rfl
@[simp] theorem zc81 : zeroC cx 81 = some [.snil, .snil, .val (.string ⟨#[]⟩), .val (.int .i64 0), .val (.int .i64 0), .snil, .snil] := by kernel_rfl
@[simp] theorem zm81 : zeroM cx 81 = some [.own [], .own [], .val (.string ⟨#[]⟩), .val (.int .i64 0), .val (.int .i64 0), .own [], .own []] := by kernel_rfl
@[simp] theorem fd81_0 : fieldC cx 81 0 = some (0, 2, true) := by kernel_rfl
@[simp] theorem fd81_1 : fieldC cx 81 1 = some (2, 4, true) := by kernel_rfl
@[simp] theorem fd81_2 : fieldC cx 81 2 = some (6, 1, false) := by kernel_rfl
@[simp] theorem pl81 : placesC cx 81 = some [(0, 2, true), (2, 4, true), (6, 1, false)] := by kernel_rfl
@[simp] theorem sz82 : sizeC cx 82 = some 7 := by kernel_rfl
@[simp] theorem ag82 : isAggC cx 82 = some true := by kernel_rfl
@[simp] theorem zc82 : zeroC cx 82 = some [.snil, .snil, .val (.string ⟨#[]⟩), .val (.int .i64 0), .val (.int .i64 0), .snil, .snil] := by kernel_rfl
@[simp] theorem zm82 : zeroM cx 82 = some [.own [], .own [], .val (.string ⟨#[]⟩), .val (.int .i64 0), .val (.int .i64 0), .own [], .own []] := by kernel_rfl
@[simp] theorem fd82_0 : fieldC cx 82 0 = some (0, 2, true) := by kernel_rfl
@[simp] theorem fd82_1 : fieldC cx 82 1 = some (2, 4, true) := by kernel_rfl
@[simp] theorem fd82_2 : fieldC cx 82 2 = some (6, 1, false) := by kernel_rfl
@[simp] theorem pl82 : placesC cx 82 = some [(0, 2, true), (2, 4, true), (6, 1, false)] := by kernel_rfl
@[simp] theorem sz83 : sizeC cx 83 = some 1 := by kernel_rfl
@[simp] theorem ag83 : isAggC cx 83 = some false := by kernel_rfl
@[simp] theorem zc83 : zeroC cx 83 = some [.val .nilFunc] := by kernel_rfl
@[simp] theorem zm83 : zeroM cx 83 = some [.val .nilFunc] := by kernel_rfl
@[simp] theorem sz84 : sizeC cx 84 = some 1 := by kernel_rfl
@[simp] theorem ag84 : isAggC cx 84 = some false := by kernel_rfl
@[simp] theorem zc84 : zeroC cx 84 = some [.val .nilFunc] := by kernel_rfl
@[simp] theorem zm84 : zeroM cx 84 = some [.val .nilFunc] := by kernel_rfl
@[simp] theorem sz85 : sizeC cx 85 = some 1 := by kernel_rfl
@[simp] theorem ag85 : isAggC cx 85 = some false := by kernel_rfl
@[simp] theorem zc85 : zeroC cx 85 = some [.val .nilFunc] := by kernel_rfl
@[simp] theorem zm85 : zeroM cx 85 = some [.val .nilFunc] := by kernel_rfl
@[simp] theorem sz86 : sizeC cx 86 = some 1 := by kernel_rfl
@[simp] theorem ag86 : isAggC cx 86 = some false := by kernel_rfl
@[simp] theorem zc86 : zeroC cx 86 = some [.val .nilFunc] := by kernel_rfl
@[simp] theorem zm86 : zeroM cx 86 = some [.val .nilFunc] := by kernel_rfl
@[simp] theorem sz87 : sizeC cx 87 = some 1 := by kernel_rfl
@[simp] theorem ag87 : isAggC cx 87 = some false := by kernel_rfl
@[simp] theorem zc87 : zeroC cx 87 = some [.val .nilFunc] := by kernel_rfl
@[simp] theorem zm87 : zeroM cx 87 = some [.val .nilFunc] := by kernel_rfl
@[simp] theorem sz88 : sizeC cx 88 = some 1 := by kernel_rfl
@[simp] theorem ag88 : isAggC cx 88 = some false := by kernel_rfl
@[simp] theorem zc88 : zeroC cx 88 = some [.val (.pointer none)] := by kernel_rfl
@[simp] theorem zm88 : zeroM cx 88 = some [.val (.pointer none)] := by kernel_rfl
attribute [simp] Tryd.underlying89
@[simp] theorem sz89 : sizeC cx 89 = some 1 := by kernel_rfl
@[simp] theorem ag89 : isAggC cx 89 = some false := by kernel_rfl
@[simp] theorem zc89 : zeroC cx 89 = some [.snil] := by kernel_rfl
@[simp] theorem zm89 : zeroM cx 89 = some [.own []] := by kernel_rfl
attribute [simp] Tryd.underlying90
@[simp] theorem sz90 : sizeC cx 90 = some 1 := by kernel_rfl
@[simp] theorem ag90 : isAggC cx 90 = some false := by kernel_rfl
@[simp] theorem zc90 : zeroC cx 90 = some [.snil] := by kernel_rfl
@[simp] theorem zm90 : zeroM cx 90 = some [.own []] := by kernel_rfl
@[simp] theorem sz91 : sizeC cx 91 = some 11 := by kernel_rfl
@[simp] theorem ag91 : isAggC cx 91 = some true := by kernel_rfl
@[simp] theorem zc91 : zeroC cx 91 = some [.snil, .snil, .snil, .snil, .snil, .val (.int .i64 0), .val (.int .i64 0), .snil, .val (.int .i64 0), .snil, .snil] := by kernel_rfl
@[simp] theorem zm91 : zeroM cx 91 = some [.own [], .own [], .own [], .own [], .own [], .val (.int .i64 0), .val (.int .i64 0), .own [], .val (.int .i64 0), .own [], .own []] := by kernel_rfl
@[simp] theorem fd91_0 : fieldC cx 91 0 = some (0, 2, true) := by kernel_rfl
@[simp] theorem fd91_1 : fieldC cx 91 1 = some (2, 1, false) := by kernel_rfl
@[simp] theorem fd91_2 : fieldC cx 91 2 = some (3, 1, false) := by kernel_rfl
@[simp] theorem fd91_3 : fieldC cx 91 3 = some (4, 1, false) := by kernel_rfl
@[simp] theorem fd91_4 : fieldC cx 91 4 = some (5, 4, true) := by kernel_rfl
@[simp] theorem fd91_5 : fieldC cx 91 5 = some (9, 1, false) := by kernel_rfl
@[simp] theorem fd91_6 : fieldC cx 91 6 = some (10, 1, false) := by kernel_rfl
@[simp] theorem pl91 : placesC cx 91 = some [(0, 2, true), (2, 1, false), (3, 1, false), (4, 1, false), (5, 4, true), (9, 1, false), (10, 1, false)] := by kernel_rfl
@[simp] theorem sz92 : sizeC cx 92 = some 11 := by kernel_rfl
@[simp] theorem ag92 : isAggC cx 92 = some true := by kernel_rfl
@[simp] theorem zc92 : zeroC cx 92 = some [.snil, .snil, .snil, .snil, .snil, .val (.int .i64 0), .val (.int .i64 0), .snil, .val (.int .i64 0), .snil, .snil] := by kernel_rfl
@[simp] theorem zm92 : zeroM cx 92 = some [.own [], .own [], .own [], .own [], .own [], .val (.int .i64 0), .val (.int .i64 0), .own [], .val (.int .i64 0), .own [], .own []] := by kernel_rfl
@[simp] theorem fd92_0 : fieldC cx 92 0 = some (0, 2, true) := by kernel_rfl
@[simp] theorem fd92_1 : fieldC cx 92 1 = some (2, 1, false) := by kernel_rfl
@[simp] theorem fd92_2 : fieldC cx 92 2 = some (3, 1, false) := by kernel_rfl
@[simp] theorem fd92_3 : fieldC cx 92 3 = some (4, 1, false) := by kernel_rfl
@[simp] theorem fd92_4 : fieldC cx 92 4 = some (5, 4, true) := by kernel_rfl
@[simp] theorem fd92_5 : fieldC cx 92 5 = some (9, 1, false) := by kernel_rfl
@[simp] theorem fd92_6 : fieldC cx 92 6 = some (10, 1, false) := by kernel_rfl
@[simp] theorem pl92 : placesC cx 92 = some [(0, 2, true), (2, 1, false), (3, 1, false), (4, 1, false), (5, 4, true), (9, 1, false), (10, 1, false)] := by kernel_rfl
@[simp] theorem sz93 : sizeC cx 93 = some 1 := by kernel_rfl
@[simp] theorem ag93 : isAggC cx 93 = some false := by kernel_rfl
@[simp] theorem zc93 : zeroC cx 93 = some [.val .nilFunc] := by kernel_rfl
@[simp] theorem zm93 : zeroM cx 93 = some [.val .nilFunc] := by kernel_rfl
@[simp] theorem sz94 : sizeC cx 94 = some 1 := by kernel_rfl
@[simp] theorem ag94 : isAggC cx 94 = some false := by kernel_rfl
@[simp] theorem zc94 : zeroC cx 94 = some [.val .nilFunc] := by kernel_rfl
@[simp] theorem zm94 : zeroM cx 94 = some [.val .nilFunc] := by kernel_rfl
attribute [simp] Tryd.underlying95
@[simp] theorem sz95 : sizeC cx 95 = some 1 := by kernel_rfl
@[simp] theorem ag95 : isAggC cx 95 = some false := by kernel_rfl
@[simp] theorem zc95 : zeroC cx 95 = some [.snil] := by kernel_rfl
@[simp] theorem zm95 : zeroM cx 95 = some [.own []] := by kernel_rfl
@[simp] theorem sz96 : sizeC cx 96 = some 10 := by kernel_rfl
@[simp] theorem ag96 : isAggC cx 96 = some true := by kernel_rfl
@[simp] theorem zc96 : zeroC cx 96 = some [.snil, .snil, .snil, .snil, .snil, .snil, .snil, .val (.int .i64 0), .val (.int .i64 0), .val (.int .i64 0)] := by kernel_rfl
@[simp] theorem zm96 : zeroM cx 96 = some [.own [], .own [], .own [], .own [], .own [], .own [], .own [], .val (.int .i64 0), .val (.int .i64 0), .val (.int .i64 0)] := by kernel_rfl
@[simp] theorem fd96_0 : fieldC cx 96 0 = some (0, 2, true) := by kernel_rfl
@[simp] theorem fd96_1 : fieldC cx 96 1 = some (2, 1, false) := by kernel_rfl
@[simp] theorem fd96_2 : fieldC cx 96 2 = some (3, 1, false) := by kernel_rfl
@[simp] theorem fd96_3 : fieldC cx 96 3 = some (4, 1, false) := by kernel_rfl
@[simp] theorem fd96_4 : fieldC cx 96 4 = some (5, 1, false) := by kernel_rfl
@[simp] theorem fd96_5 : fieldC cx 96 5 = some (6, 1, false) := by kernel_rfl
@[simp] theorem fd96_6 : fieldC cx 96 6 = some (7, 1, false) := by kernel_rfl
@[simp] theorem fd96_7 : fieldC cx 96 7 = some (8, 1, false) := by kernel_rfl
@[simp] theorem fd96_8 : fieldC cx 96 8 = some (9, 1, false) := by kernel_rfl
@[simp] theorem pl96 : placesC cx 96 = some [(0, 2, true), (2, 1, false), (3, 1, false), (4, 1, false), (5, 1, false), (6, 1, false), (7, 1, false), (8, 1, false), (9, 1, false)] := by kernel_rfl
@[simp] theorem sz97 : sizeC cx 97 = some 10 := by kernel_rfl
@[simp] theorem ag97 : isAggC cx 97 = some true := by kernel_rfl
@[simp] theorem zc97 : zeroC cx 97 = some [.snil, .snil, .snil, .snil, .snil, .snil, .snil, .val (.int .i64 0), .val (.int .i64 0), .val (.int .i64 0)] := by kernel_rfl
@[simp] theorem zm97 : zeroM cx 97 = some [.own [], .own [], .own [], .own [], .own [], .own [], .own [], .val (.int .i64 0), .val (.int .i64 0), .val (.int .i64 0)] := by kernel_rfl
@[simp] theorem fd97_0 : fieldC cx 97 0 = some (0, 2, true) := by kernel_rfl
@[simp] theorem fd97_1 : fieldC cx 97 1 = some (2, 1, false) := by kernel_rfl
@[simp] theorem fd97_2 : fieldC cx 97 2 = some (3, 1, false) := by kernel_rfl
@[simp] theorem fd97_3 : fieldC cx 97 3 = some (4, 1, false) := by kernel_rfl
@[simp] theorem fd97_4 : fieldC cx 97 4 = some (5, 1, false) := by kernel_rfl
@[simp] theorem fd97_5 : fieldC cx 97 5 = some (6, 1, false) := by kernel_rfl
@[simp] theorem fd97_6 : fieldC cx 97 6 = some (7, 1, false) := by kernel_rfl
@[simp] theorem fd97_7 : fieldC cx 97 7 = some (8, 1, false) := by kernel_rfl
@[simp] theorem fd97_8 : fieldC cx 97 8 = some (9, 1, false) := by kernel_rfl
@[simp] theorem pl97 : placesC cx 97 = some [(0, 2, true), (2, 1, false), (3, 1, false), (4, 1, false), (5, 1, false), (6, 1, false), (7, 1, false), (8, 1, false), (9, 1, false)] := by kernel_rfl
@[simp] theorem sz98 : sizeC cx 98 = some 1 := by kernel_rfl
@[simp] theorem ag98 : isAggC cx 98 = some false := by kernel_rfl
@[simp] theorem zc98 : zeroC cx 98 = some [.val .nilFunc] := by kernel_rfl
@[simp] theorem zm98 : zeroM cx 98 = some [.val .nilFunc] := by kernel_rfl
@[simp] theorem sz99 : sizeC cx 99 = some 5 := by kernel_rfl
@[simp] theorem ag99 : isAggC cx 99 = some true := by kernel_rfl
@[simp] theorem zc99 : zeroC cx 99 = some [.val (.int .i64 0), .val (.int .i64 0), .val (.int .i64 0), .snil, .val (.int .i64 0)] := by kernel_rfl
@[simp] theorem zm99 : zeroM cx 99 = some [.val (.int .i64 0), .val (.int .i64 0), .val (.int .i64 0), .own [], .val (.int .i64 0)] := by kernel_rfl
@[simp] theorem fd99_0 : fieldC cx 99 0 = some (0, 1, false) := by kernel_rfl
@[simp] theorem fd99_1 : fieldC cx 99 1 = some (1, 1, false) := by kernel_rfl
@[simp] theorem fd99_2 : fieldC cx 99 2 = some (2, 1, false) := by kernel_rfl
@[simp] theorem fd99_3 : fieldC cx 99 3 = some (3, 1, false) := by kernel_rfl
@[simp] theorem fd99_4 : fieldC cx 99 4 = some (4, 1, false) := by kernel_rfl
@[simp] theorem pl99 : placesC cx 99 = some [(0, 1, false), (1, 1, false), (2, 1, false), (3, 1, false), (4, 1, false)] := by kernel_rfl
@[simp] theorem sz100 : sizeC cx 100 = some 5 := by kernel_rfl
@[simp] theorem ag100 : isAggC cx 100 = some true := by kernel_rfl
@[simp] theorem zc100 : zeroC cx 100 = some [.val (.int .i64 0), .val (.int .i64 0), .val (.int .i64 0), .snil, .val (.int .i64 0)] := by kernel_rfl
@[simp] theorem zm100 : zeroM cx 100 = some [.val (.int .i64 0), .val (.int .i64 0), .val (.int .i64 0), .own [], .val (.int .i64 0)] := by kernel_rfl
@[simp] theorem fd100_0 : fieldC cx 100 0 = some (0, 1, false) := by kernel_rfl
@[simp] theorem fd100_1 : fieldC cx 100 1 = some (1, 1, false) := by kernel_rfl
@[simp] theorem fd100_2 : fieldC cx 100 2 = some (2, 1, false) := by kernel_rfl
@[simp] theorem fd100_3 : fieldC cx 100 3 = some (3, 1, false) := by kernel_rfl
@[simp] theorem fd100_4 : fieldC cx 100 4 = some (4, 1, false) := by kernel_rfl
@[simp] theorem pl100 : placesC cx 100 = some [(0, 1, false), (1, 1, false), (2, 1, false), (3, 1, false), (4, 1, false)] := by kernel_rfl
@[simp] theorem sz101 : sizeC cx 101 = some 1 := by kernel_rfl
@[simp] theorem ag101 : isAggC cx 101 = some false := by kernel_rfl
@[simp] theorem zc101 : zeroC cx 101 = some [.val .nilFunc] := by kernel_rfl
@[simp] theorem zm101 : zeroM cx 101 = some [.val .nilFunc] := by kernel_rfl
@[simp] theorem sz102 : sizeC cx 102 = some 1 := by kernel_rfl
@[simp] theorem ag102 : isAggC cx 102 = some false := by kernel_rfl
@[simp] theorem zc102 : zeroC cx 102 = some [.val .nilFunc] := by kernel_rfl
@[simp] theorem zm102 : zeroM cx 102 = some [.val .nilFunc] := by kernel_rfl
@[simp] theorem sz103 : sizeC cx 103 = some 1 := by kernel_rfl
@[simp] theorem ag103 : isAggC cx 103 = some false := by kernel_rfl
@[simp] theorem zc103 : zeroC cx 103 = some [.val .nilFunc] := by kernel_rfl
@[simp] theorem zm103 : zeroM cx 103 = some [.val .nilFunc] := by kernel_rfl
@[simp] theorem sz104 : sizeC cx 104 = some 1 := by kernel_rfl
@[simp] theorem ag104 : isAggC cx 104 = some false := by kernel_rfl
@[simp] theorem zc104 : zeroC cx 104 = some [.val .nilFunc] := by kernel_rfl
@[simp] theorem zm104 : zeroM cx 104 = some [.val .nilFunc] := by kernel_rfl
@[simp] theorem sz105 : sizeC cx 105 = some 1 := by kernel_rfl
@[simp] theorem ag105 : isAggC cx 105 = some false := by kernel_rfl
@[simp] theorem zc105 : zeroC cx 105 = some [.val .nilFunc] := by kernel_rfl
@[simp] theorem zm105 : zeroM cx 105 = some [.val .nilFunc] := by kernel_rfl
@[simp] theorem sz106 : sizeC cx 106 = some 2 := by kernel_rfl
@[simp] theorem ag106 : isAggC cx 106 = some true := by kernel_rfl
@[simp] theorem zc106 : zeroC cx 106 = some [.val (.int .i64 0), .snil] := by kernel_rfl
@[simp] theorem zm106 : zeroM cx 106 = some [.val (.int .i64 0), .own []] := by kernel_rfl
@[simp] theorem fd106_0 : fieldC cx 106 0 = some (0, 1, false) := by kernel_rfl
@[simp] theorem fd106_1 : fieldC cx 106 1 = some (1, 1, false) := by kernel_rfl
@[simp] theorem pl106 : placesC cx 106 = some [(0, 1, false), (1, 1, false)] := by kernel_rfl
@[simp] theorem sz107 : sizeC cx 107 = some 2 := by kernel_rfl
@[simp] theorem ag107 : isAggC cx 107 = some true := by kernel_rfl
@[simp] theorem zc107 : zeroC cx 107 = some [.val (.int .i64 0), .snil] := by kernel_rfl
@[simp] theorem zm107 : zeroM cx 107 = some [.val (.int .i64 0), .own []] := by kernel_rfl
@[simp] theorem fd107_0 : fieldC cx 107 0 = some (0, 1, false) := by kernel_rfl
@[simp] theorem fd107_1 : fieldC cx 107 1 = some (1, 1, false) := by kernel_rfl
@[simp] theorem pl107 : placesC cx 107 = some [(0, 1, false), (1, 1, false)] := by kernel_rfl
@[simp] theorem sz108 : sizeC cx 108 = some 1 := by kernel_rfl
@[simp] theorem ag108 : isAggC cx 108 = some false := by kernel_rfl
@[simp] theorem zc108 : zeroC cx 108 = some [.val .nilFunc] := by kernel_rfl
@[simp] theorem zm108 : zeroM cx 108 = some [.val .nilFunc] := by kernel_rfl
@[simp] theorem sz109 : sizeC cx 109 = some 1 := by kernel_rfl
@[simp] theorem ag109 : isAggC cx 109 = some false := by kernel_rfl
@[simp] theorem zc109 : zeroC cx 109 = some [.val .nilFunc] := by kernel_rfl
@[simp] theorem zm109 : zeroM cx 109 = some [.val .nilFunc] := by kernel_rfl
@[simp] theorem sz110 : sizeC cx 110 = some 1 := by kernel_rfl
@[simp] theorem ag110 : isAggC cx 110 = some false := by kernel_rfl
@[simp] theorem zc110 : zeroC cx 110 = some [.val .nilFunc] := by kernel_rfl
@[simp] theorem zm110 : zeroM cx 110 = some [.val .nilFunc] := by kernel_rfl
@[simp] theorem sz111 : sizeC cx 111 = some 1 := by kernel_rfl
@[simp] theorem ag111 : isAggC cx 111 = some false := by kernel_rfl
@[simp] theorem zc111 : zeroC cx 111 = some [.val .nilFunc] := by kernel_rfl
@[simp] theorem zm111 : zeroM cx 111 = some [.val .nilFunc] := by kernel_rfl
@[simp] theorem sz112 : sizeC cx 112 = some 1 := by kernel_rfl
@[simp] theorem ag112 : isAggC cx 112 = some false := by kernel_rfl
@[simp] theorem zc112 : zeroC cx 112 = some [.val .nilFunc] := by kernel_rfl
@[simp] theorem zm112 : zeroM cx 112 = some [.val .nilFunc] := by kernel_rfl
@[simp] theorem sz113 : sizeC cx 113 = some 5 := by kernel_rfl
@[simp] theorem ag113 : isAggC cx 113 = some true := by kernel_rfl
@[simp] theorem zc113 : zeroC cx 113 = some [.val (.int .i64 0), .val (.int .i64 0), .val (.int .i64 0), .snil, .val (.int .i64 0)] := by kernel_rfl
@[simp] theorem zm113 : zeroM cx 113 = some [.val (.int .i64 0), .val (.int .i64 0), .val (.int .i64 0), .own [], .val (.int .i64 0)] := by kernel_rfl
@[simp] theorem fd113_0 : fieldC cx 113 0 = some (0, 1, false) := by kernel_rfl
@[simp] theorem fd113_1 : fieldC cx 113 1 = some (1, 1, false) := by kernel_rfl
@[simp] theorem fd113_2 : fieldC cx 113 2 = some (2, 1, false) := by kernel_rfl
@[simp] theorem fd113_3 : fieldC cx 113 3 = some (3, 1, false) := by kernel_rfl
@[simp] theorem fd113_4 : fieldC cx 113 4 = some (4, 1, false) := by kernel_rfl
@[simp] theorem pl113 : placesC cx 113 = some [(0, 1, false), (1, 1, false), (2, 1, false), (3, 1, false), (4, 1, false)] := by kernel_rfl
@[simp] theorem sz114 : sizeC cx 114 = some 5 := by kernel_rfl
@[simp] theorem ag114 : isAggC cx 114 = some true := by kernel_rfl
@[simp] theorem zc114 : zeroC cx 114 = some [.val (.int .i64 0), .val (.int .i64 0), .val (.int .i64 0), .snil, .val (.int .i64 0)] := by kernel_rfl
@[simp] theorem zm114 : zeroM cx 114 = some [.val (.int .i64 0), .val (.int .i64 0), .val (.int .i64 0), .own [], .val (.int .i64 0)] := by kernel_rfl
@[simp] theorem fd114_0 : fieldC cx 114 0 = some (0, 1, false) := by kernel_rfl
@[simp] theorem fd114_1 : fieldC cx 114 1 = some (1, 1, false) := by kernel_rfl
@[simp] theorem fd114_2 : fieldC cx 114 2 = some (2, 1, false) := by kernel_rfl
@[simp] theorem fd114_3 : fieldC cx 114 3 = some (3, 1, false) := by kernel_rfl
@[simp] theorem fd114_4 : fieldC cx 114 4 = some (4, 1, false) := by kernel_rfl
@[simp] theorem pl114 : placesC cx 114 = some [(0, 1, false), (1, 1, false), (2, 1, false), (3, 1, false), (4, 1, false)] := by kernel_rfl
@[simp] theorem sz115 : sizeC cx 115 = some 1 := by kernel_rfl
@[simp] theorem ag115 : isAggC cx 115 = some false := by kernel_rfl
@[simp] theorem zc115 : zeroC cx 115 = some [.val (.pointer none)] := by kernel_rfl
@[simp] theorem zm115 : zeroM cx 115 = some [.val (.pointer none)] := by kernel_rfl
@[simp] theorem sz116 : sizeC cx 116 = some 1 := by kernel_rfl
@[simp] theorem ag116 : isAggC cx 116 = some false := by kernel_rfl
@[simp] theorem zc116 : zeroC cx 116 = some [.val .nilFunc] := by kernel_rfl
@[simp] theorem zm116 : zeroM cx 116 = some [.val .nilFunc] := by kernel_rfl
@[simp] theorem sz117 : sizeC cx 117 = some 1 := by kernel_rfl
@[simp] theorem ag117 : isAggC cx 117 = some false := by kernel_rfl
@[simp] theorem zc117 : zeroC cx 117 = some [.val .nilFunc] := by kernel_rfl
@[simp] theorem zm117 : zeroM cx 117 = some [.val .nilFunc] := by kernel_rfl
@[simp] theorem sz118 : sizeC cx 118 = some 1 := by kernel_rfl
@[simp] theorem ag118 : isAggC cx 118 = some false := by kernel_rfl
@[simp] theorem zc118 : zeroC cx 118 = some [.val .nilFunc] := by kernel_rfl
@[simp] theorem zm118 : zeroM cx 118 = some [.val .nilFunc] := by kernel_rfl
@[simp] theorem sz119 : sizeC cx 119 = some 1 := by kernel_rfl
@[simp] theorem ag119 : isAggC cx 119 = some false := by kernel_rfl
@[simp] theorem zc119 : zeroC cx 119 = some [.val .nilFunc] := by kernel_rfl
@[simp] theorem zm119 : zeroM cx 119 = some [.val .nilFunc] := by kernel_rfl
@[simp] theorem sz120 : sizeC cx 120 = some 1 := by kernel_rfl
@[simp] theorem ag120 : isAggC cx 120 = some false := by kernel_rfl
@[simp] theorem zc120 : zeroC cx 120 = some [.val .nilFunc] := by kernel_rfl
@[simp] theorem zm120 : zeroM cx 120 = some [.val .nilFunc] := by kernel_rfl
@[simp] theorem sz121 : sizeC cx 121 = some 1 := by kernel_rfl
@[simp] theorem ag121 : isAggC cx 121 = some false := by kernel_rfl
@[simp] theorem zc121 : zeroC cx 121 = some [.val .nilFunc] := by kernel_rfl
@[simp] theorem zm121 : zeroM cx 121 = some [.val .nilFunc] := by kernel_rfl
@[simp] theorem sz123 : sizeC cx 123 = some 1 := by kernel_rfl
@[simp] theorem ag123 : isAggC cx 123 = some false := by kernel_rfl
@[simp] theorem zc123 : zeroC cx 123 = some [.val .nilFunc] := by kernel_rfl
@[simp] theorem zm123 : zeroM cx 123 = some [.val .nilFunc] := by kernel_rfl
@[simp] theorem sz124 : sizeC cx 124 = some 1 := by kernel_rfl
@[simp] theorem ag124 : isAggC cx 124 = some false := by kernel_rfl
@[simp] theorem zc124 : zeroC cx 124 = some [.val .nilFunc] := by kernel_rfl
@[simp] theorem zm124 : zeroM cx 124 = some [.val .nilFunc] := by kernel_rfl
@[simp] theorem sz125 : sizeC cx 125 = some 1 := by kernel_rfl
@[simp] theorem ag125 : isAggC cx 125 = some false := by kernel_rfl
@[simp] theorem zc125 : zeroC cx 125 = some [.val .nilFunc] := by kernel_rfl
@[simp] theorem zm125 : zeroM cx 125 = some [.val .nilFunc] := by kernel_rfl
@[simp] theorem sz126 : sizeC cx 126 = some 1 := by kernel_rfl
@[simp] theorem ag126 : isAggC cx 126 = some false := by kernel_rfl
@[simp] theorem zc126 : zeroC cx 126 = some [.val .nilFunc] := by kernel_rfl
@[simp] theorem zm126 : zeroM cx 126 = some [.val .nilFunc] := by kernel_rfl
attribute [simp] Tryd.underlying127
@[simp] theorem sz127 : sizeC cx 127 = some 4 := by kernel_rfl
@[simp] theorem ag127 : isAggC cx 127 = some true := by kernel_rfl
@[simp] theorem zc127 : zeroC cx 127 = some [.val (.int .i64 0), .val (.int .i64 0), .val (.int .i64 0), .val (.int .i64 0)] := by kernel_rfl
@[simp] theorem zm127 : zeroM cx 127 = some [.val (.int .i64 0), .val (.int .i64 0), .val (.int .i64 0), .val (.int .i64 0)] := by kernel_rfl
@[simp] theorem sz128 : sizeC cx 128 = some 1 := by kernel_rfl
@[simp] theorem ag128 : isAggC cx 128 = some false := by kernel_rfl
@[simp] theorem zc128 : zeroC cx 128 = some [.val .nilFunc] := by kernel_rfl
@[simp] theorem zm128 : zeroM cx 128 = some [.val .nilFunc] := by kernel_rfl
@[simp] theorem sz129 : sizeC cx 129 = some 1 := by kernel_rfl
@[simp] theorem ag129 : isAggC cx 129 = some false := by kernel_rfl
@[simp] theorem zc129 : zeroC cx 129 = some [.val .nilFunc] := by kernel_rfl
@[simp] theorem zm129 : zeroM cx 129 = some [.val .nilFunc] := by kernel_rfl
@[simp] theorem sz130 : sizeC cx 130 = some 3 := by kernel_rfl
@[simp] theorem ag130 : isAggC cx 130 = some true := by kernel_rfl
@[simp] theorem zc130 : zeroC cx 130 = some [.val (.bool false), .val (.bool false), .val (.bool false)] := by kernel_rfl
@[simp] theorem zm130 : zeroM cx 130 = some [.val (.bool false), .val (.bool false), .val (.bool false)] := by kernel_rfl
@[simp] theorem fd130_0 : fieldC cx 130 0 = some (0, 1, false) := by kernel_rfl
@[simp] theorem fd130_1 : fieldC cx 130 1 = some (1, 1, false) := by kernel_rfl
@[simp] theorem fd130_2 : fieldC cx 130 2 = some (2, 1, false) := by kernel_rfl
@[simp] theorem pl130 : placesC cx 130 = some [(0, 1, false), (1, 1, false), (2, 1, false)] := by kernel_rfl
@[simp] theorem sz131 : sizeC cx 131 = some 3 := by kernel_rfl
@[simp] theorem ag131 : isAggC cx 131 = some true := by kernel_rfl
@[simp] theorem zc131 : zeroC cx 131 = some [.val (.bool false), .val (.bool false), .val (.bool false)] := by kernel_rfl
@[simp] theorem zm131 : zeroM cx 131 = some [.val (.bool false), .val (.bool false), .val (.bool false)] := by kernel_rfl
@[simp] theorem fd131_0 : fieldC cx 131 0 = some (0, 1, false) := by kernel_rfl
@[simp] theorem fd131_1 : fieldC cx 131 1 = some (1, 1, false) := by kernel_rfl
@[simp] theorem fd131_2 : fieldC cx 131 2 = some (2, 1, false) := by kernel_rfl
@[simp] theorem pl131 : placesC cx 131 = some [(0, 1, false), (1, 1, false), (2, 1, false)] := by kernel_rfl
@[simp] theorem sz132 : sizeC cx 132 = some 1 := by kernel_rfl
@[simp] theorem ag132 : isAggC cx 132 = some false := by kernel_rfl
@[simp] theorem zc132 : zeroC cx 132 = some [.val .nilFunc] := by kernel_rfl
@[simp] theorem zm132 : zeroM cx 132 = some [.val .nilFunc] := by kernel_rfl
@[simp] theorem sz133 : sizeC cx 133 = some 1 := by kernel_rfl
@[simp] theorem ag133 : isAggC cx 133 = some false := by kernel_rfl
@[simp] theorem zc133 : zeroC cx 133 = some [.val .nilFunc] := by kernel_rfl
@[simp] theorem zm133 : zeroM cx 133 = some [.val .nilFunc] := by kernel_rfl
@[simp] theorem sz134 : sizeC cx 134 = some 1 := by kernel_rfl
@[simp] theorem ag134 : isAggC cx 134 = some false := by kernel_rfl
@[simp] theorem zc134 : zeroC cx 134 = some [.val .nilFunc] := by kernel_rfl
@[simp] theorem zm134 : zeroM cx 134 = some [.val .nilFunc] := by kernel_rfl
@[simp] theorem sz135 : sizeC cx 135 = some 1 := by kernel_rfl
@[simp] theorem ag135 : isAggC cx 135 = some false := by kernel_rfl
@[simp] theorem zc135 : zeroC cx 135 = some [.val .nilFunc] := by kernel_rfl
@[simp] theorem zm135 : zeroM cx 135 = some [.val .nilFunc] := by kernel_rfl
@[simp] theorem sz136 : sizeC cx 136 = some 1 := by kernel_rfl
@[simp] theorem ag136 : isAggC cx 136 = some false := by kernel_rfl
@[simp] theorem zc136 : zeroC cx 136 = some [.val .nilFunc] := by kernel_rfl
@[simp] theorem zm136 : zeroM cx 136 = some [.val .nilFunc] := by kernel_rfl
@[simp] theorem sz137 : sizeC cx 137 = some 1 := by kernel_rfl
@[simp] theorem ag137 : isAggC cx 137 = some false := by kernel_rfl
@[simp] theorem zc137 : zeroC cx 137 = some [.val .nilFunc] := by kernel_rfl
@[simp] theorem zm137 : zeroM cx 137 = some [.val .nilFunc] := by kernel_rfl
attribute [simp] Tryd.underlying138
@[simp] theorem sz138 : sizeC cx 138 = some 1 := by kernel_rfl
@[simp] theorem ag138 : isAggC cx 138 = some false := by kernel_rfl
@[simp] theorem zc138 : zeroC cx 138 = some [.snil] := by kernel_rfl
@[simp] theorem zm138 : zeroM cx 138 = some [.own []] := by kernel_rfl
@[simp] theorem sz139 : sizeC cx 139 = some 1 := by kernel_rfl
@[simp] theorem ag139 : isAggC cx 139 = some false := by kernel_rfl
@[simp] theorem zc139 : zeroC cx 139 = some [.val .nilFunc] := by kernel_rfl
@[simp] theorem zm139 : zeroM cx 139 = some [.val .nilFunc] := by kernel_rfl
@[simp] theorem sz140 : sizeC cx 140 = some 1 := by kernel_rfl
@[simp] theorem ag140 : isAggC cx 140 = some false := by kernel_rfl
@[simp] theorem zc140 : zeroC cx 140 = some [.val .nilFunc] := by kernel_rfl
@[simp] theorem zm140 : zeroM cx 140 = some [.val .nilFunc] := by kernel_rfl
@[simp] theorem sz141 : sizeC cx 141 = some 1 := by kernel_rfl
@[simp] theorem ag141 : isAggC cx 141 = some false := by kernel_rfl
@[simp] theorem zc141 : zeroC cx 141 = some [.val (.int .u64 0)] := by kernel_rfl
@[simp] theorem zm141 : zeroM cx 141 = some [.val (.int .u64 0)] := by kernel_rfl
@[simp] theorem sz142 : sizeC cx 142 = some 1 := by kernel_rfl
@[simp] theorem ag142 : isAggC cx 142 = some false := by kernel_rfl
@[simp] theorem zc142 : zeroC cx 142 = some [.val .nilFunc] := by kernel_rfl
@[simp] theorem zm142 : zeroM cx 142 = some [.val .nilFunc] := by kernel_rfl
@[simp] theorem sz143 : sizeC cx 143 = some 4 := by kernel_rfl
@[simp] theorem ag143 : isAggC cx 143 = some true := by kernel_rfl
@[simp] theorem zc143 : zeroC cx 143 = some [.val (.pointer none), .val (.pointer none), .val (.pointer none), .val (.string ⟨#[]⟩)] := by kernel_rfl
@[simp] theorem zm143 : zeroM cx 143 = some [.val (.pointer none), .val (.pointer none), .val (.pointer none), .val (.string ⟨#[]⟩)] := by kernel_rfl
@[simp] theorem fd143_0 : fieldC cx 143 0 = some (0, 1, false) := by kernel_rfl
@[simp] theorem fd143_1 : fieldC cx 143 1 = some (1, 1, false) := by kernel_rfl
@[simp] theorem fd143_2 : fieldC cx 143 2 = some (2, 1, false) := by kernel_rfl
@[simp] theorem fd143_3 : fieldC cx 143 3 = some (3, 1, false) := by kernel_rfl
@[simp] theorem pl143 : placesC cx 143 = some [(0, 1, false), (1, 1, false), (2, 1, false), (3, 1, false)] := by kernel_rfl
@[simp] theorem sz144 : sizeC cx 144 = some 4 := by kernel_rfl
@[simp] theorem ag144 : isAggC cx 144 = some true := by kernel_rfl
@[simp] theorem zc144 : zeroC cx 144 = some [.val (.pointer none), .val (.pointer none), .val (.pointer none), .val (.string ⟨#[]⟩)] := by kernel_rfl
@[simp] theorem zm144 : zeroM cx 144 = some [.val (.pointer none), .val (.pointer none), .val (.pointer none), .val (.string ⟨#[]⟩)] := by kernel_rfl
@[simp] theorem fd144_0 : fieldC cx 144 0 = some (0, 1, false) := by kernel_rfl
@[simp] theorem fd144_1 : fieldC cx 144 1 = some (1, 1, false) := by kernel_rfl
@[simp] theorem fd144_2 : fieldC cx 144 2 = some (2, 1, false) := by kernel_rfl
@[simp] theorem fd144_3 : fieldC cx 144 3 = some (3, 1, false) := by kernel_rfl
@[simp] theorem pl144 : placesC cx 144 = some [(0, 1, false), (1, 1, false), (2, 1, false), (3, 1, false)] := by kernel_rfl
attribute [simp] Tryd.underlying145
@[simp] theorem sz145 : sizeC cx 145 = some 0 := by kernel_rfl
@[simp] theorem ag145 : isAggC cx 145 = some true := by kernel_rfl
@[simp] theorem zc145 : zeroC cx 145 = some [] := by kernel_rfl
@[simp] theorem zm145 : zeroM cx 145 = some [] := by kernel_rfl
@[simp] theorem sz146 : sizeC cx 146 = some 0 := by kernel_rfl
@[simp] theorem ag146 : isAggC cx 146 = some true := by kernel_rfl
@[simp] theorem zc146 : zeroC cx 146 = some [] := by kernel_rfl
@[simp] theorem zm146 : zeroM cx 146 = some [] := by kernel_rfl
@[simp] theorem fd146_0 : fieldC cx 146 0 = some (0, 0, true) := by kernel_rfl
@[simp] theorem pl146 : placesC cx 146 = some [(0, 0, true)] := by kernel_rfl
@[simp] theorem sz147 : sizeC cx 147 = some 0 := by kernel_rfl
@[simp] theorem ag147 : isAggC cx 147 = some true := by kernel_rfl
@[simp] theorem zc147 : zeroC cx 147 = some [] := by kernel_rfl
@[simp] theorem zm147 : zeroM cx 147 = some [] := by kernel_rfl
@[simp] theorem fd147_0 : fieldC cx 147 0 = some (0, 0, true) := by kernel_rfl
@[simp] theorem pl147 : placesC cx 147 = some [(0, 0, true)] := by kernel_rfl
@[simp] theorem sz148 : sizeC cx 148 = some 1 := by kernel_rfl
@[simp] theorem ag148 : isAggC cx 148 = some false := by kernel_rfl
@[simp] theorem zc148 : zeroC cx 148 = some [.val (.int .u32 0)] := by kernel_rfl
@[simp] theorem zm148 : zeroM cx 148 = some [.val (.int .u32 0)] := by kernel_rfl
@[simp] theorem sz149 : sizeC cx 149 = some 1 := by kernel_rfl
@[simp] theorem ag149 : isAggC cx 149 = some false := by kernel_rfl
@[simp] theorem zc149 : zeroC cx 149 = some [.val (.int .u8 0)] := by kernel_rfl
@[simp] theorem zm149 : zeroM cx 149 = some [.val (.int .u8 0)] := by kernel_rfl
@[simp] theorem sz150 : sizeC cx 150 = some 1 := by kernel_rfl
@[simp] theorem ag150 : isAggC cx 150 = some false := by kernel_rfl
@[simp] theorem zc150 : zeroC cx 150 = some [.val (.int .u8 0)] := by kernel_rfl
@[simp] theorem zm150 : zeroM cx 150 = some [.val (.int .u8 0)] := by kernel_rfl
@[simp] theorem sz151 : sizeC cx 151 = some 1 := by kernel_rfl
@[simp] theorem ag151 : isAggC cx 151 = some false := by kernel_rfl
@[simp] theorem zc151 : zeroC cx 151 = some [.val .nilFunc] := by kernel_rfl
@[simp] theorem zm151 : zeroM cx 151 = some [.val .nilFunc] := by kernel_rfl
@[simp] theorem sz152 : sizeC cx 152 = some 1 := by kernel_rfl
@[simp] theorem ag152 : isAggC cx 152 = some false := by kernel_rfl
@[simp] theorem zc152 : zeroC cx 152 = some [.val (.pointer none)] := by kernel_rfl
@[simp] theorem zm152 : zeroM cx 152 = some [.val (.pointer none)] := by kernel_rfl
@[simp] theorem sz153 : sizeC cx 153 = some 1 := by kernel_rfl
@[simp] theorem ag153 : isAggC cx 153 = some false := by kernel_rfl
@[simp] theorem zc153 : zeroC cx 153 = some [.val (.int .i32 0)] := by kernel_rfl
@[simp] theorem zm153 : zeroM cx 153 = some [.val (.int .i32 0)] := by kernel_rfl
@[simp] theorem sz154 : sizeC cx 154 = some 1 := by kernel_rfl
@[simp] theorem ag154 : isAggC cx 154 = some false := by kernel_rfl
@[simp] theorem zc154 : zeroC cx 154 = some [.val (.int .i32 0)] := by kernel_rfl
@[simp] theorem zm154 : zeroM cx 154 = some [.val (.int .i32 0)] := by kernel_rfl
@[simp] theorem sz155 : sizeC cx 155 = some 11 := by kernel_rfl
@[simp] theorem ag155 : isAggC cx 155 = some true := by kernel_rfl
@[simp] theorem zc155 : zeroC cx 155 = some [.val (.int .u64 0), .val (.int .u64 0), .val (.int .u32 0), .val (.int .u8 0), .val (.int .u8 0), .val (.int .u8 0), .val (.int .u8 0), .val .nilFunc, .val (.pointer none), .val (.int .i32 0), .val (.int .i32 0)] := by kernel_rfl
@[simp] theorem zm155 : zeroM cx 155 = some [.val (.int .u64 0), .val (.int .u64 0), .val (.int .u32 0), .val (.int .u8 0), .val (.int .u8 0), .val (.int .u8 0), .val (.int .u8 0), .val .nilFunc, .val (.pointer none), .val (.int .i32 0), .val (.int .i32 0)] := by kernel_rfl
@[simp] theorem fd155_0 : fieldC cx 155 0 = some (0, 1, false) := by kernel_rfl
@[simp] theorem fd155_1 : fieldC cx 155 1 = some (1, 1, false) := by kernel_rfl
@[simp] theorem fd155_2 : fieldC cx 155 2 = some (2, 1, false) := by kernel_rfl
@[simp] theorem fd155_3 : fieldC cx 155 3 = some (3, 1, false) := by kernel_rfl
@[simp] theorem fd155_4 : fieldC cx 155 4 = some (4, 1, false) := by kernel_rfl
@[simp] theorem fd155_5 : fieldC cx 155 5 = some (5, 1, false) := by kernel_rfl
@[simp] theorem fd155_6 : fieldC cx 155 6 = some (6, 1, false) := by kernel_rfl
@[simp] theorem fd155_7 : fieldC cx 155 7 = some (7, 1, false) := by kernel_rfl
@[simp] theorem fd155_8 : fieldC cx 155 8 = some (8, 1, false) := by kernel_rfl
@[simp] theorem fd155_9 : fieldC cx 155 9 = some (9, 1, false) := by kernel_rfl
@[simp] theorem fd155_10 : fieldC cx 155 10 = some (10, 1, false) := by kernel_rfl
@[simp] theorem pl155 : placesC cx 155 = some [(0, 1, false), (1, 1, false), (2, 1, false), (3, 1, false), (4, 1, false), (5, 1, false), (6, 1, false), (7, 1, false), (8, 1, false), (9, 1, false), (10, 1, false)] := by kernel_rfl
@[simp] theorem sz156 : sizeC cx 156 = some 11 := by kernel_rfl
@[simp] theorem ag156 : isAggC cx 156 = some true := by kernel_rfl
@[simp] theorem zc156 : zeroC cx 156 = some [.val (.int .u64 0), .val (.int .u64 0), .val (.int .u32 0), .val (.int .u8 0), .val (.int .u8 0), .val (.int .u8 0), .val (.int .u8 0), .val .nilFunc, .val (.pointer none), .val (.int .i32 0), .val (.int .i32 0)] := by kernel_rfl
@[simp] theorem zm156 : zeroM cx 156 = some [.val (.int .u64 0), .val (.int .u64 0), .val (.int .u32 0), .val (.int .u8 0), .val (.int .u8 0), .val (.int .u8 0), .val (.int .u8 0), .val .nilFunc, .val (.pointer none), .val (.int .i32 0), .val (.int .i32 0)] := by kernel_rfl
@[simp] theorem fd156_0 : fieldC cx 156 0 = some (0, 1, false) := by kernel_rfl
@[simp] theorem fd156_1 : fieldC cx 156 1 = some (1, 1, false) := by kernel_rfl
@[simp] theorem fd156_2 : fieldC cx 156 2 = some (2, 1, false) := by kernel_rfl
@[simp] theorem fd156_3 : fieldC cx 156 3 = some (3, 1, false) := by kernel_rfl
@[simp] theorem fd156_4 : fieldC cx 156 4 = some (4, 1, false) := by kernel_rfl
@[simp] theorem fd156_5 : fieldC cx 156 5 = some (5, 1, false) := by kernel_rfl
@[simp] theorem fd156_6 : fieldC cx 156 6 = some (6, 1, false) := by kernel_rfl
@[simp] theorem fd156_7 : fieldC cx 156 7 = some (7, 1, false) := by kernel_rfl
@[simp] theorem fd156_8 : fieldC cx 156 8 = some (8, 1, false) := by kernel_rfl
@[simp] theorem fd156_9 : fieldC cx 156 9 = some (9, 1, false) := by kernel_rfl
@[simp] theorem fd156_10 : fieldC cx 156 10 = some (10, 1, false) := by kernel_rfl
@[simp] theorem pl156 : placesC cx 156 = some [(0, 1, false), (1, 1, false), (2, 1, false), (3, 1, false), (4, 1, false), (5, 1, false), (6, 1, false), (7, 1, false), (8, 1, false), (9, 1, false), (10, 1, false)] := by kernel_rfl
@[simp] theorem sz157 : sizeC cx 157 = some 1 := by kernel_rfl
@[simp] theorem ag157 : isAggC cx 157 = some false := by kernel_rfl

end Go.Ab
