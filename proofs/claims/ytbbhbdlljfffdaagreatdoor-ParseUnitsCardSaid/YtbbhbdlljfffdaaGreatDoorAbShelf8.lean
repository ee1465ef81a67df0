import Derived.Shelf.Small.Strs
import Derived.Shelf.Strconv.Itoa3
import Derived.Shelf.Strconv.Clone
import Derived.Shelf.Strings.Shaped
import Derived.Shelf.Strings.Prefix
import Derived.Shelf.Slices.Clone
import Derived.Shelf.SlicesE.Clone
import Derived.Test.YtbbhbdlljfffdaaGreatDoorProg
set_option linter.all false
namespace Go.Proofs
open Go.Shelf
def Tryz.agx:Go.Shelf.Ren:=⟨fun|137=>198|217=>194|266=>203|n=>n,fun|9=>9|5=>5|3=>3|n=>n,fun|n=>n⟩
theorem Tryz.agw:Go.Proofs.Lays.n137 Tryz.prog Tryz.agx:={
 mixed:=by kernel_rfl
 f137:=Tryz.func198.trans (congrArg some (by kernel_rfl))
 f217:=Tryz.func194.trans (congrArg some (by kernel_rfl))
 f266:=Tryz.func203.trans (congrArg some (by kernel_rfl))
 t3:=Tryz.underlying3
 a3:=Tryz.isAgg3
 z3:=Tryz.sizeOf3
 v3:=Tryz.zeroValue3
 t5:=Tryz.underlying5
 a5:=Tryz.isAgg5
 z5:=Tryz.sizeOf5
 v5:=Tryz.zeroValue5
 t9:=Tryz.underlying9
 a9:=Tryz.isAgg9
 z9:=Tryz.sizeOf9
 v9:=Tryz.zeroValue9}
open Go.RowKit in theorem Tryz.strings_IndexByte(s:ByteArray)(c:Int)(w:World):Calls Tryz.prog 198 #[.string s, .int .u8 c] w fun e w'=>e= .returned (.int .i64 (Lib.indexByte s.data.toList c.toNat.toUInt8))∧w'=w:=Any.strings_IndexByte Tryz.agw s c w
def Tryz.agH:Go.Shelf.Ren:=⟨fun|316=>212|n=>n,fun|9=>9|3=>3|4=>4|37=>216|0=>0|127=>221|5=>5|n=>n,fun|n=>n⟩
theorem Tryz.agG:Go.Proofs.LaysM.n316 Tryz.prog Tryz.agH:={
 mixed:=by kernel_rfl
 f316:=Tryz.func212.trans (congrArg some (by kernel_rfl))
 t0:=Tryz.underlying0
 a0:=Tryz.isAgg0
 z0:=Tryz.sizeOf0
 v0:=Tryz.zeroValue0
 t3:=Tryz.underlying3
 a3:=Tryz.isAgg3
 z3:=Tryz.sizeOf3
 v3:=Tryz.zeroValue3
 t4:=Tryz.underlying4
 a4:=Tryz.isAgg4
 z4:=Tryz.sizeOf4
 v4:=Tryz.zeroValue4
 t9:=Tryz.underlying9
 a9:=Tryz.isAgg9
 z9:=Tryz.sizeOf9
 v9:=Tryz.zeroValue9
 t37:=Tryz.underlying216
 a37:=Tryz.isAgg216
 z37:=Tryz.sizeOf216
 v37:=Tryz.zeroValue216
 t127:=Tryz.underlying221
 a127:=Tryz.isAgg221
 z127:=Tryz.sizeOf221
 v127:=Tryz.zeroValue221
 t5:=Tryz.underlying5
 a5:=Tryz.isAgg5
 z5:=Tryz.sizeOf5
 v5:=Tryz.zeroValue5
 i0:=by kernel_rfl
 i3:=by kernel_rfl
 i4:=by kernel_rfl
 i5:=by kernel_rfl
 i9:=by kernel_rfl
 i37:=by kernel_rfl
 i127:=by kernel_rfl}
open Go.RowKit in theorem Tryz.stringslite_Clone(s:ByteArray)(w:World)(hlim:s.size<=281474976710656):Calls Tryz.prog 212 #[.string s] w fun e w'=>e= .returned (.string s)∧Below w.heap.size w w':=Any.stringslite_Clone Tryz.agG s w hlim
def Tryz.ao7:Go.Shelf.Ren:=⟨fun|219=>182|217=>194|225=>195|224=>196|267=>197|266=>203|314=>204|n=>n,fun|9=>9|3=>3|4=>4|5=>5|46=>203|146=>206|51=>205|n=>n,fun|1=>4|n=>n⟩
def Tryz.agz:Go.Shelf.Ren:=⟨fun|143=>159|219=>182|217=>194|225=>195|224=>196|267=>197|266=>203|314=>204|n=>n,fun|9=>9|3=>3|4=>4|5=>5|46=>203|146=>206|51=>205|n=>n,fun|1=>4|n=>n⟩
theorem Tryz.agy:Go.Proofs.Lays.n143 Tryz.prog Tryz.agz:={
 mixed:=by kernel_rfl
 f143:=Tryz.func159.trans (congrArg some (by kernel_rfl))
 f217:=Tryz.func194.trans (congrArg some (by kernel_rfl))
 f219:=Tryz.func182.trans (congrArg some (by kernel_rfl))
 f224:=Tryz.func196.trans (congrArg some (by kernel_rfl))
 f225:=Tryz.func195.trans (congrArg some (by kernel_rfl))
 f266:=Tryz.func203.trans (congrArg some (by kernel_rfl))
 f267:=Tryz.func197.trans (congrArg some (by kernel_rfl))
 f314:=Tryz.func204.trans (congrArg some (by kernel_rfl))
 t3:=Tryz.underlying3
 a3:=Tryz.isAgg3
 z3:=Tryz.sizeOf3
 v3:=Tryz.zeroValue3
 t4:=Tryz.underlying4
 a4:=Tryz.isAgg4
 z4:=Tryz.sizeOf4
 v4:=Tryz.zeroValue4
 t5:=Tryz.underlying5
 a5:=Tryz.isAgg5
 z5:=Tryz.sizeOf5
 v5:=Tryz.zeroValue5
 t9:=Tryz.underlying9
 a9:=Tryz.isAgg9
 z9:=Tryz.sizeOf9
 v9:=Tryz.zeroValue9
 t46:=Tryz.underlying203
 a46:=Tryz.isAgg203
 z46:=Tryz.sizeOf203
 v46:=Tryz.zeroValue203
 t51:=Tryz.underlying205
 a51:=Tryz.isAgg205
 z51:=Tryz.sizeOf205
 v51:=Tryz.zeroValue205
 t146:=Tryz.underlying206
 a146:=Tryz.isAgg206
 z146:=Tryz.sizeOf206
 v146:=Tryz.zeroValue206
 g1:=by kernel_rfl}
open Go.RowKit Go.Lib in theorem Tryz.strings_Index(s sub:ByteArray)(m:Int)(w:World)(hs:s.size<4294967281)(hm:w.cell? ⟨4,0,none⟩=some (.int .i64 m)):Calls Tryz.prog 159 #[.string s, .string sub] w fun e w'=>e= .returned (.int .i64 (Lib.index s.data.toList sub.data.toList))∧w'=w:=Any.strings_Index Tryz.agy s sub m w hs hm
def Tryz.agB:Go.Shelf.Ren:=⟨fun|144=>185|143=>159|219=>182|217=>194|225=>195|224=>196|267=>197|266=>203|314=>204|n=>n,fun|9=>9|4=>4|3=>3|5=>5|46=>203|146=>206|51=>205|n=>n,fun|1=>4|n=>n⟩
theorem Tryz.agA:Go.Proofs.Lays.n144 Tryz.prog Tryz.agB:={
 mixed:=by kernel_rfl
 f143:=Tryz.func159.trans (congrArg some (by kernel_rfl))
 f144:=Tryz.func185.trans (congrArg some (by kernel_rfl))
 f217:=Tryz.func194.trans (congrArg some (by kernel_rfl))
 f219:=Tryz.func182.trans (congrArg some (by kernel_rfl))
 f224:=Tryz.func196.trans (congrArg some (by kernel_rfl))
 f225:=Tryz.func195.trans (congrArg some (by kernel_rfl))
 f266:=Tryz.func203.trans (congrArg some (by kernel_rfl))
 f267:=Tryz.func197.trans (congrArg some (by kernel_rfl))
 f314:=Tryz.func204.trans (congrArg some (by kernel_rfl))
 t3:=Tryz.underlying3
 a3:=Tryz.isAgg3
 z3:=Tryz.sizeOf3
 v3:=Tryz.zeroValue3
 t4:=Tryz.underlying4
 a4:=Tryz.isAgg4
 z4:=Tryz.sizeOf4
 v4:=Tryz.zeroValue4
 t5:=Tryz.underlying5
 a5:=Tryz.isAgg5
 z5:=Tryz.sizeOf5
 v5:=Tryz.zeroValue5
 t9:=Tryz.underlying9
 a9:=Tryz.isAgg9
 z9:=Tryz.sizeOf9
 v9:=Tryz.zeroValue9
 t46:=Tryz.underlying203
 a46:=Tryz.isAgg203
 z46:=Tryz.sizeOf203
 v46:=Tryz.zeroValue203
 t51:=Tryz.underlying205
 a51:=Tryz.isAgg205
 z51:=Tryz.sizeOf205
 v51:=Tryz.zeroValue205
 t146:=Tryz.underlying206
 a146:=Tryz.isAgg206
 z146:=Tryz.sizeOf206
 v146:=Tryz.zeroValue206
 g1:=by kernel_rfl}
open Go.RowKit Go.Lib in theorem Tryz.strings_Contains(s sub:ByteArray)(m:Int)(w:World)(hs:s.size<4294967281)(hm:w.cell? ⟨4,0,none⟩=some (.int .i64 m)):Calls Tryz.prog 185 #[.string s, .string sub] w fun e w'=>e= .returned (.bool (Lib.contains s.data.toList sub.data.toList))∧w'=w:=Any.strings_Contains Tryz.agA s sub m w hs hm
def Tryz.agF:Go.Shelf.Ren:=⟨fun|144=>185|143=>159|219=>182|217=>194|225=>195|224=>196|267=>197|266=>203|314=>204|n=>n,fun|9=>9|4=>4|3=>3|5=>5|46=>203|146=>206|51=>205|n=>n,fun|1=>4|n=>n⟩
theorem Tryz.agE:Go.Proofs.LaysM.n144 Tryz.prog Tryz.agF:={
 mixed:=by kernel_rfl
 f143:=Tryz.func159.trans (congrArg some (by kernel_rfl))
 f144:=Tryz.func185.trans (congrArg some (by kernel_rfl))
 f217:=Tryz.func194.trans (congrArg some (by kernel_rfl))
 f219:=Tryz.func182.trans (congrArg some (by kernel_rfl))
 f224:=Tryz.func196.trans (congrArg some (by kernel_rfl))
 f225:=Tryz.func195.trans (congrArg some (by kernel_rfl))
 f266:=Tryz.func203.trans (congrArg some (by kernel_rfl))
 f267:=Tryz.func197.trans (congrArg some (by kernel_rfl))
 f314:=Tryz.func204.trans (congrArg some (by kernel_rfl))
 t3:=Tryz.underlying3
 a3:=Tryz.isAgg3
 z3:=Tryz.sizeOf3
 v3:=Tryz.zeroValue3
 t4:=Tryz.underlying4
 a4:=Tryz.isAgg4
 z4:=Tryz.sizeOf4
 v4:=Tryz.zeroValue4
 t5:=Tryz.underlying5
 a5:=Tryz.isAgg5
 z5:=Tryz.sizeOf5
 v5:=Tryz.zeroValue5
 t9:=Tryz.underlying9
 a9:=Tryz.isAgg9
 z9:=Tryz.sizeOf9
 v9:=Tryz.zeroValue9
 t46:=Tryz.underlying203
 a46:=Tryz.isAgg203
 z46:=Tryz.sizeOf203
 v46:=Tryz.zeroValue203
 t51:=Tryz.underlying205
 a51:=Tryz.isAgg205
 z51:=Tryz.sizeOf205
 v51:=Tryz.zeroValue205
 t146:=Tryz.underlying206
 a146:=Tryz.isAgg206
 z146:=Tryz.sizeOf206
 v146:=Tryz.zeroValue206
 g1:=by kernel_rfl
 i3:=by kernel_rfl
 i4:=by kernel_rfl
 i5:=by kernel_rfl
 i9:=by kernel_rfl
 i46:=by kernel_rfl
 i51:=by kernel_rfl
 i146:=by kernel_rfl
 m1:=by kernel_rfl
 s1_3:=fun w h=>Go.Proofs.cell_of_shapedOpen_int (zero:= #[.int .i64 0]) (t:=3) h (of_decide_eq_true (by kernel_rfl)) (by kernel_rfl) rfl (by kernel_rfl) (by kernel_rfl) Tryz.underlying3}
def Tryz.ao6:Go.Shelf.Ren:=⟨fun|206=>181|n=>n,fun|9=>9|4=>4|3=>3|n=>n,fun|n=>n⟩
def Tryz.agD:Go.Shelf.Ren:=⟨fun|99=>157|206=>181|n=>n,fun|9=>9|4=>4|3=>3|n=>n,fun|n=>n⟩
theorem Tryz.agC:Go.Proofs.Lays.n99 Tryz.prog Tryz.agD:={
 mixed:=by kernel_rfl
 f99:=Tryz.func157.trans (congrArg some (by kernel_rfl))
 f206:=Tryz.func181.trans (congrArg some (by kernel_rfl))
 t3:=Tryz.underlying3
 a3:=Tryz.isAgg3
 z3:=Tryz.sizeOf3
 v3:=Tryz.zeroValue3
 t4:=Tryz.underlying4
 a4:=Tryz.isAgg4
 z4:=Tryz.sizeOf4
 v4:=Tryz.zeroValue4
 t9:=Tryz.underlying9
 a9:=Tryz.isAgg9
 z9:=Tryz.sizeOf9
 v9:=Tryz.zeroValue9}
open Go.RowKit Go.Lib in theorem Tryz.strings_HasPrefix(s p:ByteArray)(w:World):Calls Tryz.prog 157 #[.string s, .string p] w fun e w'=>e= .returned (.bool (Lib.hasPrefix s.data.toList p.data.toList))∧w'=w:=Any.strings_HasPrefix Tryz.agC s p w
end Go.Proofs
