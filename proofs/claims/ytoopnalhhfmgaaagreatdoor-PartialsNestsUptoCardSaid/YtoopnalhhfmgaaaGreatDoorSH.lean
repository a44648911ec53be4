/- strings.Contains, as the kit's tool lays it at this program. -/
import Derived.Shelf.Strings.Search3
import Derived.Shelf.LaysM
import Derived.Test.YtoopnalhhfmgaaaGreatDoorProg
set_option linter.defProp false
set_option linter.unusedSimpArgs false
set_option linter.unusedVariables false
namespace Go.Proofs
open Go.Shelf
def Tryz.Gn:Go.Shelf.Ren:=⟨fun|144=>288|143=>311|219=>322|217=>329|225=>330|224=>331|267=>332|266=>337|314=>338|n=>n,fun|9=>9|4=>4|3=>3|5=>5|46=>264|146=>365|51=>306|n=>n,fun|1=>3|n=>n⟩
def Tryz.TS:Go.Proofs.Lays.n144 Tryz.prog Tryz.Gn:={
 mixed:=by kernel_rfl
 f143:=Tryz.func311.trans (congrArg some (by kernel_rfl))
 f144:=Tryz.func288.trans (congrArg some (by kernel_rfl))
 f217:=Tryz.func329.trans (congrArg some (by kernel_rfl))
 f219:=Tryz.func322.trans (congrArg some (by kernel_rfl))
 f224:=Tryz.func331.trans (congrArg some (by kernel_rfl))
 f225:=Tryz.func330.trans (congrArg some (by kernel_rfl))
 f266:=Tryz.func337.trans (congrArg some (by kernel_rfl))
 f267:=Tryz.func332.trans (congrArg some (by kernel_rfl))
 f314:=Tryz.func338.trans (congrArg some (by kernel_rfl))
 t3:=Tryz.underlying3
 a3:=Tryz.isAgg3
 z3:=Tryz.sizeOf3
 v3:=Tryz.zeroValue3
 t4:=Tryz.underlying4
 a4:=Tryz.isAgg4
 z4:=Tryz.sizeOf4
 v4:=Tryz.zeroValue4
 t5:=Tryz.underlying5
 a5:=Tryz.isAgg5
 z5:=Tryz.sizeOf5
 v5:=Tryz.zeroValue5
 t9:=Tryz.underlying9
 a9:=Tryz.isAgg9
 z9:=Tryz.sizeOf9
 v9:=Tryz.zeroValue9
 t46:=Tryz.underlying264
 a46:=Tryz.isAgg264
 z46:=Tryz.sizeOf264
 v46:=Tryz.zeroValue264
 t51:=Tryz.underlying306
 a51:=Tryz.isAgg306
 z51:=Tryz.sizeOf306
 v51:=Tryz.zeroValue306
 t146:=Tryz.underlying365
 a146:=Tryz.isAgg365
 z146:=Tryz.sizeOf365
 v146:=Tryz.zeroValue365
 g1:=by kernel_rfl}
open Go.RowKit Go.Lib in
def Tryz.strings_Contains (s sub:ByteArray) (m:Int) (w:World) (hs:s.size<4294967281) (hm:w.cell? ⟨3,0,none⟩=some (.int .i64 m)):
  Calls Tryz.prog 288 #[.string s,.string sub] w fun e w'=>e= .returned (.bool (Lib.contains s.data.toList sub.data.toList))/\w'=w:=Any.strings_Contains Tryz.TS s sub m w hs hm
end Go.Proofs
