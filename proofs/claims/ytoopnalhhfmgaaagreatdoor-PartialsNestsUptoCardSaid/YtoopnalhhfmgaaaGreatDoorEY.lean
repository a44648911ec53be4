/- The examples of the chapter, by computation: all of them. -/
import Derived.Test.YtoopnalhhfmgaaaGreatDoorEX
set_option linter.defProp false
set_option linter.unusedSimpArgs false
set_option linter.unusedVariables false
set_option maxHeartbeats 0
namespace Go.Proofs.YtoopnalhhfmgaaaGreatDoor
open Go Go.V
set_option maxRecDepth 100000
variable {gl:List (Nat×List AV)}
section
open Go.Lib
def tst (m0:Int):Bool:=match om (fun f=>QU.lookup f) prF 20000 60 4 [] (.none (oE m0)) with
 |some (.ok (.bool true),_)=>true
 |_=>false
def PA (m0:Int):tst m0=true:=by kernel_rfl
def c4 (m0:Int) (hg:ae (oE m0)):Pure Tryz.prog (oE m0) 4 [] (.ok (.bool true)):=by
 have ht:=PA m0;unfold tst at ht;split at ht
 ·rename_i S' h;exact Pure.ofE (fun f en e=>CE Nd e) (aaG hg) hg (fb:=20000) (fu:=60) rfl rfl ⟨S',h⟩
 ·cases ht
end
end Go.Proofs.YtoopnalhhfmgaaaGreatDoor
