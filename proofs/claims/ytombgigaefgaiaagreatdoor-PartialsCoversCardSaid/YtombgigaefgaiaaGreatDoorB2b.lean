/- The examples of the chapter, by computation: all of them. -/
import Derived.Test.YtombgigaefgaiaaGreatDoorB2
set_option linter.unusedSimpArgs false
set_option linter.unusedVariables false
namespace Go.Proofs.YtombgigaefgaiaaGreatDoor
open Go Go.V Go.Lib
set_option maxRecDepth 100000
def tst (m0 : Int) : Bool := match callE (fun f => tab.lookup f) prF 20000 60 4 [] (.none (glP m0)) with
  | some (.ok (.bool true),_) => true
  | _ => false
set_option maxHeartbeats 0 in
theorem tst_true (m0 : Int) : tst m0 = true := by kernel_rfl
theorem c4 (m0 : Int) (hg : GlNR (glP m0)) : Pure Tryz.prog (glP m0) 4 [] (.ok (.bool true)) := by
  have ht := tst_true m0
  unfold tst at ht
  split at ht
  · rename_i S' h
    exact Pure.ofE (fun f en e => lookup_ok tab_ok e) (prF_ok hg) hg (fb := 20000) (fu := 60) rfl rfl ⟨S',h⟩
  · cases ht
end Go.Proofs.YtombgigaefgaiaaGreatDoor
