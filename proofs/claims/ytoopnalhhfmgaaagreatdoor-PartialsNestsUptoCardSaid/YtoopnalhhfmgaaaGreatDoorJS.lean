/- The closed facts of the law's row. -/
import Derived.Test.YtoopnalhhfmgaaaGreatDoorCards
import Derived.Test.YtoopnalhhfmgaaaGreatDoorTie
import Derived.WalkKit
import Derived.ProofKit
set_option linter.defProp false
set_option linter.unusedSimpArgs false
set_option linter.unusedVariables false
set_option maxHeartbeats 16000000
namespace Go.Proofs.YtoopnalhhfmgaaaGreatDoor
open Go
set_option maxRecDepth 40000
def O4:joinedFacts Tryz.prog 3 Tryz.f3 (Rows.OpenSpec.upto Rows.partialsNestsSpec).bare Rows.partialsNestsUptoRow=true:=by
 simp only [joinedFacts,Bool.and_eq_true];refine ⟨⟨⟨⟨⟨⟨⟨⟨⟨⟨⟨⟨⟨⟨⟨⟨⟨⟨⟨⟨⟨⟨⟨⟨⟨⟨⟨⟨⟨⟨⟨?_,?_⟩,?_⟩,?_⟩,?_⟩,?_⟩,?_⟩,?_⟩,?_⟩,?_⟩,?_⟩,?_⟩,?_⟩,?_⟩,?_⟩,?_⟩,?_⟩,?_⟩,?_⟩,?_⟩,?_⟩,?_⟩,?_⟩,?_⟩,?_⟩,?_⟩,?_⟩,?_⟩,?_⟩,?_⟩,?_⟩,?_⟩
 all_goals as_aux_lemma=>kernel_rfl
end Go.Proofs.YtoopnalhhfmgaaaGreatDoor
