/- Contracts: slices.Clone of labels. -/
import Derived.Test.YtdjdhecanjmchaaGreatDoorC4
set_option linter.unusedSimpArgs false
set_option linter.unusedVariables false
namespace Go.Proofs.YtdjdhecanjmchaaGreatDoor
open Go Go.V Go.Lib
set_option maxRecDepth 40000
attribute [local go_sem ↓] keepK Opd.ev MK.ev MK.ob gsA
attribute [local go_sem high] gsB
attribute [local go_sem] binEv binOb intOp strOp unEv eqvEv eqCells eqCell noBld tasEv AV.there AV.plus pickCells storeEv AV.solid AV.cells splice putParts rowOK fldEv iarrEv extEv minEv nonNil lenEv isStr appEv appOb appArg slVecEv slVecOb slStrEv slStrOb bnd argF endQ rvsEv rvEv resOf St.none if_true if_false ite_self eq_self ne_eq implies_true forall_const Lab.av Val.av Exa.av Dset.av Req.av gsC
variable {gl : List (Nat × List AV)}
theorem c177 (hg : GlNR gl) (x : Lab) (X : List Lab) (hX : X.length < 4294960000) : MCalls Tryz.prog 177 [.sl 3 ((x :: X).map Lab.av) .unk] (.none gl) fun o S' => o = .ok (.osl 3 (X.length + 1) 0 0) ∧ S' = ⟨1,[(0,rowL (x :: X))],0,[],gl⟩ := by
  refine .of_run is177 (by simp) (mw_sound 200 ?_)
  rw [List.map_cons]
  repeat' first
    | with_reducible first | refine mw_as m177.eq_1 ?_ | refine ⟨?_,?_⟩ | intro _
    | simp only [go_sem,↓reduceIte,Nat.reduceAdd,Nat.reduceLeDiff,Nat.reduceEqDiff,Nat.reduceBEq,Nat.reduceBNe,Nat.reduceMul,Nat.reduceLT,reduceCtorEq,Int.reduceLT,Int.reduceLE,Int.reduceToNat,Int.reduceNeg,  nnEv,appOEv,appOOb,appArg]
  · omega
  · omega
  · rfl
end Go.Proofs.YtdjdhecanjmchaaGreatDoor
