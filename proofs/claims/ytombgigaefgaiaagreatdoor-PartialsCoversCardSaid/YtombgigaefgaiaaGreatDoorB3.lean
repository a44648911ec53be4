/- Contracts: intervals, their checks, and their comparison. -/
import Derived.Test.YtombgigaefgaiaaGreatDoorW1
import Derived.Test.YtombgigaefgaiaaGreatDoorQa
import Derived.Test.YtombgigaefgaiaaGreatDoorQb
import Derived.Test.YtombgigaefgaiaaGreatDoorQc
import Derived.Test.YtombgigaefgaiaaGreatDoorRa
set_option linter.unusedSimpArgs false
set_option linter.unusedVariables false
namespace Go.Proofs.YtombgigaefgaiaaGreatDoor
open Go Go.V
set_option maxRecDepth 40000
attribute [local go_sem ↓] keepK Opd.ev MK.ev MK.ob gsA
attribute [local go_sem high] gsB
attribute [local go_sem] binEv binOb intOp strOp unEv eqvEv eqCells eqCell noBld tasEv AV.there AV.plus pickCells storeEv AV.solid AV.cells splice putParts rowOK fldEv iarrEv extEv minEv nonNil lenEv isStr appEv appOb appArg slVecEv slVecOb slStrEv slStrOb bnd argF endQ rvsEv rvEv resOf St.none if_true if_false ite_self eq_self ne_eq implies_true forall_const Lab.av Val.av Exa.av Dset.av Req.av gsC
variable {gl : List (Nat × List AV)}
structure Ivl where
  a : Int
  b : Int
  deriving DecidableEq
def Ivl.av (i : Ivl) : AV := .agg [.int .i64 i.a,.int .i64 i.b]
def validB (i : Ivl) : Bool := decide (0 ≤ i.a) && (decide (i.a ≤ i.b) && decide (i.b ≤ 1099511627776))
def sizeB (s : Int) : Bool := decide (1 ≤ s) && decide (s ≤ 1099511627776)
theorem c8 (i : Ivl) : Pure Tryz.prog gl 8 [.agg [.int .i64 i.a,.int .i64 i.b]] (.ok (.bool (validB i))) := by
  refine ⟨?_,by simp only [fgs,nrs,forall_eq_or_imp,forall_eq,implies_true],by simp only [nrs,forall_eq_or_imp,forall_eq,implies_true]⟩
  simp only [fgs]
  refine .of_run is8 (by simp) (mw_sound 200 ?_)
  repeat' first
    | with_reducible first | refine mw_as m8.eq_1 ?_ | refine ⟨?_,?_⟩ | intro _
    | simp only [go_sem,↓reduceIte,Nat.reduceAdd,Nat.reduceLeDiff,Nat.reduceEqDiff,Nat.reduceBEq,Nat.reduceBNe,Nat.reduceMul,Nat.reduceLT,reduceCtorEq,Int.reduceLT,Int.reduceLE,Int.reduceToNat,Int.reduceNeg]
  all_goals (simp only [validB]; grind)
theorem c18 (i : Ivl) : Pure Tryz.prog gl 18 [.agg [.int .i64 i.a,.int .i64 i.b]] (.ok (.int .i64 (if validB i then 0 else 1))) := by
  refine ⟨?_,by simp only [fgs,nrs,forall_eq_or_imp,forall_eq,implies_true],by simp only [nrs,forall_eq_or_imp,forall_eq,implies_true]⟩
  simp only [fgs]
  refine .of_run is18 (by simp) (mw_sound 200 ?_)
  repeat' first
    | with_reducible first | refine mw_as m18.eq_1 ?_ | refine opn m18k0.eq_1 ?_ | refine opn m18k1.eq_1 ?_ | refine ⟨?_,?_⟩ | intro _
    | simp only [go_sem,↓reduceIte,Nat.reduceAdd,Nat.reduceLeDiff,Nat.reduceEqDiff,Nat.reduceBEq,Nat.reduceBNe,Nat.reduceMul,Nat.reduceLT,reduceCtorEq,Int.reduceLT,Int.reduceLE,Int.reduceToNat,Int.reduceNeg]
  all_goals (simp only [validB]; grind)
theorem c9 (s : Int) : Pure Tryz.prog gl 9 [.int .i64 s] (.ok (.bool (sizeB s))) := by
  refine ⟨?_,by simp only [fgs,nrs,forall_eq_or_imp,forall_eq,implies_true],by simp only [nrs,forall_eq_or_imp,forall_eq,implies_true]⟩
  simp only [fgs]
  refine .of_run is9 (by simp) (mw_sound 200 ?_)
  repeat' first
    | with_reducible first | refine mw_as m9.eq_1 ?_ | refine ⟨?_,?_⟩ | intro _
    | simp only [go_sem,↓reduceIte,Nat.reduceAdd,Nat.reduceLeDiff,Nat.reduceEqDiff,Nat.reduceBEq,Nat.reduceBNe,Nat.reduceMul,Nat.reduceLT,reduceCtorEq,Int.reduceLT,Int.reduceLE,Int.reduceToNat,Int.reduceNeg]
  all_goals (simp only [sizeB]; grind)
theorem c19 (s : Int) : Pure Tryz.prog gl 19 [.int .i64 s] (.ok (.bool (sizeB s))) := by
  refine ⟨?_,by simp only [fgs,nrs,forall_eq_or_imp,forall_eq,implies_true],by simp only [nrs,forall_eq_or_imp,forall_eq,implies_true]⟩
  simp only [fgs]
  refine .of_run is19 (by simp) (mw_sound 200 ?_)
  repeat' first
    | with_reducible first | refine mw_as m19.eq_1 ?_ | refine ⟨?_,?_⟩ | intro _
    | simp only [go_sem,↓reduceIte,Nat.reduceAdd,Nat.reduceLeDiff,Nat.reduceEqDiff,Nat.reduceBEq,Nat.reduceBNe,Nat.reduceMul,Nat.reduceLT,reduceCtorEq,Int.reduceLT,Int.reduceLE,Int.reduceToNat,Int.reduceNeg]
  all_goals (simp only [sizeB]; grind)
end Go.Proofs.YtombgigaefgaiaaGreatDoor
