/- Contracts: slices.SortFunc of at most three intervals in place; Union of the parts of an interval. -/
import Derived.Test.YtombgigaefgaiaaGreatDoorB5
set_option linter.unusedSimpArgs false
set_option linter.unusedVariables false
namespace Go.Proofs.YtombgigaefgaiaaGreatDoor
open Go Go.V
set_option maxRecDepth 40000
attribute [local go_sem ↓] keepK Opd.ev MK.ev MK.ob gsA
attribute [local go_sem high] gsB
attribute [local go_sem] binEv binOb intOp strOp unEv eqvEv eqCells eqCell noBld tasEv AV.there AV.plus pickCells storeEv AV.solid AV.cells splice putParts rowOK fldEv iarrEv extEv minEv nonNil lenEv isStr appEv appOb appArg slVecEv slVecOb slStrEv slStrOb bnd argF endQ rvsEv rvEv resOf St.none if_true if_false ite_self eq_self ne_eq implies_true forall_const Lab.av Val.av Exa.av Dset.av Req.av gsC
variable {gl : List (Nat × List AV)}
theorem c67_1 : Pure Tryz.prog gl 67 [.int .u64 1] (.ok (.int .i64 1)) := by
  refine ⟨?_,by simp only [fgs,nrs,forall_eq_or_imp,forall_eq,implies_true],by simp only [nrs,forall_eq_or_imp,forall_eq,implies_true]⟩
  simp only [fgs]
  refine .of_run is67 (by simp) (mw_sound 200 ?_)
  repeat' first
    | with_reducible first | refine mw_as m67.eq_1 ?_ | refine opn m67k0.eq_1 ?_ | refine opn m67k1.eq_1 ?_ | refine opn m67k2.eq_1 ?_ | refine ⟨?_,?_⟩ | intro _
    | simp only [go_sem,↓reduceIte,Nat.reduceAdd,Nat.reduceLeDiff,Nat.reduceEqDiff,Nat.reduceBEq,Nat.reduceBNe,Nat.reduceMul,Nat.reduceLT,reduceCtorEq,Int.reduceLT,Int.reduceLE,Int.reduceToNat,Int.reduceNeg,  show IntKind.u8.wrap 1 = 1 from by decide,show IntKind.i64.wrap ((1 : UInt8).toNat : Int) = 1 from by decide,show IntKind.i64.wrap ((0 : Int) + 1) = 1 from by decide]
theorem c67_2 : Pure Tryz.prog gl 67 [.int .u64 2] (.ok (.int .i64 2)) := by
  refine ⟨?_,by simp only [fgs,nrs,forall_eq_or_imp,forall_eq,implies_true],by simp only [nrs,forall_eq_or_imp,forall_eq,implies_true]⟩
  simp only [fgs]
  refine .of_run is67 (by simp) (mw_sound 200 ?_)
  repeat' first
    | with_reducible first | refine mw_as m67.eq_1 ?_ | refine opn m67k0.eq_1 ?_ | refine opn m67k1.eq_1 ?_ | refine opn m67k2.eq_1 ?_ | refine ⟨?_,?_⟩ | intro _
    | simp only [go_sem,↓reduceIte,Nat.reduceAdd,Nat.reduceLeDiff,Nat.reduceEqDiff,Nat.reduceBEq,Nat.reduceBNe,Nat.reduceMul,Nat.reduceLT,reduceCtorEq,Int.reduceLT,Int.reduceLE,Int.reduceToNat,Int.reduceNeg,  show IntKind.u8.wrap 2 = 2 from by decide,show IntKind.i64.wrap ((2 : UInt8).toNat : Int) = 2 from by decide,show IntKind.i64.wrap ((0 : Int) + 2) = 2 from by decide]
theorem c67_3 : Pure Tryz.prog gl 67 [.int .u64 3] (.ok (.int .i64 2)) := by
  refine ⟨?_,by simp only [fgs,nrs,forall_eq_or_imp,forall_eq,implies_true],by simp only [nrs,forall_eq_or_imp,forall_eq,implies_true]⟩
  simp only [fgs]
  refine .of_run is67 (by simp) (mw_sound 200 ?_)
  repeat' first
    | with_reducible first | refine mw_as m67.eq_1 ?_ | refine opn m67k0.eq_1 ?_ | refine opn m67k1.eq_1 ?_ | refine opn m67k2.eq_1 ?_ | refine ⟨?_,?_⟩ | intro _
    | simp only [go_sem,↓reduceIte,Nat.reduceAdd,Nat.reduceLeDiff,Nat.reduceEqDiff,Nat.reduceBEq,Nat.reduceBNe,Nat.reduceMul,Nat.reduceLT,reduceCtorEq,Int.reduceLT,Int.reduceLE,Int.reduceToNat,Int.reduceNeg,  show IntKind.u8.wrap 3 = 3 from by decide,show IntKind.i64.wrap ((2 : UInt8).toNat : Int) = 2 from by decide,show IntKind.i64.wrap ((0 : Int) + 2) = 2 from by decide]
theorem c38_1 (hg : GlNR gl) : Pure Tryz.prog gl 38 [.int .u64 1] (.ok (.int .i64 1)) := by
  refine ⟨?_,by simp only [fgs,nrs,forall_eq_or_imp,forall_eq,implies_true],by simp only [nrs,forall_eq_or_imp,forall_eq,implies_true]⟩
  simp only [fgs]
  refine .of_run is38 (by simp) (mw_sound 200 ?_)
  repeat' first
    | with_reducible first | refine mw_as m38.eq_1 ?_ | refine .pu (c67_1) hg rfl ?_ | refine ⟨?_,?_⟩ | intro _
    | simp only [go_sem,↓reduceIte,Nat.reduceAdd,Nat.reduceLeDiff,Nat.reduceEqDiff,Nat.reduceBEq,Nat.reduceBNe,Nat.reduceMul,Nat.reduceLT,reduceCtorEq,Int.reduceLT,Int.reduceLE,Int.reduceToNat,Int.reduceNeg]
theorem c38_2 (hg : GlNR gl) : Pure Tryz.prog gl 38 [.int .u64 2] (.ok (.int .i64 2)) := by
  refine ⟨?_,by simp only [fgs,nrs,forall_eq_or_imp,forall_eq,implies_true],by simp only [nrs,forall_eq_or_imp,forall_eq,implies_true]⟩
  simp only [fgs]
  refine .of_run is38 (by simp) (mw_sound 200 ?_)
  repeat' first
    | with_reducible first | refine mw_as m38.eq_1 ?_ | refine .pu (c67_2) hg rfl ?_ | refine ⟨?_,?_⟩ | intro _
    | simp only [go_sem,↓reduceIte,Nat.reduceAdd,Nat.reduceLeDiff,Nat.reduceEqDiff,Nat.reduceBEq,Nat.reduceBNe,Nat.reduceMul,Nat.reduceLT,reduceCtorEq,Int.reduceLT,Int.reduceLE,Int.reduceToNat,Int.reduceNeg]
theorem c38_3 (hg : GlNR gl) : Pure Tryz.prog gl 38 [.int .u64 3] (.ok (.int .i64 2)) := by
  refine ⟨?_,by simp only [fgs,nrs,forall_eq_or_imp,forall_eq,implies_true],by simp only [nrs,forall_eq_or_imp,forall_eq,implies_true]⟩
  simp only [fgs]
  refine .of_run is38 (by simp) (mw_sound 200 ?_)
  repeat' first
    | with_reducible first | refine mw_as m38.eq_1 ?_ | refine .pu (c67_3) hg rfl ?_ | refine ⟨?_,?_⟩ | intro _
    | simp only [go_sem,↓reduceIte,Nat.reduceAdd,Nat.reduceLeDiff,Nat.reduceEqDiff,Nat.reduceBEq,Nat.reduceBNe,Nat.reduceMul,Nat.reduceLT,reduceCtorEq,Int.reduceLT,Int.reduceLE,Int.reduceToNat,Int.reduceNeg]
theorem c37 (d : Int) (n : Nat) (hn : (n : Int) ≤ 12) (m l nt : Nat) (cs ds : List AV) (h : MCalls Tryz.prog 58 [.osl 2 n l 0,.int .i64 0,.int .i64 n,.fn (.func 21) [] []] ⟨m,[(l,cs)],nt,[],gl⟩ fun o S' => o = .ok (.tup []) ∧ S' = ⟨m,[(l,ds)],nt,[],gl⟩) :
    MCalls Tryz.prog 37 [.osl 2 n l 0,.int .i64 0,.int .i64 n,.int .i64 d,.fn (.func 21) [] []] ⟨m,[(l,cs)],nt,[],gl⟩ fun o S' => o = .ok (.tup []) ∧ S' = ⟨m,[(l,ds)],nt,[],gl⟩ := by
  refine .of_run is37 (by simp) (mw_sound 200 ?_)
  have w : IntKind.i64.wrap ((n : Int) - 0) = n := wrap_i64_in (by omega) (by omega)
  have hd : decide ((n : Int) ≤ 12) = true := decide_eq_true hn
  repeat' first
    | with_reducible first | refine mw_as m37.eq_1 ?_ | refine opn m37k0.eq_1 ?_ | refine opn m37k1.eq_1 ?_ | refine opn m37k2.eq_1 ?_ | refine opn m37k3.eq_1 ?_ | refine opn m37k4.eq_1 ?_ | refine opn m37k5.eq_1 ?_ | refine MRun.loop1 (mw_sound 60 (mw_as m37l0.eq_1 ?_)) | refine MRun.inLoop (mw_sound 60 (mw_as m37l0.eq_1 ?_)) | refine CallK.eff (h) ?_ | refine ⟨?_,?_⟩ | intro _
    | simp only [go_sem,↓reduceIte,Nat.reduceAdd,Nat.reduceLeDiff,Nat.reduceEqDiff,Nat.reduceBEq,Nat.reduceBNe,Nat.reduceMul,Nat.reduceLT,reduceCtorEq,Int.reduceLT,Int.reduceLE,Int.reduceToNat,Int.reduceNeg,  w,hd]
theorem c20 (hg : GlNR gl) (n : Nat) (hn : n = 1 ∨ n = 2 ∨ n = 3) (m l nt : Nat) (cs ds : List AV) (h : MCalls Tryz.prog 58 [.osl 2 n l 0,.int .i64 0,.int .i64 n,.fn (.func 21) [] []] ⟨m,[(l,cs)],nt,[],gl⟩ fun o S' => o = .ok (.tup []) ∧ S' = ⟨m,[(l,ds)],nt,[],gl⟩) :
    MCalls Tryz.prog 20 [.osl 2 n l 0,.fn (.func 21) [] []] ⟨m,[(l,cs)],nt,[],gl⟩ fun o S' => o = .ok (.tup []) ∧ S' = ⟨m,[(l,ds)],nt,[],gl⟩ := by
  refine .of_run is20 (by simp) (mw_sound 200 ?_)
  have h1 : ∃ d,Pure Tryz.prog gl 38 [.int .u64 (IntKind.u64.wrap (n : Int))] (.ok (.int .i64 d)) := by
    rcases hn with rfl | rfl | rfl
    · exact ⟨_,c38_1 hg⟩
    · exact ⟨_,c38_2 hg⟩
    · exact ⟨_,c38_3 hg⟩
  obtain ⟨d,h1⟩ := h1
  have h2 := c37 (gl := gl) d n (by omega) m l nt cs ds h
  repeat' first
    | with_reducible first | refine mw_as m20.eq_1 ?_ | refine .pu (h1) hg rfl ?_ | refine CallK.eff (h2) ?_ | refine ⟨?_,?_⟩ | intro _
    | simp only [go_sem,↓reduceIte,Nat.reduceAdd,Nat.reduceLeDiff,Nat.reduceEqDiff,Nat.reduceBEq,Nat.reduceBNe,Nat.reduceMul,Nat.reduceLT,reduceCtorEq,Int.reduceLT,Int.reduceLE,Int.reduceToNat,Int.reduceNeg]
end Go.Proofs.YtombgigaefgaiaaGreatDoor
