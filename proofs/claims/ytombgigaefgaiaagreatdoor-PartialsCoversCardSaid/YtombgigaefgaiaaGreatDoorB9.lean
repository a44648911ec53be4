/- The law: Cover agrees with the reference, and divides intervals. -/
import Derived.Test.YtombgigaefgaiaaGreatDoorB8
import Derived.Test.YtombgigaefgaiaaGreatDoorB2b
set_option linter.unusedSimpArgs false
set_option linter.unusedVariables false
namespace Go.Proofs.YtombgigaefgaiaaGreatDoor
open Go Go.V
set_option maxRecDepth 40000
attribute [local go_sem ↓] keepK Opd.ev MK.ev MK.ob gsA
attribute [local go_sem high] gsB
attribute [local go_sem] binEv binOb intOp strOp unEv eqvEv eqCells eqCell noBld tasEv AV.there AV.plus pickCells storeEv AV.solid AV.cells splice putParts rowOK fldEv iarrEv extEv minEv nonNil lenEv isStr appEv appOb appArg slVecEv slVecOb slStrEv slStrOb bnd argF endQ rvsEv rvEv resOf St.none if_true if_false ite_self eq_self ne_eq implies_true forall_const Lab.av Val.av Exa.av Dset.av Req.av gsC
theorem vB (a b : Int) (h1 : 0 ≤ a) (h2 : a ≤ b) (h3 : b ≤ 1099511627776) : validB ⟨a,b⟩ = true := by simp only [validB,Bool.and_eq_true,decide_eq_true_eq]; exact ⟨h1,h2,h3⟩
theorem sB (s : Int) (h1 : 1 ≤ s) (h2 : s ≤ 1099511627776) : sizeB s = true := by simp only [sizeB,Bool.and_eq_true,decide_eq_true_eq]; exact ⟨h1,h2⟩
theorem c3_0 {m0 : Int} (hg : GlNR (glP m0)) (a b s F L : Int) (v1 : 0 ≤ a) (v2 : a ≤ b) (v3 : b ≤ 1099511627776) (s1 : 1 ≤ s) (s2 : s ≤ 1099511627776) (f1 : 0 ≤ F) (f2 : F ≤ L) (f3 : L ≤ b) (f4 : F < a + s) (f5 : b - s < L) (m1 : F.tmod s = 0) (m2 : (L + 1).tmod s = 0) (hF : F = a) (hL : L = b)
    (h5 : Pure Tryz.prog (glP m0) 5 [.agg [.int .i64 (a),.int .i64 (b)],.int .i64 s] (.ok (.tup [.agg [.int .i64 (F),.int .i64 (L)],.bool true,.sl 2 [] .unk])))
    (h6 : Pure Tryz.prog (glP m0) 6 [.agg [.int .i64 (a),.int .i64 (b)],.int .i64 s] (.ok (.tup [.agg [.int .i64 (F),.int .i64 (L)],.bool true,.sl 2 [] .unk]))) :
    Pure Tryz.prog (glP m0) 3 [.agg [.int .i64 (a),.int .i64 (b)],.int .i64 s] (.ok (.bool true)) := by
  have s0 : (s = 0) = False := eq_false (by omega)
  have wL : IntKind.i64.wrap (L + 1) = L + 1 := wrap_i64_in (by omega) (by omega)
  subst hF hL
  have h4 := c4 m0 hg
  have h8 := c8 (gl := glP m0) ⟨F,L⟩
  rw [vB _ _ (by omega) (by omega) (by omega)] at h8
  have h9 := c9 (gl := glP m0) s
  rw [sB _ s1 s2] at h9
  have h7 := c7 (gl := glP m0) hg [] [] .unk .unk (by simp)
  rw [show (([] : List Ivl) == []) = true from beq_self_eq_true _] at h7
  have h7b := c7 (gl := glP m0) hg [⟨F,L⟩] [⟨F,L⟩] .unk .unk (by simp)
  rw [show (([⟨F,L⟩] : List Ivl) == [⟨F,L⟩]) = true from beq_self_eq_true _] at h7b
  simp only [List.map_cons,List.map_nil,Ivl.av] at h7 h7b h8
  have h10 := c10_1 (gl := glP m0) hg ⟨F,L⟩ (vB _ _ (by omega) (by omega) (by omega))
  dsimp only at h10
  refine ⟨?_,by simp only [fgs,nrs,forall_eq_or_imp,forall_eq,implies_true],by simp only [nrs,forall_eq_or_imp,forall_eq,implies_true]⟩
  simp only [fgs]
  refine .of_run is3 (by simp) (mw_sound 200 ?_)
  repeat' first
    | with_reducible first | refine mw_as m3.eq_1 ?_ | refine opn m3k0.eq_1 ?_ | refine opn m3k1.eq_1 ?_ | refine opn m3k2.eq_1 ?_ | refine opn m3k3.eq_1 ?_ | refine opn m3k4.eq_1 ?_ | refine opn m3k5.eq_1 ?_ | refine opn m3k6.eq_1 ?_ | refine MRun.loop1 (mw_sound 60 (mw_as m3l0.eq_1 ?_)) | refine MRun.inLoop (mw_sound 60 (mw_as m3l0.eq_1 ?_)) | refine .pu (h4) hg rfl ?_ | refine .pu (h5) hg rfl ?_ | refine .pu (h6) hg rfl ?_ | refine .pu (h8) hg rfl ?_ | refine .pu (h9) hg rfl ?_ | refine .pu (Pure.conv (h10) (by simp only [fgs])) hg rfl ?_ | refine .pu (h7) hg rfl ?_ | refine .pu (Pure.conv (h7b) (by simp only [fgs])) hg rfl ?_ | refine ⟨?_,?_⟩ | intro _
    | simp only [go_sem,↓reduceIte,Nat.reduceAdd,Nat.reduceLeDiff,Nat.reduceEqDiff,Nat.reduceBEq,Nat.reduceBNe,Nat.reduceMul,Nat.reduceLT,reduceCtorEq,Int.reduceLT,Int.reduceLE,Int.reduceToNat,Int.reduceNeg,  nc0,nc1,nc2,nc3,wr00,wr11,wr21,s0,m1,m2,wL,St.use,List.filter_cons,List.filter_nil,able_top,cmpEv]
theorem c3_1 {m0 : Int} (hg : GlNR (glP m0)) (a b s F L : Int) (v1 : 0 ≤ a) (v2 : a ≤ b) (v3 : b ≤ 1099511627776) (s1 : 1 ≤ s) (s2 : s ≤ 1099511627776) (f1 : 0 ≤ F) (f2 : F ≤ L) (f3 : L ≤ b) (f4 : F < a + s) (f5 : b - s < L) (m1 : F.tmod s = 0) (m2 : (L + 1).tmod s = 0) (hF : a < F) (hL : L = b)
    (h5 : Pure Tryz.prog (glP m0) 5 [.agg [.int .i64 (a),.int .i64 (b)],.int .i64 s] (.ok (.tup [.agg [.int .i64 (F),.int .i64 (L)],.bool true,.sl 2 [.agg [.int .i64 (a),.int .i64 (F - 1)]] .unk])))
    (h6 : Pure Tryz.prog (glP m0) 6 [.agg [.int .i64 (a),.int .i64 (b)],.int .i64 s] (.ok (.tup [.agg [.int .i64 (F),.int .i64 (L)],.bool true,.sl 2 [.agg [.int .i64 (a),.int .i64 (F - 1)]] .unk]))) :
    Pure Tryz.prog (glP m0) 3 [.agg [.int .i64 (a),.int .i64 (b)],.int .i64 s] (.ok (.bool true)) := by
  have s0 : (s = 0) = False := eq_false (by omega)
  have wL : IntKind.i64.wrap (L + 1) = L + 1 := wrap_i64_in (by omega) (by omega)
  have d1 : decide (s ≤ IntKind.i64.wrap (IntKind.i64.wrap (F - 1 - a) + 1)) = false := by rw [wrap_i64_in (x := F - 1 - a) (by omega) (by omega),wrap_i64_in (by omega) (by omega)]; exact decide_eq_false (by omega)
  subst hL
  have h4 := c4 m0 hg
  have h8 := c8 (gl := glP m0) ⟨a,L⟩
  rw [vB _ _ (by omega) (by omega) (by omega)] at h8
  have h9 := c9 (gl := glP m0) s
  rw [sB _ s1 s2] at h9
  have h7 := c7 (gl := glP m0) hg [⟨a,F - 1⟩] [⟨a,F - 1⟩] .unk .unk (by simp)
  rw [show (([⟨a,F - 1⟩] : List Ivl) == [⟨a,F - 1⟩]) = true from beq_self_eq_true _] at h7
  have h7b := c7 (gl := glP m0) hg [⟨a,L⟩] [⟨a,L⟩] .unk .unk (by simp)
  rw [show (([⟨a,L⟩] : List Ivl) == [⟨a,L⟩]) = true from beq_self_eq_true _] at h7b
  simp only [List.map_cons,List.map_nil,Ivl.av] at h7 h7b h8
  have h10 := c10_2 (gl := glP m0) hg ⟨a,F - 1⟩ ⟨F,L⟩ (vB _ _ (by omega) (by omega) (by omega)) (vB _ _ (by omega) (by omega) (by omega)) (by show F = F - 1 + 1; omega)
  dsimp only at h10
  refine ⟨?_,by simp only [fgs,nrs,forall_eq_or_imp,forall_eq,implies_true],by simp only [nrs,forall_eq_or_imp,forall_eq,implies_true]⟩
  simp only [fgs]
  refine .of_run is3 (by simp) (mw_sound 200 ?_)
  repeat' first
    | with_reducible first | refine mw_as m3.eq_1 ?_ | refine opn m3k0.eq_1 ?_ | refine opn m3k1.eq_1 ?_ | refine opn m3k2.eq_1 ?_ | refine opn m3k3.eq_1 ?_ | refine opn m3k4.eq_1 ?_ | refine opn m3k5.eq_1 ?_ | refine opn m3k6.eq_1 ?_ | refine MRun.loop1 (mw_sound 60 (mw_as m3l0.eq_1 ?_)) | refine MRun.inLoop (mw_sound 60 (mw_as m3l0.eq_1 ?_)) | refine .pu (h4) hg rfl ?_ | refine .pu (h5) hg rfl ?_ | refine .pu (h6) hg rfl ?_ | refine .pu (h8) hg rfl ?_ | refine .pu (h9) hg rfl ?_ | refine .pu (Pure.conv (h10) (by simp only [fgs])) hg rfl ?_ | refine .pu (h7) hg rfl ?_ | refine .pu (Pure.conv (h7b) (by simp only [fgs])) hg rfl ?_ | refine ⟨?_,?_⟩ | intro _
    | simp only [go_sem,↓reduceIte,Nat.reduceAdd,Nat.reduceLeDiff,Nat.reduceEqDiff,Nat.reduceBEq,Nat.reduceBNe,Nat.reduceMul,Nat.reduceLT,reduceCtorEq,Int.reduceLT,Int.reduceLE,Int.reduceToNat,Int.reduceNeg,  nc0,nc1,nc2,nc3,wr00,wr11,wr21,s0,m1,m2,wL,St.use,List.filter_cons,List.filter_nil,able_top,cmpEv,d1]
theorem c3_2 {m0 : Int} (hg : GlNR (glP m0)) (a b s F L : Int) (v1 : 0 ≤ a) (v2 : a ≤ b) (v3 : b ≤ 1099511627776) (s1 : 1 ≤ s) (s2 : s ≤ 1099511627776) (f1 : 0 ≤ F) (f2 : F ≤ L) (f3 : L ≤ b) (f4 : F < a + s) (f5 : b - s < L) (m1 : F.tmod s = 0) (m2 : (L + 1).tmod s = 0) (hF : F = a) (hL : L < b)
    (h5 : Pure Tryz.prog (glP m0) 5 [.agg [.int .i64 (a),.int .i64 (b)],.int .i64 s] (.ok (.tup [.agg [.int .i64 (F),.int .i64 (L)],.bool true,.sl 2 [.agg [.int .i64 (L + 1),.int .i64 (b)]] .unk])))
    (h6 : Pure Tryz.prog (glP m0) 6 [.agg [.int .i64 (a),.int .i64 (b)],.int .i64 s] (.ok (.tup [.agg [.int .i64 (F),.int .i64 (L)],.bool true,.sl 2 [.agg [.int .i64 (L + 1),.int .i64 (b)]] .unk]))) :
    Pure Tryz.prog (glP m0) 3 [.agg [.int .i64 (a),.int .i64 (b)],.int .i64 s] (.ok (.bool true)) := by
  have s0 : (s = 0) = False := eq_false (by omega)
  have wL : IntKind.i64.wrap (L + 1) = L + 1 := wrap_i64_in (by omega) (by omega)
  have d2 : decide (s ≤ IntKind.i64.wrap (IntKind.i64.wrap (b - (L + 1)) + 1)) = false := by rw [wrap_i64_in (x := b - (L + 1)) (by omega) (by omega),wrap_i64_in (by omega) (by omega)]; exact decide_eq_false (by omega)
  subst hF
  have h4 := c4 m0 hg
  have h8 := c8 (gl := glP m0) ⟨F,b⟩
  rw [vB _ _ (by omega) (by omega) (by omega)] at h8
  have h9 := c9 (gl := glP m0) s
  rw [sB _ s1 s2] at h9
  have h7 := c7 (gl := glP m0) hg [⟨L + 1,b⟩] [⟨L + 1,b⟩] .unk .unk (by simp)
  rw [show (([⟨L + 1,b⟩] : List Ivl) == [⟨L + 1,b⟩]) = true from beq_self_eq_true _] at h7
  have h7b := c7 (gl := glP m0) hg [⟨F,b⟩] [⟨F,b⟩] .unk .unk (by simp)
  rw [show (([⟨F,b⟩] : List Ivl) == [⟨F,b⟩]) = true from beq_self_eq_true _] at h7b
  simp only [List.map_cons,List.map_nil,Ivl.av] at h7 h7b h8
  have h10 := c10_2s (gl := glP m0) hg ⟨F,L⟩ ⟨L + 1,b⟩ (vB _ _ (by omega) (by omega) (by omega)) (vB _ _ (by omega) (by omega) (by omega)) rfl
  dsimp only at h10
  refine ⟨?_,by simp only [fgs,nrs,forall_eq_or_imp,forall_eq,implies_true],by simp only [nrs,forall_eq_or_imp,forall_eq,implies_true]⟩
  simp only [fgs]
  refine .of_run is3 (by simp) (mw_sound 200 ?_)
  repeat' first
    | with_reducible first | refine mw_as m3.eq_1 ?_ | refine opn m3k0.eq_1 ?_ | refine opn m3k1.eq_1 ?_ | refine opn m3k2.eq_1 ?_ | refine opn m3k3.eq_1 ?_ | refine opn m3k4.eq_1 ?_ | refine opn m3k5.eq_1 ?_ | refine opn m3k6.eq_1 ?_ | refine MRun.loop1 (mw_sound 60 (mw_as m3l0.eq_1 ?_)) | refine MRun.inLoop (mw_sound 60 (mw_as m3l0.eq_1 ?_)) | refine .pu (h4) hg rfl ?_ | refine .pu (h5) hg rfl ?_ | refine .pu (h6) hg rfl ?_ | refine .pu (h8) hg rfl ?_ | refine .pu (h9) hg rfl ?_ | refine .pu (Pure.conv (h10) (by simp only [fgs])) hg rfl ?_ | refine .pu (h7) hg rfl ?_ | refine .pu (Pure.conv (h7b) (by simp only [fgs])) hg rfl ?_ | refine ⟨?_,?_⟩ | intro _
    | simp only [go_sem,↓reduceIte,Nat.reduceAdd,Nat.reduceLeDiff,Nat.reduceEqDiff,Nat.reduceBEq,Nat.reduceBNe,Nat.reduceMul,Nat.reduceLT,reduceCtorEq,Int.reduceLT,Int.reduceLE,Int.reduceToNat,Int.reduceNeg,  nc0,nc1,nc2,nc3,wr00,wr11,wr21,s0,m1,m2,wL,St.use,List.filter_cons,List.filter_nil,able_top,cmpEv,d2]
theorem c3_3 {m0 : Int} (hg : GlNR (glP m0)) (a b s F L : Int) (v1 : 0 ≤ a) (v2 : a ≤ b) (v3 : b ≤ 1099511627776) (s1 : 1 ≤ s) (s2 : s ≤ 1099511627776) (f1 : 0 ≤ F) (f2 : F ≤ L) (f3 : L ≤ b) (f4 : F < a + s) (f5 : b - s < L) (m1 : F.tmod s = 0) (m2 : (L + 1).tmod s = 0) (hF : a < F) (hL : L < b)
    (h5 : Pure Tryz.prog (glP m0) 5 [.agg [.int .i64 (a),.int .i64 (b)],.int .i64 s] (.ok (.tup [.agg [.int .i64 (F),.int .i64 (L)],.bool true,.sl 2 [.agg [.int .i64 (a),.int .i64 (F - 1)],.agg [.int .i64 (L + 1),.int .i64 (b)]] .unk])))
    (h6 : Pure Tryz.prog (glP m0) 6 [.agg [.int .i64 (a),.int .i64 (b)],.int .i64 s] (.ok (.tup [.agg [.int .i64 (F),.int .i64 (L)],.bool true,.sl 2 [.agg [.int .i64 (a),.int .i64 (F - 1)],.agg [.int .i64 (L + 1),.int .i64 (b)]] .unk]))) :
    Pure Tryz.prog (glP m0) 3 [.agg [.int .i64 (a),.int .i64 (b)],.int .i64 s] (.ok (.bool true)) := by
  have s0 : (s = 0) = False := eq_false (by omega)
  have wL : IntKind.i64.wrap (L + 1) = L + 1 := wrap_i64_in (by omega) (by omega)
  have d1 : decide (s ≤ IntKind.i64.wrap (IntKind.i64.wrap (F - 1 - a) + 1)) = false := by rw [wrap_i64_in (x := F - 1 - a) (by omega) (by omega),wrap_i64_in (by omega) (by omega)]; exact decide_eq_false (by omega)
  have d2 : decide (s ≤ IntKind.i64.wrap (IntKind.i64.wrap (b - (L + 1)) + 1)) = false := by rw [wrap_i64_in (x := b - (L + 1)) (by omega) (by omega),wrap_i64_in (by omega) (by omega)]; exact decide_eq_false (by omega)
  have h4 := c4 m0 hg
  have h8 := c8 (gl := glP m0) ⟨a,b⟩
  rw [vB _ _ (by omega) (by omega) (by omega)] at h8
  have h9 := c9 (gl := glP m0) s
  rw [sB _ s1 s2] at h9
  have h7 := c7 (gl := glP m0) hg [⟨a,F - 1⟩,⟨L + 1,b⟩] [⟨a,F - 1⟩,⟨L + 1,b⟩] .unk .unk (by simp)
  rw [show (([⟨a,F - 1⟩,⟨L + 1,b⟩] : List Ivl) == [⟨a,F - 1⟩,⟨L + 1,b⟩]) = true from beq_self_eq_true _] at h7
  have h7b := c7 (gl := glP m0) hg [⟨a,b⟩] [⟨a,b⟩] .unk .unk (by simp)
  rw [show (([⟨a,b⟩] : List Ivl) == [⟨a,b⟩]) = true from beq_self_eq_true _] at h7b
  simp only [List.map_cons,List.map_nil,Ivl.av] at h7 h7b h8
  have h10 := c10_3 (gl := glP m0) hg ⟨a,F - 1⟩ ⟨F,L⟩ ⟨L + 1,b⟩ (vB _ _ (by omega) (by omega) (by omega)) (vB _ _ (by omega) (by omega) (by omega)) (vB _ _ (by omega) (by omega) (by omega)) (by show F = F - 1 + 1; omega) rfl
  dsimp only at h10
  refine ⟨?_,by simp only [fgs,nrs,forall_eq_or_imp,forall_eq,implies_true],by simp only [nrs,forall_eq_or_imp,forall_eq,implies_true]⟩
  simp only [fgs]
  refine .of_run is3 (by simp) (mw_sound 200 ?_)
  repeat' first
    | with_reducible first | refine mw_as m3.eq_1 ?_ | refine opn m3k0.eq_1 ?_ | refine opn m3k1.eq_1 ?_ | refine opn m3k2.eq_1 ?_ | refine opn m3k3.eq_1 ?_ | refine opn m3k4.eq_1 ?_ | refine opn m3k5.eq_1 ?_ | refine opn m3k6.eq_1 ?_ | refine MRun.loop1 (mw_sound 60 (mw_as m3l0.eq_1 ?_)) | refine MRun.inLoop (mw_sound 60 (mw_as m3l0.eq_1 ?_)) | refine .pu (h4) hg rfl ?_ | refine .pu (h5) hg rfl ?_ | refine .pu (h6) hg rfl ?_ | refine .pu (h8) hg rfl ?_ | refine .pu (h9) hg rfl ?_ | refine .pu (Pure.conv (h10) (by simp only [fgs])) hg rfl ?_ | refine .pu (h7) hg rfl ?_ | refine .pu (Pure.conv (h7b) (by simp only [fgs])) hg rfl ?_ | refine ⟨?_,?_⟩ | intro _
    | simp only [go_sem,↓reduceIte,Nat.reduceAdd,Nat.reduceLeDiff,Nat.reduceEqDiff,Nat.reduceBEq,Nat.reduceBNe,Nat.reduceMul,Nat.reduceLT,reduceCtorEq,Int.reduceLT,Int.reduceLE,Int.reduceToNat,Int.reduceNeg,  nc0,nc1,nc2,nc3,wr00,wr11,wr21,s0,m1,m2,wL,St.use,List.filter_cons,List.filter_nil,able_top,cmpEv,d1,d2]
theorem c3_inv {m0 : Int} (hg : GlNR (glP m0)) (i : Ivl) (s : Int) (h : (validB i && sizeB s) = false) : Pure Tryz.prog (glP m0) 3 [.agg [.int .i64 i.a,.int .i64 i.b],.int .i64 s] (.ok (.bool true)) := by
  have h4 := c4 m0 hg
  have h5 := c5 (gl := glP m0) hg i s
  have h6 := c6 (gl := glP m0) hg i s
  have h7 := c7 (gl := glP m0) hg [] [] .unk .unk (by simp)
  rw [show (([] : List Ivl) == []) = true from rfl] at h7
  simp only [covA,h,Bool.false_eq_true,if_false,covV,Ivl.av,List.map_nil] at h5 h6 h7
  have h8 := c8 (gl := glP m0) i
  have h9 := c9 (gl := glP m0) s
  refine ⟨?_,by simp only [fgs,nrs,forall_eq_or_imp,forall_eq,implies_true],by simp only [nrs,forall_eq_or_imp,forall_eq,implies_true]⟩
  simp only [fgs]
  refine .of_run is3 (by simp) (mw_sound 200 ?_)
  cases hv : validB i with
  | false =>
    rw [hv] at h8
    repeat' first
      | with_reducible first | refine mw_as m3.eq_1 ?_ | refine opn m3k0.eq_1 ?_ | refine opn m3k1.eq_1 ?_ | refine opn m3k2.eq_1 ?_ | refine opn m3k3.eq_1 ?_ | refine opn m3k4.eq_1 ?_ | refine opn m3k5.eq_1 ?_ | refine opn m3k6.eq_1 ?_ | refine .pu (h4) hg rfl ?_ | refine .pu (h5) hg rfl ?_ | refine .pu (h6) hg rfl ?_ | refine .pu (h8) hg rfl ?_ | refine .pu (h7) hg rfl ?_ | refine ⟨?_,?_⟩ | intro _
      | simp only [go_sem,↓reduceIte,Nat.reduceAdd,Nat.reduceLeDiff,Nat.reduceEqDiff,Nat.reduceBEq,Nat.reduceBNe,Nat.reduceMul,Nat.reduceLT,reduceCtorEq,Int.reduceLT,Int.reduceLE,Int.reduceToNat,Int.reduceNeg,  nc0,cmpEv]
  | true =>
    rw [hv,Bool.true_and] at h
    rw [hv] at h8
    rw [h] at h9
    repeat' first
      | with_reducible first | refine mw_as m3.eq_1 ?_ | refine opn m3k0.eq_1 ?_ | refine opn m3k1.eq_1 ?_ | refine opn m3k2.eq_1 ?_ | refine opn m3k3.eq_1 ?_ | refine opn m3k4.eq_1 ?_ | refine opn m3k5.eq_1 ?_ | refine opn m3k6.eq_1 ?_ | refine .pu (h4) hg rfl ?_ | refine .pu (h5) hg rfl ?_ | refine .pu (h6) hg rfl ?_ | refine .pu (h8) hg rfl ?_ | refine .pu (h9) hg rfl ?_ | refine .pu (h7) hg rfl ?_ | refine ⟨?_,?_⟩ | intro _
      | simp only [go_sem,↓reduceIte,Nat.reduceAdd,Nat.reduceLeDiff,Nat.reduceEqDiff,Nat.reduceBEq,Nat.reduceBNe,Nat.reduceMul,Nat.reduceLT,reduceCtorEq,Int.reduceLT,Int.reduceLE,Int.reduceToNat,Int.reduceNeg,  nc0,cmpEv]
theorem c3_unc {m0 : Int} (hg : GlNR (glP m0)) (i : Ivl) (s : Int) (hv : validB i = true) (hs : sizeB s = true) (hc : covL i s < covF i s) : Pure Tryz.prog (glP m0) 3 [.agg [.int .i64 i.a,.int .i64 i.b],.int .i64 s] (.ok (.bool true)) := by
  have h4 := c4 m0 hg
  have h5 := c5 (gl := glP m0) hg i s
  have h6 := c6 (gl := glP m0) hg i s
  have h7 := c7 (gl := glP m0) hg [i] [i] .unk .unk (by simp)
  rw [show (([i] : List Ivl) == [i]) = true from beq_self_eq_true _] at h7
  simp only [covA,hv,hs,Bool.and_self,if_true,hc,covV,Ivl.av,List.map_cons,List.map_nil] at h5 h6 h7
  have h8 := c8 (gl := glP m0) i
  have h9 := c9 (gl := glP m0) s
  have h10 := c10_1 (gl := glP m0) hg i hv
  rw [hv] at h8
  rw [hs] at h9
  refine ⟨?_,by simp only [fgs,nrs,forall_eq_or_imp,forall_eq,implies_true],by simp only [nrs,forall_eq_or_imp,forall_eq,implies_true]⟩
  simp only [fgs]
  refine .of_run is3 (by simp) (mw_sound 200 ?_)
  repeat' first
    | with_reducible first | refine mw_as m3.eq_1 ?_ | refine opn m3k0.eq_1 ?_ | refine opn m3k1.eq_1 ?_ | refine opn m3k2.eq_1 ?_ | refine opn m3k3.eq_1 ?_ | refine opn m3k4.eq_1 ?_ | refine opn m3k5.eq_1 ?_ | refine opn m3k6.eq_1 ?_ | refine .pu (h4) hg rfl ?_ | refine .pu (h5) hg rfl ?_ | refine .pu (h6) hg rfl ?_ | refine .pu (h8) hg rfl ?_ | refine .pu (h9) hg rfl ?_ | refine .pu (h10) hg rfl ?_ | refine .pu (h7) hg rfl ?_ | refine .pu (Pure.conv (h7) (by simp only [fgs])) hg rfl ?_ | refine ⟨?_,?_⟩ | intro _
    | simp only [go_sem,↓reduceIte,Nat.reduceAdd,Nat.reduceLeDiff,Nat.reduceEqDiff,Nat.reduceBEq,Nat.reduceBNe,Nat.reduceMul,Nat.reduceLT,reduceCtorEq,Int.reduceLT,Int.reduceLE,Int.reduceToNat,Int.reduceNeg,  nc0,nc1,cmpEv]
theorem cov_mod {i : Ivl} {s : Int} (hv : validB i = true) (hs : sizeB s = true) (hc : ¬ covL i s < covF i s) : (covF i s).tmod s = 0 ∧ (covL i s + 1).tmod s = 0 := by
  obtain ⟨v1,v2,v3⟩ := valid_facts hv
  obtain ⟨s1,s2⟩ := size_facts hs
  obtain ⟨b1,b2,b3,b4,b5⟩ := cov_bounds hv hs
  have e1 : covF i s = (i.a + s - 1) / s * s := (ref_from v1 s1).symm
  have e2 : covL i s + 1 = (i.b + 1) / s * s := ref_to.symm
  rw [Int.tmod_eq_emod_of_nonneg b1,Int.tmod_eq_emod_of_nonneg (show 0 ≤ covL i s + 1 by omega),e1,e2]
  exact ⟨Int.mul_emod_left _ _,Int.mul_emod_left _ _⟩
theorem c3 (m0 : Int) (hg : GlNR (glP m0)) (a b s : Int) : Pure Tryz.prog (glP m0) 3 [.agg [.int .i64 a,.int .i64 b],.int .i64 s] (.ok (.bool true)) := by
  cases h : validB ⟨a,b⟩ && sizeB s with
  | false => exact c3_inv hg ⟨a,b⟩ s h
  | true =>
    rw [Bool.and_eq_true] at h
    obtain ⟨hv,hs⟩ := h
    by_cases hc : covL ⟨a,b⟩ s < covF ⟨a,b⟩ s
    · exact c3_unc hg ⟨a,b⟩ s hv hs hc
    · obtain ⟨v1,v2,v3⟩ := valid_facts hv
      obtain ⟨s1,s2⟩ := size_facts hs
      obtain ⟨b1,b2,b3,b4,b5⟩ := cov_bounds hv hs
      obtain ⟨m1,m2⟩ := cov_mod hv hs hc
      have h5 := c5 (gl := glP m0) hg ⟨a,b⟩ s
      have h6 := c6 (gl := glP m0) hg ⟨a,b⟩ s
      simp only [covA,hv,hs,Bool.and_self,if_true,hc,if_false,covV,covE,Ivl.av] at h5 h6
      generalize covF ⟨a,b⟩ s = F at *
      generalize covL ⟨a,b⟩ s = L at *
      dsimp only at v1 v2 v3 b2 b3 b4 b5
      by_cases q1 : a < F <;> by_cases q2 : L < b <;> simp only [q1,q2,if_true,if_false,List.append_nil,List.nil_append,List.cons_append,List.map_cons,List.map_nil] at h5 h6
      · exact c3_3 hg a b s F L v1 v2 v3 s1 s2 b1 (by omega) b4 b3 b5 m1 m2 q1 q2 h5 h6
      · exact c3_1 hg a b s F L v1 v2 v3 s1 s2 b1 (by omega) b4 b3 b5 m1 m2 q1 (by omega) h5 h6
      · exact c3_2 hg a b s F L v1 v2 v3 s1 s2 b1 (by omega) b4 b3 b5 m1 m2 (by omega) q2 h5 h6
      · exact c3_0 hg a b s F L v1 v2 v3 s1 s2 b1 (by omega) b4 b3 b5 m1 m2 (by omega) (by omega) h5 h6
end Go.Proofs.YtombgigaefgaiaaGreatDoor
