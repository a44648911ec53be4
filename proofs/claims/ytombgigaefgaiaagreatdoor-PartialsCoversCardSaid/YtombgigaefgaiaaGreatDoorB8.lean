/- Contracts: Union of the parts of an interval. -/
import Derived.Test.YtombgigaefgaiaaGreatDoorB7
set_option linter.unusedSimpArgs false
set_option linter.unusedVariables false
namespace Go.Proofs.YtombgigaefgaiaaGreatDoor
open Go Go.V
set_option maxRecDepth 40000
attribute [local go_sem ↓] keepK Opd.ev MK.ev MK.ob gsA
attribute [local go_sem high] gsB
attribute [local go_sem] binEv binOb intOp strOp unEv eqvEv eqCells eqCell noBld tasEv AV.there AV.plus pickCells storeEv AV.solid AV.cells splice putParts rowOK fldEv iarrEv extEv minEv nonNil lenEv isStr appEv appOb appArg slVecEv slVecOb slStrEv slStrOb bnd argF endQ rvsEv rvEv resOf St.none if_true if_false ite_self eq_self ne_eq implies_true forall_const Lab.av Val.av Exa.av Dset.av Req.av gsC
variable {gl : List (Nat × List AV)}
theorem ne00 : ((0 : Int) == 0) = true := rfl
theorem MCalls.pre {P : Program} {f : FuncId} {xs : List AV} {S S' : St} {K : Out → St → Prop} (h : MCalls P f xs S' K) (hle : S.le S') : MCalls P f xs S K := fun wb G w vs hS hv => h wb G w vs (hS.weak hle) hv
theorem le_one {m nt l : Nat} {cs : List AV} {ob : List (Nat × List AV)} {lv : List Nat} (h : List.lookup l ob = some cs) : St.le ⟨m,ob,nt,lv,gl⟩ ⟨m,[(l,cs)],nt,[],gl⟩ := by
  refine ⟨rfl,rfl,rfl,fun k ds e => ?_,fun t ht => by cases ht⟩
  simp only [St.get,List.lookup_cons,List.lookup_nil] at e ⊢
  split at e
  · rename_i hk
    have : k = l := by simpa using hk
    subst this
    rw [h]
    exact e
  · cases e
theorem c10_1 (hg : GlNR gl) (x : Ivl) (hx : validB x = true)  :
    Pure Tryz.prog gl 10 [.sl 2 [.agg [.int .i64 x.a,.int .i64 x.b]] .unk] (.ok (.sl 2 [.agg [.int .i64 x.a,.int .i64 x.b]] .unk)) := by
  refine ⟨?_,by simp only [fgs]; intro c hc; simp only [List.mem_cons,List.not_mem_nil,or_false] at hc; subst hc; exact of_eq_true (nr_ivls 2 [x]),of_eq_true (nr_ivls 2 [x])⟩
  simp only [fgs]
  refine .of_run is10 (by simp) (mw_sound 200 ?_)
  repeat' first
    | with_reducible first | refine mw_as m10.eq_1 ?_ | refine opn m10k0.eq_1 ?_ | refine MRun.loop1 (mw_sound 60 (mw_as m10l0.eq_1 ?_)) | refine MRun.inLoop (mw_sound 60 (mw_as m10l0.eq_1 ?_)) | refine .pu (c18 x) hg rfl ?_ | refine ⟨?_,?_⟩ | intro _
    | simp only [go_sem,↓reduceIte,Nat.reduceAdd,Nat.reduceLeDiff,Nat.reduceEqDiff,Nat.reduceBEq,Nat.reduceBNe,Nat.reduceMul,Nat.reduceLT,reduceCtorEq,Int.reduceLT,Int.reduceLE,Int.reduceToNat,Int.reduceNeg,  nc0,nc1,nc2,nc3,wr00,wr11,wr21,wr1,wr2,appGEv,appGOb,appSrc,oslLen,oslN,oslCells,appOEv,appOOb,flat_cons,flat_nil,ne00,hx]
  rw [m10k1.eq_1]
  refine MRun.seq (MRun.reg ?_)
  simp only [go_sem,↓reduceIte,Nat.reduceAdd,Nat.reduceLeDiff,Nat.reduceEqDiff,Nat.reduceBEq,Nat.reduceBNe,Nat.reduceMul,Nat.reduceLT,reduceCtorEq,Int.reduceLT,Int.reduceLE,Int.reduceToNat,Int.reduceNeg]
  refine CallK.eff (MCalls.pre (c20 hg 1 (.inl rfl) _ _ _ _ _ (c58_1 x _ _ _)) (le_one rfl)) ?_
  simp only [go_sem,↓reduceIte,Nat.reduceAdd,Nat.reduceLeDiff,Nat.reduceEqDiff,Nat.reduceBEq,Nat.reduceBNe,Nat.reduceMul,Nat.reduceLT,reduceCtorEq,Int.reduceLT,Int.reduceLE,Int.reduceToNat,Int.reduceNeg]
  refine MRun.freeze (k := 2) (xs := [.agg [.int .i64 x.a,.int .i64 x.b]]) (ob' := []) (F' := [(3,.sl 2 [.agg [.int .i64 x.a,.int .i64 x.b]] .unk)]) ?_ rfl rfl (by intro v hv; simp only [List.mem_cons,List.not_mem_nil,or_false] at hv; rcases hv with rfl <;> rfl) (fun l' cs' e => by cases e) (fz_cons (.all rfl) fz_nil)
  have h22 := c22_1 (gl := gl) hg x.a x.b
  refine mw_sound 60 ?_
  repeat' first
    | with_reducible first | refine mw_as m10.eq_1 ?_ | refine opn m10k0.eq_1 ?_ | refine .pu (h22) hg rfl ?_ | refine ⟨?_,?_⟩ | intro _
    | simp only [go_sem,↓reduceIte,Nat.reduceAdd,Nat.reduceLeDiff,Nat.reduceEqDiff,Nat.reduceBEq,Nat.reduceBNe,Nat.reduceMul,Nat.reduceLT,reduceCtorEq,Int.reduceLT,Int.reduceLE,Int.reduceToNat,Int.reduceNeg]
theorem c10_2 (hg : GlNR gl) (x y : Ivl) (hx : validB x = true) (hy : validB y = true) (h : y.a = x.b + 1) :
    Pure Tryz.prog gl 10 [.sl 2 [.agg [.int .i64 x.a,.int .i64 x.b],.agg [.int .i64 y.a,.int .i64 y.b]] .unk] (.ok (.sl 2 [.agg [.int .i64 x.a,.int .i64 y.b]] .unk)) := by
  obtain ⟨x1,x2,x3⟩ := valid_facts hx
  obtain ⟨y1,y2,y3⟩ := valid_facts hy
  refine ⟨?_,by simp only [fgs]; intro c hc; simp only [List.mem_cons,List.not_mem_nil,or_false] at hc; subst hc; exact of_eq_true (nr_ivls 2 [x,y]),of_eq_true (nr_ivls 2 [⟨x.a,y.b⟩])⟩
  simp only [fgs]
  refine .of_run is10 (by simp) (mw_sound 200 ?_)
  repeat' first
    | with_reducible first | refine mw_as m10.eq_1 ?_ | refine opn m10k0.eq_1 ?_ | refine MRun.loop1 (mw_sound 60 (mw_as m10l0.eq_1 ?_)) | refine MRun.inLoop (mw_sound 60 (mw_as m10l0.eq_1 ?_)) | refine .pu (c18 x) hg rfl ?_ | refine .pu (c18 y) hg rfl ?_ | refine ⟨?_,?_⟩ | intro _
    | simp only [go_sem,↓reduceIte,Nat.reduceAdd,Nat.reduceLeDiff,Nat.reduceEqDiff,Nat.reduceBEq,Nat.reduceBNe,Nat.reduceMul,Nat.reduceLT,reduceCtorEq,Int.reduceLT,Int.reduceLE,Int.reduceToNat,Int.reduceNeg,  nc0,nc1,nc2,nc3,wr00,wr11,wr21,wr1,wr2,appGEv,appGOb,appSrc,oslLen,oslN,oslCells,appOEv,appOOb,flat_cons,flat_nil,ne00,hx,hy]
  rw [m10k1.eq_1]
  refine MRun.seq (MRun.reg ?_)
  simp only [go_sem,↓reduceIte,Nat.reduceAdd,Nat.reduceLeDiff,Nat.reduceEqDiff,Nat.reduceBEq,Nat.reduceBNe,Nat.reduceMul,Nat.reduceLT,reduceCtorEq,Int.reduceLT,Int.reduceLE,Int.reduceToNat,Int.reduceNeg]
  refine CallK.eff (MCalls.pre (c20 hg 2 (.inr (.inl rfl)) _ _ _ _ _ (c58_2 hg x y _ _ _ (by rw [wrap_i64_in (by omega) (by omega)]; exact decide_eq_false (by omega)))) (le_one rfl)) ?_
  simp only [go_sem,↓reduceIte,Nat.reduceAdd,Nat.reduceLeDiff,Nat.reduceEqDiff,Nat.reduceBEq,Nat.reduceBNe,Nat.reduceMul,Nat.reduceLT,reduceCtorEq,Int.reduceLT,Int.reduceLE,Int.reduceToNat,Int.reduceNeg]
  refine MRun.freeze (k := 2) (xs := [.agg [.int .i64 x.a,.int .i64 x.b],.agg [.int .i64 y.a,.int .i64 y.b]]) (ob' := []) (F' := [(3,.sl 2 [.agg [.int .i64 x.a,.int .i64 x.b],.agg [.int .i64 y.a,.int .i64 y.b]] .unk)]) ?_ rfl rfl (by intro v hv; simp only [List.mem_cons,List.not_mem_nil,or_false] at hv; rcases hv with rfl | rfl <;> rfl) (fun l' cs' e => by cases e) (fz_cons (.all rfl) fz_nil)
  have h22 := c22_2 (gl := gl) hg x.a x.b y.a y.b (by rw [wrap_i64_in (by omega) (by omega)]; exact decide_eq_true (by omega)) (eq_true (by omega))
  refine mw_sound 60 ?_
  repeat' first
    | with_reducible first | refine mw_as m10.eq_1 ?_ | refine opn m10k0.eq_1 ?_ | refine .pu (h22) hg rfl ?_ | refine ⟨?_,?_⟩ | intro _
    | simp only [go_sem,↓reduceIte,Nat.reduceAdd,Nat.reduceLeDiff,Nat.reduceEqDiff,Nat.reduceBEq,Nat.reduceBNe,Nat.reduceMul,Nat.reduceLT,reduceCtorEq,Int.reduceLT,Int.reduceLE,Int.reduceToNat,Int.reduceNeg]
theorem c10_2s (hg : GlNR gl) (x y : Ivl) (hx : validB x = true) (hy : validB y = true) (h : y.a = x.b + 1) :
    Pure Tryz.prog gl 10 [.sl 2 [.agg [.int .i64 y.a,.int .i64 y.b],.agg [.int .i64 x.a,.int .i64 x.b]] .unk] (.ok (.sl 2 [.agg [.int .i64 x.a,.int .i64 y.b]] .unk)) := by
  obtain ⟨x1,x2,x3⟩ := valid_facts hx
  obtain ⟨y1,y2,y3⟩ := valid_facts hy
  refine ⟨?_,by simp only [fgs]; intro c hc; simp only [List.mem_cons,List.not_mem_nil,or_false] at hc; subst hc; exact of_eq_true (nr_ivls 2 [y,x]),of_eq_true (nr_ivls 2 [⟨x.a,y.b⟩])⟩
  simp only [fgs]
  refine .of_run is10 (by simp) (mw_sound 200 ?_)
  repeat' first
    | with_reducible first | refine mw_as m10.eq_1 ?_ | refine opn m10k0.eq_1 ?_ | refine MRun.loop1 (mw_sound 60 (mw_as m10l0.eq_1 ?_)) | refine MRun.inLoop (mw_sound 60 (mw_as m10l0.eq_1 ?_)) | refine .pu (c18 x) hg rfl ?_ | refine .pu (c18 y) hg rfl ?_ | refine ⟨?_,?_⟩ | intro _
    | simp only [go_sem,↓reduceIte,Nat.reduceAdd,Nat.reduceLeDiff,Nat.reduceEqDiff,Nat.reduceBEq,Nat.reduceBNe,Nat.reduceMul,Nat.reduceLT,reduceCtorEq,Int.reduceLT,Int.reduceLE,Int.reduceToNat,Int.reduceNeg,  nc0,nc1,nc2,nc3,wr00,wr11,wr21,wr1,wr2,appGEv,appGOb,appSrc,oslLen,oslN,oslCells,appOEv,appOOb,flat_cons,flat_nil,ne00,hx,hy]
  rw [m10k1.eq_1]
  refine MRun.seq (MRun.reg ?_)
  simp only [go_sem,↓reduceIte,Nat.reduceAdd,Nat.reduceLeDiff,Nat.reduceEqDiff,Nat.reduceBEq,Nat.reduceBNe,Nat.reduceMul,Nat.reduceLT,reduceCtorEq,Int.reduceLT,Int.reduceLE,Int.reduceToNat,Int.reduceNeg]
  refine CallK.eff (MCalls.pre (c20 hg 2 (.inr (.inl rfl)) _ _ _ _ _ (c58_2s hg y x _ _ _ (by rw [wrap_i64_in (by omega) (by omega)]; exact decide_eq_true (by omega)))) (le_one rfl)) ?_
  simp only [go_sem,↓reduceIte,Nat.reduceAdd,Nat.reduceLeDiff,Nat.reduceEqDiff,Nat.reduceBEq,Nat.reduceBNe,Nat.reduceMul,Nat.reduceLT,reduceCtorEq,Int.reduceLT,Int.reduceLE,Int.reduceToNat,Int.reduceNeg]
  refine MRun.freeze (k := 2) (xs := [.agg [.int .i64 x.a,.int .i64 x.b],.agg [.int .i64 y.a,.int .i64 y.b]]) (ob' := []) (F' := [(3,.sl 2 [.agg [.int .i64 x.a,.int .i64 x.b],.agg [.int .i64 y.a,.int .i64 y.b]] .unk)]) ?_ rfl rfl (by intro v hv; simp only [List.mem_cons,List.not_mem_nil,or_false] at hv; rcases hv with rfl | rfl <;> rfl) (fun l' cs' e => by cases e) (fz_cons (.all rfl) fz_nil)
  have h22 := c22_2 (gl := gl) hg x.a x.b y.a y.b (by rw [wrap_i64_in (by omega) (by omega)]; exact decide_eq_true (by omega)) (eq_true (by omega))
  refine mw_sound 60 ?_
  repeat' first
    | with_reducible first | refine mw_as m10.eq_1 ?_ | refine opn m10k0.eq_1 ?_ | refine .pu (h22) hg rfl ?_ | refine ⟨?_,?_⟩ | intro _
    | simp only [go_sem,↓reduceIte,Nat.reduceAdd,Nat.reduceLeDiff,Nat.reduceEqDiff,Nat.reduceBEq,Nat.reduceBNe,Nat.reduceMul,Nat.reduceLT,reduceCtorEq,Int.reduceLT,Int.reduceLE,Int.reduceToNat,Int.reduceNeg]
theorem c10_3 (hg : GlNR gl) (x y z : Ivl) (hx : validB x = true) (hy : validB y = true) (hz : validB z = true) (h : y.a = x.b + 1) (h2 : z.a = y.b + 1) :
    Pure Tryz.prog gl 10 [.sl 2 [.agg [.int .i64 x.a,.int .i64 x.b],.agg [.int .i64 z.a,.int .i64 z.b],.agg [.int .i64 y.a,.int .i64 y.b]] .unk] (.ok (.sl 2 [.agg [.int .i64 x.a,.int .i64 z.b]] .unk)) := by
  obtain ⟨x1,x2,x3⟩ := valid_facts hx
  obtain ⟨y1,y2,y3⟩ := valid_facts hy
  obtain ⟨z1,z2,z3⟩ := valid_facts hz
  refine ⟨?_,by simp only [fgs]; intro c hc; simp only [List.mem_cons,List.not_mem_nil,or_false] at hc; subst hc; exact of_eq_true (nr_ivls 2 [x,z,y]),of_eq_true (nr_ivls 2 [⟨x.a,z.b⟩])⟩
  simp only [fgs]
  refine .of_run is10 (by simp) (mw_sound 200 ?_)
  repeat' first
    | with_reducible first | refine mw_as m10.eq_1 ?_ | refine opn m10k0.eq_1 ?_ | refine MRun.loop1 (mw_sound 60 (mw_as m10l0.eq_1 ?_)) | refine MRun.inLoop (mw_sound 60 (mw_as m10l0.eq_1 ?_)) | refine .pu (c18 x) hg rfl ?_ | refine .pu (c18 y) hg rfl ?_ | refine .pu (c18 z) hg rfl ?_ | refine ⟨?_,?_⟩ | intro _
    | simp only [go_sem,↓reduceIte,Nat.reduceAdd,Nat.reduceLeDiff,Nat.reduceEqDiff,Nat.reduceBEq,Nat.reduceBNe,Nat.reduceMul,Nat.reduceLT,reduceCtorEq,Int.reduceLT,Int.reduceLE,Int.reduceToNat,Int.reduceNeg,  nc0,nc1,nc2,nc3,wr00,wr11,wr21,wr1,wr2,appGEv,appGOb,appSrc,oslLen,oslN,oslCells,appOEv,appOOb,flat_cons,flat_nil,ne00,hx,hy,hz]
  rw [m10k1.eq_1]
  refine MRun.seq (MRun.reg ?_)
  simp only [go_sem,↓reduceIte,Nat.reduceAdd,Nat.reduceLeDiff,Nat.reduceEqDiff,Nat.reduceBEq,Nat.reduceBNe,Nat.reduceMul,Nat.reduceLT,reduceCtorEq,Int.reduceLT,Int.reduceLE,Int.reduceToNat,Int.reduceNeg]
  refine CallK.eff (MCalls.pre (c20 hg 3 (.inr (.inr rfl)) _ _ _ _ _ (c58_3s hg x z y _ _ _ (by rw [wrap_i64_in (by omega) (by omega)]; exact decide_eq_false (by omega)) (by rw [wrap_i64_in (by omega) (by omega)]; exact decide_eq_true (by omega)) (by rw [wrap_i64_in (by omega) (by omega)]; exact decide_eq_false (by omega)))) (le_one rfl)) ?_
  simp only [go_sem,↓reduceIte,Nat.reduceAdd,Nat.reduceLeDiff,Nat.reduceEqDiff,Nat.reduceBEq,Nat.reduceBNe,Nat.reduceMul,Nat.reduceLT,reduceCtorEq,Int.reduceLT,Int.reduceLE,Int.reduceToNat,Int.reduceNeg]
  refine MRun.freeze (k := 2) (xs := [.agg [.int .i64 x.a,.int .i64 x.b],.agg [.int .i64 y.a,.int .i64 y.b],.agg [.int .i64 z.a,.int .i64 z.b]]) (ob' := []) (F' := [(3,.sl 2 [.agg [.int .i64 x.a,.int .i64 x.b],.agg [.int .i64 y.a,.int .i64 y.b],.agg [.int .i64 z.a,.int .i64 z.b]] .unk)]) ?_ rfl rfl (by intro v hv; simp only [List.mem_cons,List.not_mem_nil,or_false] at hv; rcases hv with rfl | rfl | rfl <;> rfl) (fun l' cs' e => by cases e) (fz_cons (.all rfl) fz_nil)
  have h22 := c22_3 (gl := gl) hg x.a x.b y.a y.b z.a z.b (by rw [wrap_i64_in (by omega) (by omega)]; exact decide_eq_true (by omega)) (eq_true (by omega)) (by rw [wrap_i64_in (by omega) (by omega)]; exact decide_eq_true (by omega)) (eq_true (by omega))
  refine mw_sound 60 ?_
  repeat' first
    | with_reducible first | refine mw_as m10.eq_1 ?_ | refine opn m10k0.eq_1 ?_ | refine .pu (h22) hg rfl ?_ | refine ⟨?_,?_⟩ | intro _
    | simp only [go_sem,↓reduceIte,Nat.reduceAdd,Nat.reduceLeDiff,Nat.reduceEqDiff,Nat.reduceBEq,Nat.reduceBNe,Nat.reduceMul,Nat.reduceLT,reduceCtorEq,Int.reduceLT,Int.reduceLE,Int.reduceToNat,Int.reduceNeg]
end Go.Proofs.YtombgigaefgaiaaGreatDoor
