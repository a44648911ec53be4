/- Contracts: fold and Union of at most three intervals that meet. -/
import Derived.Test.YtombgigaefgaiaaGreatDoorB6
set_option linter.unusedSimpArgs false
set_option linter.unusedVariables false
namespace Go.Proofs.YtombgigaefgaiaaGreatDoor
open Go Go.V
set_option maxRecDepth 40000
attribute [local go_sem ↓] keepK Opd.ev MK.ev MK.ob gsA
attribute [local go_sem high] gsB
attribute [local go_sem] binEv binOb intOp strOp unEv eqvEv eqCells eqCell noBld tasEv AV.there AV.plus pickCells storeEv AV.solid AV.cells splice putParts rowOK fldEv iarrEv extEv minEv nonNil lenEv isStr appEv appOb appArg slVecEv slVecOb slStrEv slStrOb bnd argF endQ rvsEv rvEv resOf St.none if_true if_false ite_self eq_self ne_eq implies_true forall_const Lab.av Val.av Exa.av Dset.av Req.av gsC
variable {gl : List (Nat × List AV)}
def FrzL (gl : List (Nat × List AV)) (k : Nat) (xs : List AV) (o : Out) (S' : St) : Prop := ∃ l,o = .ok (.osl k xs.length l 0) ∧ S'.gl = gl ∧ S'.get l = some (flat xs)
theorem frzL_ok {k k' n l : Nat} {xs : List AV} {S' : St} (h : k' = k ∧ n = xs.length ∧ S'.gl = gl ∧ S'.get l = some (flat xs)) : FrzL gl k xs (.ok (.osl k' n l 0)) S' := by
  obtain ⟨rfl,rfl,h1,h2⟩ := h
  exact ⟨l,rfl,h1,h2⟩
theorem MCalls.frozenL {P : Program} {f : FuncId} {ys : List AV} {S : St} {k : Nat} {xs : List AV} (hk : ∀ x ∈ xs,x.cells.length = k) (hb : isBld (flat xs) = false)
    (h : MCalls P f ys S (FrzL gl k xs)) : MCalls P f ys S fun o _ => o = .ok (.sl k xs .unk) := by
  intro wb G w vs hS hv
  refine (h wb G w vs hS hv).mono fun e w' ⟨G',S',h1,h2,h3⟩ => ?_
  cases e with
  | outgrown => exact h3.elim
  | panicked ch => obtain ⟨_,_,_,_,_,h4,_⟩ := h3; cases h4
  | returned v =>
    obtain ⟨r,h4,l,h5,rfl,h6⟩ := h3
    injection h5 with h5
    subst h5
    obtain ⟨n,ob,nt,live,gl⟩ := S'
    obtain ⟨G2,g1,g2,g3⟩ := StRel.freeze (l := l) (k := k) (xs := xs) (ob' := []) h2 h6 hb hk (fun l' cs' e => by cases e)
    exact ⟨G2,_,Gh.le_trans h1 g1,g2,_,g3 _ _ _ (.all rfl) h4,rfl⟩
theorem c23i (a b c d : Int) : Pure Tryz.prog gl 23 [.agg [.int .i64 a,.int .i64 b],.agg [.int .i64 c,.int .i64 d]] (.ok (.tup [.agg [.int .i64 a,.int .i64 (if b < d then d else b)],.bool (decide (c ≤ IntKind.i64.wrap (b + 1)))])) := c23 ⟨a,b⟩ ⟨c,d⟩
theorem nc0 : ((0 : Nat) : Int) = 0 := rfl
theorem nc1 : ((1 : Nat) : Int) = 1 := rfl
theorem nc2 : ((2 : Nat) : Int) = 2 := rfl
theorem nc3 : ((3 : Nat) : Int) = 3 := rfl
theorem c22_1 (hg : GlNR gl) (a b : Int) : Pure Tryz.prog gl 22 [.sl 2 [.agg [.int .i64 a,.int .i64 b]] .unk,.fn (.func 23) [] []] (.ok (.sl 2 [.agg [.int .i64 a,.int .i64 b]] .unk)) := by
  refine ⟨?_,by simp only [fgs]; intro c hc; simp only [List.mem_cons,List.not_mem_nil,or_false] at hc; rcases hc with rfl | rfl; exact of_eq_true (nr_ivls 2 [⟨a,b⟩]); exact of_eq_true (by simp only [NoRef.fn_nil]),of_eq_true (nr_ivls 2 [⟨a,b⟩])⟩
  simp only [fgs]
  refine MCalls.frozenL (gl := gl) (by intro x hx; simp only [List.mem_cons,List.not_mem_nil,or_false] at hx; subst hx; rfl) rfl ?_
  refine .of_run is22 (by simp) (mw_sound 200 ?_)
  repeat' first
    | with_reducible first | refine mw_as m22.eq_1 ?_ | refine opn m22k0.eq_1 ?_ | refine opn m22k1.eq_1 ?_ | refine opn m22k2.eq_1 ?_ | refine MRun.loop1 (mw_sound 60 (mw_as m22l0.eq_1 ?_)) | refine MRun.inLoop (mw_sound 60 (mw_as m22l0.eq_1 ?_)) | refine .pu (c23i _ _ _ _) hg rfl ?_ | refine ⟨?_,?_⟩ | intro _
    | simp only [go_sem,↓reduceIte,Nat.reduceAdd,Nat.reduceLeDiff,Nat.reduceEqDiff,Nat.reduceBEq,Nat.reduceBNe,Nat.reduceMul,Nat.reduceLT,reduceCtorEq,Int.reduceLT,Int.reduceLE,Int.reduceToNat,Int.reduceNeg,  nc0,nc1,nc2,nc3,wr00,wr11,wr21,wr1,wr2,appGEv,appGOb,appSrc,oslLen,oslN,oslCells,appOEv,appOOb,flat_cons,flat_nil]
  all_goals first | exact frzL_ok ⟨rfl,rfl,rfl,rfl⟩ | skip
theorem c22_2 (hg : GlNR gl) (a b c d : Int) (h : decide (c ≤ IntKind.i64.wrap (b + 1)) = true) (h2 : (b < d) = True) : Pure Tryz.prog gl 22 [.sl 2 [.agg [.int .i64 a,.int .i64 b],.agg [.int .i64 c,.int .i64 d]] .unk,.fn (.func 23) [] []] (.ok (.sl 2 [.agg [.int .i64 a,.int .i64 d]] .unk)) := by
  refine ⟨?_,by simp only [fgs]; intro x hc; simp only [List.mem_cons,List.not_mem_nil,or_false] at hc; rcases hc with rfl | rfl; exact of_eq_true (nr_ivls 2 [⟨a,b⟩,⟨c,d⟩]); exact of_eq_true (by simp only [NoRef.fn_nil]),of_eq_true (nr_ivls 2 [⟨a,d⟩])⟩
  simp only [fgs]
  refine MCalls.frozenL (gl := gl) (by intro x hx; simp only [List.mem_cons,List.not_mem_nil,or_false] at hx; subst hx; rfl) rfl ?_
  refine .of_run is22 (by simp) (mw_sound 200 ?_)
  repeat' first
    | with_reducible first | refine mw_as m22.eq_1 ?_ | refine opn m22k0.eq_1 ?_ | refine opn m22k1.eq_1 ?_ | refine opn m22k2.eq_1 ?_ | refine MRun.loop1 (mw_sound 60 (mw_as m22l0.eq_1 ?_)) | refine MRun.inLoop (mw_sound 60 (mw_as m22l0.eq_1 ?_)) | refine .pu (c23i _ _ _ _) hg rfl ?_ | refine ⟨?_,?_⟩ | intro _
    | simp only [go_sem,↓reduceIte,Nat.reduceAdd,Nat.reduceLeDiff,Nat.reduceEqDiff,Nat.reduceBEq,Nat.reduceBNe,Nat.reduceMul,Nat.reduceLT,reduceCtorEq,Int.reduceLT,Int.reduceLE,Int.reduceToNat,Int.reduceNeg,  nc0,nc1,nc2,nc3,wr00,wr11,wr21,wr1,wr2,appGEv,appGOb,appSrc,oslLen,oslN,oslCells,appOEv,appOOb,flat_cons,flat_nil,h,h2]
  all_goals first | exact frzL_ok ⟨rfl,rfl,rfl,rfl⟩ | skip
theorem c22_3 (hg : GlNR gl) (a b c d e f : Int) (h : decide (c ≤ IntKind.i64.wrap (b + 1)) = true) (h2 : (b < d) = True) (h3 : decide (e ≤ IntKind.i64.wrap (d + 1)) = true) (h4 : (d < f) = True) :
    Pure Tryz.prog gl 22 [.sl 2 [.agg [.int .i64 a,.int .i64 b],.agg [.int .i64 c,.int .i64 d],.agg [.int .i64 e,.int .i64 f]] .unk,.fn (.func 23) [] []] (.ok (.sl 2 [.agg [.int .i64 a,.int .i64 f]] .unk)) := by
  refine ⟨?_,by simp only [fgs]; intro x hc; simp only [List.mem_cons,List.not_mem_nil,or_false] at hc; rcases hc with rfl | rfl; exact of_eq_true (nr_ivls 2 [⟨a,b⟩,⟨c,d⟩,⟨e,f⟩]); exact of_eq_true (by simp only [NoRef.fn_nil]),of_eq_true (nr_ivls 2 [⟨a,f⟩])⟩
  simp only [fgs]
  refine MCalls.frozenL (gl := gl) (by intro x hx; simp only [List.mem_cons,List.not_mem_nil,or_false] at hx; subst hx; rfl) rfl ?_
  refine .of_run is22 (by simp) (mw_sound 200 ?_)
  repeat' first
    | with_reducible first | refine mw_as m22.eq_1 ?_ | refine opn m22k0.eq_1 ?_ | refine opn m22k1.eq_1 ?_ | refine opn m22k2.eq_1 ?_ | refine MRun.loop1 (mw_sound 60 (mw_as m22l0.eq_1 ?_)) | refine MRun.inLoop (mw_sound 60 (mw_as m22l0.eq_1 ?_)) | refine .pu (c23i _ _ _ _) hg rfl ?_ | refine ⟨?_,?_⟩ | intro _
    | simp only [go_sem,↓reduceIte,Nat.reduceAdd,Nat.reduceLeDiff,Nat.reduceEqDiff,Nat.reduceBEq,Nat.reduceBNe,Nat.reduceMul,Nat.reduceLT,reduceCtorEq,Int.reduceLT,Int.reduceLE,Int.reduceToNat,Int.reduceNeg,  nc0,nc1,nc2,nc3,wr00,wr11,wr21,wr1,wr2,appGEv,appGOb,appSrc,oslLen,oslN,oslCells,appOEv,appOOb,flat_cons,flat_nil,h,h2,h3,h4]
  all_goals first | exact frzL_ok ⟨rfl,rfl,rfl,rfl⟩ | skip
end Go.Proofs.YtombgigaefgaiaaGreatDoor
