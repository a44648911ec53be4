/- Contracts: the order of intervals, joining neighbors, sorting at most three of them in place. -/
import Derived.Test.YtombgigaefgaiaaGreatDoorB4
import Derived.Test.YtombgigaefgaiaaGreatDoorO1
set_option linter.unusedSimpArgs false
set_option linter.unusedVariables false
namespace Go.Proofs.YtombgigaefgaiaaGreatDoor
open Go Go.V
set_option maxRecDepth 40000
attribute [local go_sem ↓] keepK Opd.ev MK.ev MK.ob gsA
attribute [local go_sem high] gsB
attribute [local go_sem] binEv binOb intOp strOp unEv eqvEv eqCells eqCell noBld tasEv AV.there AV.plus pickCells storeEv AV.solid AV.cells splice putParts rowOK fldEv iarrEv extEv minEv nonNil lenEv isStr appEv appOb appArg slVecEv slVecOb slStrEv slStrOb bnd argF endQ rvsEv rvEv resOf St.none if_true if_false ite_self eq_self ne_eq implies_true forall_const Lab.av Val.av Exa.av Dset.av Req.av gsC
variable {gl : List (Nat × List AV)}
theorem c7 (hg : GlNR gl) (a b : List Ivl) (t u : STok) (hl : a.length < 4294967296) : Pure Tryz.prog gl 7 [.sl 2 (a.map Ivl.av) t,.sl 2 (b.map Ivl.av) u] (.ok (.bool (a == b))) := by
  refine ⟨?_,by simp only [List.map_cons,List.map_nil,fg_sl,fg_ivls,nrs,forall_eq_or_imp,forall_eq,implies_true,nr_ivls],by simp only [nrs,forall_eq_or_imp,forall_eq,implies_true]⟩
  simp only [List.map_cons,List.map_nil,fg_sl,fg_ivls]
  refine .of_run is7 (by simp) (mw_sound 200 ?_)
  repeat' first
    | with_reducible first | refine mw_as m7.eq_1 ?_ | refine opn m7k0.eq_1 ?_ | refine ⟨?_,?_⟩ | intro _
    | simp only [go_sem,↓reduceIte,Nat.reduceAdd,Nat.reduceLeDiff,Nat.reduceEqDiff,Nat.reduceBEq,Nat.reduceBNe,Nat.reduceMul,Nat.reduceLT,reduceCtorEq,Int.reduceLT,Int.reduceLE,Int.reduceToNat,Int.reduceNeg]
  · rename_i hx
    rw [bne_iff_ne] at hx
    exact (beq_eq_false_iff_ne.2 fun e => hx (by rw [e])).symm
  rename_i hx
  have hab : a.length = b.length := by rw [bne_eq_false_iff_eq] at hx; omega
  refine .forUp a.length (fun i F S => F = [(0,AV.sl 2 (a.map Ivl.av) STok.unk),(1,AV.sl 2 (b.map Ivl.av) STok.unk),(5,AV.int IntKind.i64 i)] ∧ S = .none gl ∧ (a == b) = (a.drop i == b.drop i)) ⟨rfl,rfl,rfl⟩ ?_
  rintro i F S hi ⟨rfl,rfl,he⟩ ih
  by_cases h : i < a.length
  · obtain ⟨c,hc⟩ := some_of_lt h
    have h' : i < b.length := hab ▸ h
    obtain ⟨d,hd⟩ := some_of_lt h'
    have hs := drop_eq_step hc hd
    have hcd : (c == d) = (c.a == d.a && c.b == d.b) := by
      rw [Bool.eq_iff_iff,beq_iff_eq,Bool.and_eq_true,beq_iff_eq,beq_iff_eq]
      cases c; cases d; simp
    refine opn m7l0.eq_1 ?_
    repeat' first
      | with_reducible first | refine mw_as m7.eq_1 ?_ | refine opn m7k0.eq_1 ?_ | refine ⟨?_,?_⟩ | intro _
      | simp only [go_sem,↓reduceIte,Nat.reduceAdd,Nat.reduceLeDiff,Nat.reduceEqDiff,Nat.reduceBEq,Nat.reduceBNe,Nat.reduceMul,Nat.reduceLT,reduceCtorEq,Int.reduceLT,Int.reduceLE,Int.reduceToNat,Int.reduceNeg,  hc,hd,ltB h,ltP h,ltP h',wrap_succ (show i < 9223372036854775807 by omega),Ivl.av]
    all_goals first
      | (refine ih h _ _ ⟨rfl,rfl,?_⟩
         clear ih
         rw [he,hs,hcd]
         clear he hs hc hd
         grind)
      | (clear ih
         rw [he,hs,hcd]
         clear he hs hc hd
         grind)
  · refine opn m7l0.eq_1 ?_
    repeat' first
      | with_reducible first | refine mw_as m7.eq_1 ?_ | refine opn m7k0.eq_1 ?_ | refine ⟨?_,?_⟩ | intro _
      | simp only [go_sem,↓reduceIte,Nat.reduceAdd,Nat.reduceLeDiff,Nat.reduceEqDiff,Nat.reduceBEq,Nat.reduceBNe,Nat.reduceMul,Nat.reduceLT,reduceCtorEq,Int.reduceLT,Int.reduceLE,Int.reduceToNat,Int.reduceNeg,  geB (Nat.le_of_not_lt h)]
    rw [he,List.drop_eq_nil_of_le (Nat.le_of_not_lt h),List.drop_eq_nil_of_le (by omega)]
    rfl
theorem c21 (x y : Ivl) : Pure Tryz.prog gl 21 [.agg [.int .i64 x.a,.int .i64 x.b],.agg [.int .i64 y.a,.int .i64 y.b]] (.ok (.int .i64 (IntKind.i64.wrap (x.a - y.a)))) := by
  refine ⟨?_,by simp only [fgs,nrs,forall_eq_or_imp,forall_eq,implies_true],by simp only [nrs,forall_eq_or_imp,forall_eq,implies_true]⟩
  simp only [fgs]
  refine .of_run is21 (by simp) (mw_sound 200 ?_)
  repeat' first
    | with_reducible first | refine mw_as m21.eq_1 ?_ | refine ⟨?_,?_⟩ | intro _
    | simp only [go_sem,↓reduceIte,Nat.reduceAdd,Nat.reduceLeDiff,Nat.reduceEqDiff,Nat.reduceBEq,Nat.reduceBNe,Nat.reduceMul,Nat.reduceLT,reduceCtorEq,Int.reduceLT,Int.reduceLE,Int.reduceToNat,Int.reduceNeg]
theorem c23 (x y : Ivl) : Pure Tryz.prog gl 23 [.agg [.int .i64 x.a,.int .i64 x.b],.agg [.int .i64 y.a,.int .i64 y.b]] (.ok (.tup [.agg [.int .i64 x.a,.int .i64 (if x.b < y.b then y.b else x.b)],.bool (decide (y.a ≤ IntKind.i64.wrap (x.b + 1)))])) := by
  refine ⟨?_,by simp only [fgs,nrs,forall_eq_or_imp,forall_eq,implies_true],by simp only [nrs,forall_eq_or_imp,forall_eq,implies_true]⟩
  simp only [fgs]
  refine .of_run is23 (by simp) (mw_sound 200 ?_)
  repeat' first
    | with_reducible first | refine mw_as m23.eq_1 ?_ | refine ⟨?_,?_⟩ | intro _
    | simp only [go_sem,↓reduceIte,Nat.reduceAdd,Nat.reduceLeDiff,Nat.reduceEqDiff,Nat.reduceBEq,Nat.reduceBNe,Nat.reduceMul,Nat.reduceLT,reduceCtorEq,Int.reduceLT,Int.reduceLE,Int.reduceToNat,Int.reduceNeg,  maxEv]
theorem MCalls.toSt {P : Program} {f : FuncId} {ys : List AV} {S S1 : St} {r : AV} (h : MCalls P f ys S fun o S' => o = .ok r ∧ S'.le S1) : MCalls P f ys S fun o S' => o = .ok r ∧ S' = S1 := by
  intro wb G w vs hS hv
  refine (h wb G w vs hS hv).mono fun e w' ⟨G',S',h1,h2,h3⟩ => ?_
  cases e with
  | outgrown => exact h3.elim
  | panicked ch => obtain ⟨_,_,_,_,h4,_⟩ := h3; cases h4
  | returned v =>
    obtain ⟨r',h4,h5,h6⟩ := h3
    exact ⟨G',S1,h1,h2.weak h6,r',h4,h5,rfl⟩
theorem le_top {m nt : Nat} {p : Nat × List AV} {ob : List (Nat × List AV)} {lv : List Nat} : St.le ⟨m,p :: ob,nt,lv,gl⟩ ⟨m,[p],nt,[],gl⟩ := by
  refine ⟨rfl,rfl,rfl,fun l cs e => ?_,fun t ht => by cases ht⟩
  obtain ⟨k,ds⟩ := p
  simp only [St.get,List.lookup_cons,List.lookup_nil] at e ⊢
  split at e
  · exact e
  · cases e
theorem CallK.eff {P : Program} {f : FuncId} {xs : List AV} {d : Option Nat} {l : List MOp} {K : Option AV → Fr → St → Prop} {F : Fr} {S S1 : St} {r : AV} (h : MCalls P f xs S fun o S' => o = .ok r ∧ S' = S1) (k : moK P l K (putF d r F) S1) : CallK P f xs d l K F S :=
  CallK.of h (fun r' S' ⟨e1,e2⟩ => by subst e2; injection e1 with e1; subst e1; exact k) (fun v S' ⟨e1,_⟩ => by cases e1)
theorem wr00 : IntKind.i64.wrap ((0 : Int) + 1) = 1 := by decide
theorem wr11 : IntKind.i64.wrap ((1 : Int) + 1) = 2 := by decide
theorem wr21 : IntKind.i64.wrap ((2 : Int) + 1) = 3 := by decide
theorem wr1 : IntKind.i64.wrap ((1 : Int) - 1) = 0 := by decide
theorem wr2 : IntKind.i64.wrap ((2 : Int) - 1) = 1 := by decide
theorem c58_1 (x : Ivl) (m l nt : Nat) : MCalls Tryz.prog 58 [.osl 2 1 l 0,.int .i64 0,.int .i64 1,.fn (.func 21) [] []] ⟨m,[(l,[.int .i64 x.a,.int .i64 x.b])],nt,[],gl⟩ fun o S' => o = .ok (.tup []) ∧ S' = ⟨m,[(l,[.int .i64 x.a,.int .i64 x.b])],nt,[],gl⟩ := by
  refine MCalls.toSt ?_
  refine .of_run is58 (by simp) (mw_sound 200 ?_)
  repeat' first
    | with_reducible first | refine mw_as m58.eq_1 ?_ | refine opn m58k0.eq_1 ?_ | refine opn m58k1.eq_1 ?_ | refine opn m58k2.eq_1 ?_ | refine MRun.loop1 (mw_sound 60 (mw_as m58l0.eq_1 ?_)) | refine MRun.inLoop (mw_sound 60 (mw_as m58l0.eq_1 ?_)) | refine MRun.loop1 (mw_sound 60 (mw_as m58l1.eq_1 ?_)) | refine MRun.inLoop (mw_sound 60 (mw_as m58l1.eq_1 ?_)) | refine ⟨?_,?_⟩ | intro _
    | simp only [go_sem,↓reduceIte,Nat.reduceAdd,Nat.reduceLeDiff,Nat.reduceEqDiff,Nat.reduceBEq,Nat.reduceBNe,Nat.reduceMul,Nat.reduceLT,reduceCtorEq,Int.reduceLT,Int.reduceLE,Int.reduceToNat,Int.reduceNeg,  wr00,wr11,wr21,wr1,wr2]
  all_goals first | exact le_top | omega
theorem c58_2 (hg : GlNR gl) (x y : Ivl) (m l nt : Nat) (h : decide (IntKind.i64.wrap (y.a - x.a) < 0) = false) : MCalls Tryz.prog 58 [.osl 2 2 l 0,.int .i64 0,.int .i64 2,.fn (.func 21) [] []] ⟨m,[(l,[.int .i64 x.a,.int .i64 x.b,.int .i64 y.a,.int .i64 y.b])],nt,[],gl⟩ fun o S' => o = .ok (.tup []) ∧ S' = ⟨m,[(l,[.int .i64 x.a,.int .i64 x.b,.int .i64 y.a,.int .i64 y.b])],nt,[],gl⟩ := by
  refine MCalls.toSt ?_
  refine .of_run is58 (by simp) (mw_sound 200 ?_)
  repeat' first
    | with_reducible first | refine mw_as m58.eq_1 ?_ | refine opn m58k0.eq_1 ?_ | refine opn m58k1.eq_1 ?_ | refine opn m58k2.eq_1 ?_ | refine MRun.loop1 (mw_sound 60 (mw_as m58l0.eq_1 ?_)) | refine MRun.inLoop (mw_sound 60 (mw_as m58l0.eq_1 ?_)) | refine MRun.loop1 (mw_sound 60 (mw_as m58l1.eq_1 ?_)) | refine MRun.inLoop (mw_sound 60 (mw_as m58l1.eq_1 ?_)) | refine .pu (c21 y x) hg rfl ?_ | refine ⟨?_,?_⟩ | intro _
    | simp only [go_sem,↓reduceIte,Nat.reduceAdd,Nat.reduceLeDiff,Nat.reduceEqDiff,Nat.reduceBEq,Nat.reduceBNe,Nat.reduceMul,Nat.reduceLT,reduceCtorEq,Int.reduceLT,Int.reduceLE,Int.reduceToNat,Int.reduceNeg,  wr00,wr11,wr21,wr1,wr2,h]
  all_goals first | exact le_top | omega
theorem c58_2s (hg : GlNR gl) (x y : Ivl) (m l nt : Nat) (h : decide (IntKind.i64.wrap (y.a - x.a) < 0) = true) : MCalls Tryz.prog 58 [.osl 2 2 l 0,.int .i64 0,.int .i64 2,.fn (.func 21) [] []] ⟨m,[(l,[.int .i64 x.a,.int .i64 x.b,.int .i64 y.a,.int .i64 y.b])],nt,[],gl⟩ fun o S' => o = .ok (.tup []) ∧ S' = ⟨m,[(l,[.int .i64 y.a,.int .i64 y.b,.int .i64 x.a,.int .i64 x.b])],nt,[],gl⟩ := by
  refine MCalls.toSt ?_
  refine .of_run is58 (by simp) (mw_sound 200 ?_)
  repeat' first
    | with_reducible first | refine mw_as m58.eq_1 ?_ | refine opn m58k0.eq_1 ?_ | refine opn m58k1.eq_1 ?_ | refine opn m58k2.eq_1 ?_ | refine MRun.loop1 (mw_sound 60 (mw_as m58l0.eq_1 ?_)) | refine MRun.inLoop (mw_sound 60 (mw_as m58l0.eq_1 ?_)) | refine MRun.loop1 (mw_sound 60 (mw_as m58l1.eq_1 ?_)) | refine MRun.inLoop (mw_sound 60 (mw_as m58l1.eq_1 ?_)) | refine .pu (c21 y x) hg rfl ?_ | refine ⟨?_,?_⟩ | intro _
    | simp only [go_sem,↓reduceIte,Nat.reduceAdd,Nat.reduceLeDiff,Nat.reduceEqDiff,Nat.reduceBEq,Nat.reduceBNe,Nat.reduceMul,Nat.reduceLT,reduceCtorEq,Int.reduceLT,Int.reduceLE,Int.reduceToNat,Int.reduceNeg,  wr00,wr11,wr21,wr1,wr2,h]
  all_goals first | exact le_top | omega
theorem c58_3s (hg : GlNR gl) (x y z : Ivl) (m l nt : Nat) (h : decide (IntKind.i64.wrap (y.a - x.a) < 0) = false) (h2 : decide (IntKind.i64.wrap (z.a - y.a) < 0) = true) (h3 : decide (IntKind.i64.wrap (z.a - x.a) < 0) = false) :
    MCalls Tryz.prog 58 [.osl 2 3 l 0,.int .i64 0,.int .i64 3,.fn (.func 21) [] []] ⟨m,[(l,[.int .i64 x.a,.int .i64 x.b,.int .i64 y.a,.int .i64 y.b,.int .i64 z.a,.int .i64 z.b])],nt,[],gl⟩
      fun o S' => o = .ok (.tup []) ∧ S' = ⟨m,[(l,[.int .i64 x.a,.int .i64 x.b,.int .i64 z.a,.int .i64 z.b,.int .i64 y.a,.int .i64 y.b])],nt,[],gl⟩ := by
  refine MCalls.toSt ?_
  refine .of_run is58 (by simp) (mw_sound 200 ?_)
  repeat' first
    | with_reducible first | refine mw_as m58.eq_1 ?_ | refine opn m58k0.eq_1 ?_ | refine opn m58k1.eq_1 ?_ | refine opn m58k2.eq_1 ?_ | refine MRun.loop1 (mw_sound 60 (mw_as m58l0.eq_1 ?_)) | refine MRun.inLoop (mw_sound 60 (mw_as m58l0.eq_1 ?_)) | refine MRun.loop1 (mw_sound 60 (mw_as m58l1.eq_1 ?_)) | refine MRun.inLoop (mw_sound 60 (mw_as m58l1.eq_1 ?_)) | refine .pu (c21 y x) hg rfl ?_ | refine .pu (c21 z y) hg rfl ?_ | refine .pu (c21 z x) hg rfl ?_ | refine ⟨?_,?_⟩ | intro _
    | simp only [go_sem,↓reduceIte,Nat.reduceAdd,Nat.reduceLeDiff,Nat.reduceEqDiff,Nat.reduceBEq,Nat.reduceBNe,Nat.reduceMul,Nat.reduceLT,reduceCtorEq,Int.reduceLT,Int.reduceLE,Int.reduceToNat,Int.reduceNeg,  wr00,wr11,wr21,wr1,wr2,h,h2,h3]
  all_goals first | exact le_top | omega
end Go.Proofs.YtombgigaefgaiaaGreatDoor
