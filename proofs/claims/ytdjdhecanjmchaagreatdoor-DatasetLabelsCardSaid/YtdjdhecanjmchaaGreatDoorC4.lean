/- Contracts: slices.Compact of labels, in place. -/
import Derived.Test.YtdjdhecanjmchaaGreatDoorC3
set_option linter.unusedSimpArgs false
set_option linter.unusedVariables false
namespace Go.Proofs.YtdjdhecanjmchaaGreatDoor
open Go Go.V Go.Lib
set_option maxRecDepth 40000
attribute [local go_sem ↓] keepK Opd.ev MK.ev MK.ob gsA
attribute [local go_sem high] gsB
attribute [local go_sem] binEv binOb intOp strOp unEv eqvEv eqCells eqCell noBld tasEv AV.there AV.plus pickCells storeEv AV.solid AV.cells splice putParts rowOK fldEv iarrEv extEv minEv nonNil lenEv isStr appEv appOb appArg slVecEv slVecOb slStrEv slStrOb bnd argF endQ rvsEv rvEv resOf St.none if_true if_false ite_self eq_self ne_eq implies_true forall_const Lab.av Val.av Exa.av Dset.av Req.av gsC
variable {gl : List (Nat × List AV)}
abbrev rowL (X : List Lab) : List AV := flat (X.map Lab.av)
theorem rowL_len : ∀ X : List Lab,(rowL X).length = X.length * 3
  | [] => rfl
  | x :: X => by
    have := rowL_len X
    simp only [rowL] at this ⊢
    simp [AV.cells,this]
    omega
theorem rowL_drop : ∀ (X : List Lab) (i : Nat),(rowL X).drop (i * 3) = rowL (X.drop i)
  | [],i => by simp [rowL]
  | x :: X,0 => by simp
  | x :: X,i + 1 => by
    have := rowL_drop X i
    simp only [rowL] at this ⊢
    rw [show (i + 1) * 3 = i * 3 + 1 + 1 + 1 by omega]
    simpa [AV.cells] using this
theorem row_at {X : List Lab} {i : Nat} {x : Lab} (h : X[i]? = some x) {C : List AV} (hC : C.drop (i * 3) = rowL (X.drop i)) : ((3 ≤ (C.drop (i * 3)).length) = True) ∧ List.take 3 (C.drop (i * 3)) = [.str x.k,.int .i64 x.e,.int .i64 x.n] := by
  rw [hC,drop_some h]
  exact ⟨eq_true (by simp [AV.cells,rowL]),by simp [AV.cells,rowL]⟩
theorem row_bld : ∀ X : List Lab,isBld (rowL X) = false
  | [] => rfl
  | x :: X => by simp [rowL,AV.cells,isBld]
theorem rowL_take : ∀ (X : List Lab) (i : Nat),(rowL X).take (i * 3) = rowL (X.take i)
  | [],i => by simp [rowL]
  | x :: X,0 => by simp [rowL]
  | x :: X,i + 1 => by
    have := rowL_take X i
    simp only [rowL] at this ⊢
    rw [show (i + 1) * 3 = i * 3 + 1 + 1 + 1 by omega]
    simpa [AV.cells] using this
theorem row_set {Z : List Lab} {k : Nat} (q : Lab) (h : k < Z.length) : (rowL Z).take (k * 3) ++ [AV.str q.k,AV.int .i64 q.e,AV.int .i64 q.n] ++ (rowL Z).drop (k * 3 + 3) = rowL (Z.set k q) := by
  rw [show k * 3 + 3 = (k + 1) * 3 by omega,rowL_take,rowL_drop,List.set_eq_take_append_cons_drop,if_pos h]
  simp [rowL,AV.cells]
theorem compactL_hd (y : Lab) : ∀ l,compactL (y :: l) = y :: (compactL (y :: l)).tail
  | [] => rfl
  | z :: l => by
    have ih := compactL_hd z l
    simp only [compactL]
    split
    · rename_i h
      subst h
      exact ih
    · rfl
theorem set_take {Z : List Lab} {k : Nat} (q : Lab) (h : k < Z.length) : (Z.set k q).take (k + 1) = Z.take k ++ [q] := by
  rw [List.set_eq_take_append_cons_drop,if_pos h,List.take_append,List.take_of_length_le (by simp; omega)]
  simp [Nat.min_eq_left (Nat.le_of_lt h)]
theorem keep_0 {a b : List AV} : ∀ l cs,List.lookup l [(0,a)] = some cs → List.lookup l [(0,a),(0,b)] = some cs := by
  intro l cs h
  simp only [lookG] at h ⊢
  grind
theorem sub1 {k : Nat} (h : k + 1 < 9223372036854775807) : IntKind.i64.wrap (((k + 1 : Nat) : Int) - 1) = (k : Int) := by rw [wrap_i64_in (by omega) (by omega)]; omega
theorem c180 (hg : GlNR gl) (X : List Lab) (hX : X.length < 4294960000) (hX1 : 1 ≤ X.length) (nt : Nat) : MCalls Tryz.prog 180 [.osl 3 X.length 0 0] ⟨1,[(0,rowL X)],nt,[],gl⟩ fun o S' => o = .ok (.osl 3 (compactL X).length 0 0) ∧ ∃ R t ob,S' = ⟨1,(0,rowL (compactL X) ++ R) :: ob,t,[],gl⟩ := by
  refine .of_run is180 (by simp) (mw_sound 200 ?_)
  obtain ⟨K,hK⟩ : ∃ K : Out → St → Prop,K = fun o S' => o = .ok (.osl 3 (compactL X).length 0 0) ∧ ∃ R t ob,S' = ⟨1,(0,rowL (compactL X) ++ R) :: ob,t,[],gl⟩ := ⟨_,rfl⟩
  rw [← hK]
  have same : ∀ t,compactL X = X → K (.ok (.osl 3 X.length 0 0)) ⟨1,[(0,rowL X)],t,[],gl⟩ := fun t e => by
    rw [hK]
    exact ⟨by rw [e],[],t,[],by rw [e,List.append_nil]⟩
  obtain ⟨C,hC⟩ : ∃ C,C = rowL X := ⟨_,rfl⟩
  have hCl : C.length = X.length * 3 := by rw [hC,rowL_len]
  have hCb : isBld C = false := by rw [hC,row_bld]
  rw [← hC] at same ⊢
  repeat' first
    | with_reducible first | refine mw_as m180.eq_1 ?_ | refine opn m180k0.eq_1 ?_ | refine opn m180k1.eq_1 ?_ | refine opn m180k2.eq_1 ?_ | refine opn m180k3.eq_1 ?_ | refine ⟨?_,?_⟩ | intro _
    | simp only [go_sem,↓reduceIte,Nat.reduceAdd,Nat.reduceLeDiff,Nat.reduceEqDiff,Nat.reduceBEq,Nat.reduceBNe,Nat.reduceMul,Nat.reduceLT,reduceCtorEq,Int.reduceLT,Int.reduceLE,Int.reduceToNat,Int.reduceNeg]
  · rename_i h
    refine same _ ?_
    match X,hX1 with
    | [x],_ => rfl
    | x :: y :: l,_ => simp at h; omega
  refine .forUp (X.length - 1) (fun i F S => F = [(0,AV.osl 3 X.length 0 0),(3,AV.int IntKind.i64 ((i + 1 : Nat) : Int))] ∧ (∃ t,S = ⟨1,[(0,C)],t,[],gl⟩) ∧ compactL X = X.take i ++ compactL (X.drop i)) ⟨rfl,⟨_,rfl⟩,by simp⟩ ?_
  rintro i F S hi ⟨rfl,⟨t,rfl⟩,he⟩ ih
  by_cases h : i + 1 < X.length
  · obtain ⟨x,hx⟩ := some_of_lt h
    obtain ⟨y,hy⟩ := some_of_lt (show i < X.length by omega)
    obtain ⟨x1,x2⟩ := row_at hx (C := C) (by rw [hC,rowL_drop])
    obtain ⟨y1,y2⟩ := row_at hy (C := C) (by rw [hC,rowL_drop])
    rw [drop_some hy,drop_some hx] at he
    refine opn m180l1.eq_1 ?_
    repeat' first
      | with_reducible first | refine mw_as m180.eq_1 ?_ | refine opn m180k0.eq_1 ?_ | refine opn m180k1.eq_1 ?_ | refine opn m180k2.eq_1 ?_ | refine opn m180k3.eq_1 ?_ | refine ⟨?_,?_⟩ | intro _
      | simp only [go_sem,↓reduceIte,Nat.reduceAdd,Nat.reduceLeDiff,Nat.reduceEqDiff,Nat.reduceBEq,Nat.reduceBNe,Nat.reduceMul,Nat.reduceLT,reduceCtorEq,Int.reduceLT,Int.reduceLE,Int.reduceToNat,Int.reduceNeg,  ltB h,ltP h,ltP (show i < X.length by omega),x1,x2,y1,y2,hCb,hCl,sub1 (show i + 1 < 9223372036854775807 by omega),wrap_succ (show i + 1 < 9223372036854775807 by omega)]
    · exact Int.le_refl _
    · rename_i h4
      have hyx : y = x := lab_eq (by grind)
      subst hyx
      clear ih same x1 x2 y1 y2
      refine .forUp (X.length - (i + 2)) (fun j F S => ∃ (Z : List Lab) (kk : Nat),F = [(0,AV.osl 3 X.length 0 0),(3,AV.int IntKind.i64 (kk : Int)),(4,AV.osl 3 (X.length - (i + 1)) 0 ((i + 1) * 3)),(5,AV.int IntKind.i64 ((j + 1 : Nat) : Int))] ∧
        (∃ t,S = ⟨1,[(0,rowL Z)],t,[],gl⟩) ∧ Z.length = X.length ∧ i + 1 ≤ kk ∧ kk ≤ i + 1 + j ∧ Z.drop (i + 1 + j) = X.drop (i + 1 + j) ∧ compactL X = Z.take kk ++ (compactL (X.drop (i + 1 + j))).tail) ⟨X,i + 1,rfl,⟨_,by rw [hC]⟩,rfl,Nat.le_refl _,by omega,rfl,?_⟩ ?_
      · rw [compactL,if_pos rfl] at he
        rw [he,Nat.add_zero,drop_some hx,take_some hy,List.append_assoc]
        exact congrArg _ (compactL_hd _ _)
      rintro j F S hj ⟨Z,kk,rfl,⟨t,rfl⟩,hZl,hk1,hk2,hZd,hcx⟩ ih2
      obtain ⟨D,hD⟩ : ∃ D,D = rowL Z := ⟨_,rfl⟩
      have hDl : D.length = X.length * 3 := by rw [hD,rowL_len,hZl]
      have hDb : isBld D = false := by rw [hD,row_bld]
      rw [← hD]
      by_cases h2 : j + 1 < X.length - (i + 1)
      · obtain ⟨p,hp⟩ := some_of_lt (show i + 1 + j < X.length by omega)
        obtain ⟨q,hq⟩ := some_of_lt (show i + 1 + (j + 1) < X.length by omega)
        obtain ⟨p1,p2⟩ := row_at hp (C := D) (by rw [hD,rowL_drop,hZd])
        obtain ⟨q1,q2⟩ := row_at hq (C := D) (by rw [hD,rowL_drop,show i + 1 + (j + 1) = (i + 1 + j) + 1 by omega,← List.drop_drop,hZd,List.drop_drop])
        rw [show (i + 1 + j) * 3 = (i + 1) * 3 + j * 3 by omega] at p1 p2
        rw [show (i + 1 + (j + 1)) * 3 = (i + 1) * 3 + (j + 1) * 3 by omega] at q1 q2
        have hb3 : kk * 3 + 3 ≤ D.length := by omega
        have hkb : ((kk : Nat) : Int) < (X.length : Int) := by omega
        refine opn m180l0.eq_1 ?_
        repeat' first
          | with_reducible first | refine mw_as m180.eq_1 ?_ | refine opn m180k0.eq_1 ?_ | refine opn m180k1.eq_1 ?_ | refine opn m180k2.eq_1 ?_ | refine opn m180k3.eq_1 ?_ | refine ⟨?_,?_⟩ | intro _
          | simp only [go_sem,↓reduceIte,Nat.reduceAdd,Nat.reduceLeDiff,Nat.reduceEqDiff,Nat.reduceBEq,Nat.reduceBNe,Nat.reduceMul,Nat.reduceLT,reduceCtorEq,Int.reduceLT,Int.reduceLE,Int.reduceToNat,Int.reduceNeg,  ltB h2,ltP h2,ltP (show j < X.length - (i + 1) by omega),p1,p2,q1,q2,hDb,hb3,hkb,sub1 (show j + 1 < 9223372036854775807 by omega),wrap_succ (show j + 1 < 9223372036854775807 by omega),wrap_succ (show kk < 9223372036854775807 by omega)]
        · have e2 := drop_some hq
          have e3 : X.drop (i + 1 + j) = p :: X.drop (i + 1 + (j + 1)) := drop_some hp
          rename_i h4
          have hpq : p ≠ q := fun e => by subst e; simp at h4
          rw [hD,row_set q (by omega)]
          refine MRun.keep (live' := []) (ob' := [(0,rowL (Z.set kk q))]) (ih2 (by omega) _ _ ⟨Z.set kk q,kk + 1,rfl,⟨t,rfl⟩,by simp [hZl],by omega,by omega,?_,?_⟩) keep_0 (by simp)
          · rw [List.drop_set,if_pos (by omega),show i + 1 + (j + 1) = (i + 1 + j) + 1 by omega,← List.drop_drop,hZd,List.drop_drop]
          · rw [hcx,e3,e2,compactL,if_neg hpq,List.tail_cons,compactL_hd q,set_take q (show kk < Z.length by omega),List.append_assoc]
            rfl
        · have e2 := drop_some hq
          have e3 : X.drop (i + 1 + j) = p :: X.drop (i + 1 + (j + 1)) := drop_some hp
          rename_i h4
          have hpq : p = q := lab_eq (by grind)
          refine ih2 (by omega) _ _ ⟨Z,kk,rfl,⟨t,by rw [hD]⟩,hZl,hk1,by omega,?_,?_⟩
          · rw [show i + 1 + (j + 1) = (i + 1 + j) + 1 by omega,← List.drop_drop,hZd,List.drop_drop]
          · rw [hcx,e3,e2,compactL,if_pos hpq]
      · have hle : kk ≤ X.length := by omega
        have hlt3 : 0 < X.length - kk := by omega
        have hb3 : kk * 3 + (X.length - kk) * 3 ≤ D.length := by omega
        refine opn m180l0.eq_1 ?_
        have hclr : ∀ t,clrEv 3 [AV.str [],AV.int IntKind.i64 0,AV.int IntKind.i64 0] ⟨1,[(0,D)],t,[],gl⟩ (.osl 3 (X.length - kk) 0 (kk * 3)) = some (.tup [],⟨1,[(0,splice D (kk * 3) (flat (List.replicate (X.length - kk) (.agg [AV.str [],AV.int IntKind.i64 0,AV.int IntKind.i64 0])))),(0,D)],t,[],gl⟩) := fun t => by
          simp only [clrEv,St.get,St.set,List.lookup_cons,beq_self_eq_true,Option.bind_some,hDb,hlt3,hb3,and_self,if_true,Bool.false_eq_true,if_false]
        repeat' first
          | with_reducible first | refine mw_as m180.eq_1 ?_ | refine opn m180k0.eq_1 ?_ | refine opn m180k1.eq_1 ?_ | refine opn m180k2.eq_1 ?_ | refine opn m180k3.eq_1 ?_ | refine ⟨?_,?_⟩ | intro _
          | simp only [go_sem,↓reduceIte,Nat.reduceAdd,Nat.reduceLeDiff,Nat.reduceEqDiff,Nat.reduceBEq,Nat.reduceBNe,Nat.reduceMul,Nat.reduceLT,reduceCtorEq,Int.reduceLT,Int.reduceLE,Int.reduceToNat,Int.reduceNeg,  geB (Nat.le_of_not_lt h2),hclr]
        all_goals first
          | omega
          | skip
        have hjj : i + 1 + j + 1 = X.length := by omega
        obtain ⟨p,hp⟩ := some_of_lt (show i + 1 + j < X.length by omega)
        rw [drop_some hp,List.drop_eq_nil_of_le (by omega)] at hcx
        have hcx : compactL X = Z.take kk := by rw [hcx]; simp [compactL]
        rw [hK]
        obtain ⟨FL,hFL⟩ : ∃ FL,FL = flat (List.replicate (X.length - kk) (AV.agg [AV.str [],AV.int IntKind.i64 0,AV.int IntKind.i64 0])) := ⟨_,rfl⟩
        rw [← hFL]
        refine ⟨by rw [hcx,Nat.sub_zero,List.length_take,hZl,Nat.min_eq_left hle],FL ++ D.drop (kk * 3 + FL.length),t,[(0,D)],?_⟩
        rw [hcx,← rowL_take,← hD,List.append_assoc]
    · rename_i h4
      have hyx : y ≠ x := fun e => by subst e; simp at h4
      refine ih (by omega) _ _ ⟨rfl,⟨t,rfl⟩,?_⟩
      rw [compactL,if_neg hyx] at he
      rw [he,take_some hy,List.append_assoc,drop_some hx]
      rfl
  · refine opn m180l1.eq_1 ?_
    repeat' first
      | with_reducible first | refine mw_as m180.eq_1 ?_ | refine opn m180k0.eq_1 ?_ | refine opn m180k1.eq_1 ?_ | refine opn m180k2.eq_1 ?_ | refine opn m180k3.eq_1 ?_ | refine ⟨?_,?_⟩ | intro _
      | simp only [go_sem,↓reduceIte,Nat.reduceAdd,Nat.reduceLeDiff,Nat.reduceEqDiff,Nat.reduceBEq,Nat.reduceBNe,Nat.reduceMul,Nat.reduceLT,reduceCtorEq,Int.reduceLT,Int.reduceLE,Int.reduceToNat,Int.reduceNeg,  geB (Nat.le_of_not_lt h)]
    refine same _ ?_
    obtain ⟨y,hy⟩ := some_of_lt (show i < X.length by omega)
    rw [drop_some hy,List.drop_eq_nil_of_le (Nat.le_of_not_lt h)] at he
    rw [he,compactL,← take_some hy,List.take_of_length_le (by omega)]
end Go.Proofs.YtdjdhecanjmchaaGreatDoor
