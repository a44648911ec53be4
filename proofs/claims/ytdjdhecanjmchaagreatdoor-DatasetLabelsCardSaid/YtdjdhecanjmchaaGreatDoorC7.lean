/- Contracts: request.Sorted. -/
import Derived.Test.YtdjdhecanjmchaaGreatDoorC6
import Derived.Test.YtdjdhecanjmchaaGreatDoorO1
set_option linter.unusedSimpArgs false
set_option linter.unusedVariables false
namespace Go.Proofs.YtdjdhecanjmchaaGreatDoor
open Go Go.V Go.Lib
set_option maxRecDepth 40000
attribute [local go_sem ↓] keepK Opd.ev MK.ev MK.ob gsA
attribute [local go_sem high] gsB
attribute [local go_sem] binEv binOb intOp strOp unEv eqvEv eqCells eqCell noBld tasEv AV.there AV.plus pickCells storeEv AV.solid AV.cells splice putParts rowOK fldEv iarrEv extEv minEv nonNil lenEv isStr appEv appOb appArg slVecEv slVecOb slStrEv slStrOb bnd argF endQ rvsEv rvEv resOf St.none if_true if_false ite_self eq_self ne_eq implies_true forall_const Lab.av Val.av Exa.av Dset.av Req.av gsC
variable {gl : List (Nat × List AV)}
theorem MCalls.pre {P : Program} {f : FuncId} {xs : List AV} {S S' : St} {K : Out → St → Prop} (h : MCalls P f xs S' K) (hle : S.le S') : MCalls P f xs S K := fun wb G w vs hS hv => h wb G w vs (hS.weak hle) hv
def FrzQ (gl : List (Nat × List AV)) (k : Nat) (xs : List AV) (o : Out) (S' : St) : Prop := o = .ok (.osl k xs.length 0 0) ∧ ∃ n nt live R ob,isBld (flat xs ++ R) = false ∧ S' = ⟨n,(0,flat xs ++ R) :: ob,nt,live,gl⟩
theorem MCalls.frozen {P : Program} {f : FuncId} {ys : List AV} {S : St} {k : Nat} {xs : List AV} (hk : ∀ x ∈ xs,x.cells.length = k) (hb : isBld (flat xs) = false)
    (h : MCalls P f ys S (FrzQ gl k xs)) : MCalls P f ys S fun o _ => o = .ok (.sl k xs .unk) := by
  intro wb G w vs hS hv
  refine (h wb G w vs hS hv).mono fun e w' ⟨G',S',h1,h2,h3⟩ => ?_
  cases e with
  | outgrown => exact h3.elim
  | panicked ch => obtain ⟨_,_,_,_,h4,_⟩ := h3; cases h4
  | returned v =>
    obtain ⟨r,h4,h5,n,nt,live,R,ob,h6,rfl⟩ := h3
    injection h5 with h5
    subst h5
    have h7 : StRel wb G' ⟨n,[(0,flat xs)],nt,[],gl⟩ w' := StRel.imp h2 (fun l cs' e => by
      simp only [List.lookup_cons,List.lookup_nil] at e
      split at e
      · rename_i hl
        have : l = 0 := by simpa using hl
        subst this
        injection e with e
        subst e
        refine ⟨hb,flat xs ++ R,by simp,h6,fun m c hc => ⟨c,?_,.refl _⟩⟩
        rw [List.getElem?_append_left (by rcases Nat.lt_or_ge m (flat xs).length with h' | h'; exact h'; rw [List.getElem?_eq_none h'] at hc; cases hc)]
        exact hc
      · cases e) (by simp)
    obtain ⟨G2,g1,g2,g3⟩ := StRel.freeze (l := 0) (k := k) (xs := xs) (ob' := []) h7 (by simp) hb hk (fun l' cs' e => by cases e)
    exact ⟨G2,_,Gh.le_trans h1 g1,g2,_,g3 _ _ _ (.all rfl) h4,rfl⟩
theorem rows_bld (X : List Lab) (R : List AV) : isBld (rowL X ++ R) = false ∨ X = [] := by
  cases X with
  | nil => exact .inr rfl
  | cons x X => exact .inl (by simp [rowL,AV.cells,isBld])
theorem sortR_ne {x : Lab} {X : List Lab} : sortR (x :: X) ≠ [] := fun e => by
  have := (sortR_mem (x :: X) x).2 (by simp)
  rw [e] at this
  cases this
theorem c124 (hg : GlNR gl) (X : List Lab) (hX : X.length < 4294950000) : Pure Tryz.prog gl 124 [.sl 3 (X.map Lab.av) .unk] (.ok (.sl 3 ((sortR X).map Lab.av) .unk)) := by
  match X,hX with
  | [],_ => exact c124_0 hg
  | x :: X,hX =>
    refine ⟨?_,by simp only [fgs]; intro a ha; rw [List.mem_singleton] at ha; subst ha; exact nrL (x :: X),by simp only [nrs,forall_eq_or_imp,forall_eq,implies_true]⟩
    simp only [fgs]
    refine MCalls.frozen (gl := gl) (fun y hy => by obtain ⟨z,_,rfl⟩ := List.mem_map.1 hy; rfl) (row_bld _) ?_
    refine .of_run is124 (by simp) (mw_sound 200 ?_)
    have hX1 : X.length < 4294960000 := by simp at hX; omega
    have h177 := c177 (gl := gl) hg x X hX1
    simp only [List.map_cons,Lab.av,St.none] at h177
    repeat' first
      | with_reducible first | refine mw_as m124.eq_1 ?_ | refine CallK.eff (h177) ?_ | refine ⟨?_,?_⟩ | intro _
      | simp only [go_sem,↓reduceIte,Nat.reduceAdd,Nat.reduceLeDiff,Nat.reduceEqDiff,Nat.reduceBEq,Nat.reduceBNe,Nat.reduceMul,Nat.reduceLT,reduceCtorEq,Int.reduceLT,Int.reduceLE,Int.reduceToNat,Int.reduceNeg]
    refine CallK.of (c178 (x :: X) (by simp at hX ⊢; omega) 0 gl) ?_ ?_
    · rintro r S' ⟨e,Y,hl,hm,hw,rfl⟩
      cases e
      repeat' first
        | with_reducible first | refine mw_as m124.eq_1 ?_ | refine ⟨?_,?_⟩ | intro _
        | simp only [go_sem,↓reduceIte,Nat.reduceAdd,Nat.reduceLeDiff,Nat.reduceEqDiff,Nat.reduceBEq,Nat.reduceBNe,Nat.reduceMul,Nat.reduceLT,reduceCtorEq,Int.reduceLT,Int.reduceLE,Int.reduceToNat,Int.reduceNeg]
      have hY1 : 1 ≤ Y.length := by rw [hl]; simp
      have h180 := MCalls.pre (S := ⟨1,[(0,rowL Y),(0,rowL (x :: X))],0,[],gl⟩) (c180 hg Y (by rw [hl]; simp at hX ⊢; omega) hY1 0) ⟨rfl,rfl,rfl,(by
        intro l cs e
        simp only [St.get,List.lookup_cons,List.lookup_nil] at e ⊢
        split at e
        · exact e
        · cases e),fun t ht => (by cases ht)⟩
      rw [compact_sort hm hw,hl] at h180
      refine CallK.of h180 ?_ ?_
      · rintro r S' ⟨e,R,t,ob,rfl⟩
        cases e
        repeat' first
          | with_reducible first | refine mw_as m124.eq_1 ?_ | refine ⟨?_,?_⟩ | intro _
          | simp only [go_sem,↓reduceIte,Nat.reduceAdd,Nat.reduceLeDiff,Nat.reduceEqDiff,Nat.reduceBEq,Nat.reduceBNe,Nat.reduceMul,Nat.reduceLT,reduceCtorEq,Int.reduceLT,Int.reduceLE,Int.reduceToNat,Int.reduceNeg]
        exact ⟨by rw [List.length_map],_,_,_,R,ob,(rows_bld _ R).resolve_right sortR_ne,rfl⟩
      · rintro v S' ⟨e,_⟩
        cases e
    · rintro v S' ⟨e,_⟩
      cases e
end Go.Proofs.YtdjdhecanjmchaaGreatDoor
