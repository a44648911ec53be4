/- Contract: the law that Make agrees with the reference, given the chapter's examples. -/
import Derived.Test.YtdjdhecanjmchaaGreatDoorC9
import Derived.Test.YtdjdhecanjmchaaGreatDoorP1
set_option linter.unusedSimpArgs false
set_option linter.unusedVariables false
namespace Go.Proofs.YtdjdhecanjmchaaGreatDoor
open Go Go.V Go.Lib
set_option maxRecDepth 40000
attribute [local go_sem ↓] keepK Opd.ev MK.ev MK.ob gsA
attribute [local go_sem high] gsB
attribute [local go_sem] binEv binOb intOp strOp unEv eqvEv eqCells eqCell noBld tasEv AV.there AV.plus pickCells storeEv AV.solid AV.cells splice putParts rowOK fldEv iarrEv extEv minEv nonNil lenEv isStr appEv appOb appArg slVecEv slVecOb slStrEv slStrOb bnd argF endQ rvsEv rvEv resOf St.none if_true if_false ite_self eq_self ne_eq implies_true forall_const Lab.av Val.av Exa.av Dset.av Req.av gsC
variable {gl : List (Nat × List AV)}
theorem few_small {r : Req} {l : List Exa} (hr : fewR r = true) (hl : fewD ⟨[],[],l⟩ = true) (hk : ∀ x ∈ r.labs,x.k.length ≤ 9223372036854775807) : SmallR r ∧ SmallD ⟨r.ent,r.fs,l⟩ := by
  simp only [fewR,fewD,fewX,Bool.and_eq_true,decide_eq_true_eq,List.all_eq_true] at hr hl
  obtain ⟨⟨⟨⟨⟨h1,h2⟩,_⟩,h3⟩,_⟩,h4⟩ := hr
  obtain ⟨⟨⟨⟨_,_⟩,h5⟩,_⟩,h6⟩ := hl
  exact ⟨⟨by omega,fun f hf => by have := h3 f hf; omega,hk,by omega,by omega⟩,by show r.ent.length < _; omega,by show r.fs.length < _; omega,fun f hf => by have := h3 f hf; omega,by show l.length < _; omega,fun x hx => by have := (h6 x hx).1.1; omega,fun x hx => by have := (h6 x hx).1.2; omega,fun x hx v hv => by have := (h6 x hx).2 v hv; omega⟩
theorem makeR_small {r : Req} {l : List Exa} {d : Dset} {e : Int} (h : makeR r l = (d,e)) (hs : SmallD ⟨r.ent,r.fs,l⟩) : SmallD d := by
  have z : SmallD ⟨[],[],[]⟩ := ⟨by simp,by simp,by simp,by simp,by simp,by simp,by simp⟩
  simp only [makeR] at h
  split at h
  · split at h
    · injection h with h1 h2; subst h1; exact hs
    · injection h with h1 h2; subst h1; exact z
  · injection h with h1 h2; subst h1; exact z
theorem c3 (hg : GlNR gl) {m0 : Int} (hm0 : gl.lookup 1 = some [.int .i64 m0]) (h11 : Pure Tryz.prog gl 11 [] (.ok (.bool true))) (r : Req) (l : List Exa) (hk : ∀ x ∈ r.labs,x.k.length ≤ 9223372036854775807) : Pure Tryz.prog gl 3 [r.av,.sl 4 (l.map Exa.av) .unk] (.ok (.bool true)) := by
  refine ⟨?_,by simp only [fgs,nrs,forall_eq_or_imp,forall_eq,implies_true],by simp only [nrs,forall_eq_or_imp,forall_eq,implies_true]⟩
  simp only [fgs]
  refine .of_run is3 (by simp) (mw_sound 200 ?_)
  have h12 := c12 (gl := gl) hg r
  have h13 := c13 (gl := gl) hg ⟨[],[],l⟩
  rcases Bool.eq_false_or_eq_true (fewR r) with hr | hr
  · rcases Bool.eq_false_or_eq_true (fewD ⟨[],[],l⟩) with hl | hl
    · obtain ⟨s1,s2⟩ := few_small hr hl hk
      have h14 := c14 hg hm0 r l .unk s1 s2
      have h15 := c15 hg r l .unk s1 s2
      obtain ⟨⟨d,e⟩,he⟩ : ∃ p,makeR r l = p := ⟨_,rfl⟩
      have sd := makeR_small he s2
      rw [makeAV,he] at h14 h15
      have h16 := c16 (gl := gl) hg d d (by have := sd.fs; omega) (by have := sd.xs; omega) (fun x hx => by have := sd.vs x hx; omega)
      rw [show (d == d) = true by simp] at h16
      rw [hr] at h12
      rw [hl] at h13
      repeat' first
        | with_reducible first | refine mw_as m3.eq_1 ?_ | refine opn m3k0.eq_1 ?_ | refine opn m3k1.eq_1 ?_ | refine .pu (h11) hg rfl ?_ | refine .pu (h12) hg rfl ?_ | refine .pu (Pure.conv (h13) (by simp only [fgs])) hg rfl ?_ | refine .pu (h14) hg rfl ?_ | refine .pu (h15) hg rfl ?_ | refine .pu (Pure.conv (h16) (by simp only [fgs])) hg rfl ?_ | refine ⟨?_,?_⟩ | intro _
        | simp only [go_sem,↓reduceIte,Nat.reduceAdd,Nat.reduceLeDiff,Nat.reduceEqDiff,Nat.reduceBEq,Nat.reduceBNe,Nat.reduceMul,Nat.reduceLT,reduceCtorEq,Int.reduceLT,Int.reduceLE,Int.reduceToNat,Int.reduceNeg]
    · rw [hr] at h12
      rw [hl] at h13
      repeat' first
        | with_reducible first | refine mw_as m3.eq_1 ?_ | refine opn m3k0.eq_1 ?_ | refine opn m3k1.eq_1 ?_ | refine .pu (h11) hg rfl ?_ | refine .pu (h12) hg rfl ?_ | refine .pu (Pure.conv (h13) (by simp only [fgs])) hg rfl ?_ | refine ⟨?_,?_⟩ | intro _
        | simp only [go_sem,↓reduceIte,Nat.reduceAdd,Nat.reduceLeDiff,Nat.reduceEqDiff,Nat.reduceBEq,Nat.reduceBNe,Nat.reduceMul,Nat.reduceLT,reduceCtorEq,Int.reduceLT,Int.reduceLE,Int.reduceToNat,Int.reduceNeg]
  · rw [hr] at h12
    repeat' first
      | with_reducible first | refine mw_as m3.eq_1 ?_ | refine opn m3k0.eq_1 ?_ | refine opn m3k1.eq_1 ?_ | refine .pu (h11) hg rfl ?_ | refine .pu (h12) hg rfl ?_ | refine ⟨?_,?_⟩ | intro _
      | simp only [go_sem,↓reduceIte,Nat.reduceAdd,Nat.reduceLeDiff,Nat.reduceEqDiff,Nat.reduceBEq,Nat.reduceBNe,Nat.reduceMul,Nat.reduceLT,reduceCtorEq,Int.reduceLT,Int.reduceLE,Int.reduceToNat,Int.reduceNeg]
end Go.Proofs.YtdjdhecanjmchaaGreatDoor
