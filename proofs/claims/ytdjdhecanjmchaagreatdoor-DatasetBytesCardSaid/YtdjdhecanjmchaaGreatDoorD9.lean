/- The law on datasets' bytes: Encode, Decode and Digest agree with the reference. -/
import Derived.Test.YtdjdhecanjmchaaGreatDoorFa
import Derived.Test.YtdjdhecanjmchaaGreatDoorFb
import Derived.Test.YtdjdhecanjmchaaGreatDoorFc
import Derived.Test.YtdjdhecanjmchaaGreatDoorHa
import Derived.Test.YtdjdhecanjmchaaGreatDoorQa
import Derived.Test.YtdjdhecanjmchaaGreatDoorD1
import Derived.Test.YtdjdhecanjmchaaGreatDoorD3
import Derived.Test.YtdjdhecanjmchaaGreatDoorD6
import Derived.Test.YtdjdhecanjmchaaGreatDoorEB
set_option linter.unusedSimpArgs false
set_option linter.unusedVariables false
namespace Go.Proofs.YtdjdhecanjmchaaGreatDoor
open Go Go.V Go.Lib
set_option maxRecDepth 40000
attribute [local go_sem ↓] keepK Opd.ev MK.ev MK.ob gsA
attribute [local go_sem high] gsB
attribute [local go_sem] binEv binOb intOp strOp unEv eqvEv eqCells eqCell noBld tasEv AV.there AV.plus pickCells storeEv AV.solid AV.cells splice putParts rowOK fldEv iarrEv extEv minEv nonNil lenEv isStr appEv appOb appArg slVecEv slVecOb slStrEv slStrOb bnd argF endQ rvsEv rvEv resOf St.none if_true if_false ite_self eq_self ne_eq implies_true forall_const Lab.av Val.av Exa.av Dset.av Req.av gsC
variable {gl : List (Nat × List AV)}
set_option maxHeartbeats 4000000 in
theorem c8 (hg : GlNR gl) {m0 : Int} (hm0 : gl.lookup 1 = some [.int .i64 m0]) (h11 : Pure Tryz.prog gl 11 [] (.ok (.bool true))) (d : Dset) (b : Bytes) : Pure Tryz.prog gl 8 [d.av,.sl 1 (b.map byteAV) .unk] (.ok (.bool true)) := by
  refine ⟨?_,by simp only [fgs,nrs,forall_eq_or_imp,forall_eq,implies_true],by simp only [nrs,forall_eq_or_imp,forall_eq,implies_true]⟩
  simp only [fgs]
  refine .of_run is8 (by simp) (mw_sound 200 ?_)
  by_cases hd : fewD d = true
  rotate_left
  · rw [Bool.not_eq_true] at hd
    repeat' first
      | with_reducible first | refine mw_as m8.eq_1 ?_ | refine opn m8k0.eq_1 ?_ | refine opn m8k1.eq_1 ?_ | refine .pu (h11) hg rfl ?_ | refine .pu (c13 hg d) hg rfl ?_ | refine ⟨?_,?_⟩ | intro _
      | simp only [go_sem,↓reduceIte,Nat.reduceAdd,Nat.reduceLeDiff,Nat.reduceEqDiff,Nat.reduceBEq,Nat.reduceBNe,Nat.reduceMul,Nat.reduceLT,reduceCtorEq,Int.reduceLT,Int.reduceLE,Int.reduceToNat,Int.reduceNeg,  hd]
  by_cases hb : b.length ≤ 20000
  rotate_left
  · have hl : decide ((20000 : Int) < b.length) = true := decide_eq_true (by omega)
    repeat' first
      | with_reducible first | refine mw_as m8.eq_1 ?_ | refine opn m8k0.eq_1 ?_ | refine opn m8k1.eq_1 ?_ | refine .pu (h11) hg rfl ?_ | refine .pu (c13 hg d) hg rfl ?_ | refine ⟨?_,?_⟩ | intro _
      | simp only [go_sem,↓reduceIte,Nat.reduceAdd,Nat.reduceLeDiff,Nat.reduceEqDiff,Nat.reduceBEq,Nat.reduceBNe,Nat.reduceMul,Nat.reduceLT,reduceCtorEq,Int.reduceLT,Int.reduceLE,Int.reduceToNat,Int.reduceNeg,  hd,hl]
  have hl : decide ((20000 : Int) < b.length) = false := decide_eq_false (by omega)
  have hs := fewD_small hd
  have h23 := c23 hg hm0 d hs
  have h28 := c28 hg d hs
  obtain ⟨l,e,hE⟩ : ∃ (l : Bytes) (e : Int),encAV d = .tup [.sl 1 (l.map byteAV) .unk,.int .i64 e] := ⟨_,_,rfl⟩
  rw [hE] at h23 h28
  have h24 := c24 hg hm0 b .unk (by omega)
  have h29 := c29 hg hm0 b .unk (by omega)
  have h30 := c30 hg b .unk (by omega)
  have h31 := c31 hg b .unk (by omega)
  have hb1 : ∀ x : Int,(x == x) = true := fun x => beq_self_eq_true x
  have hb2 : ∀ x : Bytes,(x == x) = true := fun x => beq_self_eq_true x
  cases hD : decB b with
  | error e' =>
    rw [hD] at h24 h29
    simp only [decAV] at h24 h29
    have h16 := c16 hg zD zD (by simp) (by simp) (by simp)
    rw [beq_self_eq_true] at h16
    repeat' first
      | with_reducible first | refine mw_as m8.eq_1 ?_ | refine opn m8k0.eq_1 ?_ | refine opn m8k1.eq_1 ?_ | refine .pu (h11) hg rfl ?_ | refine .pu (c13 hg d) hg rfl ?_ | refine .pu (h23) hg rfl ?_ | refine .pu (h28) hg rfl ?_ | refine .pu (h24) hg rfl ?_ | refine .pu (h29) hg rfl ?_ | refine .pu (Pure.conv (h16) (by simp only [fgs])) hg rfl ?_ | refine .pu (h30) hg rfl ?_ | refine .pu (h31) hg rfl ?_ | refine ⟨?_,?_⟩ | intro _
      | simp only [go_sem,↓reduceIte,Nat.reduceAdd,Nat.reduceLeDiff,Nat.reduceEqDiff,Nat.reduceBEq,Nat.reduceBNe,Nat.reduceMul,Nat.reduceLT,reduceCtorEq,Int.reduceLT,Int.reduceLE,Int.reduceToNat,Int.reduceNeg,  hd,hl,strOf_bytes,hb1,hb2]
  | ok x =>
    obtain ⟨hf,he⟩ := enc_dec hD
    rw [hD] at h24 h29
    simp only [decAV] at h24 h29
    have hsx := form_small hf
    have hfs := hsx.fs
    have hxs := hsx.xs
    have h16 := c16 hg x x (by omega) (by omega) (fun y hy => by have := hsx.vs y hy; omega)
    rw [beq_self_eq_true] at h16
    repeat' first
      | with_reducible first | refine mw_as m8.eq_1 ?_ | refine opn m8k0.eq_1 ?_ | refine opn m8k1.eq_1 ?_ | refine .pu (h11) hg rfl ?_ | refine .pu (c13 hg d) hg rfl ?_ | refine .pu (h23) hg rfl ?_ | refine .pu (h28) hg rfl ?_ | refine .pu (h24) hg rfl ?_ | refine .pu (h29) hg rfl ?_ | refine .pu (h16) hg rfl ?_ | refine .pu (h30) hg rfl ?_ | refine .pu (h31) hg rfl ?_ | refine ⟨?_,?_⟩ | intro _
      | simp only [go_sem,↓reduceIte,Nat.reduceAdd,Nat.reduceLeDiff,Nat.reduceEqDiff,Nat.reduceBEq,Nat.reduceBNe,Nat.reduceMul,Nat.reduceLT,reduceCtorEq,Int.reduceLT,Int.reduceLE,Int.reduceToNat,Int.reduceNeg,  hd,hl,strOf_bytes,hb1,hb2]
end Go.Proofs.YtdjdhecanjmchaaGreatDoor
