/- Contracts: prefixes, trimming, and decimals read back. -/
import Derived.Test.YtdjdhecanjmchaaGreatDoorFa
import Derived.Test.YtdjdhecanjmchaaGreatDoorFb
import Derived.Test.YtdjdhecanjmchaaGreatDoorFc
import Derived.Test.YtdjdhecanjmchaaGreatDoorTa
import Derived.Test.YtdjdhecanjmchaaGreatDoorX1
set_option linter.unusedSimpArgs false
set_option linter.unusedVariables false
namespace Go.Proofs.YtdjdhecanjmchaaGreatDoor
open Go Go.V Go.Lib
set_option maxRecDepth 40000
attribute [local go_sem ↓] keepK Opd.ev MK.ev MK.ob gsA
attribute [local go_sem high] gsB
attribute [local go_sem] binEv binOb intOp strOp unEv eqvEv eqCells eqCell noBld tasEv AV.there AV.plus pickCells storeEv AV.solid AV.cells splice putParts rowOK fldEv iarrEv extEv minEv nonNil lenEv isStr appEv appOb appArg slVecEv slVecOb slStrEv slStrOb bnd argF endQ rvsEv rvEv resOf St.none if_true if_false ite_self eq_self ne_eq implies_true forall_const Lab.av Val.av Exa.av Dset.av Req.av gsC
variable {gl : List (Nat × List AV)}
theorem byte_beq (x c : UInt8) : (((x.toNat : Int) == (c.toNat : Int)) : Bool) = (x == c) := by
  rw [Bool.eq_iff_iff]
  simp only [beq_iff_eq]
  constructor
  · intro h
    exact UInt8.toNat_inj.1 (by omega)
  · rintro rfl
    rfl
theorem lt0s (n : Nat) : decide ((0 : Int) < ((n + 1 : Nat) : Int)) = true := decide_eq_true (by omega)
theorem lt00 : decide ((0 : Int) < ((0 : Nat) : Int)) = false := rfl
def hpB (s : Bytes) (c : UInt8) : Bool := match s with
  | [] => false
  | x :: _ => x == c
theorem c141 (s : Bytes) (c : UInt8) (hs : s.length < 4294960000) : Pure Tryz.prog gl 141 [.str s,.str [c]] (.ok (.bool (hpB s c))) := by
  refine ⟨?_,by simp only [fgs,nrs,forall_eq_or_imp,forall_eq,implies_true],by simp only [nrs,forall_eq_or_imp,forall_eq,implies_true]⟩
  simp only [fgs]
  refine .of_run is141 (by simp) (mw_sound 200 ?_)
  cases s with
  | nil =>
    have h : decide (((0 + 1 : Nat) : Int) ≤ ((0 : Nat) : Int)) = false := rfl
    repeat' first
      | with_reducible first | refine mw_as m141.eq_1 ?_ | refine ⟨?_,?_⟩ | intro _
      | simp only [go_sem,↓reduceIte,Nat.reduceAdd,Nat.reduceLeDiff,Nat.reduceEqDiff,Nat.reduceBEq,Nat.reduceBNe,Nat.reduceMul,Nat.reduceLT,reduceCtorEq,Int.reduceLT,Int.reduceLE,Int.reduceToNat,Int.reduceNeg,  h]
    all_goals rfl
  | cons x s =>
    have h : decide (((0 + 1 : Nat) : Int) ≤ ((s.length + 1 : Nat) : Int)) = true := decide_eq_true (by omega)
    have h1 : ((0 + 1 : Nat) : Int).toNat = 1 := rfl
    have h2 : (([x] : Bytes) == [c]) = (x == c) := by simp [List.cons_beq_cons]
    repeat' first
      | with_reducible first | refine mw_as m141.eq_1 ?_ | refine ⟨?_,?_⟩ | intro _
      | simp only [go_sem,↓reduceIte,Nat.reduceAdd,Nat.reduceLeDiff,Nat.reduceEqDiff,Nat.reduceBEq,Nat.reduceBNe,Nat.reduceMul,Nat.reduceLT,reduceCtorEq,Int.reduceLT,Int.reduceLE,Int.reduceToNat,Int.reduceNeg,  h,h1,h2,List.take_succ_cons,List.take_zero,hpB]
    all_goals first
      | (simp at *; omega; done)
      | skip
theorem c86 (hg : GlNR gl) (s : Bytes) (c : UInt8) (hs : s.length < 4294960000) : Pure Tryz.prog gl 86 [.str s,.str [c]] (.ok (.bool (hpB s c))) := by
  refine ⟨?_,by simp only [fgs,nrs,forall_eq_or_imp,forall_eq,implies_true],by simp only [nrs,forall_eq_or_imp,forall_eq,implies_true]⟩
  simp only [fgs]
  refine .of_run is86 (by simp) (mw_sound 200 ?_)
  repeat' first
    | with_reducible first | refine mw_as m86.eq_1 ?_ | refine .pu (c141 s c hs) hg rfl ?_ | refine ⟨?_,?_⟩ | intro _
    | simp only [go_sem,↓reduceIte,Nat.reduceAdd,Nat.reduceLeDiff,Nat.reduceEqDiff,Nat.reduceBEq,Nat.reduceBNe,Nat.reduceMul,Nat.reduceLT,reduceCtorEq,Int.reduceLT,Int.reduceLE,Int.reduceToNat,Int.reduceNeg]
def trL (c : UInt8) (s : Bytes) : Bytes := s.dropWhile (· == c)
def trR (c : UInt8) (s : Bytes) : Bytes := (s.reverse.dropWhile (· == c)).reverse
theorem c142 (s : Bytes) (c : UInt8) (hs : s.length < 4294960000) : Pure Tryz.prog gl 142 [.str s,.int .u8 c.toNat] (.ok (.str (trL c s))) := by
  refine ⟨?_,by simp only [fgs,nrs,forall_eq_or_imp,forall_eq,implies_true],by simp only [nrs,forall_eq_or_imp,forall_eq,implies_true]⟩
  simp only [fgs]
  refine .of_run is142 (by simp) (mw_sound 200 ?_)
  repeat' first
    | with_reducible first | refine mw_as m142.eq_1 ?_ | refine opn m142k0.eq_1 ?_ | refine opn m142k1.eq_1 ?_ | refine opn m142k2.eq_1 ?_ | refine ⟨?_,?_⟩ | intro _
    | simp only [go_sem,↓reduceIte,Nat.reduceAdd,Nat.reduceLeDiff,Nat.reduceEqDiff,Nat.reduceBEq,Nat.reduceBNe,Nat.reduceMul,Nat.reduceLT,reduceCtorEq,Int.reduceLT,Int.reduceLE,Int.reduceToNat,Int.reduceNeg]
  refine .loopN (fun mm F S => ∃ t : Bytes,mm = t.length ∧ t.length ≤ s.length ∧ F = [(0,.str t),(1,.int .u8 c.toNat)] ∧ S = .none gl ∧ trL c s = trL c t) s.length ⟨s,rfl,Nat.le_refl _,rfl,rfl,rfl⟩ ?_
  rintro mm F S ⟨t,rfl,hl,rfl,rfl,he⟩ ih
  cases t with
  | nil =>
    refine opn m142l0.eq_1 ?_
    repeat' first
      | with_reducible first | refine mw_as m142.eq_1 ?_ | refine opn m142k0.eq_1 ?_ | refine opn m142k1.eq_1 ?_ | refine opn m142k2.eq_1 ?_ | refine ⟨?_,?_⟩ | intro _
      | simp only [go_sem,↓reduceIte,Nat.reduceAdd,Nat.reduceLeDiff,Nat.reduceEqDiff,Nat.reduceBEq,Nat.reduceBNe,Nat.reduceMul,Nat.reduceLT,reduceCtorEq,Int.reduceLT,Int.reduceLE,Int.reduceToNat,Int.reduceNeg,  lt00]
    rw [he]
    rfl
  | cons x t =>
    have hl2 : t.length + 1 ≤ s.length := hl
    refine opn m142l0.eq_1 ?_
    by_cases hx : x == c
    · skip
      repeat' first
        | with_reducible first | refine mw_as m142.eq_1 ?_ | refine opn m142k0.eq_1 ?_ | refine opn m142k1.eq_1 ?_ | refine opn m142k2.eq_1 ?_ | refine ⟨?_,?_⟩ | intro _
        | simp only [go_sem,↓reduceIte,Nat.reduceAdd,Nat.reduceLeDiff,Nat.reduceEqDiff,Nat.reduceBEq,Nat.reduceBNe,Nat.reduceMul,Nat.reduceLT,reduceCtorEq,Int.reduceLT,Int.reduceLE,Int.reduceToNat,Int.reduceNeg,  lt0s,byte_beq,hx]
      · omega
      · omega
      · refine ih _ _ _ (Nat.lt_succ_self _) ⟨t,rfl,by omega,rfl,rfl,?_⟩
        rw [he,trL,List.dropWhile_cons,if_pos hx]
        rfl
    · rw [Bool.not_eq_true] at hx
      repeat' first
        | with_reducible first | refine mw_as m142.eq_1 ?_ | refine opn m142k0.eq_1 ?_ | refine opn m142k1.eq_1 ?_ | refine opn m142k2.eq_1 ?_ | refine ⟨?_,?_⟩ | intro _
        | simp only [go_sem,↓reduceIte,Nat.reduceAdd,Nat.reduceLeDiff,Nat.reduceEqDiff,Nat.reduceBEq,Nat.reduceBNe,Nat.reduceMul,Nat.reduceLT,reduceCtorEq,Int.reduceLT,Int.reduceLE,Int.reduceToNat,Int.reduceNeg,  lt0s,byte_beq,hx]
      rw [he,trL,List.dropWhile_cons,if_neg (by rw [hx]; exact Bool.false_ne_true)]
  all_goals trace_state
theorem c143 (s : Bytes) (c : UInt8) (hs : s.length < 4294960000) : Pure Tryz.prog gl 143 [.str s,.int .u8 c.toNat] (.ok (.str (trR c s))) := by
  refine ⟨?_,by simp only [fgs,nrs,forall_eq_or_imp,forall_eq,implies_true],by simp only [nrs,forall_eq_or_imp,forall_eq,implies_true]⟩
  simp only [fgs]
  refine .of_run is143 (by simp) (mw_sound 200 ?_)
  repeat' first
    | with_reducible first | refine mw_as m143.eq_1 ?_ | refine opn m143k0.eq_1 ?_ | refine opn m143k1.eq_1 ?_ | refine opn m143k2.eq_1 ?_ | refine ⟨?_,?_⟩ | intro _
    | simp only [go_sem,↓reduceIte,Nat.reduceAdd,Nat.reduceLeDiff,Nat.reduceEqDiff,Nat.reduceBEq,Nat.reduceBNe,Nat.reduceMul,Nat.reduceLT,reduceCtorEq,Int.reduceLT,Int.reduceLE,Int.reduceToNat,Int.reduceNeg]
  refine .loopN (fun mm F S => ∃ t : Bytes,mm = t.length ∧ t.length ≤ s.length ∧ F = [(0,.str t),(1,.int .u8 c.toNat)] ∧ S = .none gl ∧ trR c s = trR c t) s.length ⟨s,rfl,Nat.le_refl _,rfl,rfl,rfl⟩ ?_
  rintro mm F S ⟨t,rfl,hl,rfl,rfl,he⟩ ih
  rcases List.eq_nil_or_concat t with rfl | ⟨t,x,rfl⟩
  · refine opn m143l0.eq_1 ?_
    repeat' first
      | with_reducible first | refine mw_as m143.eq_1 ?_ | refine opn m143k0.eq_1 ?_ | refine opn m143k1.eq_1 ?_ | refine opn m143k2.eq_1 ?_ | refine ⟨?_,?_⟩ | intro _
      | simp only [go_sem,↓reduceIte,Nat.reduceAdd,Nat.reduceLeDiff,Nat.reduceEqDiff,Nat.reduceBEq,Nat.reduceBNe,Nat.reduceMul,Nat.reduceLT,reduceCtorEq,Int.reduceLT,Int.reduceLE,Int.reduceToNat,Int.reduceNeg,  lt00]
    rw [he]
    rfl
  · rw [List.concat_eq_append] at *
    have hl2 : t.length + 1 ≤ s.length := by simpa using hl
    have hlen : (t ++ [x]).length = t.length + 1 := by simp
    have hget : (t ++ [x])[t.length]? = some x := by simp
    have htk : List.take t.length (t ++ [x]) = t := by simp
    have hsub := sub_one t.length (by omega)
    have h2 : trR c (t ++ [x]) = if x == c then trR c t else t ++ [x] := by
      unfold trR
      rw [List.reverse_append,List.reverse_singleton,List.singleton_append,List.dropWhile_cons]
      split <;> simp
    rw [h2] at he
    generalize ht : t ++ [x] = u at *
    refine opn m143l0.eq_1 ?_
    by_cases hx : x == c
    · rw [if_pos hx] at he
      repeat' first
        | with_reducible first | refine mw_as m143.eq_1 ?_ | refine opn m143k0.eq_1 ?_ | refine opn m143k1.eq_1 ?_ | refine opn m143k2.eq_1 ?_ | refine ⟨?_,?_⟩ | intro _
        | simp only [go_sem,↓reduceIte,Nat.reduceAdd,Nat.reduceLeDiff,Nat.reduceEqDiff,Nat.reduceBEq,Nat.reduceBNe,Nat.reduceMul,Nat.reduceLT,reduceCtorEq,Int.reduceLT,Int.reduceLE,Int.reduceToNat,Int.reduceNeg,  hlen,lt0s,byte_beq,hx,hget,htk,hsub]
      · omega
      · exact ih _ _ _ (by omega) ⟨t,rfl,by omega,rfl,rfl,he⟩
    · rw [if_neg hx] at he
      rw [Bool.not_eq_true] at hx
      repeat' first
        | with_reducible first | refine mw_as m143.eq_1 ?_ | refine opn m143k0.eq_1 ?_ | refine opn m143k1.eq_1 ?_ | refine opn m143k2.eq_1 ?_ | refine ⟨?_,?_⟩ | intro _
        | simp only [go_sem,↓reduceIte,Nat.reduceAdd,Nat.reduceLeDiff,Nat.reduceEqDiff,Nat.reduceBEq,Nat.reduceBNe,Nat.reduceMul,Nat.reduceLT,reduceCtorEq,Int.reduceLT,Int.reduceLE,Int.reduceToNat,Int.reduceNeg,  hlen,lt0s,byte_beq,hx,hget,htk,hsub]
      rw [he]
  all_goals trace_state
theorem c87 (hg : GlNR gl) (s : Bytes) (c : UInt8) (hc : c.toNat < 128) (hs : s.length < 4294960000) : Pure Tryz.prog gl 87 [.str s,.str [c]] (.ok (.str (trL c (trR c s)))) := by
  refine ⟨?_,by simp only [fgs,nrs,forall_eq_or_imp,forall_eq,implies_true],by simp only [nrs,forall_eq_or_imp,forall_eq,implies_true]⟩
  simp only [fgs]
  refine .of_run is87 (by simp) (mw_sound 200 ?_)
  have hc2 : decide ((c.toNat : Int) < 128) = true := decide_eq_true (by omega)
  have h1 : (((0 + 1 : Nat) : Int) == 1) = true := rfl
  have h2 : (([c] : Bytes) == []) = false := rfl
  have hl : (trR c s).length ≤ s.length := by
    unfold trR
    rw [List.length_reverse]
    exact Nat.le_trans (List.dropWhile_sublist _).length_le (by simp)
  cases s with
  | nil =>
    repeat' first
      | with_reducible first | refine mw_as m87.eq_1 ?_ | refine opn m87k0.eq_1 ?_ | refine opn m87k1.eq_1 ?_ | refine opn m87k2.eq_1 ?_ | refine opn m87k3.eq_1 ?_ | refine ⟨?_,?_⟩ | intro _
      | simp only [go_sem,↓reduceIte,Nat.reduceAdd,Nat.reduceLeDiff,Nat.reduceEqDiff,Nat.reduceBEq,Nat.reduceBNe,Nat.reduceMul,Nat.reduceLT,reduceCtorEq,Int.reduceLT,Int.reduceLE,Int.reduceToNat,Int.reduceNeg]
    all_goals rfl
  | cons x s =>
    have h3 : ((x :: s : Bytes) == []) = false := rfl
    have hl3 : (trR c (x :: s)).length < 4294960000 := by omega
    repeat' first
      | with_reducible first | refine mw_as m87.eq_1 ?_ | refine opn m87k0.eq_1 ?_ | refine opn m87k1.eq_1 ?_ | refine opn m87k2.eq_1 ?_ | refine opn m87k3.eq_1 ?_ | refine .pu (c143 (x :: s) c hs) hg rfl ?_ | refine .pu (c142 (trR c (x :: s)) c hl3) hg rfl ?_ | refine ⟨?_,?_⟩ | intro _
      | simp only [go_sem,↓reduceIte,Nat.reduceAdd,Nat.reduceLeDiff,Nat.reduceEqDiff,Nat.reduceBEq,Nat.reduceBNe,Nat.reduceMul,Nat.reduceLT,reduceCtorEq,Int.reduceLT,Int.reduceLE,Int.reduceToNat,Int.reduceNeg,  h1,h2,h3,hc2]
    all_goals trace_state
end Go.Proofs.YtdjdhecanjmchaaGreatDoor
