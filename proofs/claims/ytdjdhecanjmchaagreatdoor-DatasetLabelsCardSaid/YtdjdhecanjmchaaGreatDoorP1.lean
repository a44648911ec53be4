/- Contracts: ticks, ranges, texts, keys, and the check of a value: what the program's functions and the reference's come to. -/
import Derived.Test.YtdjdhecanjmchaaGreatDoorFa
import Derived.Test.YtdjdhecanjmchaaGreatDoorFb
import Derived.Test.YtdjdhecanjmchaaGreatDoorFc
import Derived.Test.YtdjdhecanjmchaaGreatDoorW1
import Derived.Test.YtdjdhecanjmchaaGreatDoorShelf
set_option linter.unusedSimpArgs false
set_option linter.unusedVariables false
namespace Go.Proofs.YtdjdhecanjmchaaGreatDoor
open Go Go.V
attribute [local go_sem ↓] keepK Opd.ev MK.ev MK.ob gsA
attribute [local go_sem high] gsB
attribute [local go_sem] binEv binOb intOp strOp unEv eqvEv eqCells eqCell noBld tasEv AV.there AV.plus pickCells storeEv AV.solid AV.cells splice putParts rowOK fldEv iarrEv extEv minEv nonNil lenEv isStr appEv appOb appArg slVecEv slVecOb slStrEv slStrOb bnd argF endQ rvsEv rvEv resOf St.none if_true if_false ite_self eq_self ne_eq implies_true forall_const Lab.av Val.av Exa.av Dset.av Req.av gsC
section
open Go Go.V
set_option maxRecDepth 40000
variable {gl : List (Nat × List AV)}
def tickB (n : Int) : Bool := decide (0 ≤ n) && decide (n ≤ 1099511627776)
theorem c94 (n : Int) : Pure Tryz.prog gl 94 [.int .i64 n] (.ok (.bool (tickB n))) := by
  refine ⟨?_,by simp only [fgs,nrs,forall_eq_or_imp,forall_eq,implies_true],by simp only [nrs,forall_eq_or_imp,forall_eq,implies_true]⟩
  simp only [fgs]
  refine .of_run is94 (by simp) (mw_sound 200 ?_)
  unfold m94
  simp only [go_sem,↓reduceIte,Nat.reduceAdd,Nat.reduceLeDiff,Nat.reduceEqDiff,Nat.reduceBEq,Nat.reduceBNe,Nat.reduceMul,Nat.reduceLT,reduceCtorEq,Int.reduceLT,Int.reduceLE,Int.reduceToNat,Int.reduceNeg,tickB]
  cases decide (0 ≤ n) <;> simp
theorem c152 (n : Int) : Pure Tryz.prog gl 152 [.int .i64 n] (.ok (.bool (tickB n))) := by
  refine ⟨?_,by simp only [fgs,nrs,forall_eq_or_imp,forall_eq,implies_true],by simp only [nrs,forall_eq_or_imp,forall_eq,implies_true]⟩
  simp only [fgs]
  refine .of_run is152 (by simp) (mw_sound 200 ?_)
  unfold m152
  simp only [go_sem,↓reduceIte,Nat.reduceAdd,Nat.reduceLeDiff,Nat.reduceEqDiff,Nat.reduceBEq,Nat.reduceBNe,Nat.reduceMul,Nat.reduceLT,reduceCtorEq,Int.reduceLT,Int.reduceLE,Int.reduceToNat,Int.reduceNeg,tickB]
  cases decide (0 ≤ n) <;> simp
theorem c99 (n : Int) : Pure Tryz.prog gl 99 [.int .i64 n] (.ok (.bool (tickB n))) := by
  refine ⟨?_,by simp only [fgs,nrs,forall_eq_or_imp,forall_eq,implies_true],by simp only [nrs,forall_eq_or_imp,forall_eq,implies_true]⟩
  simp only [fgs]
  refine .of_run is99 (by simp) (mw_sound 200 ?_)
  unfold m99
  simp only [go_sem,↓reduceIte,Nat.reduceAdd,Nat.reduceLeDiff,Nat.reduceEqDiff,Nat.reduceBEq,Nat.reduceBNe,Nat.reduceMul,Nat.reduceLT,reduceCtorEq,Int.reduceLT,Int.reduceLE,Int.reduceToNat,Int.reduceNeg,tickB]
  cases decide (0 ≤ n) <;> simp
def rangeB (n : Int) : Bool := decide (-1152921504606846976 ≤ n) && decide (n ≤ 1152921504606846976)
theorem c173 (n : Int) : Pure Tryz.prog gl 173 [.int .i64 n] (.ok (.bool (rangeB n))) := by
  refine ⟨?_,by simp only [fgs,nrs,forall_eq_or_imp,forall_eq,implies_true],by simp only [nrs,forall_eq_or_imp,forall_eq,implies_true]⟩
  simp only [fgs]
  refine .of_run is173 (by simp) (mw_sound 200 ?_)
  unfold m173
  simp only [go_sem,↓reduceIte,Nat.reduceAdd,Nat.reduceLeDiff,Nat.reduceEqDiff,Nat.reduceBEq,Nat.reduceBNe,Nat.reduceMul,Nat.reduceLT,reduceCtorEq,Int.reduceLT,Int.reduceLE,Int.reduceToNat,Int.reduceNeg,rangeB]
  cases decide (-1152921504606846976 ≤ n) <;> simp
def okB (low : Nat) (c : UInt8) : Bool := decide (low ≤ c.toNat) && decide (c.toNat ≤ 126) && c != 34 && c != 92
theorem okB_eq (low : Nat) (c : UInt8) : okB low c = !(decide ((c.toNat : Int) < (low : Int)) || (decide ((126 : Int) < c.toNat) || ((c.toNat : Int) == 34 || (c.toNat : Int) == 92))) := by
  have h34 : ((c.toNat : Int) == 34) = (c == 34) := by
    rw [Bool.eq_iff_iff]
    simp only [beq_iff_eq]
    exact ⟨fun h => UInt8.toNat_inj.1 (by simpa using (by omega : c.toNat = 34)),fun h => by rw [h]; rfl⟩
  have h92 : ((c.toNat : Int) == 92) = (c == 92) := by
    rw [Bool.eq_iff_iff]
    simp only [beq_iff_eq]
    exact ⟨fun h => UInt8.toNat_inj.1 (by simpa using (by omega : c.toNat = 92)),fun h => by rw [h]; rfl⟩
  rw [h34,h92,okB]
  simp only [bne,Bool.not_or]
  have h1 : decide ((c.toNat : Int) < low) = !decide (low ≤ c.toNat) := by rw [Bool.eq_iff_iff]; simp
  have h2 : decide ((126 : Int) < c.toNat) = !decide (c.toNat ≤ 126) := by rw [Bool.eq_iff_iff]; simp; omega
  rw [h1,h2]
  simp only [Bool.not_not,Bool.and_assoc]
theorem c204 (s : Bytes) (low : Nat) (hs : s.length < 4294967296) : Pure Tryz.prog gl 204 [.str s,.int .u8 low] (.ok (.bool (s.all (okB low)))) := by
  refine ⟨?_,by simp only [fgs,nrs,forall_eq_or_imp,forall_eq,implies_true],by simp only [nrs,forall_eq_or_imp,forall_eq,implies_true]⟩
  simp only [fgs]
  refine .of_run is204 (by simp) (mw_sound 200 ?_)
  unfold m204
  simp only [go_sem,↓reduceIte,Nat.reduceAdd,Nat.reduceLeDiff,Nat.reduceEqDiff,Nat.reduceBEq,Nat.reduceBNe,Nat.reduceMul,Nat.reduceLT,reduceCtorEq,Int.reduceLT,Int.reduceLE,Int.reduceToNat,Int.reduceNeg]
  refine .forUp s.length (fun i F S => F = [(0,.str s),(1,.int .u8 low),(5,.int .i64 i)] ∧ S = .none gl ∧ s.all (okB low) = (s.drop i).all (okB low)) ⟨rfl,rfl,rfl⟩ ?_
  rintro i F S hi ⟨rfl,rfl,he⟩ ih
  by_cases h : i < s.length
  · obtain ⟨c,hc⟩ := some_of_lt h
    have hd := drop_some hc
    have ho := okB_eq low c
    refine opn m204l0.eq_1 ?_
    simp only [go_sem,↓reduceIte,Nat.reduceAdd,Nat.reduceLeDiff,Nat.reduceEqDiff,Nat.reduceBEq,Nat.reduceBNe,Nat.reduceMul,Nat.reduceLT,reduceCtorEq,Int.reduceLT,Int.reduceLE,Int.reduceToNat,Int.reduceNeg,hc,ltB h]
    rw [← Bool.not_not (b := decide _ || _),← ho]
    refine opn m204k0.eq_1 ?_
    simp only [go_sem,↓reduceIte,Nat.reduceAdd,Nat.reduceLeDiff,Nat.reduceEqDiff,Nat.reduceBEq,Nat.reduceBNe,Nat.reduceMul,Nat.reduceLT,reduceCtorEq,Int.reduceLT,Int.reduceLE,Int.reduceToNat,Int.reduceNeg]
    refine ⟨fun h0 => ?_,fun h0 => ?_⟩
    · rw [he,hd,List.all_cons]; simp at h0; rw [h0]; rfl
    · refine opn m204k1.eq_1 ?_
      simp only [go_sem,↓reduceIte,Nat.reduceAdd,Nat.reduceLeDiff,Nat.reduceEqDiff,Nat.reduceBEq,Nat.reduceBNe,Nat.reduceMul,Nat.reduceLT,reduceCtorEq,Int.reduceLT,Int.reduceLE,Int.reduceToNat,Int.reduceNeg,wrap_succ (show i < 9223372036854775807 by omega)]
      refine ih h _ _ ⟨rfl,rfl,?_⟩
      rw [he,hd,List.all_cons]; simp at h0; rw [h0]; rfl
  · refine opn m204l0.eq_1 ?_
    repeat' first
      | with_reducible first | refine mw_as m204.eq_1 ?_ | refine opn m204k0.eq_1 ?_ | refine opn m204k1.eq_1 ?_ | refine opn m204k2.eq_1 ?_ | refine ⟨?_,?_⟩ | intro _
      | simp only [go_sem,↓reduceIte,Nat.reduceAdd,Nat.reduceLeDiff,Nat.reduceEqDiff,Nat.reduceBEq,Nat.reduceBNe,Nat.reduceMul,Nat.reduceLT,reduceCtorEq,Int.reduceLT,Int.reduceLE,Int.reduceToNat,Int.reduceNeg,geB (Nat.le_of_not_lt h)]
    rw [he,List.drop_eq_nil_of_le (Nat.le_of_not_lt h)]
    rfl
def textB (s : Bytes) : Bool := decide (s.length ≤ 64) && s.all (okB 32)
def keyB (s : Bytes) : Bool := !(s == []) && decide (s.length ≤ 32) && s.all (okB 33)
theorem leB (n m : Nat) : decide ((n : Int) ≤ (m : Int)) = decide (n ≤ m) := by rw [Bool.eq_iff_iff]; simp
theorem leBl (n : Nat) (m : Int) (k : Nat) (h : m = k) : decide ((n : Int) ≤ m) = decide (n ≤ k) := by subst h; exact leB n k
theorem c174 (hg : GlNR gl) (s : Bytes) (hs : s.length < 4294967296) : Pure Tryz.prog gl 174 [.str s] (.ok (.bool (textB s))) := by
  refine ⟨?_,by simp only [fgs,nrs,forall_eq_or_imp,forall_eq,implies_true],by simp only [nrs,forall_eq_or_imp,forall_eq,implies_true]⟩
  simp only [fgs]
  refine .of_run is174 (by simp) (mw_sound 200 ?_)
  unfold m174
  simp only [go_sem,↓reduceIte,Nat.reduceAdd,Nat.reduceLeDiff,Nat.reduceEqDiff,Nat.reduceBEq,Nat.reduceBNe,Nat.reduceMul,Nat.reduceLT,reduceCtorEq,Int.reduceLT,Int.reduceLE,Int.reduceToNat,Int.reduceNeg,leBl s.length 64 64 rfl,textB]
  refine ⟨fun h => ?_,fun h => by rw [h]; rfl⟩
  refine CallK.pure (c204 s 32 hs) hg rfl ?_
  simp only [go_sem,↓reduceIte,Nat.reduceAdd,Nat.reduceLeDiff,Nat.reduceEqDiff,Nat.reduceBEq,Nat.reduceBNe,Nat.reduceMul,Nat.reduceLT,reduceCtorEq,Int.reduceLT,Int.reduceLE,Int.reduceToNat,Int.reduceNeg]
  rw [h]
  rfl
theorem c175 (hg : GlNR gl) (s : Bytes) (hs : s.length < 4294967296) : Pure Tryz.prog gl 175 [.str s] (.ok (.bool (keyB s))) := by
  refine ⟨?_,by simp only [fgs,nrs,forall_eq_or_imp,forall_eq,implies_true],by simp only [nrs,forall_eq_or_imp,forall_eq,implies_true]⟩
  simp only [fgs]
  refine .of_run is175 (by simp) (mw_sound 200 ?_)
  unfold m175
  simp only [go_sem,↓reduceIte,Nat.reduceAdd,Nat.reduceLeDiff,Nat.reduceEqDiff,Nat.reduceBEq,Nat.reduceBNe,Nat.reduceMul,Nat.reduceLT,reduceCtorEq,Int.reduceLT,Int.reduceLE,Int.reduceToNat,Int.reduceNeg,leBl s.length 32 32 rfl,keyB]
  refine ⟨fun h => ⟨fun h2 => ?_,fun h2 => by rw [h,h2]; rfl⟩,fun h => by rw [h]; rfl⟩
  refine CallK.pure (c204 s 33 hs) hg rfl ?_
  simp only [go_sem,↓reduceIte,Nat.reduceAdd,Nat.reduceLeDiff,Nat.reduceEqDiff,Nat.reduceBEq,Nat.reduceBNe,Nat.reduceMul,Nat.reduceLT,reduceCtorEq,Int.reduceLT,Int.reduceLE,Int.reduceToNat,Int.reduceNeg]
  rw [h,h2]
  rfl
def fieldsB (v : Val) : Bool :=
  if v.kd = 0 then v.n == 0 && v.s == []
  else if v.kd = 1 then (v.n == 0 || v.n == 1) && v.s == []
  else if v.kd = 2 ∨ v.kd = 3 then v.s == []
  else if v.kd = 4 ∨ v.kd = 5 then v.n == 0
  else false
theorem c172 (v : Val) : Pure Tryz.prog gl 172 [v.av] (.ok (.bool (fieldsB v))) := by
  refine ⟨?_,by simp only [fgs,nrs,forall_eq_or_imp,forall_eq,implies_true],by simp only [nrs,forall_eq_or_imp,forall_eq,implies_true]⟩
  simp only [fgs]
  refine .of_run is172 (by simp) (mw_sound 200 ?_)
  unfold m172
  simp only [go_sem,↓reduceIte,Nat.reduceAdd,Nat.reduceLeDiff,Nat.reduceEqDiff,Nat.reduceBEq,Nat.reduceBNe,Nat.reduceMul,Nat.reduceLT,reduceCtorEq,Int.reduceLT,Int.reduceLE,Int.reduceToNat,Int.reduceNeg]
  refine ⟨fun h => ?_,fun h => ⟨fun h2 => ?_,fun h2 => ?_⟩⟩
  · simp only [fieldsB]
    grind
  · simp only [fieldsB]
    grind
  · refine opn m172k1.eq_1 ?_
    simp only [go_sem,↓reduceIte,Nat.reduceAdd,Nat.reduceLeDiff,Nat.reduceEqDiff,Nat.reduceBEq,Nat.reduceBNe,Nat.reduceMul,Nat.reduceLT,reduceCtorEq,Int.reduceLT,Int.reduceLE,Int.reduceToNat,Int.reduceNeg]
    refine ⟨fun h3 => ?_,fun h3 => ?_⟩
    · simp only [fieldsB]
      grind
    · refine opn m172k0.eq_1 ?_
      simp only [go_sem,↓reduceIte,Nat.reduceAdd,Nat.reduceLeDiff,Nat.reduceEqDiff,Nat.reduceBEq,Nat.reduceBNe,Nat.reduceMul,Nat.reduceLT,reduceCtorEq,Int.reduceLT,Int.reduceLE,Int.reduceToNat,Int.reduceNeg]
      refine ⟨fun h4 => ?_,fun h4 => ?_⟩
      · simp only [fieldsB]
        grind
      · refine opn m172k2.eq_1 ?_
        simp only [go_sem,↓reduceIte,Nat.reduceAdd,Nat.reduceLeDiff,Nat.reduceEqDiff,Nat.reduceBEq,Nat.reduceBNe,Nat.reduceMul,Nat.reduceLT,reduceCtorEq,Int.reduceLT,Int.reduceLE,Int.reduceToNat,Int.reduceNeg]
        simp only [fieldsB]
        grind
def chkR (v : Val) : Int :=
  if fieldsB v = false then 1
  else if (!rangeB v.n || v.kd == 4 && decide (64 < v.s.length) || v.kd == 5 && decide (32 < v.s.length)) = true then 2
  else if (v.kd == 4 && !textB v.s || v.kd == 5 && !keyB v.s) = true then 3
  else 0
theorem ltBl (n : Nat) (m : Int) (k : Nat) (h : m = k) : decide (m < (n : Int)) = decide (k < n) := by subst h; rw [Bool.eq_iff_iff]; simp
theorem c116 (hg : GlNR gl) (v : Val) (hs : v.s.length < 4294967296) : Pure Tryz.prog gl 116 [v.av] (.ok (.int .i64 (chkR v))) := by
  refine ⟨?_,by simp only [fgs,nrs,forall_eq_or_imp,forall_eq,implies_true],by simp only [nrs,forall_eq_or_imp,forall_eq,implies_true]⟩
  simp only [fgs]
  refine .of_run is116 (by simp) (mw_sound 200 ?_)
  repeat' first
    | with_reducible first | refine mw_as m116.eq_1 ?_ | refine opn m116k0.eq_1 ?_ | refine opn m116k1.eq_1 ?_ | refine opn m116k2.eq_1 ?_ | refine opn m116k3.eq_1 ?_ | refine .pu (c172 v) hg rfl ?_ | refine .pu (c173 v.n) hg rfl ?_ | refine .pu (c174 hg v.s hs) hg rfl ?_ | refine .pu (c175 hg v.s hs) hg rfl ?_ | refine ⟨?_,?_⟩ | intro _
    | simp only [go_sem,↓reduceIte,Nat.reduceAdd,Nat.reduceLeDiff,Nat.reduceEqDiff,Nat.reduceBEq,Nat.reduceBNe,Nat.reduceMul,Nat.reduceLT,reduceCtorEq,Int.reduceLT,Int.reduceLE,Int.reduceToNat,Int.reduceNeg,ltBl v.s.length 64 64 rfl,ltBl v.s.length 32 32 rfl]
  all_goals
    simp only [chkR]
    grind
theorem c56 (hg : GlNR gl) (v : Val) (hs : v.s.length < 4294967296) : Pure Tryz.prog gl 56 [v.av] (.ok (.bool (chkR v == 0))) := by
  refine ⟨?_,by simp only [fgs,nrs,forall_eq_or_imp,forall_eq,implies_true],by simp only [nrs,forall_eq_or_imp,forall_eq,implies_true]⟩
  simp only [fgs]
  refine .of_run is56 (by simp) (mw_sound 200 ?_)
  repeat' first
    | with_reducible first | refine mw_as m56.eq_1 ?_ | refine .pu (c116 hg v hs) hg rfl ?_ | refine ⟨?_,?_⟩ | intro _
    | simp only [go_sem,↓reduceIte,Nat.reduceAdd,Nat.reduceLeDiff,Nat.reduceEqDiff,Nat.reduceBEq,Nat.reduceBNe,Nat.reduceMul,Nat.reduceLT,reduceCtorEq,Int.reduceLT,Int.reduceLE,Int.reduceToNat,Int.reduceNeg]
theorem c32 (v : Val) (hs : v.s.length ≤ 9223372036854775807) : Pure Tryz.prog gl 32 [v.av] (.ok (.int .i64 (chkR v))) := by
  refine ⟨?_,by simp only [fgs,nrs,forall_eq_or_imp,forall_eq,implies_true],by simp only [nrs,forall_eq_or_imp,forall_eq,implies_true]⟩
  simp only [fgs]
  refine .of_run is32 (by simp) (mw_sound 200 ?_)
  have key : ∀ (low : Nat),(chkR v = if v.s.all (okB low) then 0 else 3) → MRun Tryz.prog 112 [MI.code m32l0.loop,MI.inBlock 1,MI.code (.named [] m32k7)] [] [(1,AV.ptr 0 0),(6,AV.int IntKind.u8 low),(88,AV.int IntKind.i64 v.s.length),(89,AV.int IntKind.i64 0)]
      { n := 1,obj := [(0,[AV.int IntKind.i64 v.kd,AV.int IntKind.i64 v.n,AV.str v.s])],nt := 0,live := [],gl := gl } (endQ [RV.t 2] fun o' x => o' = Out.ok (AV.int IntKind.i64 (chkR v))) := by
    intro low hlow
    refine .forUp v.s.length (fun i F S => F = [(1,AV.ptr 0 0),(6,AV.int IntKind.u8 low),(88,AV.int IntKind.i64 v.s.length),(89,AV.int IntKind.i64 i)] ∧ S = { n := 1,obj := [(0,[AV.int IntKind.i64 v.kd,AV.int IntKind.i64 v.n,AV.str v.s])],nt := 0,live := [],gl := gl } ∧ v.s.all (okB low) = (v.s.drop i).all (okB low)) ⟨rfl,rfl,rfl⟩ ?_
    rintro i F S hi ⟨rfl,rfl,he⟩ ih
    by_cases h : i < v.s.length
    · obtain ⟨c,hc⟩ := some_of_lt h
      have hd := drop_some hc
      have ho := okB_eq low c
      refine opn m32l0.eq_1 ?_
      repeat' first
        | with_reducible first | refine mw_as m32.eq_1 ?_ | refine opn m32k0.eq_1 ?_ | refine opn m32k1.eq_1 ?_ | refine opn m32k2.eq_1 ?_ | refine opn m32k3.eq_1 ?_ | refine opn m32k4.eq_1 ?_ | refine opn m32k5.eq_1 ?_ | refine opn m32k6.eq_1 ?_ | refine opn m32k7.eq_1 ?_ | refine opn m32k8.eq_1 ?_ | refine opn m32k9.eq_1 ?_ | refine opn m32k10.eq_1 ?_ | refine opn m32k11.eq_1 ?_ | refine opn m32k12.eq_1 ?_ | refine ⟨?_,?_⟩ | intro _
        | simp only [go_sem,↓reduceIte,Nat.reduceAdd,Nat.reduceLeDiff,Nat.reduceEqDiff,Nat.reduceBEq,Nat.reduceBNe,Nat.reduceMul,Nat.reduceLT,reduceCtorEq,Int.reduceLT,Int.reduceLE,Int.reduceToNat,Int.reduceNeg,hc,ltB h,wrap_succ (show i < 9223372036854775807 by omega)]
      · rename_i hx
        rw [hlow,he,hd,List.all_cons,ho,hx]
        rfl
      · rename_i hx
        refine ih h _ _ ⟨rfl,rfl,?_⟩
        rw [he,hd,List.all_cons,ho,hx]
        rfl
    · refine opn m32l0.eq_1 ?_
      repeat' first
        | with_reducible first | refine mw_as m32.eq_1 ?_ | refine opn m32k0.eq_1 ?_ | refine opn m32k1.eq_1 ?_ | refine opn m32k2.eq_1 ?_ | refine opn m32k3.eq_1 ?_ | refine opn m32k4.eq_1 ?_ | refine opn m32k5.eq_1 ?_ | refine opn m32k6.eq_1 ?_ | refine opn m32k7.eq_1 ?_ | refine opn m32k8.eq_1 ?_ | refine opn m32k9.eq_1 ?_ | refine opn m32k10.eq_1 ?_ | refine opn m32k11.eq_1 ?_ | refine opn m32k12.eq_1 ?_ | refine ⟨?_,?_⟩ | intro _
        | simp only [go_sem,↓reduceIte,Nat.reduceAdd,Nat.reduceLeDiff,Nat.reduceEqDiff,Nat.reduceBEq,Nat.reduceBNe,Nat.reduceMul,Nat.reduceLT,reduceCtorEq,Int.reduceLT,Int.reduceLE,Int.reduceToNat,Int.reduceNeg,geB (Nat.le_of_not_lt h)]
      rw [hlow,he,List.drop_eq_nil_of_le (Nat.le_of_not_lt h)]
      rfl
  have hk : v.kd < 0 ∨ 5 < v.kd ∨ v.kd = 0 ∨ v.kd = 1 ∨ v.kd = 2 ∨ v.kd = 3 ∨ v.kd = 4 ∨ v.kd = 5 := by omega
  repeat' first
    | with_reducible first | refine mw_as m32.eq_1 ?_ | refine opn m32k0.eq_1 ?_ | refine opn m32k1.eq_1 ?_ | refine opn m32k2.eq_1 ?_ | refine opn m32k3.eq_1 ?_ | refine opn m32k4.eq_1 ?_ | refine opn m32k5.eq_1 ?_ | refine opn m32k6.eq_1 ?_ | refine opn m32k7.eq_1 ?_ | refine opn m32k8.eq_1 ?_ | refine opn m32k9.eq_1 ?_ | refine opn m32k10.eq_1 ?_ | refine opn m32k11.eq_1 ?_ | refine opn m32k12.eq_1 ?_ | refine ⟨?_,?_⟩ | intro _
    | simp only [go_sem,↓reduceIte,Nat.reduceAdd,Nat.reduceLeDiff,Nat.reduceEqDiff,Nat.reduceBEq,Nat.reduceBNe,Nat.reduceMul,Nat.reduceLT,reduceCtorEq,Int.reduceLT,Int.reduceLE,Int.reduceToNat,Int.reduceNeg]
  all_goals try refine key _ ?_
  all_goals
    clear key
    simp only [chkR,textB,keyB,fieldsB,rangeB]
    obtain ⟨a32,h32⟩ : ∃ a,a = List.all v.s (okB 32) := ⟨_,rfl⟩
    obtain ⟨a33,h33⟩ : ∃ a,a = List.all v.s (okB 33) := ⟨_,rfl⟩
    simp only [← h32,← h33]
    clear h32 h33
    rcases hk with hk | hk | hk | hk | hk | hk | hk | hk <;> simp_all <;> grind
end
section
open Go Go.V
set_option maxRecDepth 40000
variable {gl : List (Nat × List AV)}
def cmpI (a b : Int) : Int := if a < b then -1 else if b < a then 1 else 0
def cmpB (a b : Bytes) : Int := if Op.bytesLess a b = true then -1 else if a = b then 0 else 1
def labCmp (a b : Lab) : Int := if cmpB a.k b.k ≠ 0 then cmpB a.k b.k else if cmpI a.e b.e ≠ 0 then cmpI a.e b.e else cmpI a.n b.n
def labLt (a b : Lab) : Bool := if a.k = b.k then (if a.e = b.e then decide (a.n < b.n) else decide (a.e < b.e)) else Op.bytesLess a.k b.k
theorem c195 (n : Int) : Pure Tryz.prog gl 195 [.int .i64 n] (.ok (.bool false)) := by
  refine ⟨?_,by simp only [fgs,nrs,forall_eq_or_imp,forall_eq,implies_true],by simp only [nrs,forall_eq_or_imp,forall_eq,implies_true]⟩
  simp only [fgs]
  refine .of_run is195 (by simp) (mw_sound 200 ?_)
  repeat' first
    | with_reducible first | refine mw_as m195.eq_1 ?_ | refine ⟨?_,?_⟩ | intro _
    | simp only [go_sem,↓reduceIte,Nat.reduceAdd,Nat.reduceLeDiff,Nat.reduceEqDiff,Nat.reduceBEq,Nat.reduceBNe,Nat.reduceMul,Nat.reduceLT,reduceCtorEq,Int.reduceLT,Int.reduceLE,Int.reduceToNat,Int.reduceNeg]
theorem c235 (n : Bytes) : Pure Tryz.prog gl 235 [.str n] (.ok (.bool false)) := by
  refine ⟨?_,by simp only [fgs,nrs,forall_eq_or_imp,forall_eq,implies_true],by simp only [nrs,forall_eq_or_imp,forall_eq,implies_true]⟩
  simp only [fgs]
  refine .of_run is235 (by simp) (mw_sound 200 ?_)
  repeat' first
    | with_reducible first | refine mw_as m235.eq_1 ?_ | refine ⟨?_,?_⟩ | intro _
    | simp only [go_sem,↓reduceIte,Nat.reduceAdd,Nat.reduceLeDiff,Nat.reduceEqDiff,Nat.reduceBEq,Nat.reduceBNe,Nat.reduceMul,Nat.reduceLT,reduceCtorEq,Int.reduceLT,Int.reduceLE,Int.reduceToNat,Int.reduceNeg]
theorem c160 (hg : GlNR gl) (a b : Int) : Pure Tryz.prog gl 160 [.int .i64 a,.int .i64 b] (.ok (.int .i64 (cmpI a b))) := by
  refine ⟨?_,by simp only [fgs,nrs,forall_eq_or_imp,forall_eq,implies_true],by simp only [nrs,forall_eq_or_imp,forall_eq,implies_true]⟩
  simp only [fgs]
  refine .of_run is160 (by simp) (mw_sound 200 ?_)
  repeat' first
    | with_reducible first | refine mw_as m160.eq_1 ?_ | refine .pu (c195 a) hg rfl ?_ | refine .pu (c195 b) hg rfl ?_ | refine ⟨?_,?_⟩ | intro _
    | simp only [go_sem,↓reduceIte,Nat.reduceAdd,Nat.reduceLeDiff,Nat.reduceEqDiff,Nat.reduceBEq,Nat.reduceBNe,Nat.reduceMul,Nat.reduceLT,reduceCtorEq,Int.reduceLT,Int.reduceLE,Int.reduceToNat,Int.reduceNeg]
  all_goals (simp only [cmpI]; grind)
theorem c208 (hg : GlNR gl) (a b : Bytes) : Pure Tryz.prog gl 208 [.str a,.str b] (.ok (.int .i64 (cmpB a b))) := by
  refine ⟨?_,by simp only [fgs,nrs,forall_eq_or_imp,forall_eq,implies_true],by simp only [nrs,forall_eq_or_imp,forall_eq,implies_true]⟩
  simp only [fgs]
  refine .of_run is208 (by simp) (mw_sound 200 ?_)
  repeat' first
    | with_reducible first | refine mw_as m208.eq_1 ?_ | refine .pu (c235 a) hg rfl ?_ | refine .pu (c235 b) hg rfl ?_ | refine ⟨?_,?_⟩ | intro _
    | simp only [go_sem,↓reduceIte,Nat.reduceAdd,Nat.reduceLeDiff,Nat.reduceEqDiff,Nat.reduceBEq,Nat.reduceBNe,Nat.reduceMul,Nat.reduceLT,reduceCtorEq,Int.reduceLT,Int.reduceLE,Int.reduceToNat,Int.reduceNeg]
  all_goals (simp only [cmpB]; grind)
theorem c27 (hg : GlNR gl) (a b : Lab) : Pure Tryz.prog gl 27 [a.av,b.av] (.ok (.bool (labLt a b))) := by
  refine ⟨?_,by simp only [fgs,nrs,forall_eq_or_imp,forall_eq,implies_true],by simp only [nrs,forall_eq_or_imp,forall_eq,implies_true]⟩
  simp only [fgs]
  refine .of_run is27 (by simp) (mw_sound 200 ?_)
  repeat' first
    | with_reducible first | refine mw_as m27.eq_1 ?_ | refine ⟨?_,?_⟩ | intro _
    | simp only [go_sem,↓reduceIte,Nat.reduceAdd,Nat.reduceLeDiff,Nat.reduceEqDiff,Nat.reduceBEq,Nat.reduceBNe,Nat.reduceMul,Nat.reduceLT,reduceCtorEq,Int.reduceLT,Int.reduceLE,Int.reduceToNat,Int.reduceNeg]
  all_goals (simp only [labLt]; grind)
def orI : List Int → Int
  | [] => 0
  | x :: l => if x = 0 then orI l else x
theorem c158 (hg : GlNR gl) (l : List Int) (t : STok) (hl : l.length < 4294967296) : Pure Tryz.prog gl 158 [.sl 1 (l.map (AV.int .i64)) t] (.ok (.int .i64 (orI l))) := by
  refine ⟨?_,by simp only [fgs,nrs,forall_eq_or_imp,forall_eq,implies_true],by simp only [nrs,forall_eq_or_imp,forall_eq,implies_true]⟩
  simp only [fgs]
  refine .of_run is158 (by simp) (mw_sound 200 ?_)
  repeat' first
    | with_reducible first | refine mw_as m158.eq_1 ?_ | refine opn m158k0.eq_1 ?_ | refine ⟨?_,?_⟩ | intro _
    | simp only [go_sem,↓reduceIte,Nat.reduceAdd,Nat.reduceLeDiff,Nat.reduceEqDiff,Nat.reduceBEq,Nat.reduceBNe,Nat.reduceMul,Nat.reduceLT,reduceCtorEq,Int.reduceLT,Int.reduceLE,Int.reduceToNat,Int.reduceNeg]
  refine .forUp l.length (fun i F S => F = [(3,AV.int IntKind.i64 0),(6,AV.sl 1 (l.map (AV.int IntKind.i64)) STok.unk),(7,AV.int IntKind.i64 ↑l.length),(8,AV.int IntKind.i64 i)] ∧ S = .none gl ∧ orI l = orI (l.drop i)) ⟨rfl,rfl,rfl⟩ ?_
  rintro i F S hi ⟨rfl,rfl,he⟩ ih
  by_cases h : i < l.length
  · obtain ⟨c,hc⟩ := some_of_lt h
    have hd := drop_some hc
    refine opn m158l0.eq_1 ?_
    repeat' first
      | with_reducible first | refine mw_as m158.eq_1 ?_ | refine opn m158k0.eq_1 ?_ | refine ⟨?_,?_⟩ | intro _
      | simp only [go_sem,↓reduceIte,Nat.reduceAdd,Nat.reduceLeDiff,Nat.reduceEqDiff,Nat.reduceBEq,Nat.reduceBNe,Nat.reduceMul,Nat.reduceLT,reduceCtorEq,Int.reduceLT,Int.reduceLE,Int.reduceToNat,Int.reduceNeg,hc,ltB h,ltP h,wrap_succ (show i < 9223372036854775807 by omega)]
    · rename_i hx
      rw [he,hd]
      simp only [orI]
      grind
    · rename_i hx
      refine ih h _ _ ⟨rfl,rfl,?_⟩
      rw [he,hd]
      simp only [orI]
      grind
  · refine opn m158l0.eq_1 ?_
    repeat' first
      | with_reducible first | refine mw_as m158.eq_1 ?_ | refine opn m158k0.eq_1 ?_ | refine ⟨?_,?_⟩ | intro _
      | simp only [go_sem,↓reduceIte,Nat.reduceAdd,Nat.reduceLeDiff,Nat.reduceEqDiff,Nat.reduceBEq,Nat.reduceBNe,Nat.reduceMul,Nat.reduceLT,reduceCtorEq,Int.reduceLT,Int.reduceLE,Int.reduceToNat,Int.reduceNeg,geB (Nat.le_of_not_lt h)]
    rw [he,List.drop_eq_nil_of_le (Nat.le_of_not_lt h)]
    rfl
theorem c158_3 (hg : GlNR gl) (x y z : Int) : Pure Tryz.prog gl 158 [.sl 1 [.int .i64 x,.int .i64 y,.int .i64 z] .exact] (.ok (.int .i64 (orI [x,y,z]))) := c158 hg [x,y,z] .exact (by simp)
theorem c179 (hg : GlNR gl) (a b : Lab) : Pure Tryz.prog gl 179 [a.av,b.av] (.ok (.int .i64 (labCmp a b))) := by
  refine ⟨?_,by simp only [fgs,nrs,forall_eq_or_imp,forall_eq,implies_true],by simp only [nrs,forall_eq_or_imp,forall_eq,implies_true]⟩
  simp only [fgs]
  refine .of_run is179 (by simp) (mw_sound 200 ?_)
  repeat' first
    | with_reducible first | refine mw_as m179.eq_1 ?_ | refine .pu (c208 hg a.k b.k) hg rfl ?_ | refine .pu (c160 hg a.e b.e) hg rfl ?_ | refine .pu (c160 hg a.n b.n) hg rfl ?_ | refine .pu (c158_3 hg (cmpB a.k b.k) (cmpI a.e b.e) (cmpI a.n b.n)) hg rfl ?_ | refine ⟨?_,?_⟩ | intro _
    | simp only [go_sem,↓reduceIte,Nat.reduceAdd,Nat.reduceLeDiff,Nat.reduceEqDiff,Nat.reduceBEq,Nat.reduceBNe,Nat.reduceMul,Nat.reduceLT,reduceCtorEq,Int.reduceLT,Int.reduceLE,Int.reduceToNat,Int.reduceNeg]
  all_goals (simp only [labCmp,orI]; grind)
theorem c159 (a b : Bytes) : Pure Tryz.prog gl 159 [.str a,.str b] (.ok (.int .i64 (Lib.compareBytes a b))) := by
  refine ⟨?_,by simp only [fgs,nrs,forall_eq_or_imp,forall_eq,implies_true],by simp only [nrs,forall_eq_or_imp,forall_eq,implies_true]⟩
  simp only [fgs]
  refine (MCalls.ofSame Tryz.call159 fun wb G w vs hS hv => ?_).mono fun o S' h => h.2
  obtain ⟨v1,vs1,rfl,h1,hv⟩ := hv.cons_inv
  obtain ⟨v2,vs2,rfl,h2,hv⟩ := hv.cons_inv
  obtain rfl := hv.nil_inv
  obtain rfl := h1.str_inv
  obtain rfl := h2.str_inv
  exact ⟨_,.int _ _,by simpa using Tryz.strings_Compare ⟨a.toArray⟩ ⟨b.toArray⟩ w⟩
theorem cmpB_eq : ∀ a b : Bytes,Lib.compareBytes a b = cmpB a b
  | [],[] => rfl
  | [],_ :: _ => rfl
  | _ :: _,[] => rfl
  | a :: xs,b :: ys => by
    have ih := cmpB_eq xs ys
    simp only [Lib.compareBytes,cmpB,Op.bytesLess] at ih ⊢
    rw [ih]
    by_cases h1 : a < b
    · simp [h1]
    · by_cases h2 : b < a
      · have h3 : ¬ a = b := fun e => by subst e; exact absurd h2 h1
        simp [h1,h2,h3]
      · have h3 : a = b := UInt8.le_antisymm (UInt8.not_lt.1 h2) (UInt8.not_lt.1 h1)
        subst h3
        simp
theorem c95 (hg : GlNR gl) (a b : Lab) : Pure Tryz.prog gl 95 [a.av,b.av] (.ok (.int .i64 (labCmp a b))) := by
  refine ⟨?_,by simp only [fgs,nrs,forall_eq_or_imp,forall_eq,implies_true],by simp only [nrs,forall_eq_or_imp,forall_eq,implies_true]⟩
  simp only [fgs]
  refine .of_run is95 (by simp) (mw_sound 200 ?_)
  repeat' first
    | with_reducible first | refine mw_as m95.eq_1 ?_ | refine .pu (c159 a.k b.k) hg rfl ?_ | refine .pu (c160 hg a.e b.e) hg rfl ?_ | refine .pu (c160 hg a.n b.n) hg rfl ?_ | refine .pu (c158_3 hg (Lib.compareBytes a.k b.k) (cmpI a.e b.e) (cmpI a.n b.n)) hg rfl ?_ | refine ⟨?_,?_⟩ | intro _
    | simp only [go_sem,↓reduceIte,Nat.reduceAdd,Nat.reduceLeDiff,Nat.reduceEqDiff,Nat.reduceBEq,Nat.reduceBNe,Nat.reduceMul,Nat.reduceLT,reduceCtorEq,Int.reduceLT,Int.reduceLE,Int.reduceToNat,Int.reduceNeg]
  all_goals (simp only [labCmp,orI,cmpB_eq]; grind)
end
section
open Go Go.V
set_option maxRecDepth 40000
variable {gl : List (Nat × List AV)}
theorem c42 (hg : GlNR gl) (a b : List Lab) (t u : STok) (hl : a.length < 4294967296) : Pure Tryz.prog gl 42 [.sl 3 (a.map Lab.av) t,.sl 3 (b.map Lab.av) u] (.ok (.bool (a == b))) := by
  refine ⟨?_,by simp only [fgs,nrs,forall_eq_or_imp,forall_eq,implies_true],by simp only [nrs,forall_eq_or_imp,forall_eq,implies_true]⟩
  simp only [fgs]
  refine .of_run is42 (by simp) (mw_sound 200 ?_)
  repeat' first
    | with_reducible first | refine mw_as m42.eq_1 ?_ | refine opn m42k0.eq_1 ?_ | refine ⟨?_,?_⟩ | intro _
    | simp only [go_sem,↓reduceIte,Nat.reduceAdd,Nat.reduceLeDiff,Nat.reduceEqDiff,Nat.reduceBEq,Nat.reduceBNe,Nat.reduceMul,Nat.reduceLT,reduceCtorEq,Int.reduceLT,Int.reduceLE,Int.reduceToNat,Int.reduceNeg]
  · rename_i hx
    rw [bne_iff_ne] at hx
    exact (beq_eq_false_iff_ne.2 fun e => hx (by rw [e])).symm
  rename_i hx
  have hab : a.length = b.length := by rw [bne_eq_false_iff_eq] at hx; omega
  refine .forUp a.length (fun i F S => F = [(0,AV.sl 3 (a.map Lab.av) STok.unk),(1,AV.sl 3 (b.map Lab.av) STok.unk),(5,AV.int IntKind.i64 i)] ∧ S = .none gl ∧ (a == b) = (a.drop i == b.drop i)) ⟨rfl,rfl,rfl⟩ ?_
  rintro i F S hi ⟨rfl,rfl,he⟩ ih
  by_cases h : i < a.length
  · obtain ⟨c,hc⟩ := some_of_lt h
    have h' : i < b.length := hab ▸ h
    obtain ⟨d,hd⟩ := some_of_lt h'
    have hs := drop_eq_step hc hd
    refine opn m42l0.eq_1 ?_
    repeat' first
      | with_reducible first | refine mw_as m42.eq_1 ?_ | refine opn m42k0.eq_1 ?_ | refine ⟨?_,?_⟩ | intro _
      | simp only [go_sem,↓reduceIte,Nat.reduceAdd,Nat.reduceLeDiff,Nat.reduceEqDiff,Nat.reduceBEq,Nat.reduceBNe,Nat.reduceMul,Nat.reduceLT,reduceCtorEq,Int.reduceLT,Int.reduceLE,Int.reduceToNat,Int.reduceNeg,  hc,hd,ltB h,ltP h,ltP h',wrap_succ (show i < 9223372036854775807 by omega)]
    all_goals first
      | (refine ih h _ _ ⟨rfl,rfl,?_⟩
         clear ih
         rw [he,hs]
         rw [lab_beq]; clear he hs hc hd
         grind)
      | (clear ih
         rw [he,hs]
         rw [lab_beq]; clear he hs hc hd
         grind)
  · refine opn m42l0.eq_1 ?_
    repeat' first
      | with_reducible first | refine mw_as m42.eq_1 ?_ | refine opn m42k0.eq_1 ?_ | refine ⟨?_,?_⟩ | intro _
      | simp only [go_sem,↓reduceIte,Nat.reduceAdd,Nat.reduceLeDiff,Nat.reduceEqDiff,Nat.reduceBEq,Nat.reduceBNe,Nat.reduceMul,Nat.reduceLT,reduceCtorEq,Int.reduceLT,Int.reduceLE,Int.reduceToNat,Int.reduceNeg,  geB (Nat.le_of_not_lt h)]
    rw [he,List.drop_eq_nil_of_le (Nat.le_of_not_lt h),List.drop_eq_nil_of_le (by omega)]
    rfl
theorem c105 (hg : GlNR gl) (a b : List Val) (t u : STok) (hl : a.length < 4294967296) : Pure Tryz.prog gl 105 [.sl 3 (a.map Val.av) t,.sl 3 (b.map Val.av) u] (.ok (.bool (a == b))) := by
  refine ⟨?_,by simp only [fgs,nrs,forall_eq_or_imp,forall_eq,implies_true],by simp only [nrs,forall_eq_or_imp,forall_eq,implies_true]⟩
  simp only [fgs]
  refine .of_run is105 (by simp) (mw_sound 200 ?_)
  repeat' first
    | with_reducible first | refine mw_as m105.eq_1 ?_ | refine opn m105k0.eq_1 ?_ | refine ⟨?_,?_⟩ | intro _
    | simp only [go_sem,↓reduceIte,Nat.reduceAdd,Nat.reduceLeDiff,Nat.reduceEqDiff,Nat.reduceBEq,Nat.reduceBNe,Nat.reduceMul,Nat.reduceLT,reduceCtorEq,Int.reduceLT,Int.reduceLE,Int.reduceToNat,Int.reduceNeg]
  · rename_i hx
    rw [bne_iff_ne] at hx
    exact (beq_eq_false_iff_ne.2 fun e => hx (by rw [e])).symm
  rename_i hx
  have hab : a.length = b.length := by rw [bne_eq_false_iff_eq] at hx; omega
  refine .forUp a.length (fun i F S => F = [(0,AV.sl 3 (a.map Val.av) STok.unk),(1,AV.sl 3 (b.map Val.av) STok.unk),(5,AV.int IntKind.i64 i)] ∧ S = .none gl ∧ (a == b) = (a.drop i == b.drop i)) ⟨rfl,rfl,rfl⟩ ?_
  rintro i F S hi ⟨rfl,rfl,he⟩ ih
  by_cases h : i < a.length
  · obtain ⟨c,hc⟩ := some_of_lt h
    have h' : i < b.length := hab ▸ h
    obtain ⟨d,hd⟩ := some_of_lt h'
    have hs := drop_eq_step hc hd
    refine opn m105l0.eq_1 ?_
    repeat' first
      | with_reducible first | refine mw_as m105.eq_1 ?_ | refine opn m105k0.eq_1 ?_ | refine ⟨?_,?_⟩ | intro _
      | simp only [go_sem,↓reduceIte,Nat.reduceAdd,Nat.reduceLeDiff,Nat.reduceEqDiff,Nat.reduceBEq,Nat.reduceBNe,Nat.reduceMul,Nat.reduceLT,reduceCtorEq,Int.reduceLT,Int.reduceLE,Int.reduceToNat,Int.reduceNeg,  hc,hd,ltB h,ltP h,ltP h',wrap_succ (show i < 9223372036854775807 by omega)]
    all_goals first
      | (refine ih h _ _ ⟨rfl,rfl,?_⟩
         clear ih
         rw [he,hs]
         rw [val_beq]; clear he hs hc hd
         grind)
      | (clear ih
         rw [he,hs]
         rw [val_beq]; clear he hs hc hd
         grind)
  · refine opn m105l0.eq_1 ?_
    repeat' first
      | with_reducible first | refine mw_as m105.eq_1 ?_ | refine opn m105k0.eq_1 ?_ | refine ⟨?_,?_⟩ | intro _
      | simp only [go_sem,↓reduceIte,Nat.reduceAdd,Nat.reduceLeDiff,Nat.reduceEqDiff,Nat.reduceBEq,Nat.reduceBNe,Nat.reduceMul,Nat.reduceLT,reduceCtorEq,Int.reduceLT,Int.reduceLE,Int.reduceToNat,Int.reduceNeg,  geB (Nat.le_of_not_lt h)]
    rw [he,List.drop_eq_nil_of_le (Nat.le_of_not_lt h),List.drop_eq_nil_of_le (by omega)]
    rfl
theorem c45 (hg : GlNR gl) (a b : List Bytes) (t u : STok) (hl : a.length < 4294967296) : Pure Tryz.prog gl 45 [.sl 1 (a.map AV.str) t,.sl 1 (b.map AV.str) u] (.ok (.bool (a == b))) := by
  refine ⟨?_,by simp only [fgs,nrs,forall_eq_or_imp,forall_eq,implies_true],by simp only [nrs,forall_eq_or_imp,forall_eq,implies_true]⟩
  simp only [fgs]
  refine .of_run is45 (by simp) (mw_sound 200 ?_)
  repeat' first
    | with_reducible first | refine mw_as m45.eq_1 ?_ | refine opn m45k0.eq_1 ?_ | refine ⟨?_,?_⟩ | intro _
    | simp only [go_sem,↓reduceIte,Nat.reduceAdd,Nat.reduceLeDiff,Nat.reduceEqDiff,Nat.reduceBEq,Nat.reduceBNe,Nat.reduceMul,Nat.reduceLT,reduceCtorEq,Int.reduceLT,Int.reduceLE,Int.reduceToNat,Int.reduceNeg]
  · rename_i hx
    rw [bne_iff_ne] at hx
    exact (beq_eq_false_iff_ne.2 fun e => hx (by rw [e])).symm
  rename_i hx
  have hab : a.length = b.length := by rw [bne_eq_false_iff_eq] at hx; omega
  refine .forUp a.length (fun i F S => F = [(0,AV.sl 1 (a.map AV.str) STok.unk),(1,AV.sl 1 (b.map AV.str) STok.unk),(12,AV.int IntKind.i64 a.length),(13,AV.int IntKind.i64 i)] ∧ S = .none gl ∧ (a == b) = (a.drop i == b.drop i)) ⟨rfl,rfl,rfl⟩ ?_
  rintro i F S hi ⟨rfl,rfl,he⟩ ih
  by_cases h : i < a.length
  · obtain ⟨c,hc⟩ := some_of_lt h
    have h' : i < b.length := hab ▸ h
    obtain ⟨d,hd⟩ := some_of_lt h'
    have hs := drop_eq_step hc hd
    refine opn m45l0.eq_1 ?_
    repeat' first
      | with_reducible first | refine mw_as m45.eq_1 ?_ | refine opn m45k0.eq_1 ?_ | refine ⟨?_,?_⟩ | intro _
      | simp only [go_sem,↓reduceIte,Nat.reduceAdd,Nat.reduceLeDiff,Nat.reduceEqDiff,Nat.reduceBEq,Nat.reduceBNe,Nat.reduceMul,Nat.reduceLT,reduceCtorEq,Int.reduceLT,Int.reduceLE,Int.reduceToNat,Int.reduceNeg,  hc,hd,ltB h,ltP h,ltP h',wrap_succ (show i < 9223372036854775807 by omega)]
    all_goals first
      | (refine ih h _ _ ⟨rfl,rfl,?_⟩
         clear ih
         rw [he,hs]
         clear he hs hc hd
         grind)
      | (clear ih
         rw [he,hs]
         clear he hs hc hd
         grind)
  · refine opn m45l0.eq_1 ?_
    repeat' first
      | with_reducible first | refine mw_as m45.eq_1 ?_ | refine opn m45k0.eq_1 ?_ | refine ⟨?_,?_⟩ | intro _
      | simp only [go_sem,↓reduceIte,Nat.reduceAdd,Nat.reduceLeDiff,Nat.reduceEqDiff,Nat.reduceBEq,Nat.reduceBNe,Nat.reduceMul,Nat.reduceLT,reduceCtorEq,Int.reduceLT,Int.reduceLE,Int.reduceToNat,Int.reduceNeg,  geB (Nat.le_of_not_lt h)]
    rw [he,List.drop_eq_nil_of_le (Nat.le_of_not_lt h),List.drop_eq_nil_of_le (by omega)]
    rfl
theorem c47 (hg : GlNR gl) (a b : List Val) (t u : STok) (hl : a.length < 4294967296) : Pure Tryz.prog gl 47 [.sl 3 (a.map Val.av) t,.sl 3 (b.map Val.av) u] (.ok (.bool (a == b))) := by
  refine ⟨?_,by simp only [fgs,nrs,forall_eq_or_imp,forall_eq,implies_true],by simp only [nrs,forall_eq_or_imp,forall_eq,implies_true]⟩
  simp only [fgs]
  refine .of_run is47 (by simp) (mw_sound 200 ?_)
  repeat' first
    | with_reducible first | refine mw_as m47.eq_1 ?_ | refine opn m47k0.eq_1 ?_ | refine ⟨?_,?_⟩ | intro _
    | simp only [go_sem,↓reduceIte,Nat.reduceAdd,Nat.reduceLeDiff,Nat.reduceEqDiff,Nat.reduceBEq,Nat.reduceBNe,Nat.reduceMul,Nat.reduceLT,reduceCtorEq,Int.reduceLT,Int.reduceLE,Int.reduceToNat,Int.reduceNeg]
  · rename_i hx
    rw [bne_iff_ne] at hx
    exact (beq_eq_false_iff_ne.2 fun e => hx (by rw [e])).symm
  rename_i hx
  have hab : a.length = b.length := by rw [bne_eq_false_iff_eq] at hx; omega
  refine .forUp a.length (fun i F S => F = [(0,AV.sl 3 (a.map Val.av) STok.unk),(1,AV.sl 3 (b.map Val.av) STok.unk),(12,AV.int IntKind.i64 a.length),(13,AV.int IntKind.i64 i)] ∧ S = .none gl ∧ (a == b) = (a.drop i == b.drop i)) ⟨rfl,rfl,rfl⟩ ?_
  rintro i F S hi ⟨rfl,rfl,he⟩ ih
  by_cases h : i < a.length
  · obtain ⟨c,hc⟩ := some_of_lt h
    have h' : i < b.length := hab ▸ h
    obtain ⟨d,hd⟩ := some_of_lt h'
    have hs := drop_eq_step hc hd
    refine opn m47l0.eq_1 ?_
    repeat' first
      | with_reducible first | refine mw_as m47.eq_1 ?_ | refine opn m47k0.eq_1 ?_ | refine ⟨?_,?_⟩ | intro _
      | simp only [go_sem,↓reduceIte,Nat.reduceAdd,Nat.reduceLeDiff,Nat.reduceEqDiff,Nat.reduceBEq,Nat.reduceBNe,Nat.reduceMul,Nat.reduceLT,reduceCtorEq,Int.reduceLT,Int.reduceLE,Int.reduceToNat,Int.reduceNeg,  hc,hd,ltB h,ltP h,ltP h',wrap_succ (show i < 9223372036854775807 by omega)]
    all_goals first
      | (refine ih h _ _ ⟨rfl,rfl,?_⟩
         clear ih
         rw [he,hs]
         rw [val_beq]; clear he hs hc hd
         grind)
      | (clear ih
         rw [he,hs]
         rw [val_beq]; clear he hs hc hd
         grind)
  · refine opn m47l0.eq_1 ?_
    repeat' first
      | with_reducible first | refine mw_as m47.eq_1 ?_ | refine opn m47k0.eq_1 ?_ | refine ⟨?_,?_⟩ | intro _
      | simp only [go_sem,↓reduceIte,Nat.reduceAdd,Nat.reduceLeDiff,Nat.reduceEqDiff,Nat.reduceBEq,Nat.reduceBNe,Nat.reduceMul,Nat.reduceLT,reduceCtorEq,Int.reduceLT,Int.reduceLE,Int.reduceToNat,Int.reduceNeg,  geB (Nat.le_of_not_lt h)]
    rw [he,List.drop_eq_nil_of_le (Nat.le_of_not_lt h),List.drop_eq_nil_of_le (by omega)]
    rfl
theorem c21 (hg : GlNR gl) (a b : List Int) (t u : STok) (hl : a.length < 4294967296) : Pure Tryz.prog gl 21 [.sl 1 (a.map (AV.int .i64)) t,.sl 1 (b.map (AV.int .i64)) u] (.ok (.bool (a == b))) := by
  refine ⟨?_,by simp only [fgs,nrs,forall_eq_or_imp,forall_eq,implies_true],by simp only [nrs,forall_eq_or_imp,forall_eq,implies_true]⟩
  simp only [fgs]
  refine .of_run is21 (by simp) (mw_sound 200 ?_)
  repeat' first
    | with_reducible first | refine mw_as m21.eq_1 ?_ | refine opn m21k0.eq_1 ?_ | refine ⟨?_,?_⟩ | intro _
    | simp only [go_sem,↓reduceIte,Nat.reduceAdd,Nat.reduceLeDiff,Nat.reduceEqDiff,Nat.reduceBEq,Nat.reduceBNe,Nat.reduceMul,Nat.reduceLT,reduceCtorEq,Int.reduceLT,Int.reduceLE,Int.reduceToNat,Int.reduceNeg]
  · rename_i hx
    rw [bne_iff_ne] at hx
    exact (beq_eq_false_iff_ne.2 fun e => hx (by rw [e])).symm
  rename_i hx
  have hab : a.length = b.length := by rw [bne_eq_false_iff_eq] at hx; omega
  refine .forUp a.length (fun i F S => F = [(0,AV.sl 1 (a.map (AV.int .i64)) STok.unk),(1,AV.sl 1 (b.map (AV.int .i64)) STok.unk),(5,AV.int IntKind.i64 i)] ∧ S = .none gl ∧ (a == b) = (a.drop i == b.drop i)) ⟨rfl,rfl,rfl⟩ ?_
  rintro i F S hi ⟨rfl,rfl,he⟩ ih
  by_cases h : i < a.length
  · obtain ⟨c,hc⟩ := some_of_lt h
    have h' : i < b.length := hab ▸ h
    obtain ⟨d,hd⟩ := some_of_lt h'
    have hs := drop_eq_step hc hd
    refine opn m21l0.eq_1 ?_
    repeat' first
      | with_reducible first | refine mw_as m21.eq_1 ?_ | refine opn m21k0.eq_1 ?_ | refine ⟨?_,?_⟩ | intro _
      | simp only [go_sem,↓reduceIte,Nat.reduceAdd,Nat.reduceLeDiff,Nat.reduceEqDiff,Nat.reduceBEq,Nat.reduceBNe,Nat.reduceMul,Nat.reduceLT,reduceCtorEq,Int.reduceLT,Int.reduceLE,Int.reduceToNat,Int.reduceNeg,  hc,hd,ltB h,ltP h,ltP h',wrap_succ (show i < 9223372036854775807 by omega)]
    all_goals first
      | (refine ih h _ _ ⟨rfl,rfl,?_⟩
         clear ih
         rw [he,hs]
         clear he hs hc hd
         grind)
      | (clear ih
         rw [he,hs]
         clear he hs hc hd
         grind)
  · refine opn m21l0.eq_1 ?_
    repeat' first
      | with_reducible first | refine mw_as m21.eq_1 ?_ | refine opn m21k0.eq_1 ?_ | refine ⟨?_,?_⟩ | intro _
      | simp only [go_sem,↓reduceIte,Nat.reduceAdd,Nat.reduceLeDiff,Nat.reduceEqDiff,Nat.reduceBEq,Nat.reduceBNe,Nat.reduceMul,Nat.reduceLT,reduceCtorEq,Int.reduceLT,Int.reduceLE,Int.reduceToNat,Int.reduceNeg,  geB (Nat.le_of_not_lt h)]
    rw [he,List.drop_eq_nil_of_le (Nat.le_of_not_lt h),List.drop_eq_nil_of_le (by omega)]
    rfl
end
section
open Go Go.V
set_option maxRecDepth 40000
variable {gl : List (Nat × List AV)}
theorem c100 (hg : GlNR gl) (l : List Bytes) (s : Bytes) (t : STok) (hl : l.length < 4294967296) : Pure Tryz.prog gl 100 [.sl 1 (l.map AV.str) t,.str s] (.ok (.bool (l.contains s))) := by
  refine ⟨?_,by simp only [fgs,nrs,forall_eq_or_imp,forall_eq,implies_true],by simp only [nrs,forall_eq_or_imp,forall_eq,implies_true]⟩
  simp only [fgs]
  refine .of_run is100 (by simp) (mw_sound 200 ?_)
  repeat' first
    | with_reducible first | refine mw_as m100.eq_1 ?_ | refine opn m100k0.eq_1 ?_ | refine ⟨?_,?_⟩ | intro _
    | simp only [go_sem,↓reduceIte,Nat.reduceAdd,Nat.reduceLeDiff,Nat.reduceEqDiff,Nat.reduceBEq,Nat.reduceBNe,Nat.reduceMul,Nat.reduceLT,reduceCtorEq,Int.reduceLT,Int.reduceLE,Int.reduceToNat,Int.reduceNeg]
  refine .forUp l.length (fun i F S => F = [(0,AV.sl 1 (List.map AV.str l) STok.unk),(1,AV.str s),(5,AV.int IntKind.i64 i)] ∧ S = .none gl ∧ l.contains s = (l.drop i).contains s) ⟨rfl,rfl,rfl⟩ ?_
  rintro i F S hi ⟨rfl,rfl,he⟩ ih
  by_cases h : i < l.length
  · obtain ⟨c,hc⟩ := some_of_lt h
    have hd := drop_some hc
    refine opn m100l0.eq_1 ?_
    repeat' first
      | with_reducible first | refine mw_as m100.eq_1 ?_ | refine opn m100k0.eq_1 ?_ | refine ⟨?_,?_⟩ | intro _
      | simp only [go_sem,↓reduceIte,Nat.reduceAdd,Nat.reduceLeDiff,Nat.reduceEqDiff,Nat.reduceBEq,Nat.reduceBNe,Nat.reduceMul,Nat.reduceLT,reduceCtorEq,Int.reduceLT,Int.reduceLE,Int.reduceToNat,Int.reduceNeg,  hc,ltB h,ltP h,wrap_succ (show i < 9223372036854775807 by omega)]
    all_goals first
      | (refine ih h _ _ ⟨rfl,rfl,?_⟩
         clear ih
         rw [he,hd]
         clear he hc hd
         grind)
      | (clear ih
         rw [he,hd]
         clear he hc hd
         grind)
  · refine opn m100l0.eq_1 ?_
    repeat' first
      | with_reducible first | refine mw_as m100.eq_1 ?_ | refine opn m100k0.eq_1 ?_ | refine ⟨?_,?_⟩ | intro _
      | simp only [go_sem,↓reduceIte,Nat.reduceAdd,Nat.reduceLeDiff,Nat.reduceEqDiff,Nat.reduceBEq,Nat.reduceBNe,Nat.reduceMul,Nat.reduceLT,reduceCtorEq,Int.reduceLT,Int.reduceLE,Int.reduceToNat,Int.reduceNeg,  geB (Nat.le_of_not_lt h)]
    rw [he,List.drop_eq_nil_of_le (Nat.le_of_not_lt h)]
    rfl
def idxI (s : Bytes) : List Bytes → Int → Int
  | [],_ => -1
  | x :: l,i => if s = x then i else idxI s l (i + 1)
theorem idxI_ge (s : Bytes) : ∀ (l : List Bytes) (i : Int),0 ≤ i → decide (0 ≤ idxI s l i) = l.contains s
  | [],i,_ => by simp [idxI]
  | x :: l,i,hi => by
    have ih := idxI_ge s l (i + 1) (by omega)
    by_cases h : s = x
    · have e : idxI s (x :: l) i = i := by simp [idxI,h]
      simp only [e]
      simp [h,hi]
    · have e : idxI s (x :: l) i = idxI s l (i + 1) := by simp [idxI,h]
      simp only [e,ih]
      simp [h]
theorem c157 (hg : GlNR gl) (l : List Bytes) (s : Bytes) (t : STok) (hl : l.length < 4294967296) : Pure Tryz.prog gl 157 [.sl 1 (l.map AV.str) t,.str s] (.ok (.int .i64 (idxI s l 0))) := by
  refine ⟨?_,by simp only [fgs,nrs,forall_eq_or_imp,forall_eq,implies_true],by simp only [nrs,forall_eq_or_imp,forall_eq,implies_true]⟩
  simp only [fgs]
  refine .of_run is157 (by simp) (mw_sound 200 ?_)
  repeat' first
    | with_reducible first | refine mw_as m157.eq_1 ?_ | refine opn m157k0.eq_1 ?_ | refine ⟨?_,?_⟩ | intro _
    | simp only [go_sem,↓reduceIte,Nat.reduceAdd,Nat.reduceLeDiff,Nat.reduceEqDiff,Nat.reduceBEq,Nat.reduceBNe,Nat.reduceMul,Nat.reduceLT,reduceCtorEq,Int.reduceLT,Int.reduceLE,Int.reduceToNat,Int.reduceNeg]
  refine .forUp l.length (fun i F S => F = [(0,AV.sl 1 (List.map AV.str l) STok.unk),(1,AV.str s),(7,AV.int IntKind.i64 ↑l.length),(8,AV.int IntKind.i64 i)] ∧ S = .none gl ∧ idxI s l 0 = idxI s (l.drop i) i) ⟨rfl,rfl,rfl⟩ ?_
  rintro i F S hi ⟨rfl,rfl,he⟩ ih
  by_cases h : i < l.length
  · obtain ⟨c,hc⟩ := some_of_lt h
    have hd := drop_some hc
    refine opn m157l0.eq_1 ?_
    repeat' first
      | with_reducible first | refine mw_as m157.eq_1 ?_ | refine opn m157k0.eq_1 ?_ | refine ⟨?_,?_⟩ | intro _
      | simp only [go_sem,↓reduceIte,Nat.reduceAdd,Nat.reduceLeDiff,Nat.reduceEqDiff,Nat.reduceBEq,Nat.reduceBNe,Nat.reduceMul,Nat.reduceLT,reduceCtorEq,Int.reduceLT,Int.reduceLE,Int.reduceToNat,Int.reduceNeg,  hc,ltB h,ltP h,wrap_succ (show i < 9223372036854775807 by omega)]
    all_goals first
      | (refine ih h _ _ ⟨rfl,rfl,?_⟩
         clear ih
         rw [he,hd]
         clear he hc hd
         simp only [idxI]
         grind)
      | (clear ih
         rw [he,hd]
         clear he hc hd
         simp only [idxI]
         grind)
  · refine opn m157l0.eq_1 ?_
    repeat' first
      | with_reducible first | refine mw_as m157.eq_1 ?_ | refine opn m157k0.eq_1 ?_ | refine ⟨?_,?_⟩ | intro _
      | simp only [go_sem,↓reduceIte,Nat.reduceAdd,Nat.reduceLeDiff,Nat.reduceEqDiff,Nat.reduceBEq,Nat.reduceBNe,Nat.reduceMul,Nat.reduceLT,reduceCtorEq,Int.reduceLT,Int.reduceLE,Int.reduceToNat,Int.reduceNeg,  geB (Nat.le_of_not_lt h)]
    rw [he,List.drop_eq_nil_of_le (Nat.le_of_not_lt h)]
    rfl
theorem c93 (hg : GlNR gl) (l : List Bytes) (s : Bytes) (t : STok) (hl : l.length < 4294967296) : Pure Tryz.prog gl 93 [.sl 1 (l.map AV.str) t,.str s] (.ok (.bool (l.contains s))) := by
  refine ⟨?_,by simp only [fgs,nrs,forall_eq_or_imp,forall_eq,implies_true],by simp only [nrs,forall_eq_or_imp,forall_eq,implies_true]⟩
  simp only [fgs]
  refine .of_run is93 (by simp) (mw_sound 200 ?_)
  repeat' first
    | with_reducible first | refine mw_as m93.eq_1 ?_ | refine .pu (c157 hg l s .unk hl) hg rfl ?_ | refine ⟨?_,?_⟩ | intro _
    | simp only [go_sem,↓reduceIte,Nat.reduceAdd,Nat.reduceLeDiff,Nat.reduceEqDiff,Nat.reduceBEq,Nat.reduceBNe,Nat.reduceMul,Nat.reduceLT,reduceCtorEq,Int.reduceLT,Int.reduceLE,Int.reduceToNat,Int.reduceNeg]
  all_goals exact idxI_ge s l 0 (by omega)
theorem c43 (hg : GlNR gl) (a b : List Exa) (t u : STok) (hl : a.length < 4294967296) (hv : ∀ x ∈ a,x.vs.length < 4294967296) : Pure Tryz.prog gl 43 [.sl 4 (a.map Exa.av) t,.sl 4 (b.map Exa.av) u] (.ok (.bool (a == b))) := by
  refine ⟨?_,by simp only [fgs,nrs,forall_eq_or_imp,forall_eq,implies_true],by simp only [nrs,forall_eq_or_imp,forall_eq,implies_true]⟩
  simp only [fgs]
  refine .of_run is43 (by simp) (mw_sound 200 ?_)
  repeat' first
    | with_reducible first | refine mw_as m43.eq_1 ?_ | refine opn m43k0.eq_1 ?_ | refine opn m43k1.eq_1 ?_ | refine opn m43k2.eq_1 ?_ | refine ⟨?_,?_⟩ | intro _
    | simp only [go_sem,↓reduceIte,Nat.reduceAdd,Nat.reduceLeDiff,Nat.reduceEqDiff,Nat.reduceBEq,Nat.reduceBNe,Nat.reduceMul,Nat.reduceLT,reduceCtorEq,Int.reduceLT,Int.reduceLE,Int.reduceToNat,Int.reduceNeg]
  · rename_i hx
    rw [bne_iff_ne] at hx
    exact (beq_eq_false_iff_ne.2 fun e => hx (by rw [e])).symm
  rename_i hx
  have hab : a.length = b.length := by rw [bne_eq_false_iff_eq] at hx; omega
  refine .forUp a.length (fun i F S => F = [(0,AV.sl 4 (a.map Exa.av) STok.unk),(1,AV.sl 4 (b.map Exa.av) STok.unk),(5,AV.int IntKind.i64 i)] ∧ S = .none gl ∧ (a == b) = (a.drop i == b.drop i)) ⟨rfl,rfl,rfl⟩ ?_
  rintro i F S hi ⟨rfl,rfl,he⟩ ih
  by_cases h : i < a.length
  · obtain ⟨c,hc⟩ := some_of_lt h
    have h' : i < b.length := hab ▸ h
    obtain ⟨d,hd⟩ := some_of_lt h'
    have hs := drop_eq_step hc hd
    have hcv := hv c (List.mem_of_getElem? hc)
    refine opn m43l0.eq_1 ?_
    repeat' first
      | with_reducible first | refine mw_as m43.eq_1 ?_ | refine opn m43k0.eq_1 ?_ | refine opn m43k1.eq_1 ?_ | refine opn m43k2.eq_1 ?_ | refine .pu (c105 hg c.vs d.vs .unk .unk hcv) hg rfl ?_ | refine ⟨?_,?_⟩ | intro _
      | simp only [go_sem,↓reduceIte,Nat.reduceAdd,Nat.reduceLeDiff,Nat.reduceEqDiff,Nat.reduceBEq,Nat.reduceBNe,Nat.reduceMul,Nat.reduceLT,reduceCtorEq,Int.reduceLT,Int.reduceLE,Int.reduceToNat,Int.reduceNeg,  hc,hd,ltB h,ltP h,ltP h',wrap_succ (show i < 9223372036854775807 by omega)]
    all_goals first
      | (refine ih h _ _ ⟨rfl,rfl,?_⟩
         clear ih
         rw [he,hs,exa_beq,lab_beq]
         clear he hs hc hd
         grind)
      | (clear ih
         rw [he,hs,exa_beq,lab_beq]
         clear he hs hc hd
         grind)
      | trace_state
  · refine opn m43l0.eq_1 ?_
    repeat' first
      | with_reducible first | refine mw_as m43.eq_1 ?_ | refine opn m43k0.eq_1 ?_ | refine opn m43k1.eq_1 ?_ | refine opn m43k2.eq_1 ?_ | refine ⟨?_,?_⟩ | intro _
      | simp only [go_sem,↓reduceIte,Nat.reduceAdd,Nat.reduceLeDiff,Nat.reduceEqDiff,Nat.reduceBEq,Nat.reduceBNe,Nat.reduceMul,Nat.reduceLT,reduceCtorEq,Int.reduceLT,Int.reduceLE,Int.reduceToNat,Int.reduceNeg,  geB (Nat.le_of_not_lt h)]
    rw [he,List.drop_eq_nil_of_le (Nat.le_of_not_lt h),List.drop_eq_nil_of_le (by omega)]
    rfl
theorem c44 (x y : Exa) : Pure Tryz.prog gl 44 [x.av,y.av] (.ok (.bool (x.lab == y.lab))) := by
  refine ⟨?_,by simp only [fgs,nrs,forall_eq_or_imp,forall_eq,implies_true],by simp only [nrs,forall_eq_or_imp,forall_eq,implies_true]⟩
  simp only [fgs]
  refine .of_run is44 (by simp) (mw_sound 200 ?_)
  repeat' first
    | with_reducible first | refine mw_as m44.eq_1 ?_ | refine ⟨?_,?_⟩ | intro _
    | simp only [go_sem,↓reduceIte,Nat.reduceAdd,Nat.reduceLeDiff,Nat.reduceEqDiff,Nat.reduceBEq,Nat.reduceBNe,Nat.reduceMul,Nat.reduceLT,reduceCtorEq,Int.reduceLT,Int.reduceLE,Int.reduceToNat,Int.reduceNeg]
  all_goals exact (lab_beq _ _).symm
theorem c39 (x : Exa) (y : Lab) : Pure Tryz.prog gl 39 [x.av,y.av] (.ok (.bool (x.lab == y))) := by
  refine ⟨?_,by simp only [fgs,nrs,forall_eq_or_imp,forall_eq,implies_true],by simp only [nrs,forall_eq_or_imp,forall_eq,implies_true]⟩
  simp only [fgs]
  refine .of_run is39 (by simp) (mw_sound 200 ?_)
  repeat' first
    | with_reducible first | refine mw_as m39.eq_1 ?_ | refine ⟨?_,?_⟩ | intro _
    | simp only [go_sem,↓reduceIte,Nat.reduceAdd,Nat.reduceLeDiff,Nat.reduceEqDiff,Nat.reduceBEq,Nat.reduceBNe,Nat.reduceMul,Nat.reduceLT,reduceCtorEq,Int.reduceLT,Int.reduceLE,Int.reduceToNat,Int.reduceNeg]
  all_goals exact (lab_beq _ _).symm
theorem c97 (hg : GlNR gl) (v : Val) (hv : v.s.length < 4294967296) : Pure Tryz.prog gl 97 [v.av] (.ok (.bool (chkR v != 0))) := by
  refine ⟨?_,by simp only [fgs,nrs,forall_eq_or_imp,forall_eq,implies_true],by simp only [nrs,forall_eq_or_imp,forall_eq,implies_true]⟩
  simp only [fgs]
  refine .of_run is97 (by simp) (mw_sound 200 ?_)
  repeat' first
    | with_reducible first | refine mw_as m97.eq_1 ?_ | refine .pu (c32 v (by omega)) hg rfl ?_ | refine ⟨?_,?_⟩ | intro _
    | simp only [go_sem,↓reduceIte,Nat.reduceAdd,Nat.reduceLeDiff,Nat.reduceEqDiff,Nat.reduceBEq,Nat.reduceBNe,Nat.reduceMul,Nat.reduceLT,reduceCtorEq,Int.reduceLT,Int.reduceLE,Int.reduceToNat,Int.reduceNeg]
theorem c16 (hg : GlNR gl) (a b : Dset) (hf : a.fs.length < 4294967296) (hl : a.xs.length < 4294967296) (hv : ∀ x ∈ a.xs,x.vs.length < 4294967296) : Pure Tryz.prog gl 16 [a.av,b.av] (.ok (.bool (a == b))) := by
  refine ⟨?_,by simp only [fgs,nrs,forall_eq_or_imp,forall_eq,implies_true],by simp only [nrs,forall_eq_or_imp,forall_eq,implies_true]⟩
  simp only [fgs]
  refine .of_run is16 (by simp) (mw_sound 200 ?_)
  repeat' first
    | with_reducible first | refine mw_as m16.eq_1 ?_ | refine opn m16k0.eq_1 ?_ | refine opn m16k1.eq_1 ?_ | refine opn m16k2.eq_1 ?_ | refine ⟨?_,?_⟩ | intro _
    | simp only [go_sem,↓reduceIte,Nat.reduceAdd,Nat.reduceLeDiff,Nat.reduceEqDiff,Nat.reduceBEq,Nat.reduceBNe,Nat.reduceMul,Nat.reduceLT,reduceCtorEq,Int.reduceLT,Int.reduceLE,Int.reduceToNat,Int.reduceNeg]
  · rename_i hx
    rw [dset_beq]
    have : a.fs == b.fs → (a.fs.length : Int) = b.fs.length := fun e => by rw [beq_iff_eq.1 e]
    grind
  rename_i hx
  simp only [Bool.or_eq_false_iff,Bool.not_eq_false',bne_eq_false_iff_eq] at hx
  have hab : a.fs.length = b.fs.length := by omega
  refine .forUp a.fs.length (fun i F S => F = [(2,AV.ptr 0 0),(3,AV.ptr 1 0),(5,AV.int IntKind.i64 i)] ∧ S = { n := 2,obj := [(1,[AV.str b.ent,AV.sl 1 (List.map AV.str b.fs) STok.unk,AV.sl 4 (List.map Exa.av b.xs) STok.unk]),(0,[AV.str a.ent,AV.sl 1 (List.map AV.str a.fs) STok.unk,AV.sl 4 (List.map Exa.av a.xs) STok.unk])],nt := 0,live := [],gl := gl } ∧ (a.fs == b.fs) = (a.fs.drop i == b.fs.drop i)) ⟨rfl,rfl,rfl⟩ ?_
  rintro i F S hi ⟨rfl,rfl,he⟩ ih
  by_cases h : i < a.fs.length
  · obtain ⟨c,hc⟩ := some_of_lt h
    have h' : i < b.fs.length := hab ▸ h
    obtain ⟨d,hd⟩ := some_of_lt h'
    have hs := drop_eq_step hc hd
    refine opn m16l0.eq_1 ?_
    repeat' first
      | with_reducible first | refine mw_as m16.eq_1 ?_ | refine opn m16k0.eq_1 ?_ | refine opn m16k1.eq_1 ?_ | refine opn m16k2.eq_1 ?_ | refine ⟨?_,?_⟩ | intro _
      | simp only [go_sem,↓reduceIte,Nat.reduceAdd,Nat.reduceLeDiff,Nat.reduceEqDiff,Nat.reduceBEq,Nat.reduceBNe,Nat.reduceMul,Nat.reduceLT,reduceCtorEq,Int.reduceLT,Int.reduceLE,Int.reduceToNat,Int.reduceNeg,  hc,hd,ltB h,ltP h,ltP h',wrap_succ (show i < 9223372036854775807 by omega)]
    all_goals first
      | (refine ih h _ _ ⟨rfl,rfl,?_⟩
         clear ih
         rw [he,hs]
         clear he hs hc hd
         grind)
      | (clear ih
         rw [dset_beq,he,hs]
         clear he hs hc hd
         grind)
  · refine opn m16l0.eq_1 ?_
    repeat' first
      | with_reducible first | refine mw_as m16.eq_1 ?_ | refine opn m16k0.eq_1 ?_ | refine opn m16k1.eq_1 ?_ | refine opn m16k2.eq_1 ?_ | refine .pu (c43 hg a.xs b.xs .unk .unk hl hv) hg rfl ?_ | refine ⟨?_,?_⟩ | intro _
      | simp only [go_sem,↓reduceIte,Nat.reduceAdd,Nat.reduceLeDiff,Nat.reduceEqDiff,Nat.reduceBEq,Nat.reduceBNe,Nat.reduceMul,Nat.reduceLT,reduceCtorEq,Int.reduceLT,Int.reduceLE,Int.reduceToNat,Int.reduceNeg,  geB (Nat.le_of_not_lt h)]
    rw [dset_beq,he,List.drop_eq_nil_of_le (Nat.le_of_not_lt h),List.drop_eq_nil_of_le (by omega),hx.1]
    rfl
def badI : List Val → Int → Int
  | [],_ => -1
  | x :: l,i => if chkR x = 0 then badI l (i + 1) else i
theorem badI_ge : ∀ (l : List Val) (i : Int),0 ≤ i → decide (0 ≤ badI l i) = l.any (fun v => chkR v != 0)
  | [],i,_ => by simp [badI]
  | x :: l,i,hi => by
    have ih := badI_ge l (i + 1) (by omega)
    by_cases h : chkR x = 0
    · have e : badI (x :: l) i = badI l (i + 1) := by simp [badI,h]
      simp only [e,ih]
      simp [h]
    · have e : badI (x :: l) i = i := by simp [badI,h]
      simp only [e]
      simp [h,hi]
theorem c161 (hg : GlNR gl) (l : List Val) (t : STok) (hl : l.length < 4294967296) (hv : ∀ v ∈ l,v.s.length < 4294967296) : Pure Tryz.prog gl 161 [.sl 3 (l.map Val.av) t,.fn (.func 97) [] []] (.ok (.int .i64 (badI l 0))) := by
  refine ⟨?_,by simp only [fgs,nrs,forall_eq_or_imp,forall_eq,implies_true],by simp only [nrs,forall_eq_or_imp,forall_eq,implies_true]⟩
  simp only [fgs]
  refine .of_run is161 (by simp) (mw_sound 200 ?_)
  repeat' first
    | with_reducible first | refine mw_as m161.eq_1 ?_ | refine opn m161k0.eq_1 ?_ | refine ⟨?_,?_⟩ | intro _
    | simp only [go_sem,↓reduceIte,Nat.reduceAdd,Nat.reduceLeDiff,Nat.reduceEqDiff,Nat.reduceBEq,Nat.reduceBNe,Nat.reduceMul,Nat.reduceLT,reduceCtorEq,Int.reduceLT,Int.reduceLE,Int.reduceToNat,Int.reduceNeg]
  refine .forUp l.length (fun i F S => F = [(0,AV.sl 3 (List.map Val.av l) STok.unk),(1,AV.fn (Fn.func 97) [] []),(7,AV.int IntKind.i64 ↑l.length),(8,AV.int IntKind.i64 i)] ∧ (∃ m t,S = ⟨m,[],t,[],gl⟩) ∧ badI l 0 = badI (l.drop i) i) ⟨rfl,⟨_,_,rfl⟩,rfl⟩ ?_
  rintro i F S hi ⟨rfl,⟨m,nt,rfl⟩,he⟩ ih
  by_cases h : i < l.length
  · obtain ⟨c,hc⟩ := some_of_lt h
    have hd := drop_some hc
    have hcv := hv c (List.mem_of_getElem? hc)
    refine opn m161l0.eq_1 ?_
    repeat' first
      | with_reducible first | refine mw_as m161.eq_1 ?_ | refine opn m161k0.eq_1 ?_ | refine .pu (c97 hg c hcv) hg rfl ?_ | refine ⟨?_,?_⟩ | intro _
      | simp only [go_sem,↓reduceIte,Nat.reduceAdd,Nat.reduceLeDiff,Nat.reduceEqDiff,Nat.reduceBEq,Nat.reduceBNe,Nat.reduceMul,Nat.reduceLT,reduceCtorEq,Int.reduceLT,Int.reduceLE,Int.reduceToNat,Int.reduceNeg,  hc,ltB h,ltP h,wrap_succ (show i < 9223372036854775807 by omega)]
    all_goals first
      | (refine .forget (ih h _ _ ⟨rfl,⟨_,_,rfl⟩,?_⟩)
         clear ih
         rw [he,hd]
         clear he hc hd
         simp_all [badI])
      | (clear ih
         rw [he,hd]
         clear he hc hd
         simp only [badI]
         grind)
  · refine opn m161l0.eq_1 ?_
    repeat' first
      | with_reducible first | refine mw_as m161.eq_1 ?_ | refine opn m161k0.eq_1 ?_ | refine ⟨?_,?_⟩ | intro _
      | simp only [go_sem,↓reduceIte,Nat.reduceAdd,Nat.reduceLeDiff,Nat.reduceEqDiff,Nat.reduceBEq,Nat.reduceBNe,Nat.reduceMul,Nat.reduceLT,reduceCtorEq,Int.reduceLT,Int.reduceLE,Int.reduceToNat,Int.reduceNeg,  geB (Nat.le_of_not_lt h)]
    rw [he,List.drop_eq_nil_of_le (Nat.le_of_not_lt h)]
    rfl
theorem c96 (hg : GlNR gl) (l : List Val) (t : STok) (hl : l.length < 4294967296) (hv : ∀ v ∈ l,v.s.length < 4294967296) : Pure Tryz.prog gl 96 [.sl 3 (l.map Val.av) t,.fn (.func 97) [] []] (.ok (.bool (l.any fun v => chkR v != 0))) := by
  refine ⟨?_,by simp only [fgs,nrs,forall_eq_or_imp,forall_eq,implies_true],by simp only [nrs,forall_eq_or_imp,forall_eq,implies_true]⟩
  simp only [fgs]
  refine .of_run is96 (by simp) (mw_sound 200 ?_)
  repeat' first
    | with_reducible first | refine mw_as m96.eq_1 ?_ | refine .pu (c161 hg l .unk hl hv) hg rfl ?_ | refine ⟨?_,?_⟩ | intro _
    | simp only [go_sem,↓reduceIte,Nat.reduceAdd,Nat.reduceLeDiff,Nat.reduceEqDiff,Nat.reduceBEq,Nat.reduceBNe,Nat.reduceMul,Nat.reduceLT,reduceCtorEq,Int.reduceLT,Int.reduceLE,Int.reduceToNat,Int.reduceNeg]
  all_goals exact badI_ge l 0 (by omega)
theorem c46 (hg : GlNR gl) (a b : List Exa) (t u : STok) (hl : a.length < 4294967296) : Pure Tryz.prog gl 46 [.sl 4 (a.map Exa.av) t,.sl 4 (b.map Exa.av) u,.fn (.func 44) [] []] (.ok (.bool (a.map Exa.lab == b.map Exa.lab))) := by
  refine ⟨?_,by simp only [fgs,nrs,forall_eq_or_imp,forall_eq,implies_true],by simp only [nrs,forall_eq_or_imp,forall_eq,implies_true]⟩
  simp only [fgs]
  refine .of_run is46 (by simp) (mw_sound 200 ?_)
  repeat' first
    | with_reducible first | refine mw_as m46.eq_1 ?_ | refine opn m46k0.eq_1 ?_ | refine ⟨?_,?_⟩ | intro _
    | simp only [go_sem,↓reduceIte,Nat.reduceAdd,Nat.reduceLeDiff,Nat.reduceEqDiff,Nat.reduceBEq,Nat.reduceBNe,Nat.reduceMul,Nat.reduceLT,reduceCtorEq,Int.reduceLT,Int.reduceLE,Int.reduceToNat,Int.reduceNeg]
  · rename_i hx
    rw [bne_iff_ne] at hx
    refine (beq_eq_false_iff_ne.2 fun e => hx ?_).symm
    have := congrArg List.length e
    simp at this
    omega
  rename_i hx
  have hab : a.length = b.length := by rw [bne_eq_false_iff_eq] at hx; omega
  refine .forUp a.length (fun i F S => F = [(1,AV.sl 4 (List.map Exa.av b) STok.unk),(2,AV.fn (Fn.func 44) [] []),(15,AV.sl 4 (List.map Exa.av a) STok.unk),(16,AV.int IntKind.i64 a.length),(17,AV.int IntKind.i64 i)] ∧ (∃ m t,S = ⟨m,[],t,[],gl⟩) ∧ (a.map Exa.lab == b.map Exa.lab) = ((a.map Exa.lab).drop i == (b.map Exa.lab).drop i)) ⟨rfl,⟨_,_,rfl⟩,rfl⟩ ?_
  rintro i F S hi ⟨rfl,⟨m,nt,rfl⟩,he⟩ ih
  by_cases h : i < a.length
  · obtain ⟨c,hc⟩ := some_of_lt h
    have h' : i < b.length := hab ▸ h
    obtain ⟨d,hd⟩ := some_of_lt h'
    have hs := drop_eq_step (a := a.map Exa.lab) (b := b.map Exa.lab) (i := i) (c := c.lab) (d := d.lab) (by simp [hc]) (by simp [hd])
    refine opn m46l0.eq_1 ?_
    repeat' first
      | with_reducible first | refine mw_as m46.eq_1 ?_ | refine opn m46k0.eq_1 ?_ | refine .pu (c44 c d) hg rfl ?_ | refine ⟨?_,?_⟩ | intro _
      | simp only [go_sem,↓reduceIte,Nat.reduceAdd,Nat.reduceLeDiff,Nat.reduceEqDiff,Nat.reduceBEq,Nat.reduceBNe,Nat.reduceMul,Nat.reduceLT,reduceCtorEq,Int.reduceLT,Int.reduceLE,Int.reduceToNat,Int.reduceNeg,  hc,hd,ltB h,ltP h,ltP h',wrap_succ (show i < 9223372036854775807 by omega)]
    all_goals first
      | (refine .forget (ih h _ _ ⟨rfl,⟨_,_,rfl⟩,?_⟩)
         clear ih
         rw [he,hs]
         clear he hs hc hd
         grind)
      | (clear ih
         rw [he,hs]
         clear he hs hc hd
         grind)
      | trace_state
  · refine opn m46l0.eq_1 ?_
    repeat' first
      | with_reducible first | refine mw_as m46.eq_1 ?_ | refine opn m46k0.eq_1 ?_ | refine ⟨?_,?_⟩ | intro _
      | simp only [go_sem,↓reduceIte,Nat.reduceAdd,Nat.reduceLeDiff,Nat.reduceEqDiff,Nat.reduceBEq,Nat.reduceBNe,Nat.reduceMul,Nat.reduceLT,reduceCtorEq,Int.reduceLT,Int.reduceLE,Int.reduceToNat,Int.reduceNeg,  geB (Nat.le_of_not_lt h)]
    rw [he,List.drop_eq_nil_of_le (by simp; omega),List.drop_eq_nil_of_le (by simp; omega)]
    rfl
end
section
open Go Go.V
set_option maxRecDepth 40000
variable {gl : List (Nat × List AV)}
theorem c38 (hg : GlNR gl) (a : List Exa) (b : List Lab) (t u : STok) (hl : a.length < 4294967296) : Pure Tryz.prog gl 38 [.sl 4 (a.map Exa.av) t,.sl 3 (b.map Lab.av) u,.fn (.func 39) [] []] (.ok (.bool (a.map Exa.lab == b))) := by
  refine ⟨?_,by simp only [fgs,nrs,forall_eq_or_imp,forall_eq,implies_true],by simp only [nrs,forall_eq_or_imp,forall_eq,implies_true]⟩
  simp only [fgs]
  refine .of_run is38 (by simp) (mw_sound 200 ?_)
  repeat' first
    | with_reducible first | refine mw_as m38.eq_1 ?_ | refine opn m38k0.eq_1 ?_ | refine ⟨?_,?_⟩ | intro _
    | simp only [go_sem,↓reduceIte,Nat.reduceAdd,Nat.reduceLeDiff,Nat.reduceEqDiff,Nat.reduceBEq,Nat.reduceBNe,Nat.reduceMul,Nat.reduceLT,reduceCtorEq,Int.reduceLT,Int.reduceLE,Int.reduceToNat,Int.reduceNeg]
  · rename_i hx
    rw [bne_iff_ne] at hx
    refine (beq_eq_false_iff_ne.2 fun e => hx ?_).symm
    have := congrArg List.length e
    simp at this
    omega
  rename_i hx
  have hab : a.length = b.length := by rw [bne_eq_false_iff_eq] at hx; omega
  refine .forUp a.length (fun i F S => F = [(1,AV.sl 3 (List.map Lab.av b) STok.unk),(2,AV.fn (Fn.func 39) [] []),(15,AV.sl 4 (List.map Exa.av a) STok.unk),(16,AV.int IntKind.i64 a.length),(17,AV.int IntKind.i64 i)] ∧ (∃ m t,S = ⟨m,[],t,[],gl⟩) ∧ (a.map Exa.lab == b) = ((a.map Exa.lab).drop i == b.drop i)) ⟨rfl,⟨_,_,rfl⟩,rfl⟩ ?_
  rintro i F S hi ⟨rfl,⟨m,nt,rfl⟩,he⟩ ih
  by_cases h : i < a.length
  · obtain ⟨c,hc⟩ := some_of_lt h
    have h' : i < b.length := hab ▸ h
    obtain ⟨d,hd⟩ := some_of_lt h'
    have hs := drop_eq_step (a := a.map Exa.lab) (b := b) (i := i) (c := c.lab) (d := d) (by simp [hc]) (by simp [hd])
    refine opn m38l0.eq_1 ?_
    repeat' first
      | with_reducible first | refine mw_as m38.eq_1 ?_ | refine opn m38k0.eq_1 ?_ | refine .pu (c39 c d) hg rfl ?_ | refine ⟨?_,?_⟩ | intro _
      | simp only [go_sem,↓reduceIte,Nat.reduceAdd,Nat.reduceLeDiff,Nat.reduceEqDiff,Nat.reduceBEq,Nat.reduceBNe,Nat.reduceMul,Nat.reduceLT,reduceCtorEq,Int.reduceLT,Int.reduceLE,Int.reduceToNat,Int.reduceNeg,  hc,hd,ltB h,ltP h,ltP h',wrap_succ (show i < 9223372036854775807 by omega)]
    all_goals first
      | (refine .forget (ih h _ _ ⟨rfl,⟨_,_,rfl⟩,?_⟩)
         clear ih
         rw [he,hs]
         clear he hs hc hd
         grind)
      | (clear ih
         rw [he,hs]
         clear he hs hc hd
         grind)
  · refine opn m38l0.eq_1 ?_
    repeat' first
      | with_reducible first | refine mw_as m38.eq_1 ?_ | refine opn m38k0.eq_1 ?_ | refine ⟨?_,?_⟩ | intro _
      | simp only [go_sem,↓reduceIte,Nat.reduceAdd,Nat.reduceLeDiff,Nat.reduceEqDiff,Nat.reduceBEq,Nat.reduceBNe,Nat.reduceMul,Nat.reduceLT,reduceCtorEq,Int.reduceLT,Int.reduceLE,Int.reduceToNat,Int.reduceNeg,  geB (Nat.le_of_not_lt h)]
    rw [he,List.drop_eq_nil_of_le (by simp; omega),List.drop_eq_nil_of_le (by omega)]
    rfl
def fewX (x : Exa) : Bool := decide (x.lab.k.length ≤ 100) && decide (x.vs.length ≤ 20) && x.vs.all (fun v => decide (v.s.length ≤ 200))
def fewD (d : Dset) : Bool := decide (d.ent.length ≤ 100) && decide (d.fs.length ≤ 20) && decide (d.xs.length ≤ 40) && d.fs.all (fun f => decide (f.length ≤ 100)) && d.xs.all fewX
theorem ltBr (n : Nat) (m : Int) (k : Nat) (h : m = k) : decide (m < (n : Int)) = !decide (n ≤ k) := by subst h; rw [Bool.eq_iff_iff]; simp
theorem c13 (hg : GlNR gl) (d : Dset) : Pure Tryz.prog gl 13 [d.av] (.ok (.bool (fewD d))) := by
  refine ⟨?_,by simp only [fgs,nrs,forall_eq_or_imp,forall_eq,implies_true],by simp only [nrs,forall_eq_or_imp,forall_eq,implies_true]⟩
  simp only [fgs]
  refine .of_run is13 (by simp) (mw_sound 200 ?_)
  repeat' first
    | with_reducible first | refine mw_as m13.eq_1 ?_ | refine opn m13k0.eq_1 ?_ | refine opn m13k1.eq_1 ?_ | refine opn m13k2.eq_1 ?_ | refine opn m13k3.eq_1 ?_ | refine opn m13k4.eq_1 ?_ | refine opn m13k5.eq_1 ?_ | refine opn m13k6.eq_1 ?_ | refine ⟨?_,?_⟩ | intro _
    | simp only [go_sem,↓reduceIte,Nat.reduceAdd,Nat.reduceLeDiff,Nat.reduceEqDiff,Nat.reduceBEq,Nat.reduceBNe,Nat.reduceMul,Nat.reduceLT,reduceCtorEq,Int.reduceLT,Int.reduceLE,Int.reduceToNat,Int.reduceNeg,  ltBr d.ent.length 100 100 rfl,ltBr d.fs.length 20 20 rfl,ltBr d.xs.length 40 40 rfl]
  · simp only [fewD]
    grind
  rename_i hx
  have h1 : d.fs.length < 4294967296 := by grind
  have h2 : d.xs.length < 4294967296 := by grind
  have hfew : fewD d = (d.fs.all (fun f => decide (f.length ≤ 100)) && d.xs.all fewX) := by simp only [fewD]; grind
  refine .forUp d.fs.length (fun i F S => F = [(1,AV.ptr 0 0),(3,AV.int IntKind.i64 i)] ∧ S = { n := 1,obj := [(0,[AV.str d.ent,AV.sl 1 (List.map AV.str d.fs) STok.unk,AV.sl 4 (List.map Exa.av d.xs) STok.unk])],nt := 0,live := [],gl := gl } ∧ d.fs.all (fun f => decide (f.length ≤ 100)) = (d.fs.drop i).all (fun f => decide (f.length ≤ 100))) ⟨rfl,rfl,rfl⟩ ?_
  rintro i F S hi ⟨rfl,rfl,he⟩ ih
  by_cases h : i < d.fs.length
  · obtain ⟨c,hc⟩ := some_of_lt h
    have hd := drop_some hc
    refine opn m13l0.eq_1 ?_
    repeat' first
      | with_reducible first | refine mw_as m13.eq_1 ?_ | refine opn m13k0.eq_1 ?_ | refine opn m13k1.eq_1 ?_ | refine opn m13k2.eq_1 ?_ | refine opn m13k3.eq_1 ?_ | refine opn m13k4.eq_1 ?_ | refine opn m13k5.eq_1 ?_ | refine opn m13k6.eq_1 ?_ | refine ⟨?_,?_⟩ | intro _
      | simp only [go_sem,↓reduceIte,Nat.reduceAdd,Nat.reduceLeDiff,Nat.reduceEqDiff,Nat.reduceBEq,Nat.reduceBNe,Nat.reduceMul,Nat.reduceLT,reduceCtorEq,Int.reduceLT,Int.reduceLE,Int.reduceToNat,Int.reduceNeg,  hc,ltB h,ltP h,ltBr c.length 100 100 rfl,wrap_succ (show i < 9223372036854775807 by omega)]
    all_goals first
      | (refine ih h _ _ ⟨rfl,rfl,?_⟩
         clear ih
         rw [he,hd]
         clear he hc hd
         grind)
      | (clear ih
         rw [hfew,he,hd]
         clear he hc hd
         grind)
  · refine opn m13l0.eq_1 ?_
    have he2 : (d.fs.all fun f => decide (List.length f ≤ 100)) = true := by rw [he,List.drop_eq_nil_of_le (Nat.le_of_not_lt h)]; rfl
    rw [hfew,he2,Bool.true_and]
    clear ih he hi
    repeat' first
      | with_reducible first | refine mw_as m13.eq_1 ?_ | refine opn m13k0.eq_1 ?_ | refine opn m13k1.eq_1 ?_ | refine opn m13k2.eq_1 ?_ | refine opn m13k3.eq_1 ?_ | refine opn m13k4.eq_1 ?_ | refine opn m13k5.eq_1 ?_ | refine opn m13k6.eq_1 ?_ | refine ⟨?_,?_⟩ | intro _
      | simp only [go_sem,↓reduceIte,Nat.reduceAdd,Nat.reduceLeDiff,Nat.reduceEqDiff,Nat.reduceBEq,Nat.reduceBNe,Nat.reduceMul,Nat.reduceLT,reduceCtorEq,Int.reduceLT,Int.reduceLE,Int.reduceToNat,Int.reduceNeg,  geB (Nat.le_of_not_lt h)]
    refine .forUp d.xs.length (fun i F S => F = [(1,AV.ptr 0 0),(4,AV.int IntKind.i64 i)] ∧ (∃ m,0 < m ∧ S = ⟨m,[(0,[AV.str d.ent,AV.sl 1 (List.map AV.str d.fs) STok.unk,AV.sl 4 (List.map Exa.av d.xs) STok.unk])],0,[],gl⟩) ∧ d.xs.all fewX = (d.xs.drop i).all fewX) ⟨rfl,⟨1,by omega,rfl⟩,rfl⟩ ?_
    rintro i F S hi ⟨rfl,⟨m,hm,rfl⟩,he⟩ ih
    by_cases h : i < d.xs.length
    · obtain ⟨c,hc⟩ := some_of_lt h
      have hd := drop_some hc
      refine opn m13l2.eq_1 ?_
      repeat' first
        | with_reducible first | refine mw_as m13.eq_1 ?_ | refine opn m13k0.eq_1 ?_ | refine opn m13k1.eq_1 ?_ | refine opn m13k2.eq_1 ?_ | refine opn m13k3.eq_1 ?_ | refine opn m13k4.eq_1 ?_ | refine opn m13k5.eq_1 ?_ | refine opn m13k6.eq_1 ?_ | refine ⟨?_,?_⟩ | intro _
        | simp only [go_sem,↓reduceIte,Nat.reduceAdd,Nat.reduceLeDiff,Nat.reduceEqDiff,Nat.reduceBEq,Nat.reduceBNe,Nat.reduceMul,Nat.reduceLT,reduceCtorEq,Int.reduceLT,Int.reduceLE,Int.reduceToNat,Int.reduceNeg,  hc,ltB h,ltP h,ltBr c.lab.k.length 100 100 rfl,ltBr c.vs.length 20 20 rfl,wrap_succ (show i < 9223372036854775807 by omega),(show (0 = m) = False from eq_false (by omega))]
      · clear ih
        rw [he,hd]
        clear he hc hd
        simp only [List.all_cons,fewX]
        grind
      rename_i hy
      have hfx : fewX c = c.vs.all (fun v => decide (v.s.length ≤ 200)) := by simp only [fewX]; grind
      refine .forUp c.vs.length (fun j F S => F = [(1,AV.ptr 0 0),(4,AV.int IntKind.i64 ↑i),(5,AV.ptr m 0),(6,AV.int IntKind.i64 j)] ∧ S = { n := m + 1,obj := [(m,[AV.str c.lab.k,AV.int IntKind.i64 c.lab.e,AV.int IntKind.i64 c.lab.n,AV.sl 3 (List.map Val.av c.vs) STok.unk]),(m,[AV.str [],AV.int IntKind.i64 0,AV.int IntKind.i64 0,AV.sl 3 [] STok.exact]),(0,[AV.str d.ent,AV.sl 1 (List.map AV.str d.fs) STok.unk,AV.sl 4 (List.map Exa.av d.xs) STok.unk])],nt := 0,live := [],gl := gl } ∧ c.vs.all (fun v => decide (v.s.length ≤ 200)) = (c.vs.drop j).all (fun v => decide (v.s.length ≤ 200))) ⟨rfl,rfl,rfl⟩ ?_
      rintro j F S hj ⟨rfl,rfl,hf⟩ ih2
      have hlen : c.vs.length ≤ 20 := by grind
      by_cases h3 : j < c.vs.length
      · obtain ⟨v,hv⟩ := some_of_lt h3
        have hw := drop_some hv
        refine opn m13l1.eq_1 ?_
        repeat' first
          | with_reducible first | refine mw_as m13.eq_1 ?_ | refine opn m13k0.eq_1 ?_ | refine opn m13k1.eq_1 ?_ | refine opn m13k2.eq_1 ?_ | refine opn m13k3.eq_1 ?_ | refine opn m13k4.eq_1 ?_ | refine opn m13k5.eq_1 ?_ | refine opn m13k6.eq_1 ?_ | refine ⟨?_,?_⟩ | intro _
          | simp only [go_sem,↓reduceIte,Nat.reduceAdd,Nat.reduceLeDiff,Nat.reduceEqDiff,Nat.reduceBEq,Nat.reduceBNe,Nat.reduceMul,Nat.reduceLT,reduceCtorEq,Int.reduceLT,Int.reduceLE,Int.reduceToNat,Int.reduceNeg,  hv,ltB h3,ltP h3,ltBr v.s.length 200 200 rfl,wrap_succ (show j < 9223372036854775807 by omega),(show (0 = m) = False from eq_false (by omega))]
        all_goals first
          | (refine ih2 h3 _ _ ⟨rfl,rfl,?_⟩
             clear ih ih2
             rw [hf,hw]
             clear he hc hd hf hv hw
             grind)
          | (clear ih ih2
             rw [he,hd,List.all_cons,hfx,hf,hw]
             clear he hc hd hf hv hw
             grind)
      · refine opn m13l1.eq_1 ?_
        repeat' first
          | with_reducible first | refine mw_as m13.eq_1 ?_ | refine opn m13k0.eq_1 ?_ | refine opn m13k1.eq_1 ?_ | refine opn m13k2.eq_1 ?_ | refine opn m13k3.eq_1 ?_ | refine opn m13k4.eq_1 ?_ | refine opn m13k5.eq_1 ?_ | refine opn m13k6.eq_1 ?_ | refine ⟨?_,?_⟩ | intro _
          | simp only [go_sem,↓reduceIte,Nat.reduceAdd,Nat.reduceLeDiff,Nat.reduceEqDiff,Nat.reduceBEq,Nat.reduceBNe,Nat.reduceMul,Nat.reduceLT,reduceCtorEq,Int.reduceLT,Int.reduceLE,Int.reduceToNat,Int.reduceNeg,  geB (Nat.le_of_not_lt h3),(show (0 = m) = False from eq_false (by omega)),wrap_succ (show i < 9223372036854775807 by omega)]
        refine .keep (ih h _ _ ⟨rfl,⟨m + 1,by omega,rfl⟩,?_⟩) (fun l cs e => ?_) (by simp)
        · rw [he,hd,List.all_cons,hfx,hf,List.drop_eq_nil_of_le (Nat.le_of_not_lt h3)]
          rfl
        · by_cases hl : l = 0
          · subst hl
            have hb : (0 == m) = false := by simp; omega
            simp only [List.lookup_cons,hb] at e ⊢
            exact e
          · have hb : (l == 0) = false := by simpa using hl
            simp only [List.lookup_cons,hb] at e
            cases e
    · refine opn m13l2.eq_1 ?_
      repeat' first
        | with_reducible first | refine mw_as m13.eq_1 ?_ | refine opn m13k0.eq_1 ?_ | refine opn m13k1.eq_1 ?_ | refine opn m13k2.eq_1 ?_ | refine opn m13k3.eq_1 ?_ | refine opn m13k4.eq_1 ?_ | refine opn m13k5.eq_1 ?_ | refine opn m13k6.eq_1 ?_ | refine ⟨?_,?_⟩ | intro _
        | simp only [go_sem,↓reduceIte,Nat.reduceAdd,Nat.reduceLeDiff,Nat.reduceEqDiff,Nat.reduceBEq,Nat.reduceBNe,Nat.reduceMul,Nat.reduceLT,reduceCtorEq,Int.reduceLT,Int.reduceLE,Int.reduceToNat,Int.reduceNeg,  geB (Nat.le_of_not_lt h)]
      rw [he,List.drop_eq_nil_of_le (Nat.le_of_not_lt h)]
      rfl
def fewR (r : Req) : Bool := fewD ⟨r.ent,r.fs,[]⟩ && decide (r.labs.length ≤ 40)
theorem c12 (hg : GlNR gl) (r : Req) : Pure Tryz.prog gl 12 [r.av] (.ok (.bool (fewR r))) := by
  refine ⟨?_,by simp only [fgs,nrs,forall_eq_or_imp,forall_eq,implies_true],by simp only [nrs,forall_eq_or_imp,forall_eq,implies_true]⟩
  simp only [fgs]
  refine .of_run is12 (by simp) (mw_sound 200 ?_)
  repeat' first
    | with_reducible first | refine mw_as m12.eq_1 ?_ | refine .pu (Pure.conv (c13 hg (Dset.mk r.ent r.fs [])) (by simp only [fgs])) hg rfl ?_ | refine ⟨?_,?_⟩ | intro _
    | simp only [go_sem,↓reduceIte,Nat.reduceAdd,Nat.reduceLeDiff,Nat.reduceEqDiff,Nat.reduceBEq,Nat.reduceBNe,Nat.reduceMul,Nat.reduceLT,reduceCtorEq,Int.reduceLT,Int.reduceLE,Int.reduceToNat,Int.reduceNeg,  leBl r.labs.length 40 40 rfl]
  all_goals (simp only [fewR]; grind)
end
end Go.Proofs.YtdjdhecanjmchaaGreatDoor
