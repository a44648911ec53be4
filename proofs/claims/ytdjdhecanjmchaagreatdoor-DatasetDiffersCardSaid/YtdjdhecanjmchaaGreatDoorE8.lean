/- Contracts: values.Read. -/
import Derived.Test.YtdjdhecanjmchaaGreatDoorFa
import Derived.Test.YtdjdhecanjmchaaGreatDoorFb
import Derived.Test.YtdjdhecanjmchaaGreatDoorFc
import Derived.Test.YtdjdhecanjmchaaGreatDoorHa
import Derived.Test.YtdjdhecanjmchaaGreatDoorE6
set_option linter.unusedSimpArgs false
set_option linter.unusedVariables false
namespace Go.Proofs.YtdjdhecanjmchaaGreatDoor
open Go Go.V Go.Lib
set_option maxRecDepth 40000
attribute [local go_sem ↓] keepK Opd.ev MK.ev MK.ob gsA
attribute [local go_sem high] gsB
attribute [local go_sem] binEv binOb intOp strOp unEv eqvEv eqCells eqCell noBld tasEv AV.there AV.plus pickCells storeEv AV.solid AV.cells splice putParts rowOK fldEv iarrEv extEv minEv nonNil lenEv isStr appEv appOb appArg slVecEv slVecOb slStrEv slStrOb bnd argF endQ rvsEv rvEv resOf St.none if_true if_false ite_self eq_self ne_eq implies_true forall_const Lab.av Val.av Exa.av Dset.av Req.av gsC
variable {gl : List (Nat × List AV)}
theorem rdAt_in {α : Type} (rd : Rd α) {b : Bytes} {a : Nat} (h : a ≤ b.length) : rdAt rd b (a : Int) = rd (b.drop a) := by
  unfold rdAt
  rw [if_neg (by omega),Int.toNat_natCast]
theorem rdT_err {s : Bytes} {e : Int} (h : rdT s = .error e) : e = 3 ∨ e = 41 := by
  unfold rdT Rd.bind at h
  split at h
  · injection h with h
    subst h
    rename_i e h
    exact rdN_err _ _ _ _ _ h
  · unfold rdTake at h
    split at h
    · injection h with h
      exact .inr h.symm
    · cases h
theorem rdI_err {s : Bytes} {e : Int} (h : rdI s = .error e) : e = 3 ∨ e = 41 := by
  unfold rdI Rd.map at h
  split at h
  · injection h with h
    subst h
    rename_i e h
    exact rdN_err _ _ _ _ _ h
  · cases h
theorem rdT_len {s x r : Bytes} (h : rdT s = .ok (x,r)) : x.length ≤ s.length := by
  obtain ⟨_,h2⟩ := codec_T.bwd _ _ _ h
  rw [h2,textE]
  simp only [List.length_append]
  omega
theorem chk_ok {v : Val} (h : chkR v = 0) (b r : Bytes) : outR Val.av (.agg [.int .i64 0,.int .i64 0,.str []]) b (chk0 v r) = .tup [v.av,.int .i64 ((b.length - r.length : Nat) : Int),.int .i64 0] := by
  unfold chk0
  rw [if_pos h]
  rfl
theorem chk_no {v : Val} (h : chkR v ≠ 0) (b r : Bytes) : outR Val.av (.agg [.int .i64 0,.int .i64 0,.str []]) b (chk0 v r) = .tup [.agg [.int .i64 0,.int .i64 0,.str []],.int .i64 0,.int .i64 (chkR v)] := by
  unfold chk0
  rw [if_neg h]
  rfl
theorem neI {x : Int} (h : x ≠ 0) : (x != 0) = true := by simpa using h
theorem eqI {x : Int} (h : x ≠ 0) : (x == 0) = false := by simpa using h
set_option maxHeartbeats 4000000 in
theorem c121 (hg : GlNR gl) (b : Bytes) (t : STok) (a : Int) (hb : b.length < 4294960000) : Pure Tryz.prog gl 121 [.sl 1 (b.map byteAV) t,.int .i64 a] (.ok (outR Val.av (.agg [.int .i64 0,.int .i64 0,.str []]) b (rdAt rdV b a))) := by
  refine ⟨?_,by simp only [fgs,nrs,forall_eq_or_imp,forall_eq,implies_true],by simp only [nrs,forall_eq_or_imp,forall_eq,implies_true]; unfold outR; split <;> simp only [nrs,forall_eq_or_imp,forall_eq,implies_true]⟩
  simp only [fgs]
  refine .of_run is121 (by simp) (mw_sound 200 ?_)
  by_cases ha : a < 0 ∨ (b.length : Int) < a
  · have hR : rdAt rdV b a = .error 1 := by unfold rdAt; rw [if_pos ha]
    rw [hR]
    repeat' first
      | with_reducible first | refine mw_as m121.eq_1 ?_ | refine opn m121k0.eq_1 ?_ | refine opn m121k1.eq_1 ?_ | refine opn m121k2.eq_1 ?_ | refine opn m121k3.eq_1 ?_ | refine opn m121k4.eq_1 ?_ | refine opn m121k5.eq_1 ?_ | refine opn m121k6.eq_1 ?_ | refine ⟨?_,?_⟩ | intro _
      | simp only [go_sem,↓reduceIte,Nat.reduceAdd,Nat.reduceLeDiff,Nat.reduceEqDiff,Nat.reduceBEq,Nat.reduceBNe,Nat.reduceMul,Nat.reduceLT,reduceCtorEq,Int.reduceLT,Int.reduceLE,Int.reduceToNat,Int.reduceNeg]
    all_goals first
      | rfl
      | (exfalso; simp at *; omega)
  obtain ⟨m,rfl⟩ : ∃ m : Nat,a = m := ⟨a.toNat,by omega⟩
  have hm : m ≤ b.length := by omega
  rw [rdAt_in rdV hm]
  have g1 : decide ((m : Int) < 0) = false := decide_eq_false (by omega)
  have g2 : decide ((b.length : Int) < m) = false := decide_eq_false (by omega)
  by_cases he : m = b.length
  · rw [List.drop_eq_nil_of_le (by omega)]
    have g3 : ((m : Int) == (b.length : Int)) = true := by simp; omega
    repeat' first
      | with_reducible first | refine mw_as m121.eq_1 ?_ | refine opn m121k0.eq_1 ?_ | refine opn m121k1.eq_1 ?_ | refine opn m121k2.eq_1 ?_ | refine opn m121k3.eq_1 ?_ | refine opn m121k4.eq_1 ?_ | refine opn m121k5.eq_1 ?_ | refine opn m121k6.eq_1 ?_ | refine ⟨?_,?_⟩ | intro _
      | simp only [go_sem,↓reduceIte,Nat.reduceAdd,Nat.reduceLeDiff,Nat.reduceEqDiff,Nat.reduceBEq,Nat.reduceBNe,Nat.reduceMul,Nat.reduceLT,reduceCtorEq,Int.reduceLT,Int.reduceLE,Int.reduceToNat,Int.reduceNeg,  g1,g2,g3]
    rfl
  have g3 : ((m : Int) == (b.length : Int)) = false := by simp; omega
  obtain ⟨c,hc⟩ := some_of_lt (show m < b.length by omega)
  rw [drop_some hc]
  have hw : IntKind.i64.wrap ((m : Int) + 1) = ((m + 1 : Nat) : Int) := wrap_succ (by omega)
  have hw2 : IntKind.i64.wrap (((m + 1 : Nat) : Int) + 1) = ((m + 2 : Nat) : Int) := wrap_succ (by omega)
  have hcl := c.toNat_lt
  have hwc : IntKind.i64.wrap (c.toNat : Int) = c.toNat := wrap_i64_in (by omega) (by omega)
  have h120 := c120 hg b .unk ((m + 1 : Nat) : Int) (by omega)
  have h118 := c118 hg b .unk ((m + 1 : Nat) : Int) (by omega)
  rw [rdAt_in _ (by omega)] at h120 h118
  have g4p : ((m : Int) < (b.length : Int)) = True := eq_true (by omega)
  have z0 : ((0 : Int) == 0) = true := rfl
  have z0n : ((0 : Int) != 0) = false := rfl
  have z3 : ((3 : Int) == 0) = false := rfl
  have z3n : ((3 : Int) != 0) = true := rfl
  have z41 : ((41 : Int) == 0) = false := rfl
  have z41n : ((41 : Int) != 0) = true := rfl
  unfold rdV
  simp only []
  by_cases h0 : c.toNat = 0
  · rw [if_pos h0]
    have k0 : ((c.toNat : Int) == 0) = true := by simp; omega
    have k1 : ((c.toNat : Int) == 1) = false := by simp; omega
    have k2 : ((c.toNat : Int) == 2) = false := by simp; omega
    have k3 : ((c.toNat : Int) == 3) = false := by simp; omega
    have k4 : ((c.toNat : Int) == 4) = false := by simp; omega
    have k5 : ((c.toNat : Int) == 5) = false := by simp; omega
    have hk : (c.toNat : Int) = 0 := by omega
    rw [show (⟨0,0,[]⟩ : Val) = ⟨(c.toNat : Int),0,[]⟩ by rw [hk]]
    have h32 : Pure Tryz.prog gl 32 [.agg [.int .i64 (c.toNat : Int),.int .i64 0,.str []]] (.ok (.int .i64 (chkR ⟨(c.toNat : Int),0,[]⟩))) := c32 ⟨(c.toNat : Int),0,[]⟩ (by simp)
    by_cases hz : chkR ⟨(c.toNat : Int),0,[]⟩ = 0
    · rw [chk_ok hz]
      rw [hz] at h32
      repeat' first
        | with_reducible first | refine mw_as m121.eq_1 ?_ | refine opn m121k0.eq_1 ?_ | refine opn m121k1.eq_1 ?_ | refine opn m121k2.eq_1 ?_ | refine opn m121k3.eq_1 ?_ | refine opn m121k4.eq_1 ?_ | refine opn m121k5.eq_1 ?_ | refine opn m121k6.eq_1 ?_ | refine .pu (h32) hg rfl ?_ | refine ⟨?_,?_⟩ | intro _
        | simp only [go_sem,↓reduceIte,Nat.reduceAdd,Nat.reduceLeDiff,Nat.reduceEqDiff,Nat.reduceBEq,Nat.reduceBNe,Nat.reduceMul,Nat.reduceLT,reduceCtorEq,Int.reduceLT,Int.reduceLE,Int.reduceToNat,Int.reduceNeg,  g1,g2,g3,g4p,hc,hw,hw2,hwc,byteAV,z0,z0n,z3,z3n,z41,z41n,k0,k1,k2,k3,k4,k5]
      all_goals first
        | omega
        | rfl
        | (rw [List.length_drop]; omega)
    · rw [chk_no hz]
      have n0 := neI hz
      have n1 := eqI hz
      repeat' first
        | with_reducible first | refine mw_as m121.eq_1 ?_ | refine opn m121k0.eq_1 ?_ | refine opn m121k1.eq_1 ?_ | refine opn m121k2.eq_1 ?_ | refine opn m121k3.eq_1 ?_ | refine opn m121k4.eq_1 ?_ | refine opn m121k5.eq_1 ?_ | refine opn m121k6.eq_1 ?_ | refine .pu (h32) hg rfl ?_ | refine ⟨?_,?_⟩ | intro _
        | simp only [go_sem,↓reduceIte,Nat.reduceAdd,Nat.reduceLeDiff,Nat.reduceEqDiff,Nat.reduceBEq,Nat.reduceBNe,Nat.reduceMul,Nat.reduceLT,reduceCtorEq,Int.reduceLT,Int.reduceLE,Int.reduceToNat,Int.reduceNeg,  g1,g2,g3,g4p,hc,hw,hw2,hwc,byteAV,z0,z0n,z3,z3n,z41,z41n,k0,k1,k2,k3,k4,k5,n0,n1]
  rw [if_neg h0]
  by_cases h1 : c.toNat = 1
  · rw [if_pos h1]
    have k0 : ((c.toNat : Int) == 0) = false := by simp; omega
    have k1 : ((c.toNat : Int) == 1) = true := by simp; omega
    have k2 : ((c.toNat : Int) == 2) = false := by simp; omega
    have k3 : ((c.toNat : Int) == 3) = false := by simp; omega
    have k4 : ((c.toNat : Int) == 4) = false := by simp; omega
    have k5 : ((c.toNat : Int) == 5) = false := by simp; omega
    have hk : (c.toNat : Int) = 1 := by omega
    by_cases he2 : m + 1 = b.length
    · rw [List.drop_eq_nil_of_le (by omega)]
      have g5 : (((m + 1 : Nat) : Int) == (b.length : Int)) = true := by simp; omega
      repeat' first
        | with_reducible first | refine mw_as m121.eq_1 ?_ | refine opn m121k0.eq_1 ?_ | refine opn m121k1.eq_1 ?_ | refine opn m121k2.eq_1 ?_ | refine opn m121k3.eq_1 ?_ | refine opn m121k4.eq_1 ?_ | refine opn m121k5.eq_1 ?_ | refine opn m121k6.eq_1 ?_ | refine ⟨?_,?_⟩ | intro _
        | simp only [go_sem,↓reduceIte,Nat.reduceAdd,Nat.reduceLeDiff,Nat.reduceEqDiff,Nat.reduceBEq,Nat.reduceBNe,Nat.reduceMul,Nat.reduceLT,reduceCtorEq,Int.reduceLT,Int.reduceLE,Int.reduceToNat,Int.reduceNeg,  g1,g2,g3,g4p,hc,hw,hw2,hwc,byteAV,z0,z0n,z3,z3n,z41,z41n,k0,k1,k2,k3,k4,k5,g5]
      rfl
    have g5 : (((m + 1 : Nat) : Int) == (b.length : Int)) = false := by simp; omega
    have g6 : (((m + 1 : Nat) : Int) < (b.length : Int)) = True := eq_true (by omega)
    obtain ⟨d,hd⟩ := some_of_lt (show m + 1 < b.length by omega)
    have hdl := d.toNat_lt
    have hwd : IntKind.i64.wrap (d.toNat : Int) = d.toNat := wrap_i64_in (by omega) (by omega)
    rw [drop_some hd]
    simp only
    by_cases hd1 : 1 < d.toNat
    · rw [if_pos hd1]
      have g7 : decide (1 < (d.toNat : Int)) = true := decide_eq_true (by omega)
      repeat' first
        | with_reducible first | refine mw_as m121.eq_1 ?_ | refine opn m121k0.eq_1 ?_ | refine opn m121k1.eq_1 ?_ | refine opn m121k2.eq_1 ?_ | refine opn m121k3.eq_1 ?_ | refine opn m121k4.eq_1 ?_ | refine opn m121k5.eq_1 ?_ | refine opn m121k6.eq_1 ?_ | refine ⟨?_,?_⟩ | intro _
        | simp only [go_sem,↓reduceIte,Nat.reduceAdd,Nat.reduceLeDiff,Nat.reduceEqDiff,Nat.reduceBEq,Nat.reduceBNe,Nat.reduceMul,Nat.reduceLT,reduceCtorEq,Int.reduceLT,Int.reduceLE,Int.reduceToNat,Int.reduceNeg,  g1,g2,g3,g4p,hc,hw,hw2,hwc,byteAV,z0,z0n,z3,z3n,z41,z41n,k0,k1,k2,k3,k4,k5,g5,g6,hd,hwd,g7]
      all_goals first | rfl | omega
    rw [if_neg hd1]
    have g7 : decide (1 < (d.toNat : Int)) = false := decide_eq_false (by omega)
    rw [show (⟨1,(d.toNat : Int),[]⟩ : Val) = ⟨(c.toNat : Int),(d.toNat : Int),[]⟩ by rw [hk]]
    have h32 : Pure Tryz.prog gl 32 [.agg [.int .i64 (c.toNat : Int),.int .i64 (d.toNat : Int),.str []]] (.ok (.int .i64 (chkR ⟨(c.toNat : Int),(d.toNat : Int),[]⟩))) := c32 ⟨(c.toNat : Int),(d.toNat : Int),[]⟩ (by simp)
    by_cases hz : chkR ⟨(c.toNat : Int),(d.toNat : Int),[]⟩ = 0
    · rw [chk_ok hz]
      rw [hz] at h32
      repeat' first
        | with_reducible first | refine mw_as m121.eq_1 ?_ | refine opn m121k0.eq_1 ?_ | refine opn m121k1.eq_1 ?_ | refine opn m121k2.eq_1 ?_ | refine opn m121k3.eq_1 ?_ | refine opn m121k4.eq_1 ?_ | refine opn m121k5.eq_1 ?_ | refine opn m121k6.eq_1 ?_ | refine .pu (h32) hg rfl ?_ | refine ⟨?_,?_⟩ | intro _
        | simp only [go_sem,↓reduceIte,Nat.reduceAdd,Nat.reduceLeDiff,Nat.reduceEqDiff,Nat.reduceBEq,Nat.reduceBNe,Nat.reduceMul,Nat.reduceLT,reduceCtorEq,Int.reduceLT,Int.reduceLE,Int.reduceToNat,Int.reduceNeg,  g1,g2,g3,g4p,hc,hw,hw2,hwc,byteAV,z0,z0n,z3,z3n,z41,z41n,k0,k1,k2,k3,k4,k5,g5,g6,hd,hwd,g7]
      all_goals first
        | omega
        | rfl
        | (rw [List.length_drop]; omega)
    · rw [chk_no hz]
      have n0 := neI hz
      have n1 := eqI hz
      repeat' first
        | with_reducible first | refine mw_as m121.eq_1 ?_ | refine opn m121k0.eq_1 ?_ | refine opn m121k1.eq_1 ?_ | refine opn m121k2.eq_1 ?_ | refine opn m121k3.eq_1 ?_ | refine opn m121k4.eq_1 ?_ | refine opn m121k5.eq_1 ?_ | refine opn m121k6.eq_1 ?_ | refine .pu (h32) hg rfl ?_ | refine ⟨?_,?_⟩ | intro _
        | simp only [go_sem,↓reduceIte,Nat.reduceAdd,Nat.reduceLeDiff,Nat.reduceEqDiff,Nat.reduceBEq,Nat.reduceBNe,Nat.reduceMul,Nat.reduceLT,reduceCtorEq,Int.reduceLT,Int.reduceLE,Int.reduceToNat,Int.reduceNeg,  g1,g2,g3,g4p,hc,hw,hw2,hwc,byteAV,z0,z0n,z3,z3n,z41,z41n,k0,k1,k2,k3,k4,k5,n0,n1,g5,g6,hd,hwd,g7]
  rw [if_neg h1]
  by_cases h2 : c.toNat = 2 ∨ c.toNat = 3
  · rw [if_pos h2]
    rcases h2 with hq | hq
    · have k0 : ((c.toNat : Int) == 0) = false := by simp; omega
      have k1 : ((c.toNat : Int) == 1) = false := by simp; omega
      have k2 : ((c.toNat : Int) == 2) = true := by simp; omega
      have k3 : ((c.toNat : Int) == 3) = false := by simp; omega
      have k4 : ((c.toNat : Int) == 4) = false := by simp; omega
      have k5 : ((c.toNat : Int) == 5) = false := by simp; omega
      have herr := fun e => @rdI_err (b.drop (m + 1)) e
      generalize rdI (b.drop (m + 1)) = R at h120 herr ⊢
      cases R with
      | error e =>
        have hne : e ≠ 0 := by rcases herr e rfl with rfl | rfl <;> decide
        have n0 := neI hne
        have n1 := eqI hne
        simp only [outR] at h120 ⊢
        repeat' first
          | with_reducible first | refine mw_as m121.eq_1 ?_ | refine opn m121k0.eq_1 ?_ | refine opn m121k1.eq_1 ?_ | refine opn m121k2.eq_1 ?_ | refine opn m121k3.eq_1 ?_ | refine opn m121k4.eq_1 ?_ | refine opn m121k5.eq_1 ?_ | refine opn m121k6.eq_1 ?_ | refine .pu (h120) hg rfl ?_ | refine ⟨?_,?_⟩ | intro _
          | simp only [go_sem,↓reduceIte,Nat.reduceAdd,Nat.reduceLeDiff,Nat.reduceEqDiff,Nat.reduceBEq,Nat.reduceBNe,Nat.reduceMul,Nat.reduceLT,reduceCtorEq,Int.reduceLT,Int.reduceLE,Int.reduceToNat,Int.reduceNeg,  g1,g2,g3,g4p,hc,hw,hw2,hwc,byteAV,z0,z0n,z3,z3n,z41,z41n,k0,k1,k2,k3,k4,k5,n0,n1]
      | ok x =>
        obtain ⟨x,r⟩ := x
        simp only [outR] at h120
        simp only
        have h32 : Pure Tryz.prog gl 32 [.agg [.int .i64 (c.toNat : Int),.int .i64 x,.str []]] (.ok (.int .i64 (chkR ⟨(c.toNat : Int),x,[]⟩))) := c32 ⟨(c.toNat : Int),x,[]⟩ (by simp)
        by_cases hz : chkR ⟨(c.toNat : Int),x,[]⟩ = 0
        · rw [chk_ok hz]
          rw [hz] at h32
          repeat' first
            | with_reducible first | refine mw_as m121.eq_1 ?_ | refine opn m121k0.eq_1 ?_ | refine opn m121k1.eq_1 ?_ | refine opn m121k2.eq_1 ?_ | refine opn m121k3.eq_1 ?_ | refine opn m121k4.eq_1 ?_ | refine opn m121k5.eq_1 ?_ | refine opn m121k6.eq_1 ?_ | refine .pu (h120) hg rfl ?_ | refine .pu (h32) hg rfl ?_ | refine ⟨?_,?_⟩ | intro _
            | simp only [go_sem,↓reduceIte,Nat.reduceAdd,Nat.reduceLeDiff,Nat.reduceEqDiff,Nat.reduceBEq,Nat.reduceBNe,Nat.reduceMul,Nat.reduceLT,reduceCtorEq,Int.reduceLT,Int.reduceLE,Int.reduceToNat,Int.reduceNeg,  g1,g2,g3,g4p,hc,hw,hw2,hwc,byteAV,z0,z0n,z3,z3n,z41,z41n,k0,k1,k2,k3,k4,k5]
          all_goals first
            | omega
            | rfl
            | (rw [List.length_drop]; omega)
        · rw [chk_no hz]
          have n0 := neI hz
          have n1 := eqI hz
          repeat' first
            | with_reducible first | refine mw_as m121.eq_1 ?_ | refine opn m121k0.eq_1 ?_ | refine opn m121k1.eq_1 ?_ | refine opn m121k2.eq_1 ?_ | refine opn m121k3.eq_1 ?_ | refine opn m121k4.eq_1 ?_ | refine opn m121k5.eq_1 ?_ | refine opn m121k6.eq_1 ?_ | refine .pu (h120) hg rfl ?_ | refine .pu (h32) hg rfl ?_ | refine ⟨?_,?_⟩ | intro _
            | simp only [go_sem,↓reduceIte,Nat.reduceAdd,Nat.reduceLeDiff,Nat.reduceEqDiff,Nat.reduceBEq,Nat.reduceBNe,Nat.reduceMul,Nat.reduceLT,reduceCtorEq,Int.reduceLT,Int.reduceLE,Int.reduceToNat,Int.reduceNeg,  g1,g2,g3,g4p,hc,hw,hw2,hwc,byteAV,z0,z0n,z3,z3n,z41,z41n,k0,k1,k2,k3,k4,k5,n0,n1]
    · have k0 : ((c.toNat : Int) == 0) = false := by simp; omega
      have k1 : ((c.toNat : Int) == 1) = false := by simp; omega
      have k2 : ((c.toNat : Int) == 2) = false := by simp; omega
      have k3 : ((c.toNat : Int) == 3) = true := by simp; omega
      have k4 : ((c.toNat : Int) == 4) = false := by simp; omega
      have k5 : ((c.toNat : Int) == 5) = false := by simp; omega
      have herr := fun e => @rdI_err (b.drop (m + 1)) e
      generalize rdI (b.drop (m + 1)) = R at h120 herr ⊢
      cases R with
      | error e =>
        have hne : e ≠ 0 := by rcases herr e rfl with rfl | rfl <;> decide
        have n0 := neI hne
        have n1 := eqI hne
        simp only [outR] at h120 ⊢
        repeat' first
          | with_reducible first | refine mw_as m121.eq_1 ?_ | refine opn m121k0.eq_1 ?_ | refine opn m121k1.eq_1 ?_ | refine opn m121k2.eq_1 ?_ | refine opn m121k3.eq_1 ?_ | refine opn m121k4.eq_1 ?_ | refine opn m121k5.eq_1 ?_ | refine opn m121k6.eq_1 ?_ | refine .pu (h120) hg rfl ?_ | refine ⟨?_,?_⟩ | intro _
          | simp only [go_sem,↓reduceIte,Nat.reduceAdd,Nat.reduceLeDiff,Nat.reduceEqDiff,Nat.reduceBEq,Nat.reduceBNe,Nat.reduceMul,Nat.reduceLT,reduceCtorEq,Int.reduceLT,Int.reduceLE,Int.reduceToNat,Int.reduceNeg,  g1,g2,g3,g4p,hc,hw,hw2,hwc,byteAV,z0,z0n,z3,z3n,z41,z41n,k0,k1,k2,k3,k4,k5,n0,n1]
      | ok x =>
        obtain ⟨x,r⟩ := x
        simp only [outR] at h120
        simp only
        have h32 : Pure Tryz.prog gl 32 [.agg [.int .i64 (c.toNat : Int),.int .i64 x,.str []]] (.ok (.int .i64 (chkR ⟨(c.toNat : Int),x,[]⟩))) := c32 ⟨(c.toNat : Int),x,[]⟩ (by simp)
        by_cases hz : chkR ⟨(c.toNat : Int),x,[]⟩ = 0
        · rw [chk_ok hz]
          rw [hz] at h32
          repeat' first
            | with_reducible first | refine mw_as m121.eq_1 ?_ | refine opn m121k0.eq_1 ?_ | refine opn m121k1.eq_1 ?_ | refine opn m121k2.eq_1 ?_ | refine opn m121k3.eq_1 ?_ | refine opn m121k4.eq_1 ?_ | refine opn m121k5.eq_1 ?_ | refine opn m121k6.eq_1 ?_ | refine .pu (h120) hg rfl ?_ | refine .pu (h32) hg rfl ?_ | refine ⟨?_,?_⟩ | intro _
            | simp only [go_sem,↓reduceIte,Nat.reduceAdd,Nat.reduceLeDiff,Nat.reduceEqDiff,Nat.reduceBEq,Nat.reduceBNe,Nat.reduceMul,Nat.reduceLT,reduceCtorEq,Int.reduceLT,Int.reduceLE,Int.reduceToNat,Int.reduceNeg,  g1,g2,g3,g4p,hc,hw,hw2,hwc,byteAV,z0,z0n,z3,z3n,z41,z41n,k0,k1,k2,k3,k4,k5]
          all_goals first
            | omega
            | rfl
            | (rw [List.length_drop]; omega)
        · rw [chk_no hz]
          have n0 := neI hz
          have n1 := eqI hz
          repeat' first
            | with_reducible first | refine mw_as m121.eq_1 ?_ | refine opn m121k0.eq_1 ?_ | refine opn m121k1.eq_1 ?_ | refine opn m121k2.eq_1 ?_ | refine opn m121k3.eq_1 ?_ | refine opn m121k4.eq_1 ?_ | refine opn m121k5.eq_1 ?_ | refine opn m121k6.eq_1 ?_ | refine .pu (h120) hg rfl ?_ | refine .pu (h32) hg rfl ?_ | refine ⟨?_,?_⟩ | intro _
            | simp only [go_sem,↓reduceIte,Nat.reduceAdd,Nat.reduceLeDiff,Nat.reduceEqDiff,Nat.reduceBEq,Nat.reduceBNe,Nat.reduceMul,Nat.reduceLT,reduceCtorEq,Int.reduceLT,Int.reduceLE,Int.reduceToNat,Int.reduceNeg,  g1,g2,g3,g4p,hc,hw,hw2,hwc,byteAV,z0,z0n,z3,z3n,z41,z41n,k0,k1,k2,k3,k4,k5,n0,n1]
  rw [if_neg h2]
  by_cases h4 : c.toNat = 4 ∨ c.toNat = 5
  · rw [if_pos h4]
    rcases h4 with hq | hq
    · have k0 : ((c.toNat : Int) == 0) = false := by simp; omega
      have k1 : ((c.toNat : Int) == 1) = false := by simp; omega
      have k2 : ((c.toNat : Int) == 2) = false := by simp; omega
      have k3 : ((c.toNat : Int) == 3) = false := by simp; omega
      have k4 : ((c.toNat : Int) == 4) = true := by simp; omega
      have k5 : ((c.toNat : Int) == 5) = false := by simp; omega
      have herr := fun e => @rdT_err (b.drop (m + 1)) e
      have hlen := fun x r => @rdT_len (b.drop (m + 1)) x r
      generalize rdT (b.drop (m + 1)) = R at h118 herr hlen ⊢
      cases R with
      | error e =>
        have hne : e ≠ 0 := by rcases herr e rfl with rfl | rfl <;> decide
        have n0 := neI hne
        have n1 := eqI hne
        simp only [outR] at h118 ⊢
        repeat' first
          | with_reducible first | refine mw_as m121.eq_1 ?_ | refine opn m121k0.eq_1 ?_ | refine opn m121k1.eq_1 ?_ | refine opn m121k2.eq_1 ?_ | refine opn m121k3.eq_1 ?_ | refine opn m121k4.eq_1 ?_ | refine opn m121k5.eq_1 ?_ | refine opn m121k6.eq_1 ?_ | refine .pu (h118) hg rfl ?_ | refine ⟨?_,?_⟩ | intro _
          | simp only [go_sem,↓reduceIte,Nat.reduceAdd,Nat.reduceLeDiff,Nat.reduceEqDiff,Nat.reduceBEq,Nat.reduceBNe,Nat.reduceMul,Nat.reduceLT,reduceCtorEq,Int.reduceLT,Int.reduceLE,Int.reduceToNat,Int.reduceNeg,  g1,g2,g3,g4p,hc,hw,hw2,hwc,byteAV,z0,z0n,z3,z3n,z41,z41n,k0,k1,k2,k3,k4,k5,n0,n1]
      | ok x =>
        obtain ⟨x,r⟩ := x
        have hxl := hlen x r rfl
        rw [List.length_drop] at hxl
        simp only [outR] at h118
        simp only
        have h32 : Pure Tryz.prog gl 32 [.agg [.int .i64 (c.toNat : Int),.int .i64 0,.str x]] (.ok (.int .i64 (chkR ⟨(c.toNat : Int),0,x⟩))) := c32 ⟨(c.toNat : Int),0,x⟩ (by simp only; omega)
        by_cases hz : chkR ⟨(c.toNat : Int),0,x⟩ = 0
        · rw [chk_ok hz]
          rw [hz] at h32
          repeat' first
            | with_reducible first | refine mw_as m121.eq_1 ?_ | refine opn m121k0.eq_1 ?_ | refine opn m121k1.eq_1 ?_ | refine opn m121k2.eq_1 ?_ | refine opn m121k3.eq_1 ?_ | refine opn m121k4.eq_1 ?_ | refine opn m121k5.eq_1 ?_ | refine opn m121k6.eq_1 ?_ | refine .pu (h118) hg rfl ?_ | refine .pu (h32) hg rfl ?_ | refine ⟨?_,?_⟩ | intro _
            | simp only [go_sem,↓reduceIte,Nat.reduceAdd,Nat.reduceLeDiff,Nat.reduceEqDiff,Nat.reduceBEq,Nat.reduceBNe,Nat.reduceMul,Nat.reduceLT,reduceCtorEq,Int.reduceLT,Int.reduceLE,Int.reduceToNat,Int.reduceNeg,  g1,g2,g3,g4p,hc,hw,hw2,hwc,byteAV,z0,z0n,z3,z3n,z41,z41n,k0,k1,k2,k3,k4,k5]
          all_goals first
            | omega
            | rfl
            | (rw [List.length_drop]; omega)
        · rw [chk_no hz]
          have n0 := neI hz
          have n1 := eqI hz
          repeat' first
            | with_reducible first | refine mw_as m121.eq_1 ?_ | refine opn m121k0.eq_1 ?_ | refine opn m121k1.eq_1 ?_ | refine opn m121k2.eq_1 ?_ | refine opn m121k3.eq_1 ?_ | refine opn m121k4.eq_1 ?_ | refine opn m121k5.eq_1 ?_ | refine opn m121k6.eq_1 ?_ | refine .pu (h118) hg rfl ?_ | refine .pu (h32) hg rfl ?_ | refine ⟨?_,?_⟩ | intro _
            | simp only [go_sem,↓reduceIte,Nat.reduceAdd,Nat.reduceLeDiff,Nat.reduceEqDiff,Nat.reduceBEq,Nat.reduceBNe,Nat.reduceMul,Nat.reduceLT,reduceCtorEq,Int.reduceLT,Int.reduceLE,Int.reduceToNat,Int.reduceNeg,  g1,g2,g3,g4p,hc,hw,hw2,hwc,byteAV,z0,z0n,z3,z3n,z41,z41n,k0,k1,k2,k3,k4,k5,n0,n1]
    · have k0 : ((c.toNat : Int) == 0) = false := by simp; omega
      have k1 : ((c.toNat : Int) == 1) = false := by simp; omega
      have k2 : ((c.toNat : Int) == 2) = false := by simp; omega
      have k3 : ((c.toNat : Int) == 3) = false := by simp; omega
      have k4 : ((c.toNat : Int) == 4) = false := by simp; omega
      have k5 : ((c.toNat : Int) == 5) = true := by simp; omega
      have herr := fun e => @rdT_err (b.drop (m + 1)) e
      have hlen := fun x r => @rdT_len (b.drop (m + 1)) x r
      generalize rdT (b.drop (m + 1)) = R at h118 herr hlen ⊢
      cases R with
      | error e =>
        have hne : e ≠ 0 := by rcases herr e rfl with rfl | rfl <;> decide
        have n0 := neI hne
        have n1 := eqI hne
        simp only [outR] at h118 ⊢
        repeat' first
          | with_reducible first | refine mw_as m121.eq_1 ?_ | refine opn m121k0.eq_1 ?_ | refine opn m121k1.eq_1 ?_ | refine opn m121k2.eq_1 ?_ | refine opn m121k3.eq_1 ?_ | refine opn m121k4.eq_1 ?_ | refine opn m121k5.eq_1 ?_ | refine opn m121k6.eq_1 ?_ | refine .pu (h118) hg rfl ?_ | refine ⟨?_,?_⟩ | intro _
          | simp only [go_sem,↓reduceIte,Nat.reduceAdd,Nat.reduceLeDiff,Nat.reduceEqDiff,Nat.reduceBEq,Nat.reduceBNe,Nat.reduceMul,Nat.reduceLT,reduceCtorEq,Int.reduceLT,Int.reduceLE,Int.reduceToNat,Int.reduceNeg,  g1,g2,g3,g4p,hc,hw,hw2,hwc,byteAV,z0,z0n,z3,z3n,z41,z41n,k0,k1,k2,k3,k4,k5,n0,n1]
      | ok x =>
        obtain ⟨x,r⟩ := x
        have hxl := hlen x r rfl
        rw [List.length_drop] at hxl
        simp only [outR] at h118
        simp only
        have h32 : Pure Tryz.prog gl 32 [.agg [.int .i64 (c.toNat : Int),.int .i64 0,.str x]] (.ok (.int .i64 (chkR ⟨(c.toNat : Int),0,x⟩))) := c32 ⟨(c.toNat : Int),0,x⟩ (by simp only; omega)
        by_cases hz : chkR ⟨(c.toNat : Int),0,x⟩ = 0
        · rw [chk_ok hz]
          rw [hz] at h32
          repeat' first
            | with_reducible first | refine mw_as m121.eq_1 ?_ | refine opn m121k0.eq_1 ?_ | refine opn m121k1.eq_1 ?_ | refine opn m121k2.eq_1 ?_ | refine opn m121k3.eq_1 ?_ | refine opn m121k4.eq_1 ?_ | refine opn m121k5.eq_1 ?_ | refine opn m121k6.eq_1 ?_ | refine .pu (h118) hg rfl ?_ | refine .pu (h32) hg rfl ?_ | refine ⟨?_,?_⟩ | intro _
            | simp only [go_sem,↓reduceIte,Nat.reduceAdd,Nat.reduceLeDiff,Nat.reduceEqDiff,Nat.reduceBEq,Nat.reduceBNe,Nat.reduceMul,Nat.reduceLT,reduceCtorEq,Int.reduceLT,Int.reduceLE,Int.reduceToNat,Int.reduceNeg,  g1,g2,g3,g4p,hc,hw,hw2,hwc,byteAV,z0,z0n,z3,z3n,z41,z41n,k0,k1,k2,k3,k4,k5]
          all_goals first
            | omega
            | rfl
            | (rw [List.length_drop]; omega)
        · rw [chk_no hz]
          have n0 := neI hz
          have n1 := eqI hz
          repeat' first
            | with_reducible first | refine mw_as m121.eq_1 ?_ | refine opn m121k0.eq_1 ?_ | refine opn m121k1.eq_1 ?_ | refine opn m121k2.eq_1 ?_ | refine opn m121k3.eq_1 ?_ | refine opn m121k4.eq_1 ?_ | refine opn m121k5.eq_1 ?_ | refine opn m121k6.eq_1 ?_ | refine .pu (h118) hg rfl ?_ | refine .pu (h32) hg rfl ?_ | refine ⟨?_,?_⟩ | intro _
            | simp only [go_sem,↓reduceIte,Nat.reduceAdd,Nat.reduceLeDiff,Nat.reduceEqDiff,Nat.reduceBEq,Nat.reduceBNe,Nat.reduceMul,Nat.reduceLT,reduceCtorEq,Int.reduceLT,Int.reduceLE,Int.reduceToNat,Int.reduceNeg,  g1,g2,g3,g4p,hc,hw,hw2,hwc,byteAV,z0,z0n,z3,z3n,z41,z41n,k0,k1,k2,k3,k4,k5,n0,n1]
  rw [if_neg h4]
  have k0 : ((c.toNat : Int) == 0) = false := by simp; omega
  have k1 : ((c.toNat : Int) == 1) = false := by simp; omega
  have k2 : ((c.toNat : Int) == 2) = false := by simp; omega
  have k3 : ((c.toNat : Int) == 3) = false := by simp; omega
  have k4 : ((c.toNat : Int) == 4) = false := by simp; omega
  have k5 : ((c.toNat : Int) == 5) = false := by simp; omega
  repeat' first
    | with_reducible first | refine mw_as m121.eq_1 ?_ | refine opn m121k0.eq_1 ?_ | refine opn m121k1.eq_1 ?_ | refine opn m121k2.eq_1 ?_ | refine opn m121k3.eq_1 ?_ | refine opn m121k4.eq_1 ?_ | refine opn m121k5.eq_1 ?_ | refine opn m121k6.eq_1 ?_ | refine ⟨?_,?_⟩ | intro _
    | simp only [go_sem,↓reduceIte,Nat.reduceAdd,Nat.reduceLeDiff,Nat.reduceEqDiff,Nat.reduceBEq,Nat.reduceBNe,Nat.reduceMul,Nat.reduceLT,reduceCtorEq,Int.reduceLT,Int.reduceLE,Int.reduceToNat,Int.reduceNeg,  g1,g2,g3,g4p,hc,hw,hw2,hwc,byteAV,z0,z0n,z3,z3n,z41,z41n,k0,k1,k2,k3,k4,k5]
  rfl
end Go.Proofs.YtdjdhecanjmchaaGreatDoor
