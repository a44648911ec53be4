/- Contracts: the reference's readers of numbers, texts and frames. -/
import Derived.Test.YtdjdhecanjmchaaGreatDoorFa
import Derived.Test.YtdjdhecanjmchaaGreatDoorFb
import Derived.Test.YtdjdhecanjmchaaGreatDoorFc
import Derived.Test.YtdjdhecanjmchaaGreatDoorHa
import Derived.Test.YtdjdhecanjmchaaGreatDoorQa
import Derived.Test.YtdjdhecanjmchaaGreatDoorD1
import Derived.Test.YtdjdhecanjmchaaGreatDoorE8
import Derived.Test.YtdjdhecanjmchaaGreatDoorD3
set_option linter.unusedSimpArgs false
set_option linter.unusedVariables false
namespace Go.Proofs.YtdjdhecanjmchaaGreatDoor
open Go Go.V Go.Lib
set_option maxRecDepth 40000
attribute [local go_sem ↓] keepK Opd.ev MK.ev MK.ob gsA
attribute [local go_sem high] gsB
attribute [local go_sem] binEv binOb intOp strOp unEv eqvEv eqCells eqCell noBld tasEv AV.there AV.plus pickCells storeEv AV.solid AV.cells splice putParts rowOK fldEv iarrEv extEv minEv nonNil lenEv isStr appEv appOb appArg slVecEv slVecOb slStrEv slStrOb bnd argF endQ rvsEv rvEv resOf St.none if_true if_false ite_self eq_self ne_eq implies_true forall_const Lab.av Val.av Exa.av Dset.av Req.av gsC
variable {gl : List (Nat × List AV)}
theorem c182 (b : Bytes) (t : STok) (a : Int) (hb : b.length < 4294960000) : Pure Tryz.prog gl 182 [.sl 1 (b.map byteAV) t,.int .i64 a] (.ok (.int .i64 (if a < 0 ∨ (b.length : Int) < a then -1 else b.length - a))) := by
  refine ⟨?_,by simp only [fgs,nrs,forall_eq_or_imp,forall_eq,implies_true],by simp only [nrs,forall_eq_or_imp,forall_eq,implies_true]⟩
  simp only [fgs]
  refine .of_run is182 (by simp) (mw_sound 200 ?_)
  by_cases h : a < 0 ∨ (b.length : Int) < a
  · rw [if_pos h]
    repeat' first
      | with_reducible first | refine mw_as m182.eq_1 ?_ | refine opn m182k0.eq_1 ?_ | refine opn m182k1.eq_1 ?_ | refine ⟨?_,?_⟩ | intro _
      | simp only [go_sem,↓reduceIte,Nat.reduceAdd,Nat.reduceLeDiff,Nat.reduceEqDiff,Nat.reduceBEq,Nat.reduceBNe,Nat.reduceMul,Nat.reduceLT,reduceCtorEq,Int.reduceLT,Int.reduceLE,Int.reduceToNat,Int.reduceNeg]
    all_goals (exfalso; simp at *; omega)
  · rw [if_neg h]
    have g1 : decide (a < 0) = false := decide_eq_false (by omega)
    have g2 : decide ((b.length : Int) < a) = false := decide_eq_false (by omega)
    have hw : IntKind.i64.wrap ((b.length : Int) - a) = b.length - a := wrap_i64_in (by omega) (by omega)
    repeat' first
      | with_reducible first | refine mw_as m182.eq_1 ?_ | refine opn m182k0.eq_1 ?_ | refine opn m182k1.eq_1 ?_ | refine ⟨?_,?_⟩ | intro _
      | simp only [go_sem,↓reduceIte,Nat.reduceAdd,Nat.reduceLeDiff,Nat.reduceEqDiff,Nat.reduceBEq,Nat.reduceBNe,Nat.reduceMul,Nat.reduceLT,reduceCtorEq,Int.reduceLT,Int.reduceLE,Int.reduceToNat,Int.reduceNeg,  g1,g2,hw]
def fl (s : Bytes) : Nat → Nat → Int
  | 0,_ => -1
  | k + 1,i => if (s[i]?.getD 0).toNat < 128 then (i : Int) else fl s k (i + 1)
def vl (s : Bytes) : Nat → Nat → Nat
  | 0,_ => 0
  | k + 1,i => (s[i]?.getD 0).toNat % 128 + 128 * vl s k (i + 1)
theorem fl_range (s : Bytes) : ∀ k i,fl s k i = -1 ∨ ∃ l : Nat,fl s k i = l ∧ i ≤ l ∧ l < i + k ∧ (s[l]?.getD 0).toNat < 128 ∧ ∀ j,i ≤ j → j < l → ¬ (s[j]?.getD 0).toNat < 128
  | 0,_ => .inl rfl
  | k + 1,i => by
    unfold fl
    by_cases h : (s[i]?.getD 0).toNat < 128
    · rw [if_pos h]
      exact .inr ⟨i,rfl,Nat.le_refl _,by omega,h,fun j h1 h2 => by omega⟩
    · rw [if_neg h]
      rcases fl_range s k (i + 1) with h1 | ⟨l,h1,h2,h3,h4,h5⟩
      · exact .inl h1
      · refine .inr ⟨l,h1,by omega,by omega,h4,fun j h6 h7 => ?_⟩
        rcases Nat.eq_or_lt_of_le h6 with rfl | h6
        · exact h
        · exact h5 j h6 h7
theorem fl_none (s : Bytes) : ∀ k i,fl s k i = -1 → ∀ j,i ≤ j → j < i + k → ¬ (s[j]?.getD 0).toNat < 128
  | 0,i,_,j,h1,h2 => by omega
  | k + 1,i,h,j,h1,h2 => by
    unfold fl at h
    split at h
    · omega
    · rename_i h3
      rcases Nat.eq_or_lt_of_le h1 with rfl | h1
      · exact h3
      · exact fl_none s k (i + 1) h j h1 (by omega)
theorem rdN_at (s : Bytes) : ∀ f i acc l,i + f = 10 → i ≤ l → l < 10 → l < s.length → (s[l]?.getD 0).toNat < 128 → (∀ j,i ≤ j → j < l → ¬ (s[j]?.getD 0).toNat < 128) →
    rdN f i acc (s.drop i) = if (l == 9 && decide (1 < (s[l]?.getD 0).toNat)) || (decide (0 < l) && (s[l]?.getD 0).toNat == 0) then .error 3 else .ok (acc + vl s (l + 1 - i) i * 128 ^ i,s.drop (l + 1))
  | 0,i,acc,l,h1,h2,h3,_,_,_ => by omega
  | f + 1,i,acc,l,h1,h2,h3,h4,h5,h6 => by
    obtain ⟨c,hc⟩ := some_of_lt (show i < s.length by omega)
    rw [drop_some hc,rdN]
    rcases Nat.eq_or_lt_of_le h2 with rfl | h2
    · rw [hc] at h5 ⊢
      simp only [Option.getD_some] at h5 ⊢
      rw [if_pos h5,show i + 1 - i = 0 + 1 by omega,vl,vl,hc]
      simp only [Option.getD_some,Nat.mul_zero,Nat.add_zero,Nat.mod_eq_of_lt h5]
    · have h7 := h6 i (Nat.le_refl _) h2
      rw [hc] at h7
      simp only [Option.getD_some] at h7
      have hcl := c.toNat_lt
      rw [if_neg h7,rdN_at s f (i + 1) _ l (by omega) (by omega) h3 h4 h5 (fun j h8 h9 => h6 j (by omega) h9)]
      have h8 : acc + (c.toNat - 128) * 128 ^ i + vl s (l + 1 - (i + 1)) (i + 1) * 128 ^ (i + 1) = acc + vl s (l + 1 - i) i * 128 ^ i := by
        rw [show l + 1 - i = (l + 1 - (i + 1)) + 1 by omega,vl,hc,Nat.pow_succ]
        simp only [Option.getD_some]
        rw [show c.toNat % 128 = c.toNat - 128 by omega,Nat.add_mul,Nat.mul_comm 128 (vl s _ _),Nat.mul_assoc,Nat.mul_comm 128,← Nat.add_assoc]
      rw [h8]
theorem rdN_none (s : Bytes) : ∀ f i acc,i + f = 10 → i ≤ s.length → (∀ j,i ≤ j → j < min s.length 10 → ¬ (s[j]?.getD 0).toNat < 128) → rdN f i acc (s.drop i) = .error (if s.length < 10 then 41 else 3)
  | 0,i,acc,h1,h2,_ => by
    rw [if_neg (by omega)]
    rfl
  | f + 1,i,acc,h1,h2,h3 => by
    by_cases h : i < s.length
    · obtain ⟨c,hc⟩ := some_of_lt h
      have h4 := h3 i (Nat.le_refl _) (by omega)
      rw [hc] at h4
      simp only [Option.getD_some] at h4
      rw [drop_some hc,rdN,if_neg h4]
      exact rdN_none s f (i + 1) _ (by omega) (by omega) (fun j h5 h6 => h3 j (by omega) h6)
    · rw [List.drop_eq_nil_of_le (by omega),rdN,if_pos (by omega)]
theorem vl_lt (s : Bytes) : ∀ k i,vl s k i < 128 ^ k
  | 0,_ => by simp [vl]
  | k + 1,i => by
    have := vl_lt s k (i + 1)
    simp only [vl,Nat.pow_succ]
    omega
theorem vl_lt2 (s : Bytes) : ∀ k i,(s[i + k]?.getD 0).toNat ≤ 1 → vl s (k + 1) i < 2 * 128 ^ k
  | 0,i,h => by
    simp only [vl,Nat.add_zero] at h ⊢
    omega
  | k + 1,i,h => by
    have := vl_lt2 s k (i + 1) (by rw [show i + 1 + k = i + (k + 1) by omega]; exact h)
    rw [vl,Nat.pow_succ]
    omega
theorem vl_u64 (s : Bytes) {l i : Nat} (hl : l < 10) (hi : i ≤ l + 1) (h9 : l = 9 → (s[l]?.getD 0).toNat ≤ 1) : vl s (l + 1 - i) i < 18446744073709551616 := by
  rcases Nat.lt_or_ge l 9 with h | h
  · have h1 := vl_lt s (l + 1 - i) i
    have h2 : 128 ^ (l + 1 - i) ≤ 128 ^ 9 := Nat.pow_le_pow_right (by omega) (by omega)
    have h3 : (128 : Nat) ^ 9 = 9223372036854775808 := by decide
    omega
  · obtain rfl : l = 9 := by omega
    rcases Nat.lt_or_ge i 10 with h4 | h4
    · have h5 := vl_lt2 s (9 - i) i (by rw [show i + (9 - i) = 9 by omega]; exact h9 rfl)
      have h2 : 128 ^ (9 - i) ≤ 128 ^ 9 := Nat.pow_le_pow_right (by omega) (by omega)
      have h3 : (128 : Nat) ^ 9 = 9223372036854775808 := by decide
      rw [show 9 + 1 - i = 9 - i + 1 by omega]
      omega
    · rw [show 9 + 1 - i = 0 by omega]
      simp [vl]
theorem rdU_fl (s : Bytes) : rdU s = if fl s (min s.length 10) 0 < 0 then .error (if s.length < 10 then 41 else 3)
    else if ((fl s (min s.length 10) 0).toNat == 9 && decide (1 < (s[(fl s (min s.length 10) 0).toNat]?.getD 0).toNat)) || (decide (0 < (fl s (min s.length 10) 0).toNat) && (s[(fl s (min s.length 10) 0).toNat]?.getD 0).toNat == 0) then .error 3
    else .ok (vl s ((fl s (min s.length 10) 0).toNat + 1) 0,s.drop ((fl s (min s.length 10) 0).toNat + 1)) := by
  rcases fl_range s (min s.length 10) 0 with h | ⟨l,h,h1,h2,h3,h4⟩
  · rw [if_pos (by omega)]
    have := rdN_none s 10 0 0 rfl (by omega) (fun j h5 h6 => fl_none s _ 0 h j h5 (by omega))
    simpa [rdU] using this
  · rw [if_neg (by omega),h,Int.toNat_natCast]
    have := rdN_at s 10 0 0 l rfl (by omega) (by omega) (by omega) h3 h4
    simpa [rdU] using this
set_option maxHeartbeats 4000000 in
theorem c132 (hg : GlNR gl) (b : Bytes) (t : STok) (a : Int) (hb : b.length < 4294960000) : Pure Tryz.prog gl 132 [.sl 1 (b.map byteAV) t,.int .i64 a] (.ok (outR (fun k : Nat => .int .u64 k) (.int .u64 0) b (rdAt rdU b a))) := by
  refine ⟨?_,by simp only [fgs,nrs,forall_eq_or_imp,forall_eq,implies_true],by simp only [nrs,forall_eq_or_imp,forall_eq,implies_true]; unfold outR; split <;> simp only [nrs,forall_eq_or_imp,forall_eq,implies_true]⟩
  simp only [fgs]
  refine .of_run is132 (by simp) (mw_sound 200 ?_)
  have h182 := c182 (gl := gl) b .unk a hb
  by_cases ha : a < 0 ∨ (b.length : Int) < a
  · rw [if_pos ha] at h182
    have hR : rdAt rdU b a = .error 1 := by unfold rdAt; rw [if_pos ha]
    rw [hR]
    have hd : decide ((-1 : Int) < 0) = true := rfl
    repeat' first
      | with_reducible first | refine mw_as m132.eq_1 ?_ | refine opn m132k0.eq_1 ?_ | refine opn m132k1.eq_1 ?_ | refine opn m132k2.eq_1 ?_ | refine opn m132k3.eq_1 ?_ | refine opn m132k5.eq_1 ?_ | refine opn m132k6.eq_1 ?_ | refine .pu (h182) hg rfl ?_ | refine ⟨?_,?_⟩ | intro _
      | simp only [go_sem,↓reduceIte,Nat.reduceAdd,Nat.reduceLeDiff,Nat.reduceEqDiff,Nat.reduceBEq,Nat.reduceBNe,Nat.reduceMul,Nat.reduceLT,reduceCtorEq,Int.reduceLT,Int.reduceLE,Int.reduceToNat,Int.reduceNeg,  hd]
    rfl
  rw [if_neg ha] at h182
  obtain ⟨m,rfl⟩ : ∃ m : Nat,a = m := ⟨a.toNat,by omega⟩
  rw [rdAt_in _ (by omega)]
  generalize hs : b.drop m = s
  have hsl : s.length = b.length - m := by rw [← hs,List.length_drop]
  have hbs : ∀ j,b[m + j]? = s[j]? := fun j => by rw [← hs,List.getElem?_drop]
  have hl0 : ((b.length : Int) - m) = ((s.length : Nat) : Int) := by omega
  rw [hl0] at h182
  have hd : decide (((s.length : Nat) : Int) < 0) = false := decide_eq_false (by omega)
  have hmin : (if 10 < ((s.length : Nat) : Int) then 10 else ((s.length : Nat) : Int)) = ((min s.length 10 : Nat) : Int) := by split <;> omega
  have hmin2 : (if ((s.length : Nat) : Int) < 10 then ((s.length : Nat) : Int) else 10) = ((min s.length 10 : Nat) : Int) := by split <;> omega
  repeat' first
    | with_reducible first | refine mw_as m132.eq_1 ?_ | refine opn m132k0.eq_1 ?_ | refine opn m132k1.eq_1 ?_ | refine opn m132k2.eq_1 ?_ | refine opn m132k3.eq_1 ?_ | refine opn m132k5.eq_1 ?_ | refine opn m132k6.eq_1 ?_ | refine .pu (h182) hg rfl ?_ | refine ⟨?_,?_⟩ | intro _
    | simp only [go_sem,↓reduceIte,Nat.reduceAdd,Nat.reduceLeDiff,Nat.reduceEqDiff,Nat.reduceBEq,Nat.reduceBNe,Nat.reduceMul,Nat.reduceLT,reduceCtorEq,Int.reduceLT,Int.reduceLE,Int.reduceToNat,Int.reduceNeg,  hd,hmin,hmin2]
  have hN10 : min s.length 10 ≤ 10 := Nat.min_le_right _ _
  have hNs : min s.length 10 ≤ s.length := Nat.min_le_left _ _
  have hNl : s.length < 10 → min s.length 10 = s.length := fun h => Nat.min_eq_left (by omega)
  have hRU := rdU_fl s
  generalize hN : min s.length 10 = N at *
  refine .forUp N (fun j F S => F = [(0,AV.sl 1 (b.map byteAV) .unk),(1,AV.int .i64 m),(7,AV.int .i64 s.length),(9,AV.int .i64 (fl s j (N - j))),(10,AV.int .i64 ((N : Int) - 1 - j))] ∧ S = ⟨0,[],0,[],gl⟩) ⟨by rw [wrap_i64_in (by omega) (by omega)]; simp [fl],rfl⟩ ?_
  rintro j F S hj ⟨rfl,rfl⟩ ih
  by_cases h : j < N
  · have hd0 : decide (0 ≤ (N : Int) - 1 - j) = true := decide_eq_true (by omega)
    obtain ⟨c,hc⟩ := some_of_lt (show N - 1 - j < s.length by omega)
    have hbc : b[m + (N - 1 - j)]? = some c := by rw [hbs,hc]
    have hak : IntKind.i64.wrap ((m : Int) + ((N : Int) - 1 - j)) = ((m + (N - 1 - j) : Nat) : Int) := by rw [wrap_i64_in (by omega) (by omega)]; omega
    have hlp : (((m + (N - 1 - j) : Nat) : Int) < (b.length : Int)) = True := eq_true (by omega)
    have hk1 : IntKind.i64.wrap ((N : Int) - 1 - j - 1) = (N : Int) - 1 - ((j + 1 : Nat) : Int) := by rw [wrap_i64_in (by omega) (by omega)]; omega
    have hfl : fl s (j + 1) (N - (j + 1)) = if c.toNat < 128 then (N : Int) - 1 - j else fl s j (N - j) := by
      rw [fl,show N - (j + 1) = N - 1 - j by omega,hc,show N - 1 - j + 1 = N - j by omega]
      simp only [Option.getD_some]
      split <;> omega
    refine opn m132l0.eq_1 ?_
    by_cases hc1 : c.toNat < 128
    · have hcd : decide ((c.toNat : Int) < 128) = true := decide_eq_true (by omega)
      rw [if_pos hc1] at hfl
      repeat' first
        | with_reducible first | refine mw_as m132.eq_1 ?_ | refine opn m132k0.eq_1 ?_ | refine opn m132k1.eq_1 ?_ | refine opn m132k2.eq_1 ?_ | refine opn m132k3.eq_1 ?_ | refine opn m132k5.eq_1 ?_ | refine opn m132k6.eq_1 ?_ | refine ⟨?_,?_⟩ | intro _
        | simp only [go_sem,↓reduceIte,Nat.reduceAdd,Nat.reduceLeDiff,Nat.reduceEqDiff,Nat.reduceBEq,Nat.reduceBNe,Nat.reduceMul,Nat.reduceLT,reduceCtorEq,Int.reduceLT,Int.reduceLE,Int.reduceToNat,Int.reduceNeg,  hd0,hak,hlp,hbc,byteAV,hcd,hk1]
      exact ih h _ _ ⟨by rw [hfl],rfl⟩
    · have hcd : decide ((c.toNat : Int) < 128) = false := decide_eq_false (by omega)
      rw [if_neg hc1] at hfl
      repeat' first
        | with_reducible first | refine mw_as m132.eq_1 ?_ | refine opn m132k0.eq_1 ?_ | refine opn m132k1.eq_1 ?_ | refine opn m132k2.eq_1 ?_ | refine opn m132k3.eq_1 ?_ | refine opn m132k5.eq_1 ?_ | refine opn m132k6.eq_1 ?_ | refine ⟨?_,?_⟩ | intro _
        | simp only [go_sem,↓reduceIte,Nat.reduceAdd,Nat.reduceLeDiff,Nat.reduceEqDiff,Nat.reduceBEq,Nat.reduceBNe,Nat.reduceMul,Nat.reduceLT,reduceCtorEq,Int.reduceLT,Int.reduceLE,Int.reduceToNat,Int.reduceNeg,  hd0,hak,hlp,hbc,byteAV,hcd,hk1]
      exact ih h _ _ ⟨by rw [hfl],rfl⟩
  have hjN : j = N := by omega
  subst hjN
  rw [Nat.sub_self]
  have hd0 : decide (0 ≤ (j : Int) - 1 - j) = false := decide_eq_false (by omega)
  rcases fl_range s j 0 with hf | ⟨l,hf,_,hl2,hl3,hl4⟩
  · rw [hf] at hRU ⊢
    rw [if_pos (by decide)] at hRU
    rw [hRU]
    have hm1 : decide ((-1 : Int) < 0) = true := rfl
    refine opn m132l0.eq_1 ?_
    by_cases h10 : s.length < 10
    · have hdl : decide ((s.length : Int) < 10) = true := decide_eq_true (by omega)
      rw [if_pos h10]
      repeat' first
        | with_reducible first | refine mw_as m132.eq_1 ?_ | refine opn m132k0.eq_1 ?_ | refine opn m132k1.eq_1 ?_ | refine opn m132k2.eq_1 ?_ | refine opn m132k3.eq_1 ?_ | refine opn m132k5.eq_1 ?_ | refine opn m132k6.eq_1 ?_ | refine ⟨?_,?_⟩ | intro _
        | simp only [go_sem,↓reduceIte,Nat.reduceAdd,Nat.reduceLeDiff,Nat.reduceEqDiff,Nat.reduceBEq,Nat.reduceBNe,Nat.reduceMul,Nat.reduceLT,reduceCtorEq,Int.reduceLT,Int.reduceLE,Int.reduceToNat,Int.reduceNeg,  hd0,hm1,hdl]
      all_goals rfl
    · have hdl : decide ((s.length : Int) < 10) = false := decide_eq_false (by omega)
      rw [if_neg h10]
      repeat' first
        | with_reducible first | refine mw_as m132.eq_1 ?_ | refine opn m132k0.eq_1 ?_ | refine opn m132k1.eq_1 ?_ | refine opn m132k2.eq_1 ?_ | refine opn m132k3.eq_1 ?_ | refine opn m132k5.eq_1 ?_ | refine opn m132k6.eq_1 ?_ | refine ⟨?_,?_⟩ | intro _
        | simp only [go_sem,↓reduceIte,Nat.reduceAdd,Nat.reduceLeDiff,Nat.reduceEqDiff,Nat.reduceBEq,Nat.reduceBNe,Nat.reduceMul,Nat.reduceLT,reduceCtorEq,Int.reduceLT,Int.reduceLE,Int.reduceToNat,Int.reduceNeg,  hd0,hm1,hdl]
      all_goals rfl
  rw [hf,if_neg (by omega),Int.toNat_natCast] at hRU
  rw [hf]
  obtain ⟨c,hc⟩ := some_of_lt (show l < s.length by omega)
  have hbc : b[m + l]? = some c := by rw [hbs,hc]
  rw [hc] at hRU hl3
  simp only [Option.getD_some] at hRU hl3
  have hm1 : decide ((l : Int) < 0) = false := decide_eq_false (by omega)
  have e9 : ((l : Int) == 9) = decide (l = 9) := by rw [Bool.eq_iff_iff]; simp; omega
  have g0 : decide (0 < (l : Int)) = decide (0 < l) := by rw [Bool.eq_iff_iff]; simp
  have hal : IntKind.i64.wrap ((m : Int) + l) = ((m + l : Nat) : Int) := by rw [wrap_i64_in (by omega) (by omega)]; omega
  have hlp : (((m + l : Nat) : Int) < (b.length : Int)) = True := eq_true (by omega)
  have e0 : ((c.toNat : Int) == 0) = decide (c.toNat = 0) := by rw [Bool.eq_iff_iff]; simp
  have g1 : decide (1 < (c.toNat : Int)) = decide (1 < c.toNat) := by rw [Bool.eq_iff_iff]; simp; omega
  refine opn m132l0.eq_1 ?_
  have key : ¬ ((l == 9 && decide (1 < c.toNat)) || (decide (0 < l) && c.toNat == 0)) = true →
      MRun Tryz.prog 88 [MI.code m132k4] [] [(0,AV.sl 1 (b.map byteAV) .unk),(1,AV.int .i64 m),(9,AV.int .i64 l)] ⟨0,[],0,[],gl⟩ (endQ [RV.t 4,RV.t 5,RV.t 6] fun o' _ => o' = .ok (outR (fun k : Nat => .int .u64 k) (.int .u64 0) b (rdU s))) := by
    intro hgood
    rw [hRU,if_neg hgood]
    refine opn m132k4.eq_1 ?_
    repeat' first
      | with_reducible first | refine mw_as m132.eq_1 ?_ | refine opn m132k0.eq_1 ?_ | refine opn m132k1.eq_1 ?_ | refine opn m132k2.eq_1 ?_ | refine opn m132k3.eq_1 ?_ | refine opn m132k5.eq_1 ?_ | refine opn m132k6.eq_1 ?_ | refine ⟨?_,?_⟩ | intro _
      | simp only [go_sem,↓reduceIte,Nat.reduceAdd,Nat.reduceLeDiff,Nat.reduceEqDiff,Nat.reduceBEq,Nat.reduceBNe,Nat.reduceMul,Nat.reduceLT,reduceCtorEq,Int.reduceLT,Int.reduceLE,Int.reduceToNat,Int.reduceNeg]
    have h9 : l = 9 → (s[l]?.getD 0).toNat ≤ 1 := by
      intro h
      rw [hc]
      simp only [Option.getD_some]
      rcases Nat.lt_or_ge 1 c.toNat with h1 | h1
      · exact absurd (by simp [h,h1]) hgood
      · exact h1
    refine .forUp (l + 1) (fun q F S => F = [(0,AV.sl 1 (b.map byteAV) .unk),(1,AV.int .i64 m),(9,AV.int .i64 l),(11,AV.int .u64 (vl s q (l + 1 - q))),(12,AV.int .i64 ((l : Int) - q))] ∧ S = ⟨0,[],0,[],gl⟩) ⟨by simp [vl],rfl⟩ ?_
    rintro q F S hq ⟨rfl,rfl⟩ ih2
    by_cases hql : q < l + 1
    · have hd1 : decide (0 ≤ (l : Int) - q) = true := decide_eq_true (by omega)
      obtain ⟨e,he⟩ := some_of_lt (show l - q < s.length by omega)
      have hbe : b[m + (l - q)]? = some e := by rw [hbs,he]
      have hak : IntKind.i64.wrap ((m : Int) + ((l : Int) - q)) = ((m + (l - q) : Nat) : Int) := by rw [wrap_i64_in (by omega) (by omega)]; omega
      have hlq : (((m + (l - q) : Nat) : Int) < (b.length : Int)) = True := eq_true (by omega)
      have hk1 : IntKind.i64.wrap ((l : Int) - q - 1) = (l : Int) - ((q + 1 : Nat) : Int) := by rw [wrap_i64_in (by omega) (by omega)]; omega
      have hv : vl s (q + 1) (l + 1 - (q + 1)) = e.toNat % 128 + 128 * vl s q (l + 1 - q) := by
        rw [vl,show l + 1 - (q + 1) = l - q by omega,he,show l - q + 1 = l + 1 - q by omega]
        rfl
      have hvb := vl_u64 s (l := l) (i := l + 1 - (q + 1)) (by omega) (by omega) h9
      rw [show l + 1 - (l + 1 - (q + 1)) = q + 1 by omega,hv] at hvb
      have hel := e.toNat_lt
      have w1 : IntKind.u64.wrap ((vl s q (l + 1 - q) : Int) * 128) = ((128 * vl s q (l + 1 - q) : Nat) : Int) := by rw [wrap_u64_in (by omega) (by omega)]; omega
      have w2 : IntKind.u64.wrap ((e.toNat : Int).tmod 128) = ((e.toNat % 128 : Nat) : Int) := by
        rw [show (e.toNat : Int).tmod 128 = ((e.toNat % 128 : Nat) : Int) from rfl,wrap_u64_in (by omega) (by omega)]
      have w3 : IntKind.u64.wrap (((128 * vl s q (l + 1 - q) : Nat) : Int) + ((e.toNat % 128 : Nat) : Int)) = ((vl s (q + 1) (l + 1 - (q + 1)) : Nat) : Int) := by
        rw [hv,wrap_u64_in (by omega) (by omega)]
        omega
      refine opn m132l1.eq_1 ?_
      repeat' first
        | with_reducible first | refine mw_as m132.eq_1 ?_ | refine opn m132k0.eq_1 ?_ | refine opn m132k1.eq_1 ?_ | refine opn m132k2.eq_1 ?_ | refine opn m132k3.eq_1 ?_ | refine opn m132k5.eq_1 ?_ | refine opn m132k6.eq_1 ?_ | refine ⟨?_,?_⟩ | intro _
        | simp only [go_sem,↓reduceIte,Nat.reduceAdd,Nat.reduceLeDiff,Nat.reduceEqDiff,Nat.reduceBEq,Nat.reduceBNe,Nat.reduceMul,Nat.reduceLT,reduceCtorEq,Int.reduceLT,Int.reduceLE,Int.reduceToNat,Int.reduceNeg,  hd1,hak,hlq,hbe,byteAV,hk1,w1,w2,w3]
      all_goals first
        | decide
        | exact ih2 hql _ _ ⟨rfl,rfl⟩
        | skip
    · have hq2 : q = l + 1 := by omega
      subst hq2
      have hd1 : decide (0 ≤ (l : Int) - ((l + 1 : Nat) : Int)) = false := decide_eq_false (by omega)
      have w4 : IntKind.i64.wrap (((m + l : Nat) : Int) + 1) = ((b.length - (s.drop (l + 1)).length : Nat) : Int) := by
        rw [wrap_i64_in (by omega) (by omega),List.length_drop]
        omega
      refine opn m132l1.eq_1 ?_
      repeat' first
        | with_reducible first | refine mw_as m132.eq_1 ?_ | refine opn m132k0.eq_1 ?_ | refine opn m132k1.eq_1 ?_ | refine opn m132k2.eq_1 ?_ | refine opn m132k3.eq_1 ?_ | refine opn m132k5.eq_1 ?_ | refine opn m132k6.eq_1 ?_ | refine ⟨?_,?_⟩ | intro _
        | simp only [go_sem,↓reduceIte,Nat.reduceAdd,Nat.reduceLeDiff,Nat.reduceEqDiff,Nat.reduceBEq,Nat.reduceBNe,Nat.reduceMul,Nat.reduceLT,reduceCtorEq,Int.reduceLT,Int.reduceLE,Int.reduceToNat,Int.reduceNeg,  hd1,hal,w4]
      rw [Nat.sub_self]
      rfl
  have w9 : l = 9 → IntKind.i64.wrap ((m : Int) + 9) = ((m + l : Nat) : Int) := fun h => by
    rw [wrap_i64_in (by omega) (by omega)]
    omega
  have hout : ((l == 9 && decide (1 < c.toNat)) || (decide (0 < l) && c.toNat == 0)) = true → AV.tup [AV.int .u64 0,AV.int .i64 0,AV.int .i64 3] = outR (fun k : Nat => .int .u64 k) (.int .u64 0) b (rdU s) := fun h => by
    rw [hRU,if_pos h]
    rfl
  by_cases h9 : l = 9
  · have e9' : ((l : Int) == 9) = true := by rw [e9]; simpa using h9
    have hw9 := w9 h9
    repeat' first
      | with_reducible first | refine mw_as m132.eq_1 ?_ | refine opn m132k0.eq_1 ?_ | refine opn m132k1.eq_1 ?_ | refine opn m132k2.eq_1 ?_ | refine opn m132k3.eq_1 ?_ | refine opn m132k5.eq_1 ?_ | refine opn m132k6.eq_1 ?_ | refine ⟨?_,?_⟩ | intro _
      | simp only [go_sem,↓reduceIte,Nat.reduceAdd,Nat.reduceLeDiff,Nat.reduceEqDiff,Nat.reduceBEq,Nat.reduceBNe,Nat.reduceMul,Nat.reduceLT,reduceCtorEq,Int.reduceLT,Int.reduceLE,Int.reduceToNat,Int.reduceNeg,  hd0,hm1,e9',hw9,hal,hlp,hbc,byteAV,g1,g0,e0]
    all_goals first
      | omega
      | (refine hout ?_
         simp at *
         grind)
      | (refine key ?_
         simp at *
         grind)
  · have e9' : ((l : Int) == 9) = false := by rw [e9]; simpa using h9
    repeat' first
      | with_reducible first | refine mw_as m132.eq_1 ?_ | refine opn m132k0.eq_1 ?_ | refine opn m132k1.eq_1 ?_ | refine opn m132k2.eq_1 ?_ | refine opn m132k3.eq_1 ?_ | refine opn m132k5.eq_1 ?_ | refine opn m132k6.eq_1 ?_ | refine ⟨?_,?_⟩ | intro _
      | simp only [go_sem,↓reduceIte,Nat.reduceAdd,Nat.reduceLeDiff,Nat.reduceEqDiff,Nat.reduceBEq,Nat.reduceBNe,Nat.reduceMul,Nat.reduceLT,reduceCtorEq,Int.reduceLT,Int.reduceLE,Int.reduceToNat,Int.reduceNeg,  hd0,hm1,e9',hal,hlp,hbc,byteAV,g1,g0,e0]
    all_goals first
      | (refine hout ?_
         simp at *
         grind)
      | (refine key ?_
         simp at *
         grind)
theorem c136 (hg : GlNR gl) (b : Bytes) (t : STok) (a : Int) (hb : b.length < 4294960000) : Pure Tryz.prog gl 136 [.sl 1 (b.map byteAV) t,.int .i64 a] (.ok (outR (AV.int .i64) (.int .i64 0) b (rdAt rdI b a))) := by
  refine ⟨?_,by simp only [fgs,nrs,forall_eq_or_imp,forall_eq,implies_true],by simp only [nrs,forall_eq_or_imp,forall_eq,implies_true]; unfold outR; split <;> simp only [nrs,forall_eq_or_imp,forall_eq,implies_true]⟩
  simp only [fgs]
  refine .of_run is136 (by simp) (mw_sound 200 ?_)
  have h132 := c132 hg b .unk a hb
  have hR : rdAt rdI b a = match rdAt rdU b a with
    | .error e => .error e
    | .ok (k,r) => .ok (zag k,r) := by
    unfold rdAt
    split
    · rfl
    · unfold rdI Rd.map
      cases rdU (b.drop a.toNat) <;> rfl
  rw [hR]
  have he := fun e => rdAt_err (b := b) (a := a) (e := e)
  have hk : ∀ k r,rdAt rdU b a = .ok (k,r) → k < 18446744073709551616 := by
    intro k r h
    unfold rdAt at h
    split at h
    · cases h
    · exact (codec_U.bwd _ _ _ h).1
  generalize rdAt rdU b a = R at h132 he hk ⊢
  cases R with
  | error e =>
    have he := he e rfl
    have hne : (e != 0) = true := by rcases he with rfl | rfl | rfl <;> rfl
    simp only [outR] at h132
    repeat' first
      | with_reducible first | refine mw_as m136.eq_1 ?_ | refine .pu (h132) hg rfl ?_ | refine ⟨?_,?_⟩ | intro _
      | simp only [go_sem,↓reduceIte,Nat.reduceAdd,Nat.reduceLeDiff,Nat.reduceEqDiff,Nat.reduceBEq,Nat.reduceBNe,Nat.reduceMul,Nat.reduceLT,reduceCtorEq,Int.reduceLT,Int.reduceLE,Int.reduceToNat,Int.reduceNeg,  hne]
    all_goals rfl
  | ok x =>
    obtain ⟨k,r⟩ := x
    have hk := hk k r rfl
    simp only [outR] at h132
    have h0 : ((0 : Int) != 0) = false := rfl
    have hm : (k : Int).tmod 2 = ((k % 2 : Nat) : Int) := rfl
    have hq : IntKind.i64.wrap (IntKind.u64.wrap ((k : Int).tdiv 2)) = ((k / 2 : Nat) : Int) := by
      rw [show (k : Int).tdiv 2 = ((k / 2 : Nat) : Int) from rfl,wrap_u64_in (by omega) (by omega),wrap_i64_in (by omega) (by omega)]
    have hn : IntKind.i64.wrap (IntKind.i64.wrap (0 - ((k / 2 : Nat) : Int)) - 1) = -((k / 2 : Nat) : Int) - 1 := by
      rw [wrap_i64_in (x := 0 - _) (by omega) (by omega),wrap_i64_in (by omega) (by omega)]
      omega
    simp only
    rcases Nat.mod_two_eq_zero_or_one k with h2 | h2
    · have hc : (((k % 2 : Nat) : Int) == 1) = false := by rw [h2]; rfl
      have hz : zag k = ((k / 2 : Nat) : Int) := by rw [zag,if_pos h2]
      rw [hz]
      repeat' first
        | with_reducible first | refine mw_as m136.eq_1 ?_ | refine .pu (h132) hg rfl ?_ | refine ⟨?_,?_⟩ | intro _
        | simp only [go_sem,↓reduceIte,Nat.reduceAdd,Nat.reduceLeDiff,Nat.reduceEqDiff,Nat.reduceBEq,Nat.reduceBNe,Nat.reduceMul,Nat.reduceLT,reduceCtorEq,Int.reduceLT,Int.reduceLE,Int.reduceToNat,Int.reduceNeg,  h0,hm,hq,hn,hc]
      all_goals first | decide | rfl
    · have hc : (((k % 2 : Nat) : Int) == 1) = true := by rw [h2]; rfl
      have hz : zag k = -((k / 2 : Nat) : Int) - 1 := by rw [zag,if_neg (by omega)]
      rw [hz]
      repeat' first
        | with_reducible first | refine mw_as m136.eq_1 ?_ | refine .pu (h132) hg rfl ?_ | refine ⟨?_,?_⟩ | intro _
        | simp only [go_sem,↓reduceIte,Nat.reduceAdd,Nat.reduceLeDiff,Nat.reduceEqDiff,Nat.reduceBEq,Nat.reduceBNe,Nat.reduceMul,Nat.reduceLT,reduceCtorEq,Int.reduceLT,Int.reduceLE,Int.reduceToNat,Int.reduceNeg,  h0,hm,hq,hn,hc]
      all_goals first | decide | rfl
theorem c135 (hg : GlNR gl) (b : Bytes) (t : STok) (a : Int) (hb : b.length < 4294960000) : Pure Tryz.prog gl 135 [.sl 1 (b.map byteAV) t,.int .i64 a] (.ok (outR AV.str (.str []) b (rdAt rdT b a))) := by
  refine ⟨?_,by simp only [fgs,nrs,forall_eq_or_imp,forall_eq,implies_true],by simp only [nrs,forall_eq_or_imp,forall_eq,implies_true]; unfold outR; split <;> simp only [nrs,forall_eq_or_imp,forall_eq,implies_true]⟩
  simp only [fgs]
  refine .of_run is135 (by simp) (mw_sound 200 ?_)
  have h132 := c132 hg b .unk a hb
  by_cases ha : a < 0 ∨ (b.length : Int) < a
  · have hR : rdAt rdT b a = .error 1 := by unfold rdAt; rw [if_pos ha]
    have hU : rdAt rdU b a = .error 1 := by unfold rdAt; rw [if_pos ha]
    rw [hR]
    rw [hU] at h132
    simp only [outR] at h132
    have hne : ((1 : Int) != 0) = true := rfl
    repeat' first
      | with_reducible first | refine mw_as m135.eq_1 ?_ | refine .pu (h132) hg rfl ?_ | refine ⟨?_,?_⟩ | intro _
      | simp only [go_sem,↓reduceIte,Nat.reduceAdd,Nat.reduceLeDiff,Nat.reduceEqDiff,Nat.reduceBEq,Nat.reduceBNe,Nat.reduceMul,Nat.reduceLT,reduceCtorEq,Int.reduceLT,Int.reduceLE,Int.reduceToNat,Int.reduceNeg,  hne]
    all_goals rfl
  obtain ⟨m,rfl⟩ : ∃ m : Nat,a = m := ⟨a.toNat,by omega⟩
  rw [rdAt_in _ (by omega)] at h132 ⊢
  unfold rdT Rd.bind
  cases hU : rdU (b.drop m) with
  | error e =>
    rw [hU] at h132
    simp only [outR] at h132
    have hne : (e != 0) = true := neI (by rcases rdN_err _ _ _ _ _ hU with rfl | rfl <;> decide)
    repeat' first
      | with_reducible first | refine mw_as m135.eq_1 ?_ | refine .pu (h132) hg rfl ?_ | refine ⟨?_,?_⟩ | intro _
      | simp only [go_sem,↓reduceIte,Nat.reduceAdd,Nat.reduceLeDiff,Nat.reduceEqDiff,Nat.reduceBEq,Nat.reduceBNe,Nat.reduceMul,Nat.reduceLT,reduceCtorEq,Int.reduceLT,Int.reduceLE,Int.reduceToNat,Int.reduceNeg,  hne]
    all_goals rfl
  | ok x =>
    obtain ⟨k,r⟩ := x
    obtain ⟨hk,hr,hdr⟩ := rdU_rest (by omega) hU
    rw [hU] at h132
    simp only [outR] at h132
    have h0 : ((0 : Int) != 0) = false := rfl
    have hw : IntKind.u64.wrap (IntKind.i64.wrap ((b.length : Int) - ((b.length - r.length : Nat) : Int))) = ((r.length : Nat) : Int) := by
      rw [wrap_i64_in (by omega) (by omega),wrap_u64_in (by omega) (by omega)]
      omega
    simp only
    unfold rdTake
    by_cases hkr : r.length < k
    · rw [if_pos hkr]
      have hd : decide (((r.length : Nat) : Int) < k) = true := decide_eq_true (by omega)
      repeat' first
        | with_reducible first | refine mw_as m135.eq_1 ?_ | refine .pu (h132) hg rfl ?_ | refine ⟨?_,?_⟩ | intro _
        | simp only [go_sem,↓reduceIte,Nat.reduceAdd,Nat.reduceLeDiff,Nat.reduceEqDiff,Nat.reduceBEq,Nat.reduceBNe,Nat.reduceMul,Nat.reduceLT,reduceCtorEq,Int.reduceLT,Int.reduceLE,Int.reduceToNat,Int.reduceNeg,  h0,hw,hd]
      all_goals rfl
    · rw [if_neg hkr]
      have hd : decide (((r.length : Nat) : Int) < k) = false := decide_eq_false (by omega)
      have hw2 : IntKind.i64.wrap (((b.length - r.length : Nat) : Int) + IntKind.i64.wrap (k : Int)) = ((b.length - r.length + k : Nat) : Int) := by
        rw [wrap_i64_in (x := (k : Int)) (by omega) (by omega),wrap_i64_in (by omega) (by omega)]
        omega
      have htd : List.drop (b.length - r.length) (List.take (b.length - r.length + k) (b.map byteAV)) = (r.take k).map byteAV := by
        rw [List.drop_take,Nat.add_sub_cancel_left,← List.map_drop,hdr,List.map_take]
      have hnx : b.length - r.length + k = b.length - (r.drop k).length := by rw [List.length_drop]; omega
      repeat' first
        | with_reducible first | refine mw_as m135.eq_1 ?_ | refine .pu (h132) hg rfl ?_ | refine ⟨?_,?_⟩ | intro _
        | simp only [go_sem,↓reduceIte,Nat.reduceAdd,Nat.reduceLeDiff,Nat.reduceEqDiff,Nat.reduceBEq,Nat.reduceBNe,Nat.reduceMul,Nat.reduceLT,reduceCtorEq,Int.reduceLT,Int.reduceLE,Int.reduceToNat,Int.reduceNeg,  h0,hw,hd,hw2,htd,strOf_bytes]
      all_goals first
        | omega
        | skip
      rw [hnx]
      rfl
theorem c134 (hg : GlNR gl) (a b : Bytes) (t u : STok) : Pure Tryz.prog gl 134 [.sl 1 (a.map byteAV) t,.sl 1 (b.map byteAV) u] (.ok (.bool (a == b))) := by
  refine ⟨?_,by simp only [fgs,nrs,forall_eq_or_imp,forall_eq,implies_true],by simp only [nrs,forall_eq_or_imp,forall_eq,implies_true]⟩
  simp only [fgs]
  refine .of_run is134 (by simp) (mw_sound 200 ?_)
  repeat' first
    | with_reducible first | refine mw_as m134.eq_1 ?_ | refine ⟨?_,?_⟩ | intro _
    | simp only [go_sem,↓reduceIte,Nat.reduceAdd,Nat.reduceLeDiff,Nat.reduceEqDiff,Nat.reduceBEq,Nat.reduceBNe,Nat.reduceMul,Nat.reduceLT,reduceCtorEq,Int.reduceLT,Int.reduceLE,Int.reduceToNat,Int.reduceNeg,  strOf_bytes]
set_option maxHeartbeats 4000000 in
theorem c78 (hg : GlNR gl) (b : Bytes) (t : STok) (a : Int) (hb : b.length ≤ 1000000000) : Pure Tryz.prog gl 78 [.sl 1 (b.map byteAV) t,.int .i64 a] (.ok (outR (fun p : Bytes => .sl 1 (p.map byteAV) .unk) (.sl 1 [] .unk) b (rdAt rdF b a))) := by
  refine Pure.ofFg ?_ (by simp only [fgs,nrs,forall_eq_or_imp,forall_eq,implies_true]) (by unfold outR; split <;> simp only [nrs,forall_eq_or_imp,forall_eq,implies_true,nr_nil1])
  simp only [fgs]
  refine .of_run is78 (by simp) (mw_sound 200 ?_)
  have h132 := c132 hg b .unk a (by omega)
  have fin : ∀ (tk : STok) (e : Int),FgOut (.ok (.tup [.sl 1 [] tk,.int .i64 0,.int .i64 e])) (outR (fun p : Bytes => .sl 1 (p.map byteAV) .unk) (.sl 1 [] .unk) b (.error e)) := fun tk e => FgOut.mk' (by simp only [outR,fgs])
  by_cases ha : a < 0 ∨ (b.length : Int) < a
  · have hR : rdAt rdF b a = .error 1 := by unfold rdAt; rw [if_pos ha]
    have hU : rdAt rdU b a = .error 1 := by unfold rdAt; rw [if_pos ha]
    rw [hR]
    rw [hU] at h132
    simp only [outR] at h132
    have hne : ((1 : Int) != 0) = true := rfl
    repeat' first
      | with_reducible first | refine mw_as m78.eq_1 ?_ | refine .pu (h132) hg rfl ?_ | refine ⟨?_,?_⟩ | intro _
      | simp only [go_sem,↓reduceIte,Nat.reduceAdd,Nat.reduceLeDiff,Nat.reduceEqDiff,Nat.reduceBEq,Nat.reduceBNe,Nat.reduceMul,Nat.reduceLT,reduceCtorEq,Int.reduceLT,Int.reduceLE,Int.reduceToNat,Int.reduceNeg,  hne]
    all_goals exact fin _ _
  obtain ⟨m,rfl⟩ : ∃ m : Nat,a = m := ⟨a.toNat,by omega⟩
  rw [rdAt_in _ (by omega)] at h132 ⊢
  unfold rdF
  cases hU : rdU (b.drop m) with
  | error e =>
    rw [hU] at h132
    simp only [outR] at h132
    have hne : (e != 0) = true := neI (by rcases rdN_err _ _ _ _ _ hU with rfl | rfl <;> decide)
    repeat' first
      | with_reducible first | refine mw_as m78.eq_1 ?_ | refine .pu (h132) hg rfl ?_ | refine ⟨?_,?_⟩ | intro _
      | simp only [go_sem,↓reduceIte,Nat.reduceAdd,Nat.reduceLeDiff,Nat.reduceEqDiff,Nat.reduceBEq,Nat.reduceBNe,Nat.reduceMul,Nat.reduceLT,reduceCtorEq,Int.reduceLT,Int.reduceLE,Int.reduceToNat,Int.reduceNeg,  hne]
    all_goals exact fin _ _
  | ok x =>
    obtain ⟨k,r⟩ := x
    obtain ⟨hk,hr,hdr⟩ := rdU_rest (by omega) hU
    rw [hU] at h132
    simp only [outR] at h132
    have h0 : ((0 : Int) != 0) = false := rfl
    simp only
    by_cases hk2 : 8192 < k
    · rw [if_pos hk2]
      have hd : decide (8192 < (k : Int)) = true := decide_eq_true (by omega)
      repeat' first
        | with_reducible first | refine mw_as m78.eq_1 ?_ | refine .pu (h132) hg rfl ?_ | refine ⟨?_,?_⟩ | intro _
        | simp only [go_sem,↓reduceIte,Nat.reduceAdd,Nat.reduceLeDiff,Nat.reduceEqDiff,Nat.reduceBEq,Nat.reduceBNe,Nat.reduceMul,Nat.reduceLT,reduceCtorEq,Int.reduceLT,Int.reduceLE,Int.reduceToNat,Int.reduceNeg,  h0,hd]
      all_goals exact fin _ _
    · rw [if_neg hk2]
      have hd : decide (8192 < (k : Int)) = false := decide_eq_false (by omega)
      have hw2 : IntKind.i64.wrap (((b.length - r.length : Nat) : Int) + IntKind.i64.wrap (k : Int)) = ((b.length - r.length + k : Nat) : Int) := by
        rw [wrap_i64_in (x := (k : Int)) (by omega) (by omega),wrap_i64_in (by omega) (by omega)]
        omega
      have hw4 : IntKind.i64.wrap (((b.length - r.length + k : Nat) : Int) + 4) = ((b.length - r.length + k + 4 : Nat) : Int) := by
        rw [wrap_i64_in (by omega) (by omega)]
        omega
      by_cases hkr : r.length < k + 4
      · rw [if_pos hkr]
        have hd2 : decide ((b.length : Int) < ((b.length - r.length + k + 4 : Nat) : Int)) = true := decide_eq_true (by omega)
        repeat' first
          | with_reducible first | refine mw_as m78.eq_1 ?_ | refine .pu (h132) hg rfl ?_ | refine ⟨?_,?_⟩ | intro _
          | simp only [go_sem,↓reduceIte,Nat.reduceAdd,Nat.reduceLeDiff,Nat.reduceEqDiff,Nat.reduceBEq,Nat.reduceBNe,Nat.reduceMul,Nat.reduceLT,reduceCtorEq,Int.reduceLT,Int.reduceLE,Int.reduceToNat,Int.reduceNeg,  h0,hd,hw2,hw4,hd2]
        all_goals exact fin _ _
      · rw [if_neg hkr]
        have hd2 : decide ((b.length : Int) < ((b.length - r.length + k + 4 : Nat) : Int)) = false := decide_eq_false (by omega)
        have htd : List.drop (b.length - r.length) (List.take (b.length - r.length + k) (b.map byteAV)) = (r.take k).map byteAV := by
          rw [List.drop_take,Nat.add_sub_cancel_left,← List.map_drop,hdr,List.map_take]
        have htd2 : List.drop (b.length - r.length + k) (List.take (b.length - r.length + k + 4) (b.map byteAV)) = ((r.drop k).take 4).map byteAV := by
          rw [List.drop_take,Nat.add_sub_cancel_left,← List.map_drop,← List.drop_drop,hdr,List.map_take]
        have hPl : (r.take k).length = k := by rw [List.length_take]; omega
        have hnx : b.length - r.length + k + 4 = b.length - (r.drop (k + 4)).length := by rw [List.length_drop]; omega
        generalize hP : r.take k = P at *
        generalize hQ : (r.drop k).take 4 = Q at *
        have h133 := c133 hg P [] .unk .exact (by omega) (by simp)
        rw [List.append_nil] at h133
        have h128 := c128 hg P (.tok 0) (by omega)
        have h134 := c134 (gl := gl) hg (sumB P) Q .unk .unk
        by_cases hs : Q = sumB P
        · rw [if_pos hs]
          rw [hs,beq_self_eq_true] at h134
          rw [hs] at htd2
          repeat' first
            | with_reducible first | refine mw_as m78.eq_1 ?_ | refine .pu (h132) hg rfl ?_ | refine .tk (h133) hg rfl ?_ | refine .pu (h128) hg rfl ?_ | refine .pu (h134) hg rfl ?_ | refine ⟨?_,?_⟩ | intro _
            | simp only [go_sem,↓reduceIte,Nat.reduceAdd,Nat.reduceLeDiff,Nat.reduceEqDiff,Nat.reduceBEq,Nat.reduceBNe,Nat.reduceMul,Nat.reduceLT,reduceCtorEq,Int.reduceLT,Int.reduceLE,Int.reduceToNat,Int.reduceNeg,  h0,hd,hw2,hw4,hd2,htd,htd2,own_eq]
          all_goals first
            | omega
            | skip
          rw [hnx]
          exact FgOut.mk' (by simp only [outR,fgs])
        · rw [if_neg hs]
          have hne : (sumB P == Q) = false := by simpa using fun h : sumB P = Q => hs h.symm
          rw [hne] at h134
          repeat' first
            | with_reducible first | refine mw_as m78.eq_1 ?_ | refine .pu (h132) hg rfl ?_ | refine .tk (h133) hg rfl ?_ | refine .pu (h128) hg rfl ?_ | refine .pu (h134) hg rfl ?_ | refine ⟨?_,?_⟩ | intro _
            | simp only [go_sem,↓reduceIte,Nat.reduceAdd,Nat.reduceLeDiff,Nat.reduceEqDiff,Nat.reduceBEq,Nat.reduceBNe,Nat.reduceMul,Nat.reduceLT,reduceCtorEq,Int.reduceLT,Int.reduceLE,Int.reduceToNat,Int.reduceNeg,  h0,hd,hw2,hw4,hd2,htd,htd2,own_eq]
          all_goals first
            | omega
            | exact fin _ _
end Go.Proofs.YtdjdhecanjmchaaGreatDoor
