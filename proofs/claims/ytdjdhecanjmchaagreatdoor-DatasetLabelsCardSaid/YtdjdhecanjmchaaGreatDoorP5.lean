/- Contracts: decimal numbers in text, as the references print them. -/
import Derived.Test.YtdjdhecanjmchaaGreatDoorP4
import Derived.Test.YtdjdhecanjmchaaGreatDoorL1
import Derived.Lib.ItoaLen
set_option linter.unusedSimpArgs false
set_option linter.unusedVariables false
namespace Go.Proofs.YtdjdhecanjmchaaGreatDoor
open Go Go.V
attribute [local go_sem ↓] keepK Opd.ev MK.ev MK.ob gsA
attribute [local go_sem high] gsB
attribute [local go_sem] binEv binOb intOp strOp unEv eqvEv eqCells eqCell noBld tasEv AV.there AV.plus pickCells storeEv AV.solid AV.cells splice putParts rowOK fldEv iarrEv extEv minEv nonNil lenEv isStr appEv appOb appArg slVecEv slVecOb slStrEv slStrOb bnd argF endQ rvsEv rvEv resOf St.none if_true if_false ite_self eq_self ne_eq implies_true forall_const Lab.av Val.av Exa.av Dset.av Req.av gsC
section
open Go Go.V Go.Lib
set_option maxRecDepth 40000
variable {gl : List (Nat × List AV)}
theorem tmodCases (m : Int) : (m.tmod 10 = ((m.natAbs % 10 : Nat) : Int) ∧ decide (((m.natAbs % 10 : Nat) : Int) < 0) = false ∧ IntKind.i64.wrap (0 - -((m.natAbs % 10 : Nat) : Int)) = ((m.natAbs % 10 : Nat) : Int)) ∨
    (m.tmod 10 = -((m.natAbs % 10 : Nat) : Int) ∧ decide (-((m.natAbs % 10 : Nat) : Int) < 0) = true ∧ IntKind.i64.wrap (0 - -((m.natAbs % 10 : Nat) : Int)) = ((m.natAbs % 10 : Nat) : Int)) := by
  have h1 : IntKind.i64.wrap (0 - -((m.natAbs % 10 : Nat) : Int)) = ((m.natAbs % 10 : Nat) : Int) := by rw [wrap_i64_in (by omega) (by omega)]; omega
  rcases Int.natAbs_eq m with h | h
  · left
    refine ⟨?_,decide_eq_false (by omega),h1⟩
    rw [h]; simp [Int.natAbs_natCast]
    rfl
  · by_cases h0 : m.natAbs % 10 = 0
    · left
      refine ⟨?_,decide_eq_false (by omega),h1⟩
      rw [h0]
      have h2 : m.tmod 10 = -((m.natAbs : Int).tmod 10) := by rw [h,Int.neg_tmod]; simp
      have h3 : (m.natAbs : Int).tmod 10 = ((m.natAbs % 10 : Nat) : Int) := rfl
      rw [h2,h3,h0]; rfl
    · right
      refine ⟨?_,decide_eq_true (by omega),h1⟩
      have h2 : m.tmod 10 = -((m.natAbs : Int).tmod 10) := by rw [h,Int.neg_tmod]; simp
      have h3 : (m.natAbs : Int).tmod 10 = ((m.natAbs % 10 : Nat) : Int) := rfl
      rw [h2,h3]
theorem tdivAbs (m : Int) : (m.tdiv 10).natAbs = m.natAbs / 10 := by rw [Int.natAbs_tdiv]; rfl
theorem tdivWrap {m : Int} (h0 : -9223372036854775808 ≤ m) (h1 : m < 9223372036854775808) : IntKind.i64.wrap (m.tdiv 10) = m.tdiv 10 := by
  have := tdivAbs m
  rw [wrap_i64_in (by omega) (by omega)]
theorem w48 (u : Nat) : IntKind.i64.wrap (48 + ((u % 10 : Nat) : Int)) = ((48 + u % 10 : Nat) : Int) := by rw [wrap_i64_in (by omega) (by omega)]; omega
theorem u48 (u : Nat) : IntKind.u8.wrap ((48 + u % 10 : Nat) : Int) = ((48 + u % 10 : Nat) : Int) := by rw [wrap_u8_in (by omega) (by omega)]
theorem s48 (u : Nat) : strOf [AV.int .u8 ((48 + u % 10 : Nat) : Int)] = some [UInt8.ofNat (48 + u % 10)] := by
  have h : AV.int .u8 ((48 + u % 10 : Nat) : Int) = byteAV (UInt8.ofNat (48 + u % 10)) := by
    have h : (48 + u % 10) % 256 = 48 + u % 10 := Nat.mod_eq_of_lt (by omega)
    rw [byteAV_ofNat,h]
  rw [h]; exact strOf_bytes [_]
theorem dec_lt {u : Nat} (h : u < 10) : decDigits u = [UInt8.ofNat (48 + u % 10)] := by rw [decDigits,dif_pos h,Nat.mod_eq_of_lt h]
theorem dec_ge {u : Nat} (h : ¬ u < 10) : decDigits u = decDigits (u / 10) ++ [UInt8.ofNat (48 + u % 10)] := by rw [decDigits,dif_neg h]
def preD (i u : Nat) : Bytes := if 1 ≤ i ∧ u = 0 then [] else decDigits u
theorem preD_step (i u : Nat) (h : i = 0 ∨ u ≠ 0) : preD i u = preD (i + 1) (u / 10) ++ [UInt8.ofNat (48 + u % 10)] := by
  have h1 : preD i u = decDigits u := by unfold preD; rw [if_neg (by omega)]
  rw [h1]
  by_cases h2 : u < 10
  · rw [dec_lt h2,preD,if_pos ⟨by omega,by omega⟩]; rfl
  · rw [dec_ge h2,preD,if_neg (by omega)]
theorem iflt (i k : Nat) (b : Bool) (h : decide (i < k) = b) : decide ((i : Int) < (k : Int)) = b := by rw [← h,Bool.eq_iff_iff]; simp
def digS (n : Int) : Bytes := decDigits n.natAbs
theorem itoa_digS (n : Int) : itoa n = if n < 0 then 45 :: digS n else digS n := by
  unfold itoa digS
  split
  · rfl
  · congr 1; omega
theorem c54 (n : Int) (h0 : -9223372036854775808 ≤ n) (h1 : n ≤ 9223372036854775807) : Pure Tryz.prog gl 54 [.int .i64 n] (.ok (.str (itoa n))) := by
  refine ⟨?_,by simp only [fgs,nrs,forall_eq_or_imp,forall_eq,implies_true],by simp only [nrs,forall_eq_or_imp,forall_eq,implies_true]⟩
  simp only [fgs]
  refine .of_run is54 (by simp) (mw_sound 200 ?_)
  repeat' first
    | with_reducible first | refine mw_as m54.eq_1 ?_ | refine opn m54k0.eq_1 ?_ | refine opn m54k1.eq_1 ?_ | refine opn m54k2.eq_1 ?_ | refine opn m54k3.eq_1 ?_ | refine opn m54k4.eq_1 ?_ | refine ⟨?_,?_⟩ | intro _
    | simp only [go_sem,↓reduceIte,Nat.reduceAdd,Nat.reduceLeDiff,Nat.reduceEqDiff,Nat.reduceBEq,Nat.reduceBNe,Nat.reduceMul,Nat.reduceLT,reduceCtorEq,Int.reduceLT,Int.reduceLE,Int.reduceToNat,Int.reduceNeg]
  refine .loopN (fun mm F S => ∃ (i : Nat) (m : Int) (s : Bytes),mm = m.natAbs + (if i = 0 then 1 else 0) ∧ s.length = i ∧ -9223372036854775808 ≤ m ∧ m ≤ 9223372036854775807 ∧ F = [(0,AV.int .i64 n),(3,AV.str s),(4,AV.int .i64 m),(5,AV.int .i64 i)] ∧ S = .none gl ∧ digS n = preD i m.natAbs ++ s) (n.natAbs + 1) ⟨0,n,[],rfl,rfl,h0,h1,rfl,rfl,by simp [preD,digS]⟩ ?_
  rintro mm F S ⟨i,m,s,rfl,hs,hm0,hm1,rfl,rfl,he⟩ ih
  have hil : i ≤ 20 := by
    have := congrArg List.length he
    rw [List.length_append,digS,decDigits_length] at this
    have := nDigits_le20 n.natAbs (by omega)
    omega
  by_cases hA : i = 0 ∨ m.natAbs ≠ 0
  · have H1 : (decide ((i : Int) < 1) = true ∧ True) ∨ (decide ((i : Int) < 1) = false ∧ (m != 0) = true) := by
      by_cases hz : i = 0
      · exact .inl ⟨decide_eq_true (by omega),trivial⟩
      · exact .inr ⟨decide_eq_false (by omega),by simp; omega⟩
    have hd := tdivAbs m
    have hlt : m.natAbs / 10 + (if i + 1 = 0 then 1 else 0) < m.natAbs + (if i = 0 then 1 else 0) := by split <;> split <;> omega
    rcases H1 with ⟨hi,hmz⟩ | ⟨hi,hmz⟩ <;> rcases tmodCases m with ⟨hq,hq1,hq2⟩ | ⟨hq,hq1,hq2⟩
    all_goals
      refine opn m54l0.eq_1 ?_
      repeat' first
        | with_reducible first | refine mw_as m54.eq_1 ?_ | refine opn m54k0.eq_1 ?_ | refine opn m54k1.eq_1 ?_ | refine opn m54k2.eq_1 ?_ | refine opn m54k3.eq_1 ?_ | refine opn m54k4.eq_1 ?_ | refine ⟨?_,?_⟩ | intro _
        | simp only [go_sem,↓reduceIte,Nat.reduceAdd,Nat.reduceLeDiff,Nat.reduceEqDiff,Nat.reduceBEq,Nat.reduceBNe,Nat.reduceMul,Nat.reduceLT,reduceCtorEq,Int.reduceLT,Int.reduceLE,Int.reduceToNat,Int.reduceNeg,  hi,hmz,hq,hq1,hq2,w48,u48,s48,tdivWrap hm0 (show m < 9223372036854775808 by omega),wrap_succ (show i < 9223372036854775807 by omega)]
      all_goals first
        | (intro h; cases h; done)
        | omega
        | (refine ih _ _ _ hlt ⟨i + 1,m.tdiv 10,UInt8.ofNat (48 + m.natAbs % 10) :: s,by rw [hd],by simp [hs],by omega,by omega,rfl,rfl,?_⟩
           rw [he,preD_step i _ hA,hd,List.append_assoc]
           rfl)
  · have hi : decide ((i : Int) < 1) = false := decide_eq_false (by omega)
    have hmz : m = 0 := by omega
    subst hmz
    refine opn m54l0.eq_1 ?_
    have he : digS n = s := by rw [he,preD,if_pos ⟨by omega,rfl⟩]; rfl
    repeat' first
      | with_reducible first | refine mw_as m54.eq_1 ?_ | refine opn m54k0.eq_1 ?_ | refine opn m54k1.eq_1 ?_ | refine opn m54k2.eq_1 ?_ | refine opn m54k3.eq_1 ?_ | refine opn m54k4.eq_1 ?_ | refine ⟨?_,?_⟩ | intro _
      | simp only [go_sem,↓reduceIte,Nat.reduceAdd,Nat.reduceLeDiff,Nat.reduceEqDiff,Nat.reduceBEq,Nat.reduceBNe,Nat.reduceMul,Nat.reduceLT,reduceCtorEq,Int.reduceLT,Int.reduceLE,Int.reduceToNat,Int.reduceNeg,  hi]
    · omega
    · rename_i h
      rw [itoa_digS,if_pos (of_decide_eq_true h),he]
    · rename_i h
      rw [itoa_digS,if_neg (of_decide_eq_false h),he]
def padZ (k u : Nat) : Bytes := List.replicate (k - (decDigits u).length) 48 ++ decDigits u
theorem dec_len_lt {u : Nat} (h : u < 10) : (decDigits u).length = 1 := by rw [dec_lt h]; rfl
theorem dec_len_ge {u : Nat} (h : ¬ u < 10) : (decDigits u).length = (decDigits (u / 10)).length + 1 := by rw [dec_ge h]; simp
theorem padZ_step (k u : Nat) (h : 1 ≤ k) : padZ (k + 1) u = padZ k (u / 10) ++ [UInt8.ofNat (48 + u % 10)] := by
  unfold padZ
  by_cases h2 : u < 10
  · have h3 : u / 10 = 0 := by omega
    rw [h3,dec_len_lt h2,dec_len_lt (by omega : 0 < 10),dec_lt h2,dec_lt (by omega : 0 < 10)]
    have h4 : k + 1 - 1 = (k - 1) + 1 := by omega
    rw [h4,List.replicate_succ']
    rfl
  · rw [dec_len_ge h2,dec_ge h2,List.append_assoc,Nat.add_sub_add_right]
theorem padZ_len (k u : Nat) : k ≤ (padZ k u).length := by unfold padZ; simp; omega
def dot (k : Nat) (p : Bytes) : Bytes := p.take (p.length - k) ++ 46 :: p.drop (p.length - k)
theorem dot_step (k : Nat) (p : Bytes) (c : UInt8) (h : k ≤ p.length) : dot (k + 1) (p ++ [c]) = dot k p ++ [c] := by
  unfold dot
  have h1 : (p ++ [c]).length - (k + 1) = p.length - k := by simp
  rw [h1,List.take_append_of_le_length (by omega),List.drop_append_of_le_length (by omega)]
  simp
def preF (i u : Nat) : Bytes := if i ≤ 6 then dot (6 - i) (padZ (7 - i) u) else if u = 0 then [] else decDigits u
def decS (n : Int) : Bytes := dot 6 (padZ 7 n.natAbs)
theorem preF_lt {i : Nat} (u : Nat) (h : i < 6) : preF i u = preF (i + 1) (u / 10) ++ [UInt8.ofNat (48 + u % 10)] := by
  unfold preF
  obtain ⟨j,h1⟩ : ∃ j,6 - i = j + 1 := ⟨5 - i,by omega⟩
  rw [if_pos (by omega),if_pos (by omega),show 7 - i = (j + 1) + 1 by omega,h1,padZ_step _ _ (by omega),show 6 - (i + 1) = j by omega,show 7 - (i + 1) = j + 1 by omega]
  exact dot_step _ _ _ (by have := padZ_len (j + 1) (u / 10); omega)
theorem padZ_one (u : Nat) : padZ 1 u = decDigits u := by
  unfold padZ
  have : 1 ≤ (decDigits u).length := by
    by_cases h : u < 10
    · rw [dec_len_lt h]; omega
    · rw [dec_len_ge h]; omega
  rw [Nat.sub_eq_zero_of_le this]; rfl
theorem preF_six (u : Nat) : preF 6 u = preF 7 (u / 10) ++ [UInt8.ofNat (48 + u % 10),46] := by
  unfold preF
  rw [if_pos (by omega),if_neg (by omega),show 7 - 6 = 1 by omega,padZ_one,show 6 - 6 = 0 by omega,dot]
  simp only [Nat.sub_zero,List.take_length,List.drop_length]
  by_cases h2 : u < 10
  · rw [dec_lt h2,if_pos (by omega)]; rfl
  · rw [dec_ge h2,if_neg (by omega)]; simp
theorem preF_gt {i : Nat} (u : Nat) (h : 6 < i) (hu : u ≠ 0) : preF i u = preF (i + 1) (u / 10) ++ [UInt8.ofNat (48 + u % 10)] := by
  unfold preF
  rw [if_neg (show ¬ i ≤ 6 by omega),if_neg hu,if_neg (show ¬ i + 1 ≤ 6 by omega)]
  by_cases h2 : u < 10
  · rw [dec_lt h2,if_pos (by omega)]; rfl
  · rw [dec_ge h2,if_neg (by omega)]
def decF (n : Int) : Bytes := if n < 0 then 45 :: decS n else decS n
theorem decS_len (n : Int) (h0 : -9223372036854775808 ≤ n) (h1 : n ≤ 9223372036854775807) : (decS n).length ≤ 28 := by
  unfold decS dot padZ
  have h2 := nDigits_le20 n.natAbs (by omega)
  rw [← decDigits_length] at h2
  simp
  omega
theorem c115 (n : Int) (h0 : -9223372036854775808 ≤ n) (h1 : n ≤ 9223372036854775807) : Pure Tryz.prog gl 115 [.int .i64 n] (.ok (.str (decF n))) := by
  refine ⟨?_,by simp only [fgs,nrs,forall_eq_or_imp,forall_eq,implies_true],by simp only [nrs,forall_eq_or_imp,forall_eq,implies_true]⟩
  simp only [fgs]
  refine .of_run is115 (by simp) (mw_sound 200 ?_)
  repeat' first
    | with_reducible first | refine mw_as m115.eq_1 ?_ | refine opn m115k0.eq_1 ?_ | refine opn m115k1.eq_1 ?_ | refine opn m115k2.eq_1 ?_ | refine opn m115k3.eq_1 ?_ | refine opn m115k4.eq_1 ?_ | refine opn m115k5.eq_1 ?_ | refine ⟨?_,?_⟩ | intro _
    | simp only [go_sem,↓reduceIte,Nat.reduceAdd,Nat.reduceLeDiff,Nat.reduceEqDiff,Nat.reduceBEq,Nat.reduceBNe,Nat.reduceMul,Nat.reduceLT,reduceCtorEq,Int.reduceLT,Int.reduceLE,Int.reduceToNat,Int.reduceNeg]
  refine .loopN (fun mm F S => ∃ (i : Nat) (m : Int) (s : Bytes),mm = m.natAbs + (7 - i) ∧ s.length = i + (if 6 < i then 1 else 0) ∧ -9223372036854775808 ≤ m ∧ m ≤ 9223372036854775807 ∧ F = [(0,AV.int .i64 n),(3,AV.str s),(4,AV.int .i64 m),(5,AV.int .i64 i)] ∧ S = .none gl ∧ decS n = preF i m.natAbs ++ s) (n.natAbs + 7) ⟨0,n,[],rfl,by simp,h0,h1,rfl,rfl,by simp [preF,decS]⟩ ?_
  rintro mm F S ⟨i,m,s,rfl,hs,hm0,hm1,rfl,rfl,he⟩ ih
  have hil : i ≤ 28 := by
    have := congrArg List.length he
    rw [List.length_append] at this
    have := decS_len n h0 h1
    split at hs <;> omega
  have hsl : s.length ≤ 29 := by split at hs <;> omega
  by_cases hA : i < 7 ∨ m.natAbs ≠ 0
  · have H1 : (decide ((i : Int) < 7) = true ∧ True) ∨ (decide ((i : Int) < 7) = false ∧ (m != 0) = true) := by
      by_cases hz : i < 7
      · exact .inl ⟨decide_eq_true (by omega),trivial⟩
      · exact .inr ⟨decide_eq_false (by omega),by simp; omega⟩
    have H2 : (((i : Int) == 6) = true ∧ i = 6) ∨ (((i : Int) == 6) = false ∧ i ≠ 6) := by
      by_cases hz : i = 6
      · subst hz; exact .inl ⟨rfl,rfl⟩
      · exact .inr ⟨by simp; omega,hz⟩
    have hd := tdivAbs m
    have hlt : m.natAbs / 10 + (7 - (i + 1)) < m.natAbs + (7 - i) := by omega
    rcases H1 with ⟨hi,hmz⟩ | ⟨hi,hmz⟩ <;> rcases tmodCases m with ⟨hq,hq1,hq2⟩ | ⟨hq,hq1,hq2⟩ <;> rcases H2 with ⟨h6,h6'⟩ | ⟨h6,h6'⟩
    all_goals
      refine opn m115l0.eq_1 ?_
      repeat' first
        | with_reducible first | refine mw_as m115.eq_1 ?_ | refine opn m115k0.eq_1 ?_ | refine opn m115k1.eq_1 ?_ | refine opn m115k2.eq_1 ?_ | refine opn m115k3.eq_1 ?_ | refine opn m115k4.eq_1 ?_ | refine opn m115k5.eq_1 ?_ | refine ⟨?_,?_⟩ | intro _
        | simp only [go_sem,↓reduceIte,Nat.reduceAdd,Nat.reduceLeDiff,Nat.reduceEqDiff,Nat.reduceBEq,Nat.reduceBNe,Nat.reduceMul,Nat.reduceLT,reduceCtorEq,Int.reduceLT,Int.reduceLE,Int.reduceToNat,Int.reduceNeg,  hi,hmz,hq,hq1,hq2,h6,w48,u48,s48,tdivWrap hm0 (show m < 9223372036854775808 by omega),wrap_succ (show i < 9223372036854775807 by omega)]
      all_goals first
        | (intro h; cases h; done)
        | omega
        | (subst h6'
           refine ih _ _ _ hlt ⟨6 + 1,m.tdiv 10,UInt8.ofNat (48 + m.natAbs % 10) :: 46 :: s,by rw [hd],by simp only [List.length_cons,hs]; rfl,by omega,by omega,rfl,rfl,?_⟩
           rw [he,hd,preF_six,List.append_assoc]
           rfl)
        | (refine ih _ _ _ hlt ⟨i + 1,m.tdiv 10,UInt8.ofNat (48 + m.natAbs % 10) :: s,by rw [hd],by simp only [List.length_cons,hs]; split <;> split <;> omega,by omega,by omega,rfl,rfl,?_⟩
           rw [he,hd,show preF i m.natAbs = preF (i + 1) (m.natAbs / 10) ++ [UInt8.ofNat (48 + m.natAbs % 10)] from by
             by_cases h7 : i < 6
             · exact preF_lt _ h7
             · exact preF_gt _ (by omega) (by omega)]
           rw [List.append_assoc]
           rfl)
  · have hi : decide ((i : Int) < 7) = false := decide_eq_false (by omega)
    have hmz : m = 0 := by omega
    subst hmz
    refine opn m115l0.eq_1 ?_
    have he : decS n = s := by rw [he,preF,if_neg (by omega),if_pos (show Int.natAbs 0 = 0 from rfl)]; rfl
    repeat' first
      | with_reducible first | refine mw_as m115.eq_1 ?_ | refine opn m115k0.eq_1 ?_ | refine opn m115k1.eq_1 ?_ | refine opn m115k2.eq_1 ?_ | refine opn m115k3.eq_1 ?_ | refine opn m115k4.eq_1 ?_ | refine opn m115k5.eq_1 ?_ | refine ⟨?_,?_⟩ | intro _
      | simp only [go_sem,↓reduceIte,Nat.reduceAdd,Nat.reduceLeDiff,Nat.reduceEqDiff,Nat.reduceBEq,Nat.reduceBNe,Nat.reduceMul,Nat.reduceLT,reduceCtorEq,Int.reduceLT,Int.reduceLE,Int.reduceToNat,Int.reduceNeg,  hi]
    · omega
    · rename_i h
      rw [decF,if_pos (of_decide_eq_true h),he]
    · rename_i h
      rw [decF,if_neg (of_decide_eq_false h),he]
end
section
open Go Go.V Go.Lib
set_option maxRecDepth 40000
variable {gl : List (Nat × List AV)}
abbrev trueS : Bytes := [116,114,117,101]
abbrev falseS : Bytes := [102,97,108,115,101]
abbrev nullS : Bytes := [110,117,108,108]
def boolS (b : Bool) : Bytes := if b then trueS else falseS
theorem c203 (b : Bool) : Pure Tryz.prog gl 203 [.bool b] (.ok (.str (boolS b))) := by
  refine ⟨?_,by simp only [fgs,nrs,forall_eq_or_imp,forall_eq,implies_true],by simp only [nrs,forall_eq_or_imp,forall_eq,implies_true]⟩
  simp only [fgs]
  refine .of_run is203 (by simp) (mw_sound 200 ?_)
  cases b
  all_goals
    repeat' first
      | with_reducible first | refine mw_as m203.eq_1 ?_ | refine ⟨?_,?_⟩ | intro _
      | simp only [go_sem,↓reduceIte,Nat.reduceAdd,Nat.reduceLeDiff,Nat.reduceEqDiff,Nat.reduceBEq,Nat.reduceBNe,Nat.reduceMul,Nat.reduceLT,reduceCtorEq,Int.reduceLT,Int.reduceLE,Int.reduceToNat,Int.reduceNeg]
    rfl
theorem c170 (hg : GlNR gl) (b : Bool) : Pure Tryz.prog gl 170 [.bool b] (.ok (.str (boolS b))) := by
  refine ⟨?_,by simp only [fgs,nrs,forall_eq_or_imp,forall_eq,implies_true],by simp only [nrs,forall_eq_or_imp,forall_eq,implies_true]⟩
  simp only [fgs]
  refine .of_run is170 (by simp) (mw_sound 200 ?_)
  repeat' first
    | with_reducible first | refine mw_as m170.eq_1 ?_ | refine .pu (c203 b) hg rfl ?_ | refine ⟨?_,?_⟩ | intro _
    | simp only [go_sem,↓reduceIte,Nat.reduceAdd,Nat.reduceLeDiff,Nat.reduceEqDiff,Nat.reduceBEq,Nat.reduceBNe,Nat.reduceMul,Nat.reduceLT,reduceCtorEq,Int.reduceLT,Int.reduceLE,Int.reduceToNat,Int.reduceNeg]
abbrev shownAV (v : Val) : AV := .agg [.int .i64 v.kd,.int .i64 v.n,.str v.s]
theorem c109 (v : Val) : Pure Tryz.prog gl 109 [shownAV v] (.ok (.str nullS)) := by
  refine ⟨?_,by simp only [fgs,nrs,forall_eq_or_imp,forall_eq,implies_true],by simp only [nrs,forall_eq_or_imp,forall_eq,implies_true]⟩
  simp only [fgs]
  refine .of_run is109 (by simp) (mw_sound 200 ?_)
  repeat' first
    | with_reducible first | refine mw_as m109.eq_1 ?_ | refine ⟨?_,?_⟩ | intro _
    | simp only [go_sem,↓reduceIte,Nat.reduceAdd,Nat.reduceLeDiff,Nat.reduceEqDiff,Nat.reduceBEq,Nat.reduceBNe,Nat.reduceMul,Nat.reduceLT,reduceCtorEq,Int.reduceLT,Int.reduceLE,Int.reduceToNat,Int.reduceNeg]
theorem c110 (hg : GlNR gl) (v : Val) : Pure Tryz.prog gl 110 [shownAV v] (.ok (.str (boolS (v.n == 1)))) := by
  refine ⟨?_,by simp only [fgs,nrs,forall_eq_or_imp,forall_eq,implies_true],by simp only [nrs,forall_eq_or_imp,forall_eq,implies_true]⟩
  simp only [fgs]
  refine .of_run is110 (by simp) (mw_sound 200 ?_)
  repeat' first
    | with_reducible first | refine mw_as m110.eq_1 ?_ | refine .pu (c170 hg (v.n == 1)) hg rfl ?_ | refine ⟨?_,?_⟩ | intro _
    | simp only [go_sem,↓reduceIte,Nat.reduceAdd,Nat.reduceLeDiff,Nat.reduceEqDiff,Nat.reduceBEq,Nat.reduceBNe,Nat.reduceMul,Nat.reduceLT,reduceCtorEq,Int.reduceLT,Int.reduceLE,Int.reduceToNat,Int.reduceNeg]
theorem c111 (hg : GlNR gl) (v : Val) (h0 : -9223372036854775808 ≤ v.n) (h1 : v.n ≤ 9223372036854775807) : Pure Tryz.prog gl 111 [shownAV v] (.ok (.str (itoa v.n))) := by
  refine ⟨?_,by simp only [fgs,nrs,forall_eq_or_imp,forall_eq,implies_true],by simp only [nrs,forall_eq_or_imp,forall_eq,implies_true]⟩
  simp only [fgs]
  refine .of_run is111 (by simp) (mw_sound 200 ?_)
  repeat' first
    | with_reducible first | refine mw_as m111.eq_1 ?_ | refine .pu (c51 v.n h0 h1) hg rfl ?_ | refine ⟨?_,?_⟩ | intro _
    | simp only [go_sem,↓reduceIte,Nat.reduceAdd,Nat.reduceLeDiff,Nat.reduceEqDiff,Nat.reduceBEq,Nat.reduceBNe,Nat.reduceMul,Nat.reduceLT,reduceCtorEq,Int.reduceLT,Int.reduceLE,Int.reduceToNat,Int.reduceNeg]
theorem c113 (v : Val) (hs : v.s.length < 4294960000) : Pure Tryz.prog gl 113 [shownAV v] (.ok (.str (34 :: (v.s ++ [34])))) := by
  refine ⟨?_,by simp only [fgs,nrs,forall_eq_or_imp,forall_eq,implies_true],by simp only [nrs,forall_eq_or_imp,forall_eq,implies_true]⟩
  simp only [fgs]
  refine .of_run is113 (by simp) (mw_sound 200 ?_)
  repeat' first
    | with_reducible first | refine mw_as m113.eq_1 ?_ | refine ⟨?_,?_⟩ | intro _
    | simp only [go_sem,↓reduceIte,Nat.reduceAdd,Nat.reduceLeDiff,Nat.reduceEqDiff,Nat.reduceBEq,Nat.reduceBNe,Nat.reduceMul,Nat.reduceLT,reduceCtorEq,Int.reduceLT,Int.reduceLE,Int.reduceToNat,Int.reduceNeg]
  all_goals omega
theorem c114 (v : Val) (hs : v.s.length < 4294960000) : Pure Tryz.prog gl 114 [shownAV v] (.ok (.str (64 :: v.s))) := by
  refine ⟨?_,by simp only [fgs,nrs,forall_eq_or_imp,forall_eq,implies_true],by simp only [nrs,forall_eq_or_imp,forall_eq,implies_true]⟩
  simp only [fgs]
  refine .of_run is114 (by simp) (mw_sound 200 ?_)
  repeat' first
    | with_reducible first | refine mw_as m114.eq_1 ?_ | refine ⟨?_,?_⟩ | intro _
    | simp only [go_sem,↓reduceIte,Nat.reduceAdd,Nat.reduceLeDiff,Nat.reduceEqDiff,Nat.reduceBEq,Nat.reduceBNe,Nat.reduceMul,Nat.reduceLT,reduceCtorEq,Int.reduceLT,Int.reduceLE,Int.reduceToNat,Int.reduceNeg]
  all_goals omega
theorem padZ_cons {k u : Nat} : 48 :: (List.replicate k 48 ++ decDigits u) = List.replicate (k + 1) 48 ++ decDigits u := by rw [List.replicate_succ]; rfl
theorem c171 (hg : GlNR gl) (n : Int) (h0 : -9223372036854775808 ≤ n) (h1 : n ≤ 9223372036854775807) : Pure Tryz.prog gl 171 [.int .i64 n] (.ok (.str (decF n))) := by
  refine ⟨?_,by simp only [fgs,nrs,forall_eq_or_imp,forall_eq,implies_true],by simp only [nrs,forall_eq_or_imp,forall_eq,implies_true]⟩
  simp only [fgs]
  refine .of_run is171 (by simp) (mw_sound 200 ?_)
  have hit : itoa n = if n < 0 then 45 :: digS n else digS n := itoa_digS n
  have hlen : (decDigits n.natAbs).length ≤ 20 := by rw [decDigits_length]; exact nDigits_le20 _ (by omega)
  have key : ∀ sg : Bytes,sg.length ≤ 1 → decF n = sg ++ decS n → MRun Tryz.prog 30 [MI.code m171l0.loop,MI.inBlock 0,MI.code (MC.named [3,4] m171k0)] [] [(3,AV.str (digS n)),(4,AV.str sg)] (.none gl) (endQ [RV.t 2] fun o' x => o' = Out.ok (AV.str (decF n))) := by
    intro sg hsl hsg
    refine .loopN (fun mm F S => ∃ k : Nat,mm = 7 - (k + (decDigits n.natAbs).length) ∧ (k = 0 ∨ k + (decDigits n.natAbs).length ≤ 7) ∧ F = [(3,AV.str (List.replicate k 48 ++ decDigits n.natAbs)),(4,AV.str sg)] ∧ S = .none gl) (7 - (decDigits n.natAbs).length) ⟨0,by simp,by simp,rfl,rfl⟩ ?_
    rintro mm F S ⟨k,rfl,hk,rfl,rfl⟩ ih
    by_cases h : k + (decDigits n.natAbs).length ≤ 6
    · have hle : decide (((k + (decDigits n.natAbs).length : Nat) : Int) ≤ 6) = true := decide_eq_true (by omega)
      refine opn m171l0.eq_1 ?_
      repeat' first
        | with_reducible first | refine mw_as m171.eq_1 ?_ | refine opn m171k0.eq_1 ?_ | refine opn m171k1.eq_1 ?_ | refine ⟨?_,?_⟩ | intro _
        | simp only [go_sem,↓reduceIte,Nat.reduceAdd,Nat.reduceLeDiff,Nat.reduceEqDiff,Nat.reduceBEq,Nat.reduceBNe,Nat.reduceMul,Nat.reduceLT,reduceCtorEq,Int.reduceLT,Int.reduceLE,Int.reduceToNat,Int.reduceNeg,  List.length_append,List.length_replicate,hle,padZ_cons]
      · omega
      · exact ih _ _ _ (by omega) ⟨k + 1,rfl,by omega,rfl,rfl⟩
    · have hle : decide (((k + (decDigits n.natAbs).length : Nat) : Int) ≤ 6) = false := decide_eq_false (by omega)
      refine opn m171l0.eq_1 ?_
      have hw : IntKind.i64.wrap (((k + (decDigits n.natAbs).length : Nat) : Int) - 6) = ((k + (decDigits n.natAbs).length - 6 : Nat) : Int) := by rw [wrap_i64_in (by omega) (by omega)]; omega
      have htk : List.take (k + (decDigits n.natAbs).length) (List.replicate k 48 ++ decDigits n.natAbs) = List.replicate k 48 ++ decDigits n.natAbs := List.take_of_length_le (by simp)
      have hp : List.replicate k 48 ++ decDigits n.natAbs = padZ 7 n.natAbs := by
        unfold padZ
        congr 2
        omega
      have hl1 : (List.take (k + (decDigits n.natAbs).length - 6) (List.replicate k 48 ++ decDigits n.natAbs)).length ≤ 40 := by simp; omega
      have hl2 : (List.drop (k + (decDigits n.natAbs).length - 6) (List.replicate k 48 ++ decDigits n.natAbs)).length ≤ 40 := by simp; omega
      repeat' first
        | with_reducible first | refine mw_as m171.eq_1 ?_ | refine opn m171k0.eq_1 ?_ | refine opn m171k1.eq_1 ?_ | refine ⟨?_,?_⟩ | intro _
        | simp only [go_sem,↓reduceIte,Nat.reduceAdd,Nat.reduceLeDiff,Nat.reduceEqDiff,Nat.reduceBEq,Nat.reduceBNe,Nat.reduceMul,Nat.reduceLT,reduceCtorEq,Int.reduceLT,Int.reduceLE,Int.reduceToNat,Int.reduceNeg,  List.length_append,List.length_replicate,hle,hw,htk]
      all_goals first
        | omega
        | (have hL : (padZ 7 n.natAbs).length = k + (decDigits n.natAbs).length := by rw [← hp]; simp
           rw [hsg,decS,dot,hL,← hp]
           simp)
  by_cases hn : n < 0
  · have hd : decide (n < 0) = true := decide_eq_true hn
    rw [if_pos hn] at hit
    repeat' first
      | with_reducible first | refine mw_as m171.eq_1 ?_ | refine opn m171k0.eq_1 ?_ | refine opn m171k1.eq_1 ?_ | refine .pu (c51 n h0 h1) hg rfl ?_ | refine ⟨?_,?_⟩ | intro _
      | simp only [go_sem,↓reduceIte,Nat.reduceAdd,Nat.reduceLeDiff,Nat.reduceEqDiff,Nat.reduceBEq,Nat.reduceBNe,Nat.reduceMul,Nat.reduceLT,reduceCtorEq,Int.reduceLT,Int.reduceLE,Int.reduceToNat,Int.reduceNeg,  hit,hd]
    · omega
    · omega
    · exact key [45] (by simp) (by rw [decF,if_pos hn]; rfl)
  · have hd : decide (n < 0) = false := decide_eq_false hn
    rw [if_neg hn] at hit
    repeat' first
      | with_reducible first | refine mw_as m171.eq_1 ?_ | refine opn m171k0.eq_1 ?_ | refine opn m171k1.eq_1 ?_ | refine .pu (c51 n h0 h1) hg rfl ?_ | refine ⟨?_,?_⟩ | intro _
      | simp only [go_sem,↓reduceIte,Nat.reduceAdd,Nat.reduceLeDiff,Nat.reduceEqDiff,Nat.reduceBEq,Nat.reduceBNe,Nat.reduceMul,Nat.reduceLT,reduceCtorEq,Int.reduceLT,Int.reduceLE,Int.reduceToNat,Int.reduceNeg,  hit,hd]
    exact key [] (by simp) (by rw [decF,if_neg hn]; rfl)
theorem c112 (hg : GlNR gl) (v : Val) (h0 : -9223372036854775808 ≤ v.n) (h1 : v.n ≤ 9223372036854775807) : Pure Tryz.prog gl 112 [shownAV v] (.ok (.str (decF v.n))) := by
  refine ⟨?_,by simp only [fgs,nrs,forall_eq_or_imp,forall_eq,implies_true],by simp only [nrs,forall_eq_or_imp,forall_eq,implies_true]⟩
  simp only [fgs]
  refine .of_run is112 (by simp) (mw_sound 200 ?_)
  repeat' first
    | with_reducible first | refine mw_as m112.eq_1 ?_ | refine .pu (c171 hg v.n h0 h1) hg rfl ?_ | refine ⟨?_,?_⟩ | intro _
    | simp only [go_sem,↓reduceIte,Nat.reduceAdd,Nat.reduceLeDiff,Nat.reduceEqDiff,Nat.reduceBEq,Nat.reduceBNe,Nat.reduceMul,Nat.reduceLT,reduceCtorEq,Int.reduceLT,Int.reduceLE,Int.reduceToNat,Int.reduceNeg]
def fmtV (v : Val) : Bytes :=
  if (chkR v == 0) = false then []
  else if v.kd = 1 then boolS (v.n == 1)
  else if v.kd = 2 then itoa v.n
  else if v.kd = 3 then decF v.n
  else if v.kd = 4 then 34 :: (v.s ++ [34])
  else if v.kd = 5 then 64 :: v.s
  else nullS
theorem chk_range {v : Val} (h : chkR v = 0) : -1152921504606846976 ≤ v.n ∧ v.n ≤ 1152921504606846976 := by
  unfold chkR rangeB at h
  split at h
  · cases h
  · split at h
    · cases h
    · rename_i h2
      simp at h2
      omega
theorem chk_kind {v : Val} (h : chkR v = 0) : v.kd = 0 ∨ v.kd = 1 ∨ v.kd = 2 ∨ v.kd = 3 ∨ v.kd = 4 ∨ v.kd = 5 := by
  unfold chkR fieldsB at h
  by_cases h0 : v.kd = 0
  · omega
  by_cases h1 : v.kd = 1
  · omega
  by_cases h2 : v.kd = 2 ∨ v.kd = 3
  · omega
  by_cases h4 : v.kd = 4 ∨ v.kd = 5
  · omega
  rw [if_neg h0,if_neg h1,if_neg h2,if_neg h4] at h
  cases h
theorem c55 (hg : GlNR gl) (v : Val) (hs : v.s.length < 4294960000) : Pure Tryz.prog gl 55 [v.av] (.ok (.str (fmtV v))) := by
  refine ⟨?_,by simp only [fgs,nrs,forall_eq_or_imp,forall_eq,implies_true],by simp only [nrs,forall_eq_or_imp,forall_eq,implies_true]⟩
  simp only [fgs]
  refine .of_run is55 (by simp) (mw_sound 200 ?_)
  rcases Bool.eq_false_or_eq_true (chkR v == 0) with hc | hc
  · have hr := chk_range (eq_of_beq hc)
    have h56 := c56 hg v (by omega)
    repeat' first
      | with_reducible first | refine mw_as m55.eq_1 ?_ | refine .pu (c56 hg v (by omega)) hg rfl ?_ | refine .pu (c54 v.n (by omega) (by omega)) hg rfl ?_ | refine .pu (c115 v.n (by omega) (by omega)) hg rfl ?_ | refine ⟨?_,?_⟩ | intro _
      | simp only [go_sem,↓reduceIte,Nat.reduceAdd,Nat.reduceLeDiff,Nat.reduceEqDiff,Nat.reduceBEq,Nat.reduceBNe,Nat.reduceMul,Nat.reduceLT,reduceCtorEq,Int.reduceLT,Int.reduceLE,Int.reduceToNat,Int.reduceNeg,  hc]
    all_goals first
      | omega
      | (unfold fmtV boolS
         grind)
  · skip
    repeat' first
      | with_reducible first | refine mw_as m55.eq_1 ?_ | refine .pu (c56 hg v (by omega)) hg rfl ?_ | refine ⟨?_,?_⟩ | intro _
      | simp only [go_sem,↓reduceIte,Nat.reduceAdd,Nat.reduceLeDiff,Nat.reduceEqDiff,Nat.reduceBEq,Nat.reduceBNe,Nat.reduceMul,Nat.reduceLT,reduceCtorEq,Int.reduceLT,Int.reduceLE,Int.reduceToNat,Int.reduceNeg,  hc]
    simp [fmtV,hc]
end
end Go.Proofs.YtdjdhecanjmchaaGreatDoor
