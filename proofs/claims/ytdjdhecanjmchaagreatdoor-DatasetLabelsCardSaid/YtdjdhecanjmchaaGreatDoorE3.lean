/- Contracts: what appends numbers, texts, frames and values. -/
import Derived.Test.YtdjdhecanjmchaaGreatDoorFa
import Derived.Test.YtdjdhecanjmchaaGreatDoorFb
import Derived.Test.YtdjdhecanjmchaaGreatDoorFc
import Derived.Test.YtdjdhecanjmchaaGreatDoorHa
import Derived.Test.YtdjdhecanjmchaaGreatDoorP8
import Derived.Test.YtdjdhecanjmchaaGreatDoorE2
set_option linter.unusedSimpArgs false
set_option linter.unusedVariables false
namespace Go.Proofs.YtdjdhecanjmchaaGreatDoor
open Go Go.V Go.Lib
set_option maxRecDepth 40000
attribute [local go_sem ↓] keepK Opd.ev MK.ev MK.ob gsA
attribute [local go_sem high] gsB
attribute [local go_sem] binEv binOb intOp strOp unEv eqvEv eqCells eqCell noBld tasEv AV.there AV.plus pickCells storeEv AV.solid AV.cells splice putParts rowOK fldEv iarrEv extEv minEv nonNil lenEv isStr appEv appOb appArg slVecEv slVecOb slStrEv slStrOb bnd argF endQ rvsEv rvEv resOf St.none if_true if_false ite_self eq_self ne_eq implies_true forall_const Lab.av Val.av Exa.av Dset.av Req.av gsC
variable {gl : List (Nat × List AV)}
theorem nrcB (l : Bytes) : ∀ x ∈ l.map byteAV,∀ c ∈ x.cells,NoRef c := by
  intro x hx
  obtain ⟨a,_,rfl⟩ := List.mem_map.1 hx
  exact of_eq_true (nrc_byte a)
theorem c57 (hg : GlNR gl) (bs : Bytes) (t : STok) (n : Nat) (hn : n < 18446744073709551616) (hb : bs.length ≤ 1099511627776) : Toks Tryz.prog gl 57 [.sl 1 (bs.map byteAV) t,.int .u64 n] 1 ((bs ++ uvar n).map byteAV) := by
  refine ⟨?_,by simp only [fgs,nrs,forall_eq_or_imp,forall_eq,implies_true],nrcB _⟩
  simp only [fgs]
  refine .of_run is57 (by simp) (mw_sound 60 ?_)
  unfold m57
  simp only [go_sem,↓reduceIte,Nat.reduceAdd,Nat.reduceLeDiff,Nat.reduceEqDiff,Nat.reduceBEq,Nat.reduceBNe,Nat.reduceMul,Nat.reduceLT,reduceCtorEq,Int.reduceLT,Int.reduceLE,Int.reduceToNat,Int.reduceNeg]
  refine ⟨by simp,?_⟩
  refine .loop (fun F S => ∃ (cs : List UInt8) (m f : Nat) (tk : STok) (nt : Nat) (live : List Nat),F = [(1,.int .u64 m),(4,.sl 1 ((bs ++ cs).map byteAV) tk)] ∧ S = ⟨0,[],nt,live,gl⟩ ∧ Able S tk ∧ m < 128 ^ (f + 1) ∧ cs.length + f ≤ 9 ∧ cs ++ uvarF f m = uvarF 9 n)
    (fun F _ => match F with | (_,.int _ m) :: _ => m.toNat | _ => 0) ⟨[],n,9,.exact,0,[],by simp [List.take_of_length_le],rfl,.inl rfl,by omega,by simp,by simp⟩ ?_
  rintro F S ⟨cs,m,f,tk,nt,live,rfl,rfl,hab,hm,hl,hc⟩ ih
  refine opn m57l0.eq_1 ?_
  simp only [go_sem,↓reduceIte,Nat.reduceAdd,Nat.reduceLeDiff,Nat.reduceEqDiff,Nat.reduceBEq,Nat.reduceBNe,Nat.reduceMul,Nat.reduceLT,reduceCtorEq,Int.reduceLT,Int.reduceLE,Int.reduceToNat,Int.reduceNeg,hab]
  refine ⟨fun h => ⟨by simp; omega,?_⟩,fun h => ?_⟩
  · have hm1 : 128 ≤ m := by simp at h; omega
    obtain ⟨f,rfl⟩ : ∃ f',f = f' + 1 := ⟨f - 1,by cases f with | zero => simp at hm; omega | succ f => simp⟩
    refine ih _ _ ⟨cs ++ [UInt8.ofNat (m % 128 + 128)],m / 128,f,_,_,_,?_,rfl,able_use _ _,by rw [Nat.pow_succ] at hm; omega,by simp; omega,?_⟩ ?_
    · rw [byte_or128,ishr_nat _ _ _ (by decide)]
      simp
    · rw [← hc]
      conv => rhs; unfold uvarF
      rw [if_neg (by omega)]
      simp
    · simp only [ishr_nat .u64 m 7 (by decide)]
      simp
      omega
  · have hm1 : m < 128 := by simp at h; omega
    refine opn m57k0.eq_1 ?_
    simp only [go_sem,↓reduceIte,Nat.reduceAdd,Nat.reduceLeDiff,Nat.reduceEqDiff,Nat.reduceBEq,Nat.reduceBNe,Nat.reduceMul,Nat.reduceLT,reduceCtorEq,Int.reduceLT,Int.reduceLE,Int.reduceToNat,Int.reduceNeg,hab]
    refine ⟨by simp; omega,nt,?_,by simp [St.use]⟩
    have : uvarF f m = [UInt8.ofNat m] := by
      cases f with
      | zero => rfl
      | succ f => unfold uvarF; rw [if_pos hm1]
    rw [show uvar n = uvarF 9 n from rfl,← hc,this,wrap_u8,byte_mod]
    simp
theorem xor_ones (x : Int) (h0 : 0 ≤ x) (h1 : x < 18446744073709551616) : ixor .u64 x 18446744073709551615 = 18446744073709551615 - x := by
  have h2 : (BitVec.ofInt 64 18446744073709551615 : BitVec 64) = BitVec.allOnes 64 := by decide
  have h3 : (BitVec.ofInt 64 x).toNat = x.toNat := by
    rw [BitVec.toNat_ofInt]; omega
  have h4 : (BitVec.ofInt 64 x ^^^ BitVec.allOnes 64).toNat = 18446744073709551615 - x.toNat := by
    rw [BitVec.xor_allOnes,BitVec.toNat_not,h3]
  show IntKind.u64.wrap (BitVec.ofInt 64 x ^^^ BitVec.ofInt 64 18446744073709551615).toNat = _
  rw [h2,h4,wrap_u64]
  omega
theorem zig_bits {n : Int} (h0 : -9223372036854775808 ≤ n) (h1 : n ≤ 9223372036854775807) : ixor .u64 (ishl .u64 (IntKind.u64.wrap n) 1) (IntKind.u64.wrap (ishr .i64 n 63)) = (zig n : Nat) := by
  have h2 : ishr .i64 n 63 = if 0 ≤ n then 0 else -1 := by
    show n.fdiv (2 ^ 63) = _
    rw [Int.fdiv_eq_ediv_of_nonneg _ (by decide)]
    split <;> omega
  have h3 : ishl .u64 (IntKind.u64.wrap n) 1 = if 0 ≤ n then 2 * n else 2 * n + 18446744073709551616 := by
    show IntKind.u64.wrap (IntKind.u64.wrap n * 2 ^ 1) = _
    rw [wrap_u64,wrap_u64]
    split <;> omega
  rw [h2,h3]
  unfold zig
  split
  · rw [wrap_u64,show (0 : Int) % 18446744073709551616 = 0 from rfl]
    show IntKind.u64.wrap (BitVec.ofInt 64 (2 * n) ^^^ BitVec.ofInt 64 0).toNat = _
    rw [show (BitVec.ofInt 64 0 : BitVec 64) = 0#64 from rfl,BitVec.xor_zero,BitVec.toNat_ofInt,wrap_u64]
    omega
  · rw [wrap_u64,show (-1 : Int) % 18446744073709551616 = 18446744073709551615 from rfl,xor_ones _ (by omega) (by omega)]
    omega
theorem c58 (hg : GlNR gl) (bs s : Bytes) (t : STok) (hs : s.length < 4294967296) (hb : bs.length ≤ 1099511627776) : Toks Tryz.prog gl 58 [.sl 1 (bs.map byteAV) t,.str s] 1 ((bs ++ textE s).map byteAV) := by
  refine ⟨?_,by simp only [fgs,nrs,forall_eq_or_imp,forall_eq,implies_true],nrcB _⟩
  simp only [fgs]
  refine .of_run is58 (by simp) (mw_sound 200 ?_)
  have h57 := c57 hg bs .unk s.length (by omega) hb
  have hw : IntKind.u64.wrap (s.length : Int) = s.length := by rw [wrap_u64]; omega
  have hul := uvar_le s.length
  repeat' first
    | with_reducible first | refine mw_as m58.eq_1 ?_ | refine .tk (h57) hg rfl ?_ | refine ⟨?_,?_⟩ | intro _
    | simp only [go_sem,↓reduceIte,Nat.reduceAdd,Nat.reduceLeDiff,Nat.reduceEqDiff,Nat.reduceBEq,Nat.reduceBNe,Nat.reduceMul,Nat.reduceLT,reduceCtorEq,Int.reduceLT,Int.reduceLE,Int.reduceToNat,Int.reduceNeg,  hw]
  · exact .inr ⟨_,rfl,by simp [St.own]⟩
  · simp
    omega
  · simp
    omega
  rotate_left
  · simp only [textE,List.map_append,List.append_assoc]
    rfl
  · simp [St.own,St.use]
theorem c60 (hg : GlNR gl) (bs : Bytes) (t : STok) (n : Int) (hn : -9223372036854775808 ≤ n) (hn2 : n ≤ 9223372036854775807) (hb : bs.length ≤ 1099511627776) : Toks Tryz.prog gl 60 [.sl 1 (bs.map byteAV) t,.int .i64 n] 1 ((bs ++ uvar (zig n)).map byteAV) := by
  refine ⟨?_,by simp only [fgs,nrs,forall_eq_or_imp,forall_eq,implies_true],nrcB _⟩
  simp only [fgs]
  refine .of_run is60 (by simp) (mw_sound 200 ?_)
  have h57 := c57 hg bs .unk (zig n) (by unfold zig; split <;> omega) hb
  have hz := zig_bits hn hn2
  repeat' first
    | with_reducible first | refine mw_as m60.eq_1 ?_ | refine .tk (h57) hg rfl ?_ | refine ⟨?_,?_⟩ | intro _
    | simp only [go_sem,↓reduceIte,Nat.reduceAdd,Nat.reduceLeDiff,Nat.reduceEqDiff,Nat.reduceBEq,Nat.reduceBNe,Nat.reduceMul,Nat.reduceLT,reduceCtorEq,Int.reduceLT,Int.reduceLE,Int.reduceToNat,Int.reduceNeg,  hz]
  rotate_left
  · rfl
  · simp [St.own]
theorem own_eq (n : Nat) (ob : List (Nat × List AV)) (nt : Nat) (live : List Nat) (gl : List (Nat × List AV)) : St.own ⟨n,ob,nt,live,gl⟩ = ⟨n,ob,nt + 1,nt :: live,gl⟩ := rfl
theorem chk_kinds {v : Val} (h : chkR v = 0) : ((v.kd = 0 ∧ v.n = 0 ∧ v.s = []) ∨ (v.kd = 1 ∧ (v.n = 0 ∨ v.n = 1) ∧ v.s = [])) ∨ ((v.kd = 2 ∨ v.kd = 3) ∧ v.s = [] ∧ -1152921504606846976 ≤ v.n ∧ v.n ≤ 1152921504606846976) ∨ ((v.kd = 4 ∨ v.kd = 5) ∧ v.n = 0 ∧ v.s.length ≤ 64) := by
  obtain ⟨h1,h2,h3,h4⟩ := chk_of h
  simp [rangeB] at h2
  unfold fieldsB at h1
  split at h1
  · rename_i hk
    simp at h1
    exact .inl (.inl ⟨hk,h1.1,h1.2⟩)
  · split at h1
    · rename_i hk
      simp at h1
      exact .inl (.inr ⟨hk,h1.1,h1.2⟩)
    · split at h1
      · rename_i hk
        simp at h1
        exact .inr (.inl ⟨hk,h1,h2⟩)
      · split at h1
        · rename_i hk
          simp at h1
          refine .inr (.inr ⟨hk,h1,?_⟩)
          rcases hk with hk | hk
          · exact h3 hk
          · have := h4 hk; omega
        · cases h1
theorem byte_eq (k : Int) : (.int .u8 (IntKind.u8.wrap k) : AV) = byteAV (byteOf k) := by
  have h : 0 ≤ IntKind.u8.wrap k ∧ IntKind.u8.wrap k < 256 := by rw [wrap_u8]; omega
  simp only [byteOf]
  rw [byteAV_ofNat]
  congr 2
  omega
theorem byte_snoc (bs : Bytes) (k : Int) : bs.map byteAV ++ [.int .u8 (IntKind.u8.wrap k)] = (bs ++ [byteOf k]).map byteAV := by
  have h : 0 ≤ IntKind.u8.wrap k ∧ IntKind.u8.wrap k < 256 := by rw [wrap_u8]; omega
  rw [List.map_append]
  congr 1
  simp only [byteOf,List.map_cons,List.map_nil]
  rw [byteAV_ofNat]
  congr 3
  omega
set_option maxHeartbeats 4000000 in
theorem c61 (hg : GlNR gl) (bs : Bytes) (t : STok) (v : Val) (hv : chkR v = 0) (hb : bs.length ≤ 1000000000) : Toks Tryz.prog gl 61 [.sl 1 (bs.map byteAV) t,v.av] 1 ((bs ++ valE v).map byteAV) := by
  refine ⟨?_,by simp only [fgs,nrs,forall_eq_or_imp,forall_eq,implies_true],nrcB _⟩
  simp only [fgs]
  refine .of_run is61 (by simp) (mw_sound 200 ?_)
  have h1 := chk_kinds hv
  obtain ⟨kd,n,s⟩ := v
  simp only at h1
  have hw : IntKind.i64.wrap ((bs.length : Int) + 16) = bs.length + 16 := wrap_i64_in (by omega) (by omega)
  have h32 := c32 (gl := gl) ⟨kd,n,s⟩ (by rcases h1 with (h1 | h1) | h1 | h1 <;> simp [h1] <;> omega)
  rw [hv] at h32
  have hx := byte_snoc bs kd
  have d01 : ((0 : Int) == 1) = false := rfl
  have d02 : ((0 : Int) == 2) = false := rfl
  have d03 : ((0 : Int) == 3) = false := rfl
  have d04 : ((0 : Int) == 4) = false := rfl
  have d05 : ((0 : Int) == 5) = false := rfl
  have d12 : ((1 : Int) == 2) = false := rfl
  have d13 : ((1 : Int) == 3) = false := rfl
  have d14 : ((1 : Int) == 4) = false := rfl
  have d15 : ((1 : Int) == 5) = false := rfl
  have d21 : ((2 : Int) == 1) = false := rfl
  have d23 : ((2 : Int) == 3) = false := rfl
  have d24 : ((2 : Int) == 4) = false := rfl
  have d25 : ((2 : Int) == 5) = false := rfl
  have d31 : ((3 : Int) == 1) = false := rfl
  have d32 : ((3 : Int) == 2) = false := rfl
  have d34 : ((3 : Int) == 4) = false := rfl
  have d35 : ((3 : Int) == 5) = false := rfl
  have d41 : ((4 : Int) == 1) = false := rfl
  have d42 : ((4 : Int) == 2) = false := rfl
  have d43 : ((4 : Int) == 3) = false := rfl
  have d45 : ((4 : Int) == 5) = false := rfl
  have d51 : ((5 : Int) == 1) = false := rfl
  have d52 : ((5 : Int) == 2) = false := rfl
  have d53 : ((5 : Int) == 3) = false := rfl
  have d54 : ((5 : Int) == 4) = false := rfl
  rcases h1 with (⟨rfl,rfl,rfl⟩ | ⟨rfl,rfl | rfl,rfl⟩) | ⟨rfl | rfl,rfl,hn,hn2⟩ | ⟨rfl | rfl,rfl,hs⟩
  · skip
    repeat' first
      | with_reducible first | refine mw_as m61.eq_1 ?_ | refine opn m61k0.eq_1 ?_ | refine opn m61k1.eq_1 ?_ | refine opn m61k2.eq_1 ?_ | refine .pu (Pure.conv (h32) (by simp only [fgs])) hg rfl ?_ | refine ⟨?_,?_⟩ | intro _
      | simp only [go_sem,↓reduceIte,Nat.reduceAdd,Nat.reduceLeDiff,Nat.reduceEqDiff,Nat.reduceBEq,Nat.reduceBNe,Nat.reduceMul,Nat.reduceLT,reduceCtorEq,Int.reduceLT,Int.reduceLE,Int.reduceToNat,Int.reduceNeg,  use_eq,own_eq,useL,hw,byte_snoc,d01,d02,d03,d04,d05]
    any_goals first
      | omega
      | exact .inr ⟨_,rfl,by simp⟩
      | (simp; done)
      | (simp; omega)
    rotate_left
    · refine congrArg (fun l => AV.sl 1 l (STok.tok _)) ?_
      simp [valE,byteOf,wrap_u8,textE]
    · simp
  · skip
    repeat' first
      | with_reducible first | refine mw_as m61.eq_1 ?_ | refine opn m61k0.eq_1 ?_ | refine opn m61k1.eq_1 ?_ | refine opn m61k2.eq_1 ?_ | refine .pu (Pure.conv (h32) (by simp only [fgs])) hg rfl ?_ | refine ⟨?_,?_⟩ | intro _
      | simp only [go_sem,↓reduceIte,Nat.reduceAdd,Nat.reduceLeDiff,Nat.reduceEqDiff,Nat.reduceBEq,Nat.reduceBNe,Nat.reduceMul,Nat.reduceLT,reduceCtorEq,Int.reduceLT,Int.reduceLE,Int.reduceToNat,Int.reduceNeg,  use_eq,own_eq,useL,hw,byte_snoc,d12,d13,d14,d15]
    any_goals first
      | omega
      | exact .inr ⟨_,rfl,by simp⟩
      | (simp; done)
      | (simp; omega)
    rotate_left
    · refine congrArg (fun l => AV.sl 1 l (STok.tok _)) ?_
      simp [valE,byteOf,wrap_u8,textE]
    · simp
  · skip
    repeat' first
      | with_reducible first | refine mw_as m61.eq_1 ?_ | refine opn m61k0.eq_1 ?_ | refine opn m61k1.eq_1 ?_ | refine opn m61k2.eq_1 ?_ | refine .pu (Pure.conv (h32) (by simp only [fgs])) hg rfl ?_ | refine ⟨?_,?_⟩ | intro _
      | simp only [go_sem,↓reduceIte,Nat.reduceAdd,Nat.reduceLeDiff,Nat.reduceEqDiff,Nat.reduceBEq,Nat.reduceBNe,Nat.reduceMul,Nat.reduceLT,reduceCtorEq,Int.reduceLT,Int.reduceLE,Int.reduceToNat,Int.reduceNeg,  use_eq,own_eq,useL,hw,byte_snoc,d12,d13,d14,d15]
    any_goals first
      | omega
      | exact .inr ⟨_,rfl,by simp⟩
      | (simp; done)
      | (simp; omega)
    rotate_left
    · refine congrArg (fun l => AV.sl 1 l (STok.tok _)) ?_
      simp [valE,byteOf,wrap_u8,textE]
    · simp
  · have h60 := c60 hg (bs ++ [byteOf 2]) .unk n (by omega) (by omega) (by simp; omega)
    repeat' first
      | with_reducible first | refine mw_as m61.eq_1 ?_ | refine opn m61k0.eq_1 ?_ | refine opn m61k1.eq_1 ?_ | refine opn m61k2.eq_1 ?_ | refine .pu (Pure.conv (h32) (by simp only [fgs])) hg rfl ?_ | refine .tk (Toks.conv (h60) (by simp only [fgs])) hg rfl ?_ | refine ⟨?_,?_⟩ | intro _
      | simp only [go_sem,↓reduceIte,Nat.reduceAdd,Nat.reduceLeDiff,Nat.reduceEqDiff,Nat.reduceBEq,Nat.reduceBNe,Nat.reduceMul,Nat.reduceLT,reduceCtorEq,Int.reduceLT,Int.reduceLE,Int.reduceToNat,Int.reduceNeg,  use_eq,own_eq,useL,hw,byte_snoc,d21,d23,d24,d25]
    any_goals first
      | omega
      | exact .inr ⟨_,rfl,by simp⟩
      | (simp; done)
      | (simp; omega)
    rotate_left
    · refine congrArg (fun l => AV.sl 1 l (STok.tok _)) ?_
      simp [valE,byteOf,wrap_u8,textE]
    · simp
  · have h60 := c60 hg (bs ++ [byteOf 3]) .unk n (by omega) (by omega) (by simp; omega)
    repeat' first
      | with_reducible first | refine mw_as m61.eq_1 ?_ | refine opn m61k0.eq_1 ?_ | refine opn m61k1.eq_1 ?_ | refine opn m61k2.eq_1 ?_ | refine .pu (Pure.conv (h32) (by simp only [fgs])) hg rfl ?_ | refine .tk (Toks.conv (h60) (by simp only [fgs])) hg rfl ?_ | refine ⟨?_,?_⟩ | intro _
      | simp only [go_sem,↓reduceIte,Nat.reduceAdd,Nat.reduceLeDiff,Nat.reduceEqDiff,Nat.reduceBEq,Nat.reduceBNe,Nat.reduceMul,Nat.reduceLT,reduceCtorEq,Int.reduceLT,Int.reduceLE,Int.reduceToNat,Int.reduceNeg,  use_eq,own_eq,useL,hw,byte_snoc,d31,d32,d34,d35]
    any_goals first
      | omega
      | exact .inr ⟨_,rfl,by simp⟩
      | (simp; done)
      | (simp; omega)
    rotate_left
    · refine congrArg (fun l => AV.sl 1 l (STok.tok _)) ?_
      simp [valE,byteOf,wrap_u8,textE]
    · simp
  · have h58 := c58 hg (bs ++ [byteOf 4]) s .unk (by omega) (by simp; omega)
    repeat' first
      | with_reducible first | refine mw_as m61.eq_1 ?_ | refine opn m61k0.eq_1 ?_ | refine opn m61k1.eq_1 ?_ | refine opn m61k2.eq_1 ?_ | refine .pu (Pure.conv (h32) (by simp only [fgs])) hg rfl ?_ | refine .tk (Toks.conv (h58) (by simp only [fgs])) hg rfl ?_ | refine ⟨?_,?_⟩ | intro _
      | simp only [go_sem,↓reduceIte,Nat.reduceAdd,Nat.reduceLeDiff,Nat.reduceEqDiff,Nat.reduceBEq,Nat.reduceBNe,Nat.reduceMul,Nat.reduceLT,reduceCtorEq,Int.reduceLT,Int.reduceLE,Int.reduceToNat,Int.reduceNeg,  use_eq,own_eq,useL,hw,byte_snoc,d41,d42,d43,d45]
    any_goals first
      | omega
      | exact .inr ⟨_,rfl,by simp⟩
      | (simp; done)
      | (simp; omega)
    rotate_left
    · refine congrArg (fun l => AV.sl 1 l (STok.tok _)) ?_
      simp [valE,byteOf,wrap_u8,textE]
    · simp
  · have h58 := c58 hg (bs ++ [byteOf 5]) s .unk (by omega) (by simp; omega)
    repeat' first
      | with_reducible first | refine mw_as m61.eq_1 ?_ | refine opn m61k0.eq_1 ?_ | refine opn m61k1.eq_1 ?_ | refine opn m61k2.eq_1 ?_ | refine .pu (Pure.conv (h32) (by simp only [fgs])) hg rfl ?_ | refine .tk (Toks.conv (h58) (by simp only [fgs])) hg rfl ?_ | refine ⟨?_,?_⟩ | intro _
      | simp only [go_sem,↓reduceIte,Nat.reduceAdd,Nat.reduceLeDiff,Nat.reduceEqDiff,Nat.reduceBEq,Nat.reduceBNe,Nat.reduceMul,Nat.reduceLT,reduceCtorEq,Int.reduceLT,Int.reduceLE,Int.reduceToNat,Int.reduceNeg,  use_eq,own_eq,useL,hw,byte_snoc,d51,d52,d53,d54]
    any_goals first
      | omega
      | exact .inr ⟨_,rfl,by simp⟩
      | (simp; done)
      | (simp; omega)
    rotate_left
    · refine congrArg (fun l => AV.sl 1 l (STok.tok _)) ?_
      simp [valE,byteOf,wrap_u8,textE]
    · simp
end Go.Proofs.YtdjdhecanjmchaaGreatDoor
namespace Go.Proofs.YtdjdhecanjmchaaGreatDoor
open Go Go.V Go.Lib
set_option maxRecDepth 40000
attribute [local go_sem ↓] keepK Opd.ev MK.ev MK.ob gsA
attribute [local go_sem high] gsB
attribute [local go_sem] binEv binOb intOp strOp unEv eqvEv eqCells eqCell noBld tasEv AV.there AV.plus pickCells storeEv AV.solid AV.cells splice putParts rowOK fldEv iarrEv extEv minEv nonNil lenEv isStr appEv appOb appArg slVecEv slVecOb slStrEv slStrOb bnd argF endQ rvsEv rvEv resOf St.none if_true if_false ite_self eq_self ne_eq implies_true forall_const Lab.av Val.av Exa.av Dset.av Req.av gsC
variable {gl : List (Nat × List AV)}
theorem c59 (hg : GlNR gl) (bs p : Bytes) (t u : STok) (hs : p.length < 4294960000) (hb : bs.length ≤ 1099511627776) : Toks Tryz.prog gl 59 [.sl 1 (bs.map byteAV) t,.sl 1 (p.map byteAV) u] 1 ((bs ++ frameE p).map byteAV) := by
  refine ⟨?_,by simp only [fgs,nrs,forall_eq_or_imp,forall_eq,implies_true],nrcB _⟩
  simp only [fgs]
  refine .of_run is59 (by simp) (mw_sound 200 ?_)
  have h57 := c57 hg bs .unk p.length (by omega) hb
  have h73 := c73 hg p .unk hs
  have hw : IntKind.u64.wrap (p.length : Int) = p.length := by rw [wrap_u64]; omega
  have hul := uvar_le p.length
  repeat' first
    | with_reducible first | refine mw_as m59.eq_1 ?_ | refine .tk (h57) hg rfl ?_ | refine .pu (Pure.conv (h73) (by simp only [fgs])) hg rfl ?_ | refine ⟨?_,?_⟩ | intro _
    | simp only [go_sem,↓reduceIte,Nat.reduceAdd,Nat.reduceLeDiff,Nat.reduceEqDiff,Nat.reduceBEq,Nat.reduceBNe,Nat.reduceMul,Nat.reduceLT,reduceCtorEq,Int.reduceLT,Int.reduceLE,Int.reduceToNat,Int.reduceNeg,  hw,own_eq,use_eq,useL]
  · exact .inr ⟨_,rfl,by simp⟩
  · simp
    omega
  · simp
    omega
  · exact .inr ⟨_,rfl,by simp⟩
  · simp
    omega
  · simp
    omega
  rotate_left
  · refine congrArg (fun l => AV.sl 1 l (STok.tok _)) ?_
    simp only [frameE,sumB,List.map_append,List.map_cons,List.map_nil,byte_eq,List.append_assoc]
  · simp
def encE (d : Dset) : Int := if formB d then 0 else 1
def encL (d : Dset) : Bytes := if formB d then encB d else []
abbrev encAV (d : Dset) : AV := .tup [.sl 1 ((encL d).map byteAV) .unk,.int .i64 (encE d)]
theorem enc_bad {d : Dset} (h : formB d = false) {tk : STok} : FgOut (.ok (.tup [.sl 1 [] tk,.int .i64 1])) (encAV d) :=
  .mk' (by simp only [fgs,encAV,encL,encE,h,if_false,Bool.false_eq_true])
theorem enc_done {d : Dset} (h : formB d = true) {b : Bytes} {tk : STok} (hb : encB d = b) : FgOut (.ok (.tup [.sl 1 (b.map byteAV) tk,.int .i64 0])) (encAV d) :=
  .mk' (by simp only [fgs,encAV,encL,encE,h,if_true,hb])
set_option maxHeartbeats 4000000 in
theorem c23 (hg : GlNR gl) {m0 : Int} (hm0 : gl.lookup 1 = some [.int .i64 m0]) (d : Dset) (hs : SmallD d) : Pure Tryz.prog gl 23 [d.av] (.ok (encAV d)) := by
  refine Pure.ofFg ?_ (by simp only [fgs,nrs,forall_eq_or_imp,forall_eq,implies_true]) (by simp only [encAV,nrs,forall_eq_or_imp,forall_eq,implies_true])
  simp only [fgs]
  refine .of_run is23 (by simp) (mw_sound 200 ?_)
  rcases Bool.eq_false_or_eq_true (formB d) with hf | hf
  · obtain ⟨⟨⟨_,⟨_,_⟩,⟨_,hfl⟩,_⟩,hhl⟩,hll⟩ := formB_ok hf
    have hF := formF hf
    have hel := hs.ent
    have hxl := hs.xs
    have hf8 := hF.fs
    have hx8 := hF.xs
    have h58 := c58 hg [] d.ent .exact (by omega) (by simp)
    have hB : ∀ s r : Bytes,headE (hd d) = s ++ r → s.length ≤ 8192 := fun s r he => by have := congrArg List.length he; rw [List.length_append] at this; omega
    have h57 := c57 hg (textE d.ent) .unk d.fs.length (by omega) (by have := hB (textE d.ent) _ rfl; omega)
    have hw : IntKind.u64.wrap (d.fs.length : Int) = d.fs.length := wrap_u64_in (by omega) (by omega)
    have hw2 : IntKind.u64.wrap (d.xs.length : Int) = d.xs.length := wrap_u64_in (by omega) (by omega)
    repeat' first
      | with_reducible first | refine mw_as m23.eq_1 ?_ | refine opn m23k0.eq_1 ?_ | refine opn m23k1.eq_1 ?_ | refine opn m23k2.eq_1 ?_ | refine opn m23k3.eq_1 ?_ | refine .pu (c37 hg hm0 d hs) hg rfl ?_ | refine .tk (Toks.conv (h58) (by simp only [fgs])) hg rfl ?_ | refine .tk (Toks.conv (h57) (by simp only [fgs])) hg rfl ?_ | refine ⟨?_,?_⟩ | intro _
      | simp only [go_sem,↓reduceIte,Nat.reduceAdd,Nat.reduceLeDiff,Nat.reduceEqDiff,Nat.reduceBEq,Nat.reduceBNe,Nat.reduceMul,Nat.reduceLT,reduceCtorEq,Int.reduceLT,Int.reduceLE,Int.reduceToNat,Int.reduceNeg,  hf,hw,own_eq,use_eq,useL]
    refine MRun.keep (live' := []) ?_ (fun _ _ h => h) (fun _ h => by cases h)
    refine .forUp d.fs.length (fun i F S => ∃ (acc : Bytes) (tk : STok) (t : Nat),F = [(1,AV.ptr 0 0),(4,AV.sl 1 (acc.map byteAV) tk),(23,AV.sl 1 (List.map AV.str d.fs) STok.unk),(24,AV.int IntKind.i64 ↑d.fs.length),(25,AV.int IntKind.i64 i)] ∧
      S = ⟨1,[(0,[AV.str d.ent,AV.sl 1 (List.map AV.str d.fs) STok.unk,AV.sl 4 (List.map Exa.av d.xs) STok.unk])],t,[],gl⟩ ∧ headE (hd d) = acc ++ ((d.fs.drop i).flatMap textE ++ uvar d.xs.length)) ⟨_,_,_,rfl,rfl,by simp [headE,hd]⟩ ?_
    rintro i F S hi ⟨acc,tk,t,rfl,rfl,he⟩ ih
    have hal := hB _ _ he
    by_cases h : i < d.fs.length
    · obtain ⟨f,hff⟩ := some_of_lt h
      have hfle := hfl f (List.mem_of_getElem? hff)
      rw [drop_some hff,List.flatMap_cons,List.append_assoc,← List.append_assoc] at he
      have h58f := c58 hg acc f .unk (by have := hB _ _ he; simp [textE] at this; omega) (by omega)
      refine opn m23l0.eq_1 ?_
      repeat' first
        | with_reducible first | refine mw_as m23.eq_1 ?_ | refine opn m23k0.eq_1 ?_ | refine opn m23k1.eq_1 ?_ | refine opn m23k2.eq_1 ?_ | refine opn m23k3.eq_1 ?_ | refine .tk (Toks.conv (h58f) (by simp only [fgs])) hg rfl ?_ | refine ⟨?_,?_⟩ | intro _
        | simp only [go_sem,↓reduceIte,Nat.reduceAdd,Nat.reduceLeDiff,Nat.reduceEqDiff,Nat.reduceBEq,Nat.reduceBNe,Nat.reduceMul,Nat.reduceLT,reduceCtorEq,Int.reduceLT,Int.reduceLE,Int.reduceToNat,Int.reduceNeg,  hff,ltB h,ltP h,own_eq,use_eq,useL,wrap_succ (show i < 9223372036854775807 by omega)]
      exact MRun.keep (live' := []) (ih h _ _ ⟨_,_,_,rfl,rfl,he⟩) (fun _ _ h => h) (fun _ h => by cases h)
    · have h57e := c57 hg acc .unk d.xs.length (by omega) (by omega)
      rw [List.drop_eq_nil_of_le (Nat.le_of_not_lt h)] at he
      have h59 := c59 hg [] (headE (hd d)) .exact .unk (by omega) (by simp)
      have hE : acc ++ uvar d.xs.length = headE (hd d) := by rw [he]; rfl
      rw [List.nil_append] at h59
      refine opn m23l0.eq_1 ?_
      repeat' first
        | with_reducible first | refine mw_as m23.eq_1 ?_ | refine opn m23k0.eq_1 ?_ | refine opn m23k1.eq_1 ?_ | refine opn m23k2.eq_1 ?_ | refine opn m23k3.eq_1 ?_ | refine .tk (Toks.conv (h57e) (by simp only [fgs])) hg rfl ?_ | refine .tk (Toks.conv (h59) (by simp only [fgs])) hg rfl ?_ | refine ⟨?_,?_⟩ | intro _
        | simp only [go_sem,↓reduceIte,Nat.reduceAdd,Nat.reduceLeDiff,Nat.reduceEqDiff,Nat.reduceBEq,Nat.reduceBNe,Nat.reduceMul,Nat.reduceLT,reduceCtorEq,Int.reduceLT,Int.reduceLE,Int.reduceToNat,Int.reduceNeg,  geB (Nat.le_of_not_lt h),hw2,own_eq,use_eq,useL,hE]
      refine MRun.keep (ob' := []) (live' := []) ?_ (fun _ _ h => by cases h) (fun _ h => by cases h)
      clear h57e h59 hE he hal ih h57 h58
      have hT : ∀ s r : Bytes,encB d = s ++ r → s.length ≤ 5000000 := by
        intro s r he
        have h1 := congrArg List.length he
        have h2 := flat_len (fun x => frameE (lineE x)) 8206 d.xs fun x hx => by
          have h3 := (hll x hx).2
          have h4 := uvar_le (lineE x).length
          simp only [frameE,List.length_append,sumB_len]
          omega
        have h5 : d.xs.length * 8206 ≤ 256 * 8206 := Nat.mul_le_mul_right _ hx8
        have h6 := uvar_le (headE (hd d)).length
        simp only [encB,frameE,List.length_append,sumB_len] at h1 h2
        omega
      refine .forUp d.xs.length (fun j F S => ∃ (B : Bytes) (tk : STok) (m t : Nat),F = [(2,AV.sl 1 (B.map byteAV) tk),(41,AV.sl 4 (List.map Exa.av d.xs) STok.unk),(42,AV.int IntKind.i64 ↑d.xs.length),(43,AV.int IntKind.i64 j)] ∧
        S = ⟨m,[],t,[],gl⟩ ∧ encB d = B ++ (d.xs.drop j).flatMap (fun x => frameE (lineE x))) ⟨_,_,_,_,rfl,rfl,rfl⟩ ?_
      rintro j F S hj ⟨B,tkB,m,t2,rfl,rfl,he⟩ ih
      by_cases h2 : j < d.xs.length
      · obtain ⟨x,hx⟩ := some_of_lt h2
        obtain ⟨⟨hkl,_,_,hvl,hvv⟩,hlx⟩ := hll x (List.mem_of_getElem? hx)
        have hkx := hs.k x (List.mem_of_getElem? hx)
        have htx := hF.lab x (List.mem_of_getElem? hx)
        have h58 := c58 hg [] x.lab.k .exact (by omega) (by simp)
        have hL : ∀ s r : Bytes,lineE x = s ++ r → s.length ≤ 8192 := fun s r he => by have := congrArg List.length he; rw [List.length_append] at this; omega
        simp only [tickB,Bool.and_eq_true,decide_eq_true_eq] at htx
        have h60 := c60 hg (textE x.lab.k) (.tok t2) x.lab.e (by omega) (by omega) (by have := hL (textE x.lab.k) _ rfl; omega)
        have h60b := c60 hg (textE x.lab.k ++ uvar (zig x.lab.e)) (.tok (t2 + 1)) x.lab.n (by omega) (by omega) (by have := hL (textE x.lab.k ++ uvar (zig x.lab.e)) (uvar (zig x.lab.n) ++ x.vs.flatMap valE) (by simp [lineE]); omega)
        refine opn m23l2.eq_1 ?_
        repeat' first
          | with_reducible first | refine mw_as m23.eq_1 ?_ | refine opn m23k0.eq_1 ?_ | refine opn m23k1.eq_1 ?_ | refine opn m23k2.eq_1 ?_ | refine opn m23k3.eq_1 ?_ | refine .tk (h58) hg rfl ?_ | refine .tk (h60) hg rfl ?_ | refine .tk (h60b) hg rfl ?_ | refine ⟨?_,?_⟩ | intro _
          | simp only [go_sem,↓reduceIte,Nat.reduceAdd,Nat.reduceLeDiff,Nat.reduceEqDiff,Nat.reduceBEq,Nat.reduceBNe,Nat.reduceMul,Nat.reduceLT,reduceCtorEq,Int.reduceLT,Int.reduceLE,Int.reduceToNat,Int.reduceNeg,  hx,ltB h2,ltP h2,own_eq,use_eq,useL,List.nil_append]
        refine MRun.keep (ob' := []) (live' := []) ?_ (fun _ _ h => by cases h) (fun _ h => by cases h)
        have hxv := hs.vs x (List.mem_of_getElem? hx)
        refine .forUp x.vs.length (fun i F S => ∃ (acc : Bytes) (tk : STok) (m t : Nat),F = [(2,AV.sl 1 (B.map byteAV) tkB),(4,AV.sl 1 (acc.map byteAV) tk),(41,AV.sl 4 (List.map Exa.av d.xs) STok.unk),(42,AV.int IntKind.i64 ↑d.xs.length),(43,AV.int IntKind.i64 ↑j),(61,AV.sl 3 (List.map Val.av x.vs) STok.unk),(62,AV.int IntKind.i64 ↑x.vs.length),(63,AV.int IntKind.i64 i)] ∧
          S = ⟨m,[],t,[],gl⟩ ∧ lineE x = acc ++ (x.vs.drop i).flatMap valE) ⟨_,_,_,_,rfl,rfl,by simp [lineE]⟩ ?_
        rintro i F S hi ⟨acc,tk,m,t,rfl,rfl,hel2⟩ ihv
        have hal2 := hL _ _ hel2
        by_cases h3 : i < x.vs.length
        · obtain ⟨v,hv⟩ := some_of_lt h3
          have h61 := c61 hg acc tk v (hvv v (List.mem_of_getElem? hv)) (by omega)
          rw [drop_some hv,List.flatMap_cons,← List.append_assoc] at hel2
          refine opn m23l1.eq_1 ?_
          repeat' first
            | with_reducible first | refine mw_as m23.eq_1 ?_ | refine opn m23k0.eq_1 ?_ | refine opn m23k1.eq_1 ?_ | refine opn m23k2.eq_1 ?_ | refine opn m23k3.eq_1 ?_ | refine .tk (h61) hg rfl ?_ | refine ⟨?_,?_⟩ | intro _
            | simp only [go_sem,↓reduceIte,Nat.reduceAdd,Nat.reduceLeDiff,Nat.reduceEqDiff,Nat.reduceBEq,Nat.reduceBNe,Nat.reduceMul,Nat.reduceLT,reduceCtorEq,Int.reduceLT,Int.reduceLE,Int.reduceToNat,Int.reduceNeg,  hv,ltB h3,ltP h3,own_eq,use_eq,useL,wrap_succ (show i < 9223372036854775807 by omega)]
          exact MRun.keep (ob' := []) (live' := []) (ihv h3 _ _ ⟨_,_,_,_,rfl,rfl,hel2⟩) (fun _ _ h => by cases h) (fun _ h => by cases h)
        · rw [List.drop_eq_nil_of_le (Nat.le_of_not_lt h3),List.flatMap_nil,List.append_nil] at hel2
          subst hel2
          have hBl := hT _ _ he
          have h59 := c59 hg B (lineE x) tkB tk (by omega) (by omega)
          rw [drop_some hx,List.flatMap_cons,← List.append_assoc] at he
          refine opn m23l1.eq_1 ?_
          repeat' first
            | with_reducible first | refine mw_as m23.eq_1 ?_ | refine opn m23k0.eq_1 ?_ | refine opn m23k1.eq_1 ?_ | refine opn m23k2.eq_1 ?_ | refine opn m23k3.eq_1 ?_ | refine .tk (h59) hg rfl ?_ | refine ⟨?_,?_⟩ | intro _
            | simp only [go_sem,↓reduceIte,Nat.reduceAdd,Nat.reduceLeDiff,Nat.reduceEqDiff,Nat.reduceBEq,Nat.reduceBNe,Nat.reduceMul,Nat.reduceLT,reduceCtorEq,Int.reduceLT,Int.reduceLE,Int.reduceToNat,Int.reduceNeg,  geB (Nat.le_of_not_lt h3),own_eq,use_eq,useL,wrap_succ (show j < 9223372036854775807 by omega)]
          exact MRun.keep (ob' := []) (live' := []) (ih h2 _ _ ⟨_,_,_,_,rfl,rfl,he⟩) (fun _ _ h => by cases h) (fun _ h => by cases h)
      · refine opn m23l2.eq_1 ?_
        rw [List.drop_eq_nil_of_le (Nat.le_of_not_lt h2)] at he
        repeat' first
          | with_reducible first | refine mw_as m23.eq_1 ?_ | refine opn m23k0.eq_1 ?_ | refine opn m23k1.eq_1 ?_ | refine opn m23k2.eq_1 ?_ | refine opn m23k3.eq_1 ?_ | refine ⟨?_,?_⟩ | intro _
          | simp only [go_sem,↓reduceIte,Nat.reduceAdd,Nat.reduceLeDiff,Nat.reduceEqDiff,Nat.reduceBEq,Nat.reduceBNe,Nat.reduceMul,Nat.reduceLT,reduceCtorEq,Int.reduceLT,Int.reduceLE,Int.reduceToNat,Int.reduceNeg,  geB (Nat.le_of_not_lt h2)]
        exact enc_done hf (by simpa using he)
  · skip
    repeat' first
      | with_reducible first | refine mw_as m23.eq_1 ?_ | refine opn m23k0.eq_1 ?_ | refine opn m23k1.eq_1 ?_ | refine opn m23k2.eq_1 ?_ | refine opn m23k3.eq_1 ?_ | refine .pu (c37 hg hm0 d hs) hg rfl ?_ | refine ⟨?_,?_⟩ | intro _
      | simp only [go_sem,↓reduceIte,Nat.reduceAdd,Nat.reduceLeDiff,Nat.reduceEqDiff,Nat.reduceBEq,Nat.reduceBNe,Nat.reduceMul,Nat.reduceLT,reduceCtorEq,Int.reduceLT,Int.reduceLE,Int.reduceToNat,Int.reduceNeg,  hf]
    all_goals exact enc_bad hf
end Go.Proofs.YtdjdhecanjmchaaGreatDoor
