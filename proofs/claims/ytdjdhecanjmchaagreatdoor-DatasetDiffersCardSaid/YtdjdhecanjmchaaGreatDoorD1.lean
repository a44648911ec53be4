/- Contracts: the reference's encodings, and its checksum bit by bit. -/
import Derived.Test.YtdjdhecanjmchaaGreatDoorFa
import Derived.Test.YtdjdhecanjmchaaGreatDoorFb
import Derived.Test.YtdjdhecanjmchaaGreatDoorFc
import Derived.Test.YtdjdhecanjmchaaGreatDoorHa
import Derived.Test.YtdjdhecanjmchaaGreatDoorQa
import Derived.Test.YtdjdhecanjmchaaGreatDoorE3
import Derived.Test.YtdjdhecanjmchaaGreatDoorEB
set_option linter.unusedSimpArgs false
set_option linter.unusedVariables false
namespace Go.Proofs.YtdjdhecanjmchaaGreatDoor
open Go Go.V Go.Lib
set_option maxRecDepth 40000
attribute [local go_sem ↓] keepK Opd.ev MK.ev MK.ob gsA
attribute [local go_sem high] gsB
attribute [local go_sem] binEv binOb intOp strOp unEv eqvEv eqCells eqCell noBld tasEv AV.there AV.plus pickCells storeEv AV.solid AV.cells splice putParts rowOK fldEv iarrEv extEv minEv nonNil lenEv isStr appEv appOb appArg slVecEv slVecOb slStrEv slStrOb bnd argF endQ rvsEv rvEv resOf St.none if_true if_false ite_self eq_self ne_eq implies_true forall_const Lab.av Val.av Exa.av Dset.av Req.av gsC
variable {gl : List (Nat × List AV)}
def stepB (a : BitVec 32) : BitVec 32 := if a.getLsbD 0 then (a >>> 1) ^^^ 3988292384#32 else a >>> 1
def stepN : Nat → BitVec 32 → BitVec 32
  | 0,a => a
  | n + 1,a => stepN n (stepB a)
theorem stepB_xor (a b : BitVec 32) : stepB (a ^^^ b) = stepB a ^^^ stepB b := by
  unfold stepB
  rw [BitVec.getLsbD_xor,BitVec.ushiftRight_xor_distrib]
  cases a.getLsbD 0 <;> cases b.getLsbD 0 <;> simp only [Bool.xor_true,Bool.xor_false,Bool.not_true,Bool.not_false,Bool.false_eq_true,if_true,if_false]
  · rw [BitVec.xor_assoc]
  · rw [BitVec.xor_assoc,BitVec.xor_assoc,BitVec.xor_comm (b >>> 1)]
  · rw [BitVec.xor_assoc,BitVec.xor_comm 3988292384#32,BitVec.xor_assoc,BitVec.xor_self,BitVec.xor_zero]
theorem stepN_xor : ∀ n (a b : BitVec 32),stepN n (a ^^^ b) = stepN n a ^^^ stepN n b
  | 0,_,_ => rfl
  | n + 1,a,b => by rw [stepN,stepB_xor,stepN_xor n]; rfl
theorem ofInt_nat (a : BitVec 32) : BitVec.ofInt 32 (a.toNat : Int) = a := by
  apply BitVec.eq_of_toNat_eq
  rw [BitVec.toNat_ofInt]
  have := a.isLt
  omega
theorem ixor32 (a b : BitVec 32) : ixor .u32 (a.toNat : Int) (b.toNat : Int) = ((a ^^^ b).toNat : Int) := by
  show IntKind.u32.wrap (BitVec.ofInt 32 (a.toNat : Int) ^^^ BitVec.ofInt 32 (b.toNat : Int)).toNat = _
  rw [ofInt_nat,ofInt_nat,wrap_u32]
  have := (a ^^^ b).isLt
  omega
theorem lsb_mod (a : BitVec 32) : a.getLsbD 0 = decide (a.toNat % 2 = 1) := by
  rw [BitVec.getLsbD,Nat.testBit_zero]
theorem crcStep_bits (a : BitVec 32) : crcStep (a.toNat : Int) = ((stepB a).toNat : Int) := by
  have h1 : iand .u32 (a.toNat : Int) 1 = ((a.toNat % 2 : Nat) : Int) := by
    show IntKind.u32.wrap (BitVec.ofInt 32 (a.toNat : Int) &&& BitVec.ofInt 32 1).toNat = _
    rw [ofInt_nat,BitVec.toNat_and,show (BitVec.ofInt 32 1).toNat = 1 from rfl,Nat.and_one_is_mod,wrap_u32]
    omega
  have h2 : ishr .u32 (a.toNat : Int) 1 = ((a >>> 1).toNat : Int) := by
    rw [ishr_nat _ _ _ (by decide),BitVec.toNat_ushiftRight,Nat.shiftRight_eq_div_pow]
    rfl
  unfold crcStep stepB
  rw [h1,h2,lsb_mod]
  by_cases h : a.toNat % 2 = 1
  · rw [h,if_pos (by rfl),decide_eq_true rfl,if_pos rfl]
    exact ixor32 (a >>> 1) 3988292384#32
  · have h0 : a.toNat % 2 = 0 := by omega
    rw [h0,if_neg (by decide),if_neg (by decide)]
theorem crcN_bits : ∀ n (a : BitVec 32),crcN n (a.toNat : Int) = ((stepN n a).toNat : Int)
  | 0,_ => rfl
  | n + 1,a => by rw [crcN,crcStep_bits,crcN_bits n]; rfl
theorem crcStep_even (m : Nat) (h : 2 * m < 4294967296) : crcStep ((2 * m : Nat) : Int) = (m : Int) := by
  have e : (BitVec.ofNat 32 (2 * m)).toNat = 2 * m := by rw [BitVec.toNat_ofNat]; omega
  have h1 := crcStep_bits (BitVec.ofNat 32 (2 * m))
  rw [e] at h1
  rw [h1]
  unfold stepB
  rw [lsb_mod,e,decide_eq_false (by omega),if_neg (by decide),BitVec.toNat_ushiftRight,e,Nat.shiftRight_eq_div_pow]
  omega
theorem crcN_even (m : Nat) (h : 256 * m < 4294967296) : crcN 8 ((256 * m : Nat) : Int) = (m : Int) := by
  simp only [crcN]
  rw [show 256 * m = 2 * (128 * m) by omega,crcStep_even _ (by omega),show 128 * m = 2 * (64 * m) by omega,crcStep_even _ (by omega),show 64 * m = 2 * (32 * m) by omega,crcStep_even _ (by omega),show 32 * m = 2 * (16 * m) by omega,crcStep_even _ (by omega),show 16 * m = 2 * (8 * m) by omega,crcStep_even _ (by omega),show 8 * m = 2 * (4 * m) by omega,crcStep_even _ (by omega),show 4 * m = 2 * (2 * m) by omega,crcStep_even _ (by omega),crcStep_even _ (by omega)]
theorem crc_byte (r : BitVec 32) (x : UInt8) : crcN 8 (ixor .u32 (r.toNat : Int) (x.toNat : Int)) = ixor .u32 (ishr .u32 (r.toNat : Int) 8) (crcT (ixor .u8 (IntKind.u8.wrap (r.toNat : Int)) (x.toNat : Int)).toNat) := by
  have hx := x.toNat_lt
  have hr := r.isLt
  have ex : ((BitVec.ofNat 32 x.toNat).toNat : Int) = (x.toNat : Int) := by rw [BitVec.toNat_ofNat]; omega
  have h1 : ixor .u32 (r.toNat : Int) (x.toNat : Int) = ((r ^^^ BitVec.ofNat 32 x.toNat).toNat : Int) := by rw [← ex]; exact ixor32 _ _
  have h2 : ixor .u8 (IntKind.u8.wrap (r.toNat : Int)) (x.toNat : Int) = (((r.toNat % 256) ^^^ x.toNat : Nat) : Int) := by
    show IntKind.u8.wrap (BitVec.ofInt 8 (IntKind.u8.wrap (r.toNat : Int)) ^^^ BitVec.ofInt 8 (x.toNat : Int)).toNat = _
    have hlt : (r.toNat % 256) ^^^ x.toNat < 256 := Nat.xor_lt_two_pow (n := 8) (by omega) (by omega)
    rw [BitVec.toNat_xor,BitVec.toNat_ofInt,BitVec.toNat_ofInt,wrap_u8,wrap_u8]
    have e1 : ((r.toNat : Int) % 256 % ((2 ^ 8 : Nat) : Int)).toNat = r.toNat % 256 := by omega
    have e2 : ((x.toNat : Int) % ((2 ^ 8 : Nat) : Int)).toNat = x.toNat := by omega
    rw [e1,e2]
    omega
  have h3 : ishr .u32 (r.toNat : Int) 8 = ((r >>> 8).toNat : Int) := by
    rw [ishr_nat _ _ _ (by decide),BitVec.toNat_ushiftRight,Nat.shiftRight_eq_div_pow]
    rfl
  have hlt : (r.toNat % 256) ^^^ x.toNat < 256 := Nat.xor_lt_two_pow (n := 8) (by omega) (by omega)
  have h4 : crcT ((r.toNat % 256) ^^^ x.toNat) = ((stepN 8 (BitVec.ofNat 32 ((r.toNat % 256) ^^^ x.toNat))).toNat : Int) := by
    have := crcN_bits 8 (BitVec.ofNat 32 ((r.toNat % 256) ^^^ x.toNat))
    rw [BitVec.toNat_ofNat,Nat.mod_eq_of_lt (by omega)] at this
    exact this
  rw [h1,h2,Int.toNat_natCast,h3,h4,ixor32,crcN_bits]
  have h5 : r ^^^ BitVec.ofNat 32 x.toNat = BitVec.ofNat 32 (256 * (r.toNat / 256)) ^^^ BitVec.ofNat 32 ((r.toNat % 256) ^^^ x.toNat) := by
    apply BitVec.eq_of_toNat_eq
    rw [BitVec.toNat_xor,BitVec.toNat_xor,BitVec.toNat_ofNat,BitVec.toNat_ofNat,BitVec.toNat_ofNat,Nat.mod_eq_of_lt (show x.toNat < 2 ^ 32 by omega),Nat.mod_eq_of_lt (show 256 * (r.toNat / 256) < 2 ^ 32 by omega),Nat.mod_eq_of_lt (show (r.toNat % 256) ^^^ x.toNat < 2 ^ 32 by omega),← Nat.xor_assoc]
    congr 1
    have h6 : 256 * (r.toNat / 256) ^^^ r.toNat % 256 = r.toNat := by
      have h7 : (256 * (r.toNat / 256) ^^^ r.toNat % 256) % 2 ^ 8 = r.toNat % 256 := by
        rw [Nat.xor_mod_two_pow,show 256 * (r.toNat / 256) % 2 ^ 8 = 0 by omega,Nat.zero_xor]
        omega
      have h8 : (256 * (r.toNat / 256) ^^^ r.toNat % 256) / 2 ^ 8 = r.toNat / 256 := by
        rw [Nat.xor_div_two_pow,show r.toNat % 256 / 2 ^ 8 = 0 by omega,Nat.xor_zero]
        omega
      omega
    exact h6.symm
  have h9 : stepN 8 (BitVec.ofNat 32 (256 * (r.toNat / 256))) = r >>> 8 := by
    apply BitVec.eq_of_toNat_eq
    have h8 := crcN_bits 8 (BitVec.ofNat 32 (256 * (r.toNat / 256)))
    rw [BitVec.toNat_ofNat,Nat.mod_eq_of_lt (by omega),crcN_even _ (by omega)] at h8
    rw [BitVec.toNat_ushiftRight,Nat.shiftRight_eq_div_pow]
    omega
  rw [h5,stepN_xor,h9]
def IsU32 (r : Int) : Prop := 0 ≤ r ∧ r < 4294967296
theorem IsU32.bits {r : Int} (h : IsU32 r) : ∃ a : BitVec 32,r = (a.toNat : Int) := ⟨BitVec.ofNat 32 r.toNat,by
  obtain ⟨h1,h2⟩ := h
  rw [BitVec.toNat_ofNat]
  omega⟩
theorem IsU32.of_bits (a : BitVec 32) : IsU32 (a.toNat : Int) := ⟨by omega,by have := a.isLt; omega⟩
theorem not32_u32 (r : Int) : IsU32 (not32 r) := by
  unfold not32 IsU32
  rw [wrap_u32]
  omega
theorem crc_next {r : Int} (h : IsU32 r) (x : UInt8) : IsU32 (ixor .u32 (ishr .u32 r 8) (crcT (ixor .u8 (IntKind.u8.wrap r) x.toNat).toNat)) := by
  show IsU32 (IntKind.u32.wrap _)
  unfold IsU32
  rw [wrap_u32]
  omega
theorem crcStep_div {v : Int} (h : IsU32 v) : crcStep v = if (v.tmod 2 == 1) = true then ixor .u32 (IntKind.u32.wrap (v.tdiv 2)) 3988292384 else IntKind.u32.wrap (v.tdiv 2) := by
  obtain ⟨a,rfl⟩ := h.bits
  have ha := a.isLt
  have h1 : iand .u32 (a.toNat : Int) 1 = ((a.toNat % 2 : Nat) : Int) := by
    show IntKind.u32.wrap (BitVec.ofInt 32 (a.toNat : Int) &&& BitVec.ofInt 32 1).toNat = _
    rw [ofInt_nat,BitVec.toNat_and,show (BitVec.ofInt 32 1).toNat = 1 from rfl,Nat.and_one_is_mod,wrap_u32]
    omega
  have h2 : ishr .u32 (a.toNat : Int) 1 = ((a.toNat / 2 : Nat) : Int) := by
    rw [ishr_nat _ _ _ (by decide)]
    rfl
  have h3 : (a.toNat : Int).tmod 2 = ((a.toNat % 2 : Nat) : Int) := rfl
  have h4 : IntKind.u32.wrap ((a.toNat : Int).tdiv 2) = ((a.toNat / 2 : Nat) : Int) := by
    rw [show (a.toNat : Int).tdiv 2 = ((a.toNat / 2 : Nat) : Int) from rfl,wrap_u32]
    omega
  unfold crcStep
  rw [h1,h2,h3,h4]
theorem wrap_IsU32 (x : Int) : IsU32 (IntKind.u32.wrap x) := by
  unfold IsU32
  rw [wrap_u32]
  omega
theorem c209 (hg : GlNR gl) (s : Int) (b : Bytes) (t : STok) (hb : b.length < 4294960000) : Pure Tryz.prog gl 209 [.int .u32 s,.sl 1 (b.map byteAV) t] (.ok (.int .u32 (crcX s b))) := by
  refine ⟨?_,by simp only [fgs,nrs,forall_eq_or_imp,forall_eq,implies_true],by simp only [nrs,forall_eq_or_imp,forall_eq,implies_true]⟩
  simp only [fgs]
  refine .of_run is209 (by simp) (mw_sound 200 ?_)
  repeat' first
    | with_reducible first | refine mw_as m209.eq_1 ?_ | refine opn m209k0.eq_1 ?_ | refine opn m209k1.eq_1 ?_ | refine opn m209k2.eq_1 ?_ | refine ⟨?_,?_⟩ | intro _
    | simp only [go_sem,↓reduceIte,Nat.reduceAdd,Nat.reduceLeDiff,Nat.reduceEqDiff,Nat.reduceBEq,Nat.reduceBNe,Nat.reduceMul,Nat.reduceLT,reduceCtorEq,Int.reduceLT,Int.reduceLE,Int.reduceToNat,Int.reduceNeg]
  rw [show crcX s b = not32 (crcR (not32 s) b) from rfl]
  generalize hR : crcR (not32 s) b = R
  have h0u := not32_u32 s
  change IsU32 (IntKind.u32.wrap _) at h0u
  refine .forUp b.length (fun i F S => ∃ r : Int,F = [(1,AV.sl 1 (b.map byteAV) .unk),(5,AV.int .u32 r),(6,AV.int .i64 i)] ∧ S = ⟨0,[],0,[],gl⟩ ∧ IsU32 r ∧ crcR r (b.drop i) = R) ⟨_,rfl,rfl,not32_u32 s,hR⟩ ?_
  rintro i F S hi ⟨r,rfl,rfl,hr,he⟩ ih
  by_cases h : i < b.length
  · obtain ⟨c,hc⟩ := some_of_lt h
    rw [drop_some hc,crcR] at he
    have hcl := c.toNat_lt
    have hwc : IntKind.u32.wrap (c.toNat : Int) = c.toNat := wrap_u32_in (by omega) (by omega)
    have hnext := crc_next hr c
    obtain ⟨a,rfl⟩ := hr.bits
    rw [← crc_byte] at he hnext
    refine opn m209l1.eq_1 ?_
    repeat' first
      | with_reducible first | refine mw_as m209.eq_1 ?_ | refine opn m209k0.eq_1 ?_ | refine opn m209k1.eq_1 ?_ | refine opn m209k2.eq_1 ?_ | refine ⟨?_,?_⟩ | intro _
      | simp only [go_sem,↓reduceIte,Nat.reduceAdd,Nat.reduceLeDiff,Nat.reduceEqDiff,Nat.reduceBEq,Nat.reduceBNe,Nat.reduceMul,Nat.reduceLT,reduceCtorEq,Int.reduceLT,Int.reduceLE,Int.reduceToNat,Int.reduceNeg,  hc,ltB h,ltP h,byteAV,hwc]
    refine .forUp 8 (fun k F S => ∃ v : Int,F = [(1,AV.sl 1 (b.map byteAV) .unk),(5,AV.int .u32 v),(6,AV.int .i64 i),(7,AV.int .i64 k)] ∧ S = ⟨0,[],0,[],gl⟩ ∧ IsU32 v ∧ crcN (8 - k) v = crcN 8 (ixor .u32 (a.toNat : Int) (c.toNat : Int))) ⟨_,rfl,rfl,?_,rfl⟩ ?_
    · show IsU32 (IntKind.u32.wrap _)
      unfold IsU32
      rw [wrap_u32]
      omega
    rintro k F S hk ⟨v,rfl,rfl,hv,hve⟩ ih2
    by_cases h8 : k < 8
    · have hd : decide ((k : Int) < 8) = true := decide_eq_true (by omega)
      rw [show 8 - k = (8 - (k + 1)) + 1 by omega,crcN,crcStep_div hv] at hve
      refine opn m209l0.eq_1 ?_
      repeat' first
        | with_reducible first | refine mw_as m209.eq_1 ?_ | refine opn m209k0.eq_1 ?_ | refine opn m209k1.eq_1 ?_ | refine opn m209k2.eq_1 ?_ | refine ⟨?_,?_⟩ | intro _
        | simp only [go_sem,↓reduceIte,Nat.reduceAdd,Nat.reduceLeDiff,Nat.reduceEqDiff,Nat.reduceBEq,Nat.reduceBNe,Nat.reduceMul,Nat.reduceLT,reduceCtorEq,Int.reduceLT,Int.reduceLE,Int.reduceToNat,Int.reduceNeg,  hd,wrap_succ (show k < 9223372036854775807 by omega)]
      all_goals first
        | decide
        | (rename_i h9
           rw [h9,if_pos rfl] at hve
           exact ih2 h8 _ _ ⟨_,rfl,rfl,wrap_IsU32 _,hve⟩)
        | (rename_i h9
           rw [h9,if_neg (by decide)] at hve
           exact ih2 h8 _ _ ⟨_,rfl,rfl,wrap_IsU32 _,hve⟩)
    · have hd : decide ((k : Int) < 8) = false := decide_eq_false (by omega)
      rw [show 8 - k = 0 by omega,crcN] at hve
      subst hve
      refine opn m209l0.eq_1 ?_
      repeat' first
        | with_reducible first | refine mw_as m209.eq_1 ?_ | refine opn m209k0.eq_1 ?_ | refine opn m209k1.eq_1 ?_ | refine opn m209k2.eq_1 ?_ | refine ⟨?_,?_⟩ | intro _
        | simp only [go_sem,↓reduceIte,Nat.reduceAdd,Nat.reduceLeDiff,Nat.reduceEqDiff,Nat.reduceBEq,Nat.reduceBNe,Nat.reduceMul,Nat.reduceLT,reduceCtorEq,Int.reduceLT,Int.reduceLE,Int.reduceToNat,Int.reduceNeg,  hd,wrap_succ (show i < 9223372036854775807 by omega)]
      exact ih h _ _ ⟨_,rfl,rfl,hnext,he⟩
  · refine opn m209l1.eq_1 ?_
    rw [List.drop_eq_nil_of_le (Nat.le_of_not_lt h),crcR] at he
    repeat' first
      | with_reducible first | refine mw_as m209.eq_1 ?_ | refine opn m209k0.eq_1 ?_ | refine opn m209k1.eq_1 ?_ | refine opn m209k2.eq_1 ?_ | refine ⟨?_,?_⟩ | intro _
      | simp only [go_sem,↓reduceIte,Nat.reduceAdd,Nat.reduceLeDiff,Nat.reduceEqDiff,Nat.reduceBEq,Nat.reduceBNe,Nat.reduceMul,Nat.reduceLT,reduceCtorEq,Int.reduceLT,Int.reduceLE,Int.reduceToNat,Int.reduceNeg,  geB (Nat.le_of_not_lt h)]
    rw [← he]
    rfl
theorem c181 (hg : GlNR gl) (b : Bytes) (t : STok) (hb : b.length < 4294960000) : Pure Tryz.prog gl 181 [.sl 1 (b.map byteAV) t] (.ok (.int .u32 (crcX 0 b))) := by
  refine ⟨?_,by simp only [fgs,nrs,forall_eq_or_imp,forall_eq,implies_true],by simp only [nrs,forall_eq_or_imp,forall_eq,implies_true]⟩
  simp only [fgs]
  refine .of_run is181 (by simp) (mw_sound 200 ?_)
  repeat' first
    | with_reducible first | refine mw_as m181.eq_1 ?_ | refine .pu (c209 hg 0 b .unk hb) hg rfl ?_ | refine ⟨?_,?_⟩ | intro _
    | simp only [go_sem,↓reduceIte,Nat.reduceAdd,Nat.reduceLeDiff,Nat.reduceEqDiff,Nat.reduceBEq,Nat.reduceBNe,Nat.reduceMul,Nat.reduceLT,reduceCtorEq,Int.reduceLT,Int.reduceLE,Int.reduceToNat,Int.reduceNeg]
theorem crcX_u32 (s : Int) (b : Bytes) : IsU32 (crcX s b) := not32_u32 _
theorem c128 (hg : GlNR gl) (p : Bytes) (t : STok) (hb : p.length < 4294960000) : Pure Tryz.prog gl 128 [.sl 1 (p.map byteAV) t] (.ok (.sl 1 ((sumB p).map byteAV) .unk)) := by
  refine Pure.ofFg ?_ (by simp only [fgs,nrs,forall_eq_or_imp,forall_eq,implies_true]) (by simp only [nrs,forall_eq_or_imp,forall_eq,implies_true])
  simp only [fgs]
  refine .of_run is128 (by simp) (mw_sound 200 ?_)
  have h181 := c181 hg p .unk hb
  repeat' first
    | with_reducible first | refine mw_as m128.eq_1 ?_ | refine .pu (h181) hg rfl ?_ | refine ⟨?_,?_⟩ | intro _
    | simp only [go_sem,↓reduceIte,Nat.reduceAdd,Nat.reduceLeDiff,Nat.reduceEqDiff,Nat.reduceBEq,Nat.reduceBNe,Nat.reduceMul,Nat.reduceLT,reduceCtorEq,Int.reduceLT,Int.reduceLE,Int.reduceToNat,Int.reduceNeg]
  all_goals first
    | decide
    | skip
  refine FgOut.mk' ?_
  obtain ⟨a,ha⟩ := (crcX_u32 0 p).bits
  have hlt := a.isLt
  have d1 : ∀ m : Nat,(a.toNat : Int).tmod (m : Int) = ((a.toNat % m : Nat) : Int) := fun _ => rfl
  have d2 : ∀ m : Nat,(a.toNat : Int).tdiv (m : Int) = ((a.toNat / m : Nat) : Int) := fun _ => rfl
  have e0 : IntKind.u8.wrap ((a.toNat : Int).tmod 256) = IntKind.u8.wrap (a.toNat : Int) := by
    rw [show (a.toNat : Int).tmod 256 = ((a.toNat % 256 : Nat) : Int) from rfl,wrap_u8,wrap_u8]; omega
  have e1 : IntKind.u8.wrap ((IntKind.u32.wrap ((a.toNat : Int).tdiv 256)).tmod 256) = IntKind.u8.wrap (ishr .u32 (a.toNat : Int) 8) := by
    rw [show (a.toNat : Int).tdiv 256 = ((a.toNat / 256 : Nat) : Int) from rfl,wrap_u32_in (by omega) (by omega),ishr_nat _ _ _ (by decide),show ((a.toNat / 256 : Nat) : Int).tmod 256 = ((a.toNat / 256 % 256 : Nat) : Int) from rfl,wrap_u8,wrap_u8]
    simp
  have e2 : IntKind.u8.wrap ((IntKind.u32.wrap ((a.toNat : Int).tdiv 65536)).tmod 256) = IntKind.u8.wrap (ishr .u32 (a.toNat : Int) 16) := by
    rw [show (a.toNat : Int).tdiv 65536 = ((a.toNat / 65536 : Nat) : Int) from rfl,wrap_u32_in (by omega) (by omega),ishr_nat _ _ _ (by decide),show ((a.toNat / 65536 : Nat) : Int).tmod 256 = ((a.toNat / 65536 % 256 : Nat) : Int) from rfl,wrap_u8,wrap_u8]
    simp
  have e3 : IntKind.u8.wrap (IntKind.u32.wrap ((a.toNat : Int).tdiv 16777216)) = IntKind.u8.wrap (ishr .u32 (a.toNat : Int) 24) := by
    rw [show (a.toNat : Int).tdiv 16777216 = ((a.toNat / 16777216 : Nat) : Int) from rfl,wrap_u32_in (by omega) (by omega),ishr_nat _ _ _ (by decide)]
    simp
  rw [ha,e0,e1,e2,e3,← ha]
  simp only [fgs,sumB,byte_eq]
  rfl
theorem c127 (hg : GlNR gl) (n : Nat) (hn : n < 18446744073709551616) : Toks Tryz.prog gl 127 [.int .u64 n] 1 ((uvar n).map byteAV) := by
  refine ⟨?_,by simp only [fgs,nrs,forall_eq_or_imp,forall_eq,implies_true],nrcB _⟩
  simp only [fgs]
  refine .of_run is127 (by simp) (mw_sound 200 ?_)
  repeat' first
    | with_reducible first | refine mw_as m127.eq_1 ?_ | refine opn m127k0.eq_1 ?_ | refine ⟨?_,?_⟩ | intro _
    | simp only [go_sem,↓reduceIte,Nat.reduceAdd,Nat.reduceLeDiff,Nat.reduceEqDiff,Nat.reduceBEq,Nat.reduceBNe,Nat.reduceMul,Nat.reduceLT,reduceCtorEq,Int.reduceLT,Int.reduceLE,Int.reduceToNat,Int.reduceNeg]
  refine .loop (fun F S => ∃ (cs : List UInt8) (m f : Nat) (tk : STok) (nt : Nat) (live : List Nat),F = [(0,.int .u64 m),(3,.sl 1 (cs.map byteAV) tk)] ∧ S = ⟨0,[],nt,live,gl⟩ ∧ AbT live tk ∧ m < 18446744073709551616 ∧ m < 128 ^ (f + 1) ∧ cs.length + f ≤ 9 ∧ cs ++ uvarF f m = uvarF 9 n)
    (fun F _ => match F with | (_,.int _ m) :: _ => m.toNat | _ => 0) ⟨[],n,9,.exact,0,[],rfl,rfl,.inl rfl,hn,by omega,by simp,by simp⟩ ?_
  rintro F S ⟨cs,m,f,tk,nt,live,rfl,rfl,hab,hm64,hm,hl,hc⟩ ih
  have hab2 := fun n ob nt => hab.able (gl := gl) n ob nt
  refine opn m127l0.eq_1 ?_
  by_cases h : 128 ≤ m
  · have hd : decide (128 ≤ (m : Int)) = true := decide_eq_true (by omega)
    obtain ⟨f,rfl⟩ : ∃ f',f = f' + 1 := ⟨f - 1,by cases f with | zero => simp at hm; omega | succ f => simp⟩
    have e1 : IntKind.u64.wrap ((m : Int).tdiv 128) = ((m / 128 : Nat) : Int) := by
      rw [show (m : Int).tdiv 128 = ((m / 128 : Nat) : Int) from rfl]
      exact wrap_u64_in (by omega) (by omega)
    have e2 : cs.map byteAV ++ [AV.int .u8 (IntKind.u8.wrap (IntKind.u8.wrap ((m : Int).tmod 128) + 128))] = (cs ++ [UInt8.ofNat (m % 128 + 128)]).map byteAV := by
      rw [List.map_append]
      congr 1
      simp only [List.map_cons,List.map_nil]
      rw [byteAV_ofNat,show (m : Int).tmod 128 = ((m % 128 : Nat) : Int) from rfl,wrap_u8,wrap_u8]
      congr 2
      omega
    repeat' first
      | with_reducible first | refine mw_as m127.eq_1 ?_ | refine opn m127k0.eq_1 ?_ | refine ⟨?_,?_⟩ | intro _
      | simp only [go_sem,↓reduceIte,Nat.reduceAdd,Nat.reduceLeDiff,Nat.reduceEqDiff,Nat.reduceBEq,Nat.reduceBNe,Nat.reduceMul,Nat.reduceLT,reduceCtorEq,Int.reduceLT,Int.reduceLE,Int.reduceToNat,Int.reduceNeg,  hd,use_eq,e1,e2]
    all_goals first
      | decide
      | exact hab2 _ _ _
      | omega
      | skip
    refine ih _ _ ⟨cs ++ [UInt8.ofNat (m % 128 + 128)],m / 128,f,_,_,_,rfl,rfl,.inr ⟨nt,rfl,List.mem_cons_self⟩,by omega,by rw [Nat.pow_succ] at hm; omega,by simp; omega,?_⟩ ?_
    · rw [← hc]
      conv => rhs; unfold uvarF
      rw [if_neg (by omega)]
      simp
    · simp
      omega
  · have hd : decide (128 ≤ (m : Int)) = false := decide_eq_false (by omega)
    repeat' first
      | with_reducible first | refine mw_as m127.eq_1 ?_ | refine opn m127k0.eq_1 ?_ | refine ⟨?_,?_⟩ | intro _
      | simp only [go_sem,↓reduceIte,Nat.reduceAdd,Nat.reduceLeDiff,Nat.reduceEqDiff,Nat.reduceBEq,Nat.reduceBNe,Nat.reduceMul,Nat.reduceLT,reduceCtorEq,Int.reduceLT,Int.reduceLE,Int.reduceToNat,Int.reduceNeg,  hd,use_eq]
    all_goals first
      | exact hab2 _ _ _
      | omega
      | skip
    rotate_left
    · refine congrArg (fun l => AV.sl 1 l (STok.tok _)) ?_
      have : uvarF f m = [UInt8.ofNat m] := by
        cases f with
        | zero => rfl
        | succ f => unfold uvarF; rw [if_pos (by omega)]
      rw [show uvar n = uvarF 9 n from rfl,← hc,this,wrap_u8,byte_mod]
      simp
theorem c130 (hg : GlNR gl) (n : Int) (hn : -9223372036854775808 ≤ n) (hn2 : n ≤ 9223372036854775807) : Toks Tryz.prog gl 130 [.int .i64 n] 1 ((uvar (zig n)).map byteAV) := by
  refine ⟨?_,by simp only [fgs,nrs,forall_eq_or_imp,forall_eq,implies_true],nrcB _⟩
  simp only [fgs]
  refine .of_run is130 (by simp) (mw_sound 200 ?_)
  have h127 := c127 (gl := gl) hg (zig n) (by unfold zig; split <;> omega)
  by_cases h : 0 ≤ n
  · have hd : decide (0 ≤ n) = true := decide_eq_true h
    have e1 : IntKind.u64.wrap (2 * IntKind.u64.wrap n) = ((zig n : Nat) : Int) := by
      rw [wrap_u64,wrap_u64,zig,if_pos h]
      omega
    repeat' first
      | with_reducible first | refine mw_as m130.eq_1 ?_ | refine .tk (h127) hg rfl ?_ | refine ⟨?_,?_⟩ | intro _
      | simp only [go_sem,↓reduceIte,Nat.reduceAdd,Nat.reduceLeDiff,Nat.reduceEqDiff,Nat.reduceBEq,Nat.reduceBNe,Nat.reduceMul,Nat.reduceLT,reduceCtorEq,Int.reduceLT,Int.reduceLE,Int.reduceToNat,Int.reduceNeg,  hd,own_eq,e1]
    rotate_left
    · rfl
    · rfl
  · have hd : decide (0 ≤ n) = false := decide_eq_false h
    have e1 : IntKind.u64.wrap (IntKind.u64.wrap (2 * IntKind.u64.wrap (IntKind.i64.wrap (0 - IntKind.i64.wrap (n + 1)))) + 1) = ((zig n : Nat) : Int) := by
      rw [wrap_i64_in (x := n + 1) (by omega) (by omega),wrap_i64_in (by omega) (by omega),wrap_u64,wrap_u64,wrap_u64,zig,if_neg h]
      omega
    repeat' first
      | with_reducible first | refine mw_as m130.eq_1 ?_ | refine .tk (h127) hg rfl ?_ | refine ⟨?_,?_⟩ | intro _
      | simp only [go_sem,↓reduceIte,Nat.reduceAdd,Nat.reduceLeDiff,Nat.reduceEqDiff,Nat.reduceBEq,Nat.reduceBNe,Nat.reduceMul,Nat.reduceLT,reduceCtorEq,Int.reduceLT,Int.reduceLE,Int.reduceToNat,Int.reduceNeg,  hd,own_eq,e1]
    rotate_left
    · rfl
    · rfl
theorem c129 (hg : GlNR gl) (s : Bytes) (hs : s.length < 4294967296) : Toks Tryz.prog gl 129 [.str s] 1 ((textE s).map byteAV) := by
  refine ⟨?_,by simp only [fgs,nrs,forall_eq_or_imp,forall_eq,implies_true],nrcB _⟩
  simp only [fgs]
  refine .of_run is129 (by simp) (mw_sound 200 ?_)
  have h127 := c127 (gl := gl) hg s.length (by omega)
  have hw : IntKind.u64.wrap (s.length : Int) = s.length := by rw [wrap_u64]; omega
  have hul := uvar_le s.length
  repeat' first
    | with_reducible first | refine mw_as m129.eq_1 ?_ | refine .tk (h127) hg rfl ?_ | refine ⟨?_,?_⟩ | intro _
    | simp only [go_sem,↓reduceIte,Nat.reduceAdd,Nat.reduceLeDiff,Nat.reduceEqDiff,Nat.reduceBEq,Nat.reduceBNe,Nat.reduceMul,Nat.reduceLT,reduceCtorEq,Int.reduceLT,Int.reduceLE,Int.reduceToNat,Int.reduceNeg,  hw,own_eq,use_eq,useL]
  any_goals first
    | exact .inr ⟨_,rfl,by simp⟩
    | omega
    | (simp [sumB_len]; omega)
  rotate_left
  · refine congrArg (fun l => AV.sl 1 l (STok.tok _)) ?_
    simp only [textE,List.map_append]
  · simp
theorem c133 (hg : GlNR gl) (a b : Bytes) (t u : STok) (ha : a.length ≤ 1000000000) (hb : b.length ≤ 1000000000) : Toks Tryz.prog gl 133 [.sl 1 (a.map byteAV) t,.sl 1 (b.map byteAV) u] 1 ((a ++ b).map byteAV) := by
  refine ⟨?_,by simp only [fgs,nrs,forall_eq_or_imp,forall_eq,implies_true],nrcB _⟩
  simp only [fgs]
  refine .of_run is133 (by simp) (mw_sound 200 ?_)
  repeat' first
    | with_reducible first | refine mw_as m133.eq_1 ?_ | refine ⟨?_,?_⟩ | intro _
    | simp only [go_sem,↓reduceIte,Nat.reduceAdd,Nat.reduceLeDiff,Nat.reduceEqDiff,Nat.reduceBEq,Nat.reduceBNe,Nat.reduceMul,Nat.reduceLT,reduceCtorEq,Int.reduceLT,Int.reduceLE,Int.reduceToNat,Int.reduceNeg,  own_eq,use_eq,useL]
  any_goals first
    | exact .inr ⟨_,rfl,by simp⟩
    | omega
    | (simp [sumB_len]; omega)
  rotate_left
  · refine congrArg (fun l => AV.sl 1 l (STok.tok _)) ?_
    simp only [List.map_append]
  · simp
theorem c75 (hg : GlNR gl) (p : Bytes) (t : STok) (hb : p.length ≤ 1000000000) : Toks Tryz.prog gl 75 [.sl 1 (p.map byteAV) t] 1 ((frameE p).map byteAV) := by
  refine ⟨?_,by simp only [fgs,nrs,forall_eq_or_imp,forall_eq,implies_true],nrcB _⟩
  simp only [fgs]
  refine .of_run is75 (by simp) (mw_sound 200 ?_)
  have h127 := c127 (gl := gl) hg p.length (by omega)
  have hw : IntKind.u64.wrap (p.length : Int) = p.length := by rw [wrap_u64]; omega
  have hul := uvar_le p.length
  have h128 := c128 (gl := gl) hg p .unk (by omega)
  repeat' first
    | with_reducible first | refine mw_as m75.eq_1 ?_ | refine .tk (h127) hg rfl ?_ | refine .pu (h128) hg rfl ?_ | refine ⟨?_,?_⟩ | intro _
    | simp only [go_sem,↓reduceIte,Nat.reduceAdd,Nat.reduceLeDiff,Nat.reduceEqDiff,Nat.reduceBEq,Nat.reduceBNe,Nat.reduceMul,Nat.reduceLT,reduceCtorEq,Int.reduceLT,Int.reduceLE,Int.reduceToNat,Int.reduceNeg,  hw,own_eq,use_eq,useL]
  any_goals first
    | exact .inr ⟨_,rfl,by simp⟩
    | omega
    | (simp [sumB_len]; omega)
  rotate_left
  · refine congrArg (fun l => AV.sl 1 l (STok.tok _)) ?_
    simp only [frameE,List.map_append,List.append_assoc]
  · simp
theorem slB_fg {ys : List AV} (tk : STok) {l' : Bytes} (h : ys = l'.map byteAV) : FgOut (.ok (.sl 1 ys tk)) (.sl 1 (l'.map byteAV) .unk) := .mk' (by subst h; simp only [fgs])
set_option maxHeartbeats 4000000 in
theorem c131 (hg : GlNR gl) (v : Val) (hv : chkR v = 0) : Pure Tryz.prog gl 131 [v.av] (.ok (.sl 1 ((valE v).map byteAV) .unk)) := by
  refine Pure.ofFg ?_ (by simp only [fgs,nrs,forall_eq_or_imp,forall_eq,implies_true]) (by simp only [nrs,forall_eq_or_imp,forall_eq,implies_true])
  simp only [fgs]
  refine .of_run is131 (by simp) (mw_sound 200 ?_)
  have h1 := chk_kinds hv
  obtain ⟨kd,n,s⟩ := v
  simp only at h1
  have dd : ∀ i j : Int,i ≠ j → (i == j) = false := fun i j h => by simpa using h
  rcases h1 with (⟨rfl,rfl,rfl⟩ | ⟨rfl,rfl | rfl,rfl⟩) | ⟨hk,rfl,hn,hn2⟩ | ⟨hk,rfl,hs⟩
  · skip
    repeat' first
      | with_reducible first | refine mw_as m131.eq_1 ?_ | refine opn m131k0.eq_1 ?_ | refine opn m131k1.eq_1 ?_ | refine opn m131k2.eq_1 ?_ | refine ⟨?_,?_⟩ | intro _
      | simp only [go_sem,↓reduceIte,Nat.reduceAdd,Nat.reduceLeDiff,Nat.reduceEqDiff,Nat.reduceBEq,Nat.reduceBNe,Nat.reduceMul,Nat.reduceLT,reduceCtorEq,Int.reduceLT,Int.reduceLE,Int.reduceToNat,Int.reduceNeg,  dd 0 1 (by decide),dd 0 2 (by decide),dd 0 3 (by decide),dd 0 4 (by decide),dd 0 5 (by decide)]
    all_goals first
      | exact .inr ⟨_,rfl,by simp⟩
      | exact .inl rfl
      | omega
      | (simp; omega)
      | (simp; done)
      | skip
    exact slB_fg _ (by simp [valE,textE,byteAV_ofNat,wrap_u8,byteAV])
  · skip
    repeat' first
      | with_reducible first | refine mw_as m131.eq_1 ?_ | refine opn m131k0.eq_1 ?_ | refine opn m131k1.eq_1 ?_ | refine opn m131k2.eq_1 ?_ | refine ⟨?_,?_⟩ | intro _
      | simp only [go_sem,↓reduceIte,Nat.reduceAdd,Nat.reduceLeDiff,Nat.reduceEqDiff,Nat.reduceBEq,Nat.reduceBNe,Nat.reduceMul,Nat.reduceLT,reduceCtorEq,Int.reduceLT,Int.reduceLE,Int.reduceToNat,Int.reduceNeg,  own_eq,use_eq]
    all_goals first
      | exact .inr ⟨_,rfl,by simp⟩
      | exact .inl rfl
      | omega
      | (simp; omega)
      | (simp; done)
      | skip
    exact slB_fg _ (by simp [valE,textE,byteAV_ofNat,wrap_u8,byteAV])
  · skip
    repeat' first
      | with_reducible first | refine mw_as m131.eq_1 ?_ | refine opn m131k0.eq_1 ?_ | refine opn m131k1.eq_1 ?_ | refine opn m131k2.eq_1 ?_ | refine ⟨?_,?_⟩ | intro _
      | simp only [go_sem,↓reduceIte,Nat.reduceAdd,Nat.reduceLeDiff,Nat.reduceEqDiff,Nat.reduceBEq,Nat.reduceBNe,Nat.reduceMul,Nat.reduceLT,reduceCtorEq,Int.reduceLT,Int.reduceLE,Int.reduceToNat,Int.reduceNeg,  own_eq,use_eq]
    all_goals first
      | exact .inr ⟨_,rfl,by simp⟩
      | exact .inl rfl
      | omega
      | (simp; omega)
      | (simp; done)
      | skip
    exact slB_fg _ (by simp [valE,textE,byteAV_ofNat,wrap_u8,byteAV])
  · have h130 := c130 (gl := gl) hg n (by omega) (by omega)
    have hul := uvar_le (zig n)
    rcases hk with rfl | rfl
    · skip
      repeat' first
        | with_reducible first | refine mw_as m131.eq_1 ?_ | refine opn m131k0.eq_1 ?_ | refine opn m131k1.eq_1 ?_ | refine opn m131k2.eq_1 ?_ | refine .tk (h130) hg rfl ?_ | refine ⟨?_,?_⟩ | intro _
        | simp only [go_sem,↓reduceIte,Nat.reduceAdd,Nat.reduceLeDiff,Nat.reduceEqDiff,Nat.reduceBEq,Nat.reduceBNe,Nat.reduceMul,Nat.reduceLT,reduceCtorEq,Int.reduceLT,Int.reduceLE,Int.reduceToNat,Int.reduceNeg,  dd 2 1 (by decide),dd 2 3 (by decide),own_eq,use_eq]
      all_goals first
        | exact .inr ⟨_,rfl,by simp⟩
        | exact .inl rfl
        | omega
        | (simp; omega)
        | (simp; done)
        | skip
      exact slB_fg _ (by simp [valE,textE,byteAV_ofNat,wrap_u8,byteAV])
    · skip
      repeat' first
        | with_reducible first | refine mw_as m131.eq_1 ?_ | refine opn m131k0.eq_1 ?_ | refine opn m131k1.eq_1 ?_ | refine opn m131k2.eq_1 ?_ | refine .tk (h130) hg rfl ?_ | refine ⟨?_,?_⟩ | intro _
        | simp only [go_sem,↓reduceIte,Nat.reduceAdd,Nat.reduceLeDiff,Nat.reduceEqDiff,Nat.reduceBEq,Nat.reduceBNe,Nat.reduceMul,Nat.reduceLT,reduceCtorEq,Int.reduceLT,Int.reduceLE,Int.reduceToNat,Int.reduceNeg,  dd 3 1 (by decide),dd 3 2 (by decide),own_eq,use_eq]
      all_goals first
        | exact .inr ⟨_,rfl,by simp⟩
        | exact .inl rfl
        | omega
        | (simp; omega)
        | (simp; done)
        | skip
      exact slB_fg _ (by simp [valE,textE,byteAV_ofNat,wrap_u8,byteAV])
  · have h129 := c129 (gl := gl) hg s (by omega)
    have hul := uvar_le s.length
    have htl : (textE s).length ≤ 100 := by simp only [textE,List.length_append]; omega
    rcases hk with rfl | rfl
    · skip
      repeat' first
        | with_reducible first | refine mw_as m131.eq_1 ?_ | refine opn m131k0.eq_1 ?_ | refine opn m131k1.eq_1 ?_ | refine opn m131k2.eq_1 ?_ | refine .tk (h129) hg rfl ?_ | refine ⟨?_,?_⟩ | intro _
        | simp only [go_sem,↓reduceIte,Nat.reduceAdd,Nat.reduceLeDiff,Nat.reduceEqDiff,Nat.reduceBEq,Nat.reduceBNe,Nat.reduceMul,Nat.reduceLT,reduceCtorEq,Int.reduceLT,Int.reduceLE,Int.reduceToNat,Int.reduceNeg,  dd 4 1 (by decide),dd 4 2 (by decide),dd 4 3 (by decide),dd 4 5 (by decide),own_eq,use_eq]
      all_goals first
        | exact .inr ⟨_,rfl,by simp⟩
        | exact .inl rfl
        | omega
        | (simp; omega)
        | (simp; done)
        | skip
      exact slB_fg _ (by simp [valE,textE,byteAV_ofNat,wrap_u8,byteAV])
    · skip
      repeat' first
        | with_reducible first | refine mw_as m131.eq_1 ?_ | refine opn m131k0.eq_1 ?_ | refine opn m131k1.eq_1 ?_ | refine opn m131k2.eq_1 ?_ | refine .tk (h129) hg rfl ?_ | refine ⟨?_,?_⟩ | intro _
        | simp only [go_sem,↓reduceIte,Nat.reduceAdd,Nat.reduceLeDiff,Nat.reduceEqDiff,Nat.reduceBEq,Nat.reduceBNe,Nat.reduceMul,Nat.reduceLT,reduceCtorEq,Int.reduceLT,Int.reduceLE,Int.reduceToNat,Int.reduceNeg,  dd 5 1 (by decide),dd 5 2 (by decide),dd 5 3 (by decide),dd 5 4 (by decide),own_eq,use_eq]
      all_goals first
        | exact .inr ⟨_,rfl,by simp⟩
        | exact .inl rfl
        | omega
        | (simp; omega)
        | (simp; done)
        | skip
      exact slB_fg _ (by simp [valE,textE,byteAV_ofNat,wrap_u8,byteAV])
end Go.Proofs.YtdjdhecanjmchaaGreatDoor
namespace Go.Proofs.YtdjdhecanjmchaaGreatDoor
open Go Go.V Go.Lib
set_option maxRecDepth 40000
attribute [local go_sem ↓] keepK Opd.ev MK.ev MK.ob gsA
attribute [local go_sem high] gsB
attribute [local go_sem] binEv binOb intOp strOp unEv eqvEv eqCells eqCell noBld tasEv AV.there AV.plus pickCells storeEv AV.solid AV.cells splice putParts rowOK fldEv iarrEv extEv minEv nonNil lenEv isStr appEv appOb appArg slVecEv slVecOb slStrEv slStrOb bnd argF endQ rvsEv rvEv resOf St.none if_true if_false ite_self eq_self ne_eq implies_true forall_const Lab.av Val.av Exa.av Dset.av Req.av gsC
variable {gl : List (Nat × List AV)}
set_option maxHeartbeats 4000000 in
theorem c76 (hg : GlNR gl) (d : Dset) (hf : formB d = true) (hs : SmallD d) : Toks Tryz.prog gl 76 [d.av] 1 ((headE (hd d)).map byteAV) := by
  refine ⟨?_,by simp only [fgs,nrs,forall_eq_or_imp,forall_eq,implies_true],nrcB _⟩
  simp only [fgs]
  refine .of_run is76 (by simp) (mw_sound 200 ?_)
  obtain ⟨⟨⟨_,⟨_,_⟩,⟨_,hfl⟩,_⟩,hhl⟩,hll⟩ := formB_ok hf
  have hF := formF hf
  have hel := hs.ent
  have hf8 := hF.fs
  have hx8 := hF.xs
  have hB : ∀ s r : Bytes,headE (hd d) = s ++ r → s.length ≤ 8192 := fun s r he => by have := congrArg List.length he; rw [List.length_append] at this; omega
  have h129 := c129 (gl := gl) hg d.ent (by omega)
  have h127 := c127 (gl := gl) hg d.fs.length (by omega)
  have htl := hB (textE d.ent) _ rfl
  have hul := uvar_le d.fs.length
  have hw : IntKind.u64.wrap (d.fs.length : Int) = d.fs.length := wrap_u64_in (by omega) (by omega)
  have hw2 : IntKind.u64.wrap (d.xs.length : Int) = d.xs.length := wrap_u64_in (by omega) (by omega)
  repeat' first
    | with_reducible first | refine mw_as m76.eq_1 ?_ | refine opn m76k0.eq_1 ?_ | refine .tk (h129) hg rfl ?_ | refine .tk (h127) hg rfl ?_ | refine ⟨?_,?_⟩ | intro _
    | simp only [go_sem,↓reduceIte,Nat.reduceAdd,Nat.reduceLeDiff,Nat.reduceEqDiff,Nat.reduceBEq,Nat.reduceBNe,Nat.reduceMul,Nat.reduceLT,reduceCtorEq,Int.reduceLT,Int.reduceLE,Int.reduceToNat,Int.reduceNeg,  hw,own_eq,use_eq]
  all_goals first
    | exact .inr ⟨_,rfl,by simp⟩
    | omega
    | (simp; omega)
    | (simp; done)
    | skip
  have hap : List.map byteAV (textE d.ent) ++ List.map byteAV (uvar d.fs.length) = (textE d.ent ++ uvar d.fs.length).map byteAV := by rw [List.map_append]
  rw [hap]
  refine .forUp d.fs.length (fun i F S => ∃ (acc : Bytes) (tk : STok) (t : Nat) (live : List Nat),AbT live tk ∧ F = [(1,AV.ptr 0 0),(3,AV.sl 1 (acc.map byteAV) tk),(4,AV.int IntKind.i64 i)] ∧
    S = ⟨1,[(0,[AV.str d.ent,AV.sl 1 (List.map AV.str d.fs) STok.unk,AV.sl 4 (List.map Exa.av d.xs) STok.unk])],t,live,gl⟩ ∧ headE (hd d) = acc ++ ((d.fs.drop i).flatMap textE ++ uvar d.xs.length)) ⟨_,_,_,_,.inr ⟨_,rfl,List.mem_cons_self⟩,rfl,rfl,by simp [headE,hd]⟩ ?_
  rintro i F S hi ⟨acc,tk,t,live,hab,rfl,rfl,he⟩ ih
  have hal := hB _ _ he
  have hab3 : ∀ (n : Nat) (ob : List (Nat × List AV)) (nt m : Nat),Able ⟨n,ob,nt,m :: live,gl⟩ tk := fun n ob nt m => by
    rcases hab with rfl | ⟨a,rfl,ha⟩
    · exact .inl rfl
    · exact .inr ⟨a,rfl,List.mem_cons_of_mem _ ha⟩
  by_cases h : i < d.fs.length
  · obtain ⟨f,hff⟩ := some_of_lt h
    have hfle := hfl f (List.mem_of_getElem? hff)
    rw [drop_some hff,List.flatMap_cons,List.append_assoc,← List.append_assoc] at he
    have htf : (textE f).length ≤ 8192 := by have := hB _ _ he; simp at this; omega
    have h129f := c129 (gl := gl) hg f (by simp [textE] at htf; omega)
    have hap2 : List.map byteAV acc ++ List.map byteAV (textE f) = (acc ++ textE f).map byteAV := by rw [List.map_append]
    refine opn m76l0.eq_1 ?_
    repeat' first
      | with_reducible first | refine mw_as m76.eq_1 ?_ | refine opn m76k0.eq_1 ?_ | refine .tk (h129f) hg rfl ?_ | refine ⟨?_,?_⟩ | intro _
      | simp only [go_sem,↓reduceIte,Nat.reduceAdd,Nat.reduceLeDiff,Nat.reduceEqDiff,Nat.reduceBEq,Nat.reduceBNe,Nat.reduceMul,Nat.reduceLT,reduceCtorEq,Int.reduceLT,Int.reduceLE,Int.reduceToNat,Int.reduceNeg,  hff,ltB h,ltP h,own_eq,use_eq,hap2,wrap_succ (show i < 9223372036854775807 by omega)]
    all_goals first
      | exact hab3 _ _ _ _
      | omega
      | (simp; omega)
      | (simp; done)
      | skip
    exact ih h _ _ ⟨_,_,_,_,.inr ⟨_,rfl,List.mem_cons_self⟩,rfl,rfl,he⟩
  · have h127e := c127 (gl := gl) hg d.xs.length (by omega)
    have hul2 := uvar_le d.xs.length
    rw [List.drop_eq_nil_of_le (Nat.le_of_not_lt h)] at he
    refine opn m76l0.eq_1 ?_
    repeat' first
      | with_reducible first | refine mw_as m76.eq_1 ?_ | refine opn m76k0.eq_1 ?_ | refine .tk (h127e) hg rfl ?_ | refine ⟨?_,?_⟩ | intro _
      | simp only [go_sem,↓reduceIte,Nat.reduceAdd,Nat.reduceLeDiff,Nat.reduceEqDiff,Nat.reduceBEq,Nat.reduceBNe,Nat.reduceMul,Nat.reduceLT,reduceCtorEq,Int.reduceLT,Int.reduceLE,Int.reduceToNat,Int.reduceNeg,  geB (Nat.le_of_not_lt h),hw2,own_eq,use_eq]
    · exact hab3 _ _ _ _
    · omega
    · omega
    rotate_left
    · refine congrArg (fun l => AV.sl 1 l (STok.tok _)) ?_
      rw [he,← List.map_append]
      rfl
    · simp
theorem flat_ge : ∀ l : List Val,l.length ≤ (l.flatMap valE).length
  | [] => by simp
  | v :: l => by
    have := flat_ge l
    simp only [List.flatMap_cons,List.length_append,List.length_cons,valE]
    omega
set_option maxHeartbeats 4000000 in
theorem c77 (hg : GlNR gl) (x : Exa) {c : Nat} (hx : LineOK c x) (hl : (lineE x).length ≤ 8192) (htx : tickB x.lab.e = true ∧ tickB x.lab.n = true) : Toks Tryz.prog gl 77 [x.av] 1 ((lineE x).map byteAV) := by
  refine ⟨?_,by simp only [fgs,nrs,forall_eq_or_imp,forall_eq,implies_true],nrcB _⟩
  simp only [fgs]
  refine .of_run is77 (by simp) (mw_sound 200 ?_)
  obtain ⟨hkl,_,_,hvl,hvv⟩ := hx
  simp only [tickB,Bool.and_eq_true,decide_eq_true_eq] at htx
  have hB : ∀ s r : Bytes,lineE x = s ++ r → s.length ≤ 8192 := fun s r he => by have := congrArg List.length he; rw [List.length_append] at this; omega
  have htl := hB (textE x.lab.k) _ rfl
  have h129 := c129 (gl := gl) hg x.lab.k (by simp [textE] at htl; omega)
  have h130 := c130 (gl := gl) hg x.lab.e (by omega) (by omega)
  have h130b := c130 (gl := gl) hg x.lab.n (by omega) (by omega)
  have hu1 := uvar_le (zig x.lab.e)
  have hu2 := uvar_le (zig x.lab.n)
  repeat' first
    | with_reducible first | refine mw_as m77.eq_1 ?_ | refine opn m77k0.eq_1 ?_ | refine .tk (h129) hg rfl ?_ | refine .tk (h130) hg rfl ?_ | refine .tk (h130b) hg rfl ?_ | refine ⟨?_,?_⟩ | intro _
    | simp only [go_sem,↓reduceIte,Nat.reduceAdd,Nat.reduceLeDiff,Nat.reduceEqDiff,Nat.reduceBEq,Nat.reduceBNe,Nat.reduceMul,Nat.reduceLT,reduceCtorEq,Int.reduceLT,Int.reduceLE,Int.reduceToNat,Int.reduceNeg,  own_eq,use_eq]
  all_goals first
    | exact .inr ⟨_,rfl,by simp [useL]⟩
    | omega
    | (simp; omega)
    | skip
  have hap : List.map byteAV (textE x.lab.k) ++ List.map byteAV (uvar (zig x.lab.e)) ++ List.map byteAV (uvar (zig x.lab.n)) = (textE x.lab.k ++ (uvar (zig x.lab.e) ++ uvar (zig x.lab.n))).map byteAV := by simp only [List.map_append,List.append_assoc]
  rw [hap]
  refine .forUp x.vs.length (fun i F S => ∃ (acc : Bytes) (tk : STok) (t : Nat) (live : List Nat),AbT live tk ∧ (∃ a,tk = .tok a ∧ a ∈ live) ∧ F = [(1,AV.ptr 0 0),(3,AV.sl 1 (acc.map byteAV) tk),(4,AV.int IntKind.i64 i)] ∧
    S = ⟨1,[(0,[AV.str x.lab.k,AV.int IntKind.i64 x.lab.e,AV.int IntKind.i64 x.lab.n,AV.sl 3 (List.map Val.av x.vs) STok.unk])],t,live,gl⟩ ∧ lineE x = acc ++ (x.vs.drop i).flatMap valE) ⟨_,_,_,_,.inr ⟨_,rfl,List.mem_cons_self⟩,⟨_,rfl,List.mem_cons_self⟩,rfl,rfl,by simp [lineE]⟩ ?_
  rintro i F S hi ⟨acc,tk,t,live,hab,hex,rfl,rfl,he⟩ ih
  have hal := hB _ _ he
  have hab3 : ∀ (n : Nat) (ob : List (Nat × List AV)) (nt : Nat),Able ⟨n,ob,nt,live,gl⟩ tk := fun n ob nt => hab.able n ob nt
  have hxv : x.vs.length < 4294960000 := by
    have := flat_ge x.vs
    have h9 : (x.vs.flatMap valE).length ≤ 8192 := by have := congrArg List.length (show lineE x = textE x.lab.k ++ (uvar (zig x.lab.e) ++ (uvar (zig x.lab.n) ++ x.vs.flatMap valE)) from rfl); simp only [List.length_append] at this; omega
    omega
  by_cases h : i < x.vs.length
  · obtain ⟨v,hv⟩ := some_of_lt h
    have hcv := hvv v (List.mem_of_getElem? hv)
    rw [drop_some hv,List.flatMap_cons,← List.append_assoc] at he
    have h131 := c131 (gl := gl) hg v hcv
    have hvl := valE_len hcv
    have hap2 : List.map byteAV acc ++ List.map byteAV (valE v) = (acc ++ valE v).map byteAV := by rw [List.map_append]
    refine opn m77l0.eq_1 ?_
    repeat' first
      | with_reducible first | refine mw_as m77.eq_1 ?_ | refine opn m77k0.eq_1 ?_ | refine .pu (h131) hg rfl ?_ | refine ⟨?_,?_⟩ | intro _
      | simp only [go_sem,↓reduceIte,Nat.reduceAdd,Nat.reduceLeDiff,Nat.reduceEqDiff,Nat.reduceBEq,Nat.reduceBNe,Nat.reduceMul,Nat.reduceLT,reduceCtorEq,Int.reduceLT,Int.reduceLE,Int.reduceToNat,Int.reduceNeg,  hv,ltB h,ltP h,own_eq,use_eq,hap2,wrap_succ (show i < 9223372036854775807 by omega)]
    all_goals first
      | exact hab3 _ _ _
      | omega
      | (simp; omega)
      | (simp; done)
      | skip
    exact ih h _ _ ⟨_,_,_,_,.inr ⟨_,rfl,List.mem_cons_self⟩,⟨_,rfl,List.mem_cons_self⟩,rfl,rfl,he⟩
  · rw [List.drop_eq_nil_of_le (Nat.le_of_not_lt h),List.flatMap_nil,List.append_nil] at he
    obtain ⟨a,rfl,ha⟩ := hex
    refine opn m77l0.eq_1 ?_
    repeat' first
      | with_reducible first | refine mw_as m77.eq_1 ?_ | refine opn m77k0.eq_1 ?_ | refine ⟨?_,?_⟩ | intro _
      | simp only [go_sem,↓reduceIte,Nat.reduceAdd,Nat.reduceLeDiff,Nat.reduceEqDiff,Nat.reduceBEq,Nat.reduceBNe,Nat.reduceMul,Nat.reduceLT,reduceCtorEq,Int.reduceLT,Int.reduceLE,Int.reduceToNat,Int.reduceNeg,  geB (Nat.le_of_not_lt h)]
    rotate_left
    · exact congrArg (fun l => AV.sl 1 (List.map byteAV l) (STok.tok a)) he.symm
    · exact ha
set_option maxHeartbeats 4000000 in
theorem c28 (hg : GlNR gl) (d : Dset) (hs : SmallD d) : Pure Tryz.prog gl 28 [d.av] (.ok (encAV d)) := by
  refine Pure.ofFg ?_ (by simp only [fgs,nrs,forall_eq_or_imp,forall_eq,implies_true]) (by simp only [encAV,nrs,forall_eq_or_imp,forall_eq,implies_true])
  simp only [fgs]
  refine .of_run is28 (by simp) (mw_sound 200 ?_)
  have h22 := c22 hg d hs
  rcases Bool.eq_false_or_eq_true (formB d) with hf | hf
  · obtain ⟨⟨_,hhl⟩,hll⟩ := formB_ok hf
    rw [hf] at h22
    have h76 := c76 hg d hf hs
    have h75 := c75 hg (headE (hd d)) (.tok 0) (by omega)
    repeat' first
      | with_reducible first | refine mw_as m28.eq_1 ?_ | refine opn m28k0.eq_1 ?_ | refine .pu (h22) hg rfl ?_ | refine .tk (h76) hg rfl ?_ | refine .tk (h75) hg rfl ?_ | refine ⟨?_,?_⟩ | intro _
      | simp only [go_sem,↓reduceIte,Nat.reduceAdd,Nat.reduceLeDiff,Nat.reduceEqDiff,Nat.reduceBEq,Nat.reduceBNe,Nat.reduceMul,Nat.reduceLT,reduceCtorEq,Int.reduceLT,Int.reduceLE,Int.reduceToNat,Int.reduceNeg,  own_eq,use_eq]
    have hT : ∀ s r : Bytes,encB d = s ++ r → s.length ≤ 5000000 := fun s r he => by
      have h1 := congrArg List.length he
      have h2 := encB_len hf
      rw [List.length_append] at h1
      omega
    have hF := formF hf
    refine .forUp d.xs.length (fun j F S => ∃ (B : Bytes) (tk : STok) (t : Nat) (live : List Nat),AbT live tk ∧ F = [(1,AV.ptr 0 0),(4,AV.sl 1 (B.map byteAV) tk),(5,AV.int IntKind.i64 j)] ∧
      S = ⟨1,[(0,[AV.str d.ent,AV.sl 1 (List.map AV.str d.fs) STok.unk,AV.sl 4 (List.map Exa.av d.xs) STok.unk])],t,live,gl⟩ ∧ encB d = B ++ (d.xs.drop j).flatMap (fun x => frameE (lineE x))) ⟨_,_,_,_,.inr ⟨_,rfl,List.mem_cons_self⟩,rfl,rfl,rfl⟩ ?_
    rintro j F S hj ⟨B,tk,t,live,hab,rfl,rfl,he⟩ ih
    have hBl := hT _ _ he
    by_cases h2 : j < d.xs.length
    · obtain ⟨x,hx⟩ := some_of_lt h2
      obtain ⟨hlx,hlx2⟩ := hll x (List.mem_of_getElem? hx)
      have hxl := hs.xs
      have h77 := c77 hg x hlx hlx2 (hF.lab x (List.mem_of_getElem? hx))
      have h75x := c75 hg (lineE x) (.tok t) (by omega)
      have hfl := sumB_len (lineE x)
      have hul := uvar_le (lineE x).length
      have hfr : (frameE (lineE x)).length ≤ 9000 := by simp only [frameE,List.length_append]; omega
      rw [drop_some hx,List.flatMap_cons,← List.append_assoc] at he
      have hap2 : List.map byteAV B ++ List.map byteAV (frameE (lineE x)) = (B ++ frameE (lineE x)).map byteAV := by rw [List.map_append]
      have hab3 : ∀ (n : Nat) (ob : List (Nat × List AV)) (nt a b : Nat),Able ⟨n,ob,nt,a :: b :: live,gl⟩ tk := fun n ob nt a b => by
        rcases hab with rfl | ⟨c,rfl,hc⟩
        · exact .inl rfl
        · exact .inr ⟨c,rfl,List.mem_cons_of_mem _ (List.mem_cons_of_mem _ hc)⟩
      refine opn m28l0.eq_1 ?_
      repeat' first
        | with_reducible first | refine mw_as m28.eq_1 ?_ | refine opn m28k0.eq_1 ?_ | refine .tk (h77) hg rfl ?_ | refine .tk (h75x) hg rfl ?_ | refine ⟨?_,?_⟩ | intro _
        | simp only [go_sem,↓reduceIte,Nat.reduceAdd,Nat.reduceLeDiff,Nat.reduceEqDiff,Nat.reduceBEq,Nat.reduceBNe,Nat.reduceMul,Nat.reduceLT,reduceCtorEq,Int.reduceLT,Int.reduceLE,Int.reduceToNat,Int.reduceNeg,  hx,ltB h2,ltP h2,own_eq,use_eq,hap2,wrap_succ (show j < 9223372036854775807 by omega)]
      all_goals first
        | exact hab3 _ _ _ _ _
        | omega
        | skip
      exact ih h2 _ _ ⟨_,_,_,_,.inr ⟨_,rfl,List.mem_cons_self⟩,rfl,rfl,he⟩
    · refine opn m28l0.eq_1 ?_
      rw [List.drop_eq_nil_of_le (Nat.le_of_not_lt h2)] at he
      repeat' first
        | with_reducible first | refine mw_as m28.eq_1 ?_ | refine opn m28k0.eq_1 ?_ | refine ⟨?_,?_⟩ | intro _
        | simp only [go_sem,↓reduceIte,Nat.reduceAdd,Nat.reduceLeDiff,Nat.reduceEqDiff,Nat.reduceBEq,Nat.reduceBNe,Nat.reduceMul,Nat.reduceLT,reduceCtorEq,Int.reduceLT,Int.reduceLE,Int.reduceToNat,Int.reduceNeg,  geB (Nat.le_of_not_lt h2)]
      exact enc_done hf (by simpa using he)
  · rw [hf] at h22
    repeat' first
      | with_reducible first | refine mw_as m28.eq_1 ?_ | refine opn m28k0.eq_1 ?_ | refine .pu (h22) hg rfl ?_ | refine ⟨?_,?_⟩ | intro _
      | simp only [go_sem,↓reduceIte,Nat.reduceAdd,Nat.reduceLeDiff,Nat.reduceEqDiff,Nat.reduceBEq,Nat.reduceBNe,Nat.reduceMul,Nat.reduceLT,reduceCtorEq,Int.reduceLT,Int.reduceLE,Int.reduceToNat,Int.reduceNeg]
    all_goals exact enc_bad hf
end Go.Proofs.YtdjdhecanjmchaaGreatDoor
