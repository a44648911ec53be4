/- Contracts: the hash, the program's and the reference's. -/
import Derived.Test.YtdjdhecanjmchaaGreatDoorFa
import Derived.Test.YtdjdhecanjmchaaGreatDoorFb
import Derived.Test.YtdjdhecanjmchaaGreatDoorFc
import Derived.Test.YtdjdhecanjmchaaGreatDoorHa
import Derived.Test.YtdjdhecanjmchaaGreatDoorQa
import Derived.Test.YtdjdhecanjmchaaGreatDoorE5
import Derived.Test.YtdjdhecanjmchaaGreatDoorD0
set_option linter.unusedSimpArgs false
set_option linter.unusedVariables false
namespace Go.Proofs.YtdjdhecanjmchaaGreatDoor
open Go Go.V Go.Lib
set_option maxRecDepth 40000
attribute [local go_sem ↓] keepK Opd.ev MK.ev MK.ob gsA
attribute [local go_sem high] gsB
attribute [local go_sem] binEv binOb intOp strOp unEv eqvEv eqCells eqCell noBld tasEv AV.there AV.plus pickCells storeEv AV.solid AV.cells splice putParts rowOK fldEv iarrEv extEv minEv nonNil lenEv isStr appEv appOb appArg slVecEv slVecOb slStrEv slStrOb bnd argF endQ rvsEv rvEv resOf St.none if_true if_false ite_self eq_self ne_eq implies_true forall_const Lab.av Val.av Exa.av Dset.av Req.av gsC
variable {gl : List (Nat × List AV)}
def mixA (x : Int) : Int := IntKind.u64.wrap (ixor .u64 x (ishr .u64 x 30) * 13787848793156543929)
def mixB (x : Int) : Int := IntKind.u64.wrap (ixor .u64 x (ishr .u64 x 27) * 10723151780598845931)
def mixX (x : Int) : Int := ixor .u64 (mixB (mixA x)) (ishr .u64 (mixB (mixA x)) 31)
theorem c138 (x : Int) : Pure Tryz.prog gl 138 [.int .u64 x] (.ok (.int .u64 (mixX x))) := by
  refine ⟨?_,by simp only [fgs,nrs,forall_eq_or_imp,forall_eq,implies_true],by simp only [nrs,forall_eq_or_imp,forall_eq,implies_true]⟩
  simp only [fgs]
  refine .of_run is138 (by simp) (mw_sound 200 ?_)
  repeat' first
    | with_reducible first | refine mw_as m138.eq_1 ?_ | refine ⟨?_,?_⟩ | intro _
    | simp only [go_sem,↓reduceIte,Nat.reduceAdd,Nat.reduceLeDiff,Nat.reduceEqDiff,Nat.reduceBEq,Nat.reduceBNe,Nat.reduceMul,Nat.reduceLT,reduceCtorEq,Int.reduceLT,Int.reduceLE,Int.reduceToNat,Int.reduceNeg]
  rfl
theorem c139 (x : Int) : Pure Tryz.prog gl 139 [.int .u64 x] (.ok (.int .u64 (mixX x))) := by
  refine ⟨?_,by simp only [fgs,nrs,forall_eq_or_imp,forall_eq,implies_true],by simp only [nrs,forall_eq_or_imp,forall_eq,implies_true]⟩
  simp only [fgs]
  refine .of_run is139 (by simp) (mw_sound 200 ?_)
  repeat' first
    | with_reducible first | refine mw_as m139.eq_1 ?_ | refine ⟨?_,?_⟩ | intro _
    | simp only [go_sem,↓reduceIte,Nat.reduceAdd,Nat.reduceLeDiff,Nat.reduceEqDiff,Nat.reduceBEq,Nat.reduceBNe,Nat.reduceMul,Nat.reduceLT,reduceCtorEq,Int.reduceLT,Int.reduceLE,Int.reduceToNat,Int.reduceNeg]
  rfl
def grpN : Bytes → Nat
  | [] => 0
  | x :: l => x.toNat + 256 * grpN l
theorem grpN_lt : ∀ l : Bytes,grpN l < 256 ^ l.length
  | [] => by simp [grpN]
  | x :: l => by
    have := grpN_lt l
    have hx := x.toNat_lt
    simp only [grpN,List.length_cons,Nat.pow_succ]
    omega
theorem grpN_snoc (x : UInt8) : ∀ l : Bytes,grpN (l ++ [x]) = grpN l + x.toNat * 256 ^ l.length
  | [] => by simp [grpN]
  | y :: l => by
    simp only [List.cons_append,grpN,grpN_snoc x l,List.length_cons,Nat.pow_succ]
    rw [Nat.mul_add,← Nat.mul_assoc,Nat.mul_comm 256 x.toNat,Nat.mul_assoc,Nat.mul_comm (256 ^ l.length) 256,Nat.add_assoc]
abbrev golden : Int := 11400714819323198485
def hashF : Nat → Int → Bytes → Int
  | 0,h,_ => h
  | n + 1,h,b => if b.length = 0 then h else hashF n (mixX (IntKind.u64.wrap (ixor .u64 h (grpN (b.take 8)) + golden))) (b.drop 8)
def hashX (seed : Int) (b : Bytes) : Int := mixX (hashF b.length (ixor .u64 seed (IntKind.u64.wrap (b.length * golden))) b)
theorem hashF_nil (n : Nat) (h : Int) : hashF n h [] = h := by cases n <;> rfl
theorem or_shift8 (N x i : Nat) (hN : N < 256 ^ i) (hx : N + x * 256 ^ i < 18446744073709551616) (hi : i < 8) : ior .u64 (N : Int) (ishl .u64 (x : Int) ((8 * i : Nat) : Int)) = ((N + x * 256 ^ i : Nat) : Int) := by
  have hp : (256 : Nat) ^ i = 2 ^ (8 * i) := by rw [Nat.pow_mul]
  have h1 : ishl .u64 (x : Int) ((8 * i : Nat) : Int) = ((x * 2 ^ (8 * i) : Nat) : Int) := by
    show IntKind.u64.wrap ((x : Int) * 2 ^ (min ((8 * i : Nat) : Int).toNat 64)) = _
    rw [Int.toNat_natCast,Nat.min_eq_left (by omega),wrap_u64]
    rw [hp] at hx
    have : ((x : Int) * 2 ^ (8 * i)) = ((x * 2 ^ (8 * i) : Nat) : Int) := by push_cast; rfl
    rw [this]
    omega
  rw [h1]
  show IntKind.u64.wrap (BitVec.ofInt 64 N ||| BitVec.ofInt 64 ((x * 2 ^ (8 * i) : Nat) : Int)).toNat = _
  rw [hp] at hN hx ⊢
  have h2 : (BitVec.ofInt 64 (N : Int)).toNat = N := by rw [BitVec.toNat_ofInt]; omega
  have h3 : (BitVec.ofInt 64 ((x * 2 ^ (8 * i) : Nat) : Int)).toNat = x * 2 ^ (8 * i) := by rw [BitVec.toNat_ofInt]; omega
  rw [BitVec.toNat_or,h2,h3,Nat.or_comm,Nat.mul_comm x,← Nat.two_pow_add_eq_or_of_lt hN,wrap_u64]
  rw [Nat.mul_comm x] at hx
  omega
theorem pow256 {i : Nat} (h : i < 8) : 256 ^ i * 256 ≤ 18446744073709551616 := by
  have : i = 0 ∨ i = 1 ∨ i = 2 ∨ i = 3 ∨ i = 4 ∨ i = 5 ∨ i = 6 ∨ i = 7 := by omega
  rcases this with rfl | rfl | rfl | rfl | rfl | rfl | rfl | rfl <;> decide
set_option maxHeartbeats 4000000 in
theorem c84 (hg : GlNR gl) (s : Int) (b : Bytes) (t : STok) (hb : b.length < 4294960000) : Pure Tryz.prog gl 84 [.int .u64 s,.sl 1 (b.map byteAV) t] (.ok (.int .u64 (hashX s b))) := by
  refine ⟨?_,by simp only [fgs,nrs,forall_eq_or_imp,forall_eq,implies_true],by simp only [nrs,forall_eq_or_imp,forall_eq,implies_true]⟩
  simp only [fgs]
  refine .of_run is84 (by simp) (mw_sound 200 ?_)
  have hw : IntKind.u64.wrap (b.length : Int) = b.length := wrap_u64_in (by omega) (by omega)
  repeat' first
    | with_reducible first | refine mw_as m84.eq_1 ?_ | refine opn m84k0.eq_1 ?_ | refine opn m84k1.eq_1 ?_ | refine ⟨?_,?_⟩ | intro _
    | simp only [go_sem,↓reduceIte,Nat.reduceAdd,Nat.reduceLeDiff,Nat.reduceEqDiff,Nat.reduceBEq,Nat.reduceBNe,Nat.reduceMul,Nat.reduceLT,reduceCtorEq,Int.reduceLT,Int.reduceLE,Int.reduceToNat,Int.reduceNeg,  hw]
  generalize hH : hashX s b = H
  refine .loopN (fun m F S => ∃ (h : Int) (q : Bytes),q.length = m ∧ q.length < 4294960000 ∧ F = [(1,AV.sl 1 (q.map byteAV) .unk),(4,AV.int .u64 h)] ∧ S = ⟨0,[],0,[],gl⟩ ∧ ∃ n,m ≤ n ∧ mixX (hashF n h q) = H) b.length ⟨_,b,rfl,hb,rfl,rfl,b.length,Nat.le_refl _,hH⟩ ?_
  rintro m F S ⟨h,q,hm,hq,rfl,rfl,n,hn,he⟩ ih
  by_cases h0 : 0 < q.length
  · obtain ⟨n,rfl⟩ : ∃ n',n = n' + 1 := ⟨n - 1,by omega⟩
    rw [hashF,if_neg (by omega)] at he
    have hd : decide (0 < (q.length : Int)) = true := decide_eq_true (by omega)
    have hmin : (if (q.length : Int) < 8 then (q.length : Int) else 8) = ((min q.length 8 : Nat) : Int) := by split <;> omega
    have htk : List.take (min q.length 8) (q.map byteAV) = (q.take 8).map byteAV := by
      rw [← List.map_take]
      congr 1
      rcases Nat.le_total q.length 8 with h | h
      · rw [Nat.min_eq_left h,List.take_length,List.take_of_length_le h]
      · rw [Nat.min_eq_right h]
    have hdr : List.drop (min q.length 8) (q.map byteAV) = (q.drop 8).map byteAV := by
      rw [← List.map_drop]
      congr 1
      rcases Nat.le_total q.length 8 with h | h
      · rw [Nat.min_eq_left h,List.drop_length,List.drop_eq_nil_of_le h]
      · rw [Nat.min_eq_right h]
    have htq : List.take q.length (q.map byteAV) = q.map byteAV := List.take_of_length_le (by simp)
    have hGl : (q.take 8).length = min q.length 8 := by rw [List.length_take,Nat.min_comm]
    have hK : min q.length 8 ≤ 8 := Nat.min_le_right _ _
    have hKq : min q.length 8 ≤ q.length := Nat.min_le_left _ _
    generalize hKe : min q.length 8 = K at *
    refine opn m84l1.eq_1 ?_
    repeat' first
      | with_reducible first | refine mw_as m84.eq_1 ?_ | refine opn m84k0.eq_1 ?_ | refine opn m84k1.eq_1 ?_ | refine ⟨?_,?_⟩ | intro _
      | simp only [go_sem,↓reduceIte,Nat.reduceAdd,Nat.reduceLeDiff,Nat.reduceEqDiff,Nat.reduceBEq,Nat.reduceBNe,Nat.reduceMul,Nat.reduceLT,reduceCtorEq,Int.reduceLT,Int.reduceLE,Int.reduceToNat,Int.reduceNeg,  hd,hmin,htk,hGl]
    all_goals first
      | omega
      | skip
    refine .forUp K (fun k F S => F = [(1,AV.sl 1 (q.map byteAV) .unk),(4,AV.int .u64 h),(5,AV.int .i64 K),(6,AV.int .u64 (grpN ((q.take 8).take k))),(23,AV.sl 1 ((q.take 8).map byteAV) .unk),(24,AV.int .i64 K),(25,AV.int .i64 k)] ∧ S = ⟨0,[],0,[],gl⟩) ⟨rfl,rfl⟩ ?_
    rintro k F S hk ⟨rfl,rfl⟩ ih2
    by_cases h8 : k < K
    · obtain ⟨x,hx⟩ := some_of_lt (s := q.take 8) (show k < (q.take 8).length by omega)
      have htl : ((q.take 8).take k).length = k := by rw [List.length_take]; omega
      have hlt := grpN_lt ((q.take 8).take k)
      rw [htl] at hlt
      have hp := pow256 (i := k) (by omega)
      have hxl := x.toNat_lt
      have hmul : x.toNat * 256 ^ k ≤ 255 * 256 ^ k := Nat.mul_le_mul_right _ (by omega)
      have hor := or_shift8 (grpN ((q.take 8).take k)) x.toNat k hlt (by omega) (by omega)
      have hsn : grpN ((q.take 8).take (k + 1)) = grpN ((q.take 8).take k) + x.toNat * 256 ^ k := by
        have h9 : (q.take 8).take (k + 1) = (q.take 8).take k ++ [x] := by
          rw [List.take_add_one,hx]
          rfl
        rw [h9,grpN_snoc,htl]
      have hw1 : IntKind.u64.wrap (x.toNat : Int) = x.toNat := wrap_u64_in (by omega) (by omega)
      have hw8 : IntKind.i64.wrap (8 * (k : Int)) = ((8 * k : Nat) : Int) := by rw [wrap_i64_in (by omega) (by omega)]; omega
      have hdk : decide ((k : Int) < (K : Int)) = true := decide_eq_true (by omega)
      have hdp : ((k : Int) < (K : Int)) = True := eq_true (by omega)
      rw [← hsn] at hor
      refine opn m84l0.eq_1 ?_
      repeat' first
        | with_reducible first | refine mw_as m84.eq_1 ?_ | refine opn m84k0.eq_1 ?_ | refine opn m84k1.eq_1 ?_ | refine ⟨?_,?_⟩ | intro _
        | simp only [go_sem,↓reduceIte,Nat.reduceAdd,Nat.reduceLeDiff,Nat.reduceEqDiff,Nat.reduceBEq,Nat.reduceBNe,Nat.reduceMul,Nat.reduceLT,reduceCtorEq,Int.reduceLT,Int.reduceLE,Int.reduceToNat,Int.reduceNeg,  hdk,hdp,hx,byteAV,hw1,hw8,hor,hGl,wrap_succ (show k < 9223372036854775807 by omega)]
      exact ih2 h8 _ _ ⟨rfl,rfl⟩
    · have hdk : decide ((k : Int) < (K : Int)) = false := decide_eq_false (by omega)
      have hkK : k = K := by omega
      subst hkK
      have hall : (q.take 8).take k = q.take 8 := List.take_of_length_le (by omega)
      rw [hall]
      refine opn m84l0.eq_1 ?_
      repeat' first
        | with_reducible first | refine mw_as m84.eq_1 ?_ | refine opn m84k0.eq_1 ?_ | refine opn m84k1.eq_1 ?_ | refine CallK.pure (c138 (IntKind.u64.wrap (ixor .u64 h (grpN (q.take 8)) + golden))) hg rfl ?_ | refine PCallK.pure (c138 (IntKind.u64.wrap (ixor .u64 h (grpN (q.take 8)) + golden))) hg rfl (fun _ => by first | exact of_eq_true InvS_refl | simp only [InvS_nil,InvS_cons,get_if,InvS_refl,and_self]) ?_ | refine ⟨?_,?_⟩ | intro _
        | simp only [go_sem,↓reduceIte,Nat.reduceAdd,Nat.reduceLeDiff,Nat.reduceEqDiff,Nat.reduceBEq,Nat.reduceBNe,Nat.reduceMul,Nat.reduceLT,reduceCtorEq,Int.reduceLT,Int.reduceLE,Int.reduceToNat,Int.reduceNeg,  hdk,hdr,htq]
      all_goals first
        | omega
        | skip
      exact ih (q.drop 8).length _ _ (by rw [List.length_drop]; omega) ⟨_,_,rfl,by rw [List.length_drop]; omega,rfl,rfl,n,by rw [List.length_drop]; omega,he⟩
  · have hd : decide (0 < (q.length : Int)) = false := decide_eq_false (by omega)
    have hq0 : q = [] := List.eq_nil_of_length_eq_zero (by omega)
    have he : mixX h = H := by rw [hq0,hashF_nil] at he; exact he
    refine opn m84l1.eq_1 ?_
    repeat' first
      | with_reducible first | refine mw_as m84.eq_1 ?_ | refine opn m84k0.eq_1 ?_ | refine opn m84k1.eq_1 ?_ | refine .pu (c138 h) hg rfl ?_ | refine ⟨?_,?_⟩ | intro _
      | simp only [go_sem,↓reduceIte,Nat.reduceAdd,Nat.reduceLeDiff,Nat.reduceEqDiff,Nat.reduceBEq,Nat.reduceBNe,Nat.reduceMul,Nat.reduceLT,reduceCtorEq,Int.reduceLT,Int.reduceLE,Int.reduceToNat,Int.reduceNeg,  hd]
    exact he
theorem c30 (hg : GlNR gl) (b : Bytes) (t : STok) (hb : b.length < 4294960000) : Pure Tryz.prog gl 30 [.sl 1 (b.map byteAV) t] (.ok (.int .u64 (hashX 29 b))) := by
  refine ⟨?_,by simp only [fgs,nrs,forall_eq_or_imp,forall_eq,implies_true],by simp only [nrs,forall_eq_or_imp,forall_eq,implies_true]⟩
  simp only [fgs]
  refine .of_run is30 (by simp) (mw_sound 200 ?_)
  repeat' first
    | with_reducible first | refine mw_as m30.eq_1 ?_ | refine .pu (c84 hg 29 b .unk hb) hg rfl ?_ | refine ⟨?_,?_⟩ | intro _
    | simp only [go_sem,↓reduceIte,Nat.reduceAdd,Nat.reduceLeDiff,Nat.reduceEqDiff,Nat.reduceBEq,Nat.reduceBNe,Nat.reduceMul,Nat.reduceLT,reduceCtorEq,Int.reduceLT,Int.reduceLE,Int.reduceToNat,Int.reduceNeg]
theorem c140 (hg : GlNR gl) (b : Bytes) (t : STok) (a : Nat) (hb : b.length < 4294960000) (ha : a < 8589934592) : Pure Tryz.prog gl 140 [.sl 1 (b.map byteAV) t,.int .i64 a] (.ok (.int .u64 (grpN ((b.drop a).take 8)))) := by
  refine ⟨?_,by simp only [fgs,nrs,forall_eq_or_imp,forall_eq,implies_true],by simp only [nrs,forall_eq_or_imp,forall_eq,implies_true]⟩
  simp only [fgs]
  refine .of_run is140 (by simp) (mw_sound 200 ?_)
  repeat' first
    | with_reducible first | refine mw_as m140.eq_1 ?_ | refine opn m140k0.eq_1 ?_ | refine opn m140k1.eq_1 ?_ | refine ⟨?_,?_⟩ | intro _
    | simp only [go_sem,↓reduceIte,Nat.reduceAdd,Nat.reduceLeDiff,Nat.reduceEqDiff,Nat.reduceBEq,Nat.reduceBNe,Nat.reduceMul,Nat.reduceLT,reduceCtorEq,Int.reduceLT,Int.reduceLE,Int.reduceToNat,Int.reduceNeg]
  generalize hL : (b.drop a).take 8 = L
  have hLl : L.length ≤ 8 := by rw [← hL,List.length_take]; omega
  refine .forUp 8 (fun j F S => F = [(0,AV.sl 1 (b.map byteAV) .unk),(1,AV.int .i64 a),(5,AV.int .u64 (grpN (L.drop (8 - j)))),(6,AV.int .i64 (7 - (j : Int)))] ∧ S = ⟨0,[],0,[],gl⟩) ⟨by rw [List.drop_eq_nil_of_le (by omega)]; rfl,rfl⟩ ?_
  rintro j F S hj ⟨rfl,rfl⟩ ih
  by_cases h : j < 8
  · have hd : decide (0 ≤ 7 - (j : Int)) = true := decide_eq_true (by omega)
    have hak : IntKind.i64.wrap ((a : Int) + (7 - (j : Int))) = ((a + (7 - j) : Nat) : Int) := by rw [wrap_i64_in (by omega) (by omega)]; omega
    have hk1 : IntKind.i64.wrap (7 - (j : Int) - 1) = 7 - ((j + 1 : Nat) : Int) := by rw [wrap_i64_in (by omega) (by omega)]; omega
    have hlt := grpN_lt (L.drop (8 - j))
    have hdl : (L.drop (8 - j)).length ≤ j := by rw [List.length_drop]; omega
    have hpw : 256 ^ (L.drop (8 - j)).length ≤ 256 ^ j := Nat.pow_le_pow_right (by omega) hdl
    have hp := pow256 (i := j) h
    have hg1 : IntKind.u64.wrap ((grpN (L.drop (8 - j)) : Int) * 256) = ((grpN (L.drop (8 - j)) * 256 : Nat) : Int) := by rw [wrap_u64_in (by omega) (by omega)]; omega
    have hidx : L.drop (8 - (j + 1)) = match b[a + (7 - j)]? with
      | some x => x :: L.drop (8 - j)
      | none => [] := by
      have h1 : L[7 - j]? = b[a + (7 - j)]? := by
        rw [← hL,List.getElem?_take_of_lt (by omega),List.getElem?_drop]
      rw [← h1,show 8 - (j + 1) = 7 - j by omega]
      cases h2 : L[7 - j]? with
      | none => exact List.drop_eq_nil_of_le (List.getElem?_eq_none_iff.1 h2)
      | some x =>
        rw [drop_some h2,show 7 - j + 1 = 8 - j by omega]
    refine opn m140l0.eq_1 ?_
    by_cases hin : a + (7 - j) < b.length
    · obtain ⟨x,hx⟩ := some_of_lt hin
      rw [hx] at hidx
      have hxl := x.toNat_lt
      have hd2 : decide (((a + (7 - j) : Nat) : Int) < (b.length : Int)) = true := decide_eq_true (by omega)
      have hp2 : (((a + (7 - j) : Nat) : Int) < (b.length : Int)) = True := eq_true (by omega)
      have hw1 : IntKind.u64.wrap (x.toNat : Int) = x.toNat := wrap_u64_in (by omega) (by omega)
      have hg2 : IntKind.u64.wrap (((grpN (L.drop (8 - j)) * 256 : Nat) : Int) + x.toNat) = ((grpN (L.drop (8 - (j + 1))) : Nat) : Int) := by
        rw [hidx,grpN,wrap_u64_in (by omega) (by omega)]
        omega
      repeat' first
        | with_reducible first | refine mw_as m140.eq_1 ?_ | refine opn m140k0.eq_1 ?_ | refine opn m140k1.eq_1 ?_ | refine ⟨?_,?_⟩ | intro _
        | simp only [go_sem,↓reduceIte,Nat.reduceAdd,Nat.reduceLeDiff,Nat.reduceEqDiff,Nat.reduceBEq,Nat.reduceBNe,Nat.reduceMul,Nat.reduceLT,reduceCtorEq,Int.reduceLT,Int.reduceLE,Int.reduceToNat,Int.reduceNeg,  hd,hak,hd2,hp2,hx,byteAV,hw1,hg1,hg2,hk1]
      all_goals exact ih h _ _ ⟨rfl,rfl⟩
    · have hnn : b[a + (7 - j)]? = none := List.getElem?_eq_none (by omega)
      rw [hnn] at hidx
      have hd2 : decide (((a + (7 - j) : Nat) : Int) < (b.length : Int)) = false := decide_eq_false (by omega)
      have hz : L.drop (8 - j) = [] := by
        have h3 := congrArg List.length hidx
        rw [List.length_drop] at h3
        exact List.drop_eq_nil_of_le (by simp at h3; omega)
      have hg2 : ((grpN (L.drop (8 - j)) * 256 : Nat) : Int) = ((grpN (L.drop (8 - (j + 1))) : Nat) : Int) := by rw [hidx,hz]; rfl
      rw [hg2] at hg1
      repeat' first
        | with_reducible first | refine mw_as m140.eq_1 ?_ | refine opn m140k0.eq_1 ?_ | refine opn m140k1.eq_1 ?_ | refine ⟨?_,?_⟩ | intro _
        | simp only [go_sem,↓reduceIte,Nat.reduceAdd,Nat.reduceLeDiff,Nat.reduceEqDiff,Nat.reduceBEq,Nat.reduceBNe,Nat.reduceMul,Nat.reduceLT,reduceCtorEq,Int.reduceLT,Int.reduceLE,Int.reduceToNat,Int.reduceNeg,  hd,hak,hd2,hg1,hk1]
      all_goals exact ih h _ _ ⟨rfl,rfl⟩
  · have hj8 : j = 8 := by omega
    subst hj8
    have hd : decide (0 ≤ 7 - ((8 : Nat) : Int)) = false := rfl
    refine opn m140l0.eq_1 ?_
    repeat' first
      | with_reducible first | refine mw_as m140.eq_1 ?_ | refine opn m140k0.eq_1 ?_ | refine opn m140k1.eq_1 ?_ | refine ⟨?_,?_⟩ | intro _
      | simp only [go_sem,↓reduceIte,Nat.reduceAdd,Nat.reduceLeDiff,Nat.reduceEqDiff,Nat.reduceBEq,Nat.reduceBNe,Nat.reduceMul,Nat.reduceLT,reduceCtorEq,Int.reduceLT,Int.reduceLE,Int.reduceToNat,Int.reduceNeg,  hd]
    rfl
theorem c85 (hg : GlNR gl) (s : Int) (b : Bytes) (t : STok) (hb : b.length < 4294960000) : Pure Tryz.prog gl 85 [.int .u64 s,.sl 1 (b.map byteAV) t] (.ok (.int .u64 (hashX s b))) := by
  refine ⟨?_,by simp only [fgs,nrs,forall_eq_or_imp,forall_eq,implies_true],by simp only [nrs,forall_eq_or_imp,forall_eq,implies_true]⟩
  simp only [fgs]
  refine .of_run is85 (by simp) (mw_sound 200 ?_)
  have hw : IntKind.u64.wrap (b.length : Int) = b.length := wrap_u64_in (by omega) (by omega)
  repeat' first
    | with_reducible first | refine mw_as m85.eq_1 ?_ | refine opn m85k0.eq_1 ?_ | refine ⟨?_,?_⟩ | intro _
    | simp only [go_sem,↓reduceIte,Nat.reduceAdd,Nat.reduceLeDiff,Nat.reduceEqDiff,Nat.reduceBEq,Nat.reduceBNe,Nat.reduceMul,Nat.reduceLT,reduceCtorEq,Int.reduceLT,Int.reduceLE,Int.reduceToNat,Int.reduceNeg,  hw]
  generalize hH : hashX s b = H
  refine .loopN (fun m F S => ∃ (h : Int) (a : Nat),(b.drop a).length = m ∧ a < b.length + 8 ∧ F = [(1,AV.sl 1 (b.map byteAV) .unk),(5,AV.int .u64 h),(6,AV.int .i64 a)] ∧ S = ⟨0,[],0,[],gl⟩ ∧ ∃ n,m ≤ n ∧ mixX (hashF n h (b.drop a)) = H) b.length ⟨_,0,by simp,by omega,rfl,rfl,b.length,Nat.le_refl _,hH⟩ ?_
  rintro m F S ⟨h,a,hm,ha,rfl,rfl,n,hn,he⟩ ih
  rw [List.length_drop] at hm
  by_cases h0 : a < b.length
  · obtain ⟨n,rfl⟩ : ∃ n',n = n' + 1 := ⟨n - 1,by omega⟩
    rw [hashF,if_neg (by rw [List.length_drop]; omega),List.drop_drop] at he
    have hd : decide ((a : Int) < (b.length : Int)) = true := decide_eq_true (by omega)
    have h140 := c140 (gl := gl) hg b .unk a hb (by omega)
    have hw8 : IntKind.i64.wrap ((a : Int) + 8) = ((a + 8 : Nat) : Int) := by rw [wrap_i64_in (by omega) (by omega)]; omega
    refine opn m85l0.eq_1 ?_
    repeat' first
      | with_reducible first | refine mw_as m85.eq_1 ?_ | refine opn m85k0.eq_1 ?_ | refine .pu (h140) hg rfl ?_ | refine CallK.pure (c139 (IntKind.u64.wrap (ixor .u64 h (grpN ((b.drop a).take 8)) + golden))) hg rfl ?_ | refine PCallK.pure (c139 (IntKind.u64.wrap (ixor .u64 h (grpN ((b.drop a).take 8)) + golden))) hg rfl (fun _ => by first | exact of_eq_true InvS_refl | simp only [InvS_nil,InvS_cons,get_if,InvS_refl,and_self]) ?_ | refine ⟨?_,?_⟩ | intro _
      | simp only [go_sem,↓reduceIte,Nat.reduceAdd,Nat.reduceLeDiff,Nat.reduceEqDiff,Nat.reduceBEq,Nat.reduceBNe,Nat.reduceMul,Nat.reduceLT,reduceCtorEq,Int.reduceLT,Int.reduceLE,Int.reduceToNat,Int.reduceNeg,  hd,hw8]
    exact ih (b.drop (a + 8)).length _ _ (by rw [List.length_drop]; omega) ⟨_,a + 8,rfl,by omega,rfl,rfl,n,by rw [List.length_drop]; omega,by rw [Nat.add_comm] at he ⊢; exact he⟩
  · have hd : decide ((a : Int) < (b.length : Int)) = false := decide_eq_false (by omega)
    have he : mixX h = H := by rw [List.drop_eq_nil_of_le (by omega),hashF_nil] at he; exact he
    refine opn m85l0.eq_1 ?_
    repeat' first
      | with_reducible first | refine mw_as m85.eq_1 ?_ | refine opn m85k0.eq_1 ?_ | refine .pu (c139 h) hg rfl ?_ | refine ⟨?_,?_⟩ | intro _
      | simp only [go_sem,↓reduceIte,Nat.reduceAdd,Nat.reduceLeDiff,Nat.reduceEqDiff,Nat.reduceBEq,Nat.reduceBNe,Nat.reduceMul,Nat.reduceLT,reduceCtorEq,Int.reduceLT,Int.reduceLE,Int.reduceToNat,Int.reduceNeg,  hd]
    exact he
theorem c31 (hg : GlNR gl) (b : Bytes) (t : STok) (hb : b.length < 4294960000) : Pure Tryz.prog gl 31 [.sl 1 (b.map byteAV) t] (.ok (.int .u64 (hashX 29 b))) := by
  refine ⟨?_,by simp only [fgs,nrs,forall_eq_or_imp,forall_eq,implies_true],by simp only [nrs,forall_eq_or_imp,forall_eq,implies_true]⟩
  simp only [fgs]
  refine .of_run is31 (by simp) (mw_sound 200 ?_)
  repeat' first
    | with_reducible first | refine mw_as m31.eq_1 ?_ | refine .pu (c85 hg 29 b .unk hb) hg rfl ?_ | refine ⟨?_,?_⟩ | intro _
    | simp only [go_sem,↓reduceIte,Nat.reduceAdd,Nat.reduceLeDiff,Nat.reduceEqDiff,Nat.reduceBEq,Nat.reduceBNe,Nat.reduceMul,Nat.reduceLT,reduceCtorEq,Int.reduceLT,Int.reduceLE,Int.reduceToNat,Int.reduceNeg]
end Go.Proofs.YtdjdhecanjmchaaGreatDoor
