/- Contracts: reading numbers and bytes: the reader's object. -/
import Derived.Test.YtdjdhecanjmchaaGreatDoorFa
import Derived.Test.YtdjdhecanjmchaaGreatDoorFb
import Derived.Test.YtdjdhecanjmchaaGreatDoorFc
import Derived.Test.YtdjdhecanjmchaaGreatDoorHa
import Derived.Test.YtdjdhecanjmchaaGreatDoorE3
import Derived.Test.YtdjdhecanjmchaaGreatDoorP8
set_option linter.unusedSimpArgs false
set_option linter.unusedVariables false
namespace Go.Proofs.YtdjdhecanjmchaaGreatDoor
open Go Go.V Go.Lib
set_option maxRecDepth 40000
attribute [local go_sem ↓] keepK Opd.ev MK.ev MK.ob gsA
attribute [local go_sem high] gsB
attribute [local go_sem] binEv binOb intOp strOp unEv eqvEv eqCells eqCell noBld tasEv AV.there AV.plus pickCells storeEv AV.solid AV.cells splice putParts rowOK fldEv iarrEv extEv minEv nonNil lenEv isStr appEv appOb appArg slVecEv slVecOb slStrEv slStrOb bnd argF endQ rvsEv rvEv resOf St.none if_true if_false ite_self eq_self ne_eq implies_true forall_const Lab.av Val.av Exa.av Dset.av Req.av gsC
variable {gl : List (Nat × List AV)}
theorem CallK.effPan {P : Program} {f : FuncId} {xs : List AV} {d : Option Nat} {l : List MOp} {K : Option AV → Fr → St → Prop} {F : Fr} {S S1 : St} {r : AV} (h : MCalls P f xs S fun o S' => o = .pan r ∧ S' = S1) (k : K (some r) F S1) : CallK P f xs d l K F S :=
  CallK.of h (fun r' S' ⟨e1,_⟩ => by cases e1) (fun v S' ⟨e1,e2⟩ => by subst e2; injection e1 with e1; subst e1; exact k)
theorem PCallK.eff {P : Program} {f : FuncId} {xs : List AV} {d : Option Nat} {nd : Bool} {p : MPl} {K : Option AV → Fr → St → Prop} {S0 : St} {Ls : List Nat} {F : Fr} {S S1 : St} {r : AV} (h : MCalls P f xs S fun o S' => o = .ok r ∧ S' = S1) (hi : nd = true → InvS S0 Ls S1) (k : plK P K S0 Ls p (putF d r F) S1) : PCallK P f xs d nd p K S0 Ls F S :=
  PCallK.of h (fun r' S' ⟨e1,e2⟩ => by subst e2; injection e1 with e1; subst e1; exact ⟨hi,k⟩) (fun v S' ⟨e1,_⟩ => by cases e1)
theorem PCallK.effPan {P : Program} {f : FuncId} {xs : List AV} {d : Option Nat} {nd : Bool} {p : MPl} {K : Option AV → Fr → St → Prop} {S0 : St} {Ls : List Nat} {F : Fr} {S S1 : St} {r : AV} (h : MCalls P f xs S fun o S' => o = .pan r ∧ S' = S1) (k : K (some r) F S1) : PCallK P f xs d nd p K S0 Ls F S :=
  PCallK.of h (fun r' S' ⟨e1,_⟩ => by cases e1) (fun v S' ⟨e1,e2⟩ => by subst e2; injection e1 with e1; subst e1; exact k)
theorem MCalls.forget {P : Program} {f : FuncId} {xs : List AV} {S : St} {K K' : Out → St → Prop} (h : MCalls P f xs S K') (hk : ∀ o S',K' o S' → ∃ S'',S'.le S'' ∧ K o S'') : MCalls P f xs S K := by
  intro wb G w vs hS hv
  refine (h wb G w vs hS hv).mono fun e w' ⟨G',S',h1,h2,h3⟩ => ?_
  cases e with
  | returned v => obtain ⟨r,h4,h5⟩ := h3; obtain ⟨S'',h6,h7⟩ := hk _ _ h5; exact ⟨G',S'',h1,h2.weak h6,r,h4,h7⟩
  | panicked ch => obtain ⟨v,av,h4,h5,h6⟩ := h3; obtain ⟨S'',h7,h8⟩ := hk _ _ h6; exact ⟨G',S'',h1,h2.weak h7,v,av,h4,h5,h8⟩
  | outgrown => exact h3.elim
abbrev errA (e : Int) : AV := .ifc 32 (.int .i64 e)
theorem c70 {n nt : Nat} {live : List Nat} {ob : List (Nat × List AV)} (b : Bytes) (t : STok) (a : Nat) (ha : a ≤ b.length) :
    MCalls Tryz.prog 70 [.sl 1 (b.map byteAV) t,.int .i64 a] ⟨n,ob,nt,live,gl⟩ fun o S' => o = .ok (.ptr n 0) ∧ S' = ⟨n + 1,(n,[.sl 1 (b.map byteAV) t,.int .i64 a]) :: ob,nt,live,gl⟩ := by
  refine .of_run is70 (by simp) (mw_sound 200 ?_)
  have h1 : decide ((a : Int) < 0) = false := decide_eq_false (by omega)
  have h2 : decide ((b.length : Int) < a) = false := decide_eq_false (by omega)
  repeat' first
    | with_reducible first | refine mw_as m70.eq_1 ?_ | refine opn m70k0.eq_1 ?_ | refine opn m70k1.eq_1 ?_ | refine ⟨?_,?_⟩ | intro _
    | simp only [go_sem,↓reduceIte,Nat.reduceAdd,Nat.reduceLeDiff,Nat.reduceEqDiff,Nat.reduceBEq,Nat.reduceBNe,Nat.reduceMul,Nat.reduceLT,reduceCtorEq,Int.reduceLT,Int.reduceLE,Int.reduceToNat,Int.reduceNeg,  h1,h2]
theorem c70p {n nt : Nat} {live : List Nat} {ob : List (Nat × List AV)} (b : Bytes) (t : STok) (a : Int) (ha : a < 0 ∨ b.length < a) :
    MCalls Tryz.prog 70 [.sl 1 (b.map byteAV) t,.int .i64 a] ⟨n,ob,nt,live,gl⟩ fun o S' => o = .pan (errA 1) ∧ S' = ⟨n,ob,nt,live,gl⟩ := by
  refine .of_run is70 (by simp) (mw_sound 200 ?_)
  repeat' first
    | with_reducible first | refine mw_as m70.eq_1 ?_ | refine opn m70k0.eq_1 ?_ | refine opn m70k1.eq_1 ?_ | refine ⟨?_,?_⟩ | intro _
    | simp only [go_sem,↓reduceIte,Nat.reduceAdd,Nat.reduceLeDiff,Nat.reduceEqDiff,Nat.reduceBEq,Nat.reduceBNe,Nat.reduceMul,Nat.reduceLT,reduceCtorEq,Int.reduceLT,Int.reduceLE,Int.reduceToNat,Int.reduceNeg]
  all_goals (simp at *; omega)
theorem c72 {n nt l : Nat} {live : List Nat} {ob : List (Nat × List AV)} (b : Bytes) (t : STok) (a k : Nat) (ha : a + k ≤ b.length) (hb : b.length < 4294967296) :
    MCalls Tryz.prog 72 [.ptr l 0,.int .u64 k] ⟨n,(l,[.sl 1 (b.map byteAV) t,.int .i64 a]) :: ob,nt,live,gl⟩ fun o S' => o = .ok (.sl 1 (((b.drop a).take k).map byteAV) .exact) ∧ S' = ⟨n,(l,[.sl 1 (b.map byteAV) t,.int .i64 ((a + k : Nat) : Int)]) :: (l,[.sl 1 (b.map byteAV) t,.int .i64 a]) :: ob,nt,live,gl⟩ := by
  refine .of_run is72 (by simp) (mw_sound 200 ?_)
  have hw1 : IntKind.i64.wrap (k : Int) = k := wrap_i64_in (by omega) (by omega)
  have hw2 : IntKind.i64.wrap ((a : Int) + k) = ((a + k : Nat) : Int) := by rw [wrap_i64_in (by omega) (by omega)]; omega
  have hw3 : IntKind.u64.wrap (IntKind.i64.wrap ((b.length : Int) - a)) = b.length - a := by rw [wrap_i64_in (by omega) (by omega),wrap_u64_in (by omega) (by omega)]
  have hw4 : decide ((b.length : Int) - a < k) = false := decide_eq_false (by omega)
  have htd : List.drop a (List.take (a + k) (b.map byteAV)) = ((b.drop a).take k).map byteAV := by rw [List.drop_take,Nat.add_sub_cancel_left,List.map_take,List.map_drop]
  repeat' first
    | with_reducible first | refine mw_as m72.eq_1 ?_ | refine opn m72k0.eq_1 ?_ | refine ⟨?_,?_⟩ | intro _
    | simp only [go_sem,↓reduceIte,Nat.reduceAdd,Nat.reduceLeDiff,Nat.reduceEqDiff,Nat.reduceBEq,Nat.reduceBNe,Nat.reduceMul,Nat.reduceLT,reduceCtorEq,Int.reduceLT,Int.reduceLE,Int.reduceToNat,Int.reduceNeg,  hw1,hw2,hw3,hw4,htd]
  all_goals omega
theorem c72p {n nt l : Nat} {live : List Nat} {ob : List (Nat × List AV)} (b : Bytes) (t : STok) (a k : Nat) (ha : b.length < a + k) (ha2 : a ≤ b.length) (hk : k < 18446744073709551616) (hb : b.length < 4294967296) :
    MCalls Tryz.prog 72 [.ptr l 0,.int .u64 k] ⟨n,(l,[.sl 1 (b.map byteAV) t,.int .i64 a]) :: ob,nt,live,gl⟩ fun o S' => o = .pan (errA 41) ∧ S' = ⟨n,(l,[.sl 1 (b.map byteAV) t,.int .i64 a]) :: ob,nt,live,gl⟩ := by
  refine .of_run is72 (by simp) (mw_sound 200 ?_)
  have hw3 : IntKind.u64.wrap (IntKind.i64.wrap ((b.length : Int) - a)) = b.length - a := by rw [wrap_i64_in (by omega) (by omega),wrap_u64_in (by omega) (by omega)]
  have hw4 : decide ((b.length : Int) - a < k) = true := decide_eq_true (by omega)
  repeat' first
    | with_reducible first | refine mw_as m72.eq_1 ?_ | refine opn m72k0.eq_1 ?_ | refine ⟨?_,?_⟩ | intro _
    | simp only [go_sem,↓reduceIte,Nat.reduceAdd,Nat.reduceLeDiff,Nat.reduceEqDiff,Nat.reduceBEq,Nat.reduceBNe,Nat.reduceMul,Nat.reduceLT,reduceCtorEq,Int.reduceLT,Int.reduceLE,Int.reduceToNat,Int.reduceNeg,  hw3,hw4]
theorem or_shift (N x i : Nat) (hN : N < 128 ^ i) (hx : N + x * 128 ^ i < 18446744073709551616) : ior .u64 (N : Int) (ishl .u64 (x : Int) ((7 * i : Nat) : Int)) = ((N + x * 128 ^ i : Nat) : Int) := by
  have hp : (128 : Nat) ^ i = 2 ^ (7 * i) := by rw [Nat.pow_mul]
  by_cases hx0 : x = 0
  · subst hx0
    show IntKind.u64.wrap (BitVec.ofInt 64 N ||| BitVec.ofInt 64 (IntKind.u64.wrap ((0 : Int) * _))).toNat = _
    rw [Int.zero_mul,wrap_u64,wrap_u64,show BitVec.ofInt 64 ((0 : Int) % 18446744073709551616) = 0#64 from rfl,BitVec.or_zero,BitVec.toNat_ofInt]
    omega
  have h64 : 7 * i ≤ 64 := by
    rcases Nat.lt_or_ge 64 (7 * i) with h | h
    · exfalso
      have h1 : 2 ^ 64 ≤ 2 ^ (7 * i) := Nat.pow_le_pow_right (by omega) (by omega)
      have h2 : 1 * 2 ^ (7 * i) ≤ x * 2 ^ (7 * i) := Nat.mul_le_mul_right _ (by omega)
      rw [hp] at hx
      omega
    · exact h
  have h1 : ishl .u64 (x : Int) ((7 * i : Nat) : Int) = ((x * 2 ^ (7 * i) : Nat) : Int) := by
    show IntKind.u64.wrap ((x : Int) * 2 ^ (min ((7 * i : Nat) : Int).toNat 64)) = _
    rw [Int.toNat_natCast,Nat.min_eq_left h64,wrap_u64]
    rw [hp] at hx
    have : ((x : Int) * 2 ^ (7 * i)) = ((x * 2 ^ (7 * i) : Nat) : Int) := by push_cast; rfl
    rw [this]
    omega
  rw [h1]
  show IntKind.u64.wrap (BitVec.ofInt 64 N ||| BitVec.ofInt 64 ((x * 2 ^ (7 * i) : Nat) : Int)).toNat = _
  rw [hp] at hN hx ⊢
  have h2 : (BitVec.ofInt 64 (N : Int)).toNat = N := by rw [BitVec.toNat_ofInt]; omega
  have h3 : (BitVec.ofInt 64 ((x * 2 ^ (7 * i) : Nat) : Int)).toNat = x * 2 ^ (7 * i) := by rw [BitVec.toNat_ofInt]; omega
  rw [BitVec.toNat_or,h2,h3,Nat.or_comm,Nat.mul_comm x,← Nat.two_pow_add_eq_or_of_lt hN,wrap_u64]
  rw [Nat.mul_comm x] at hx
  omega
theorem and127 : ∀ c : UInt8,IntKind.u64.wrap (iand .u8 (c.toNat : Int) 127) = ((c.toNat % 128 : Nat) : Int) := by
  have h : ∀ x : BitVec 8,(x &&& 127#8).toNat = x.toNat % 128 := by decide
  intro c
  have h1 : iand .u8 (c.toNat : Int) 127 = ((c.toNat % 128 : Nat) : Int) := by
    show IntKind.u8.wrap (BitVec.ofInt 8 (c.toNat : Int) &&& BitVec.ofInt 8 127).toNat = _
    have hc := c.toNat_lt
    rw [show (BitVec.ofInt 8 127 : BitVec 8) = 127#8 from rfl,h,BitVec.toNat_ofInt,wrap_u8]
    omega
  rw [h1,wrap_u64]
  omega
def NumK (n l nt : Nat) (live : List Nat) (gl ob : List (Nat × List AV)) (b : Bytes) (t : STok) (R : Except Int (Nat × Bytes)) (o : Out) (S' : St) : Prop :=
  ∃ (a' : Int) (ob' : List (Nat × List AV)),S' = ⟨n,(l,[.sl 1 (b.map byteAV) t,.int .i64 a']) :: ob',nt,live,gl⟩ ∧ (∀ l' cs,l' ≠ l → List.lookup l' ob = some cs → List.lookup l' ob' = some cs) ∧ match R with
      | .ok (k,r) => o = .ok (.int .u64 k) ∧ a' = ((b.length - r.length : Nat) : Int)
      | .error e => o = .pan (errA e)
theorem c71 (hg : GlNR gl) {n nt l : Nat} {live : List Nat} {ob : List (Nat × List AV)} (hl : List.lookup l ob = none) (b : Bytes) (t : STok) (a : Nat) (ha : a ≤ b.length) (hb : b.length < 4294967296) :
    MCalls Tryz.prog 71 [.ptr l 0] ⟨n,(l,[.sl 1 (b.map byteAV) t,.int .i64 a]) :: ob,nt,live,gl⟩ fun o S' => match rdU (b.drop a) with
      | .ok (k,r) => o = .ok (.int .u64 k) ∧ S' = ⟨n,(l,[.sl 1 (b.map byteAV) t,.int .i64 ((b.length - r.length : Nat) : Int)]) :: ob,nt,live,gl⟩
      | .error e => o = .pan (errA e) ∧ S' = ⟨n,ob,nt,live,gl⟩ := by
  refine MCalls.forget (K' := NumK n l nt live gl ob b t (rdU (b.drop a))) ?_ ?_
  rotate_left
  · rintro o S' ⟨a',ob',rfl,h1,h2⟩
    generalize rdU (b.drop a) = R at h2 ⊢
    cases R with
    | error e => exact ⟨⟨n,ob,nt,live,gl⟩,⟨rfl,rfl,rfl,fun l' cs h => by
        have h : List.lookup l' ob = some cs := h
        have hne : l' ≠ l := fun e => by subst e; rw [hl] at h; cases h
        have := h1 l' cs hne h
        show List.lookup l' (_ :: ob') = some cs
        rw [lookG,if_neg hne]
        exact this,fun _ h => h⟩,h2,rfl⟩
    | ok x =>
      obtain ⟨h3,h4⟩ := h2
      subst h4
      exact ⟨⟨n,(l,[.sl 1 (b.map byteAV) t,.int .i64 ((b.length - x.2.length : Nat) : Int)]) :: ob,nt,live,gl⟩,⟨rfl,rfl,rfl,fun l' cs h => by
        have h : List.lookup l' (_ :: ob) = some cs := h
        show List.lookup l' (_ :: ob') = some cs
        rw [lookG] at h ⊢
        split at h
        · rename_i e; rw [if_pos e]; exact h
        · rename_i e; rw [if_neg e]; exact h1 l' cs e h,fun _ h => h⟩,h3,rfl⟩
  refine .of_run is71 (by simp) (mw_sound 200 ?_)
  repeat' first
    | with_reducible first | refine mw_as m71.eq_1 ?_ | refine opn m71k0.eq_1 ?_ | refine opn m71k1.eq_1 ?_ | refine opn m71k2.eq_1 ?_ | refine ⟨?_,?_⟩ | intro _
    | simp only [go_sem,↓reduceIte,Nat.reduceAdd,Nat.reduceLeDiff,Nat.reduceEqDiff,Nat.reduceBEq,Nat.reduceBNe,Nat.reduceMul,Nat.reduceLT,reduceCtorEq,Int.reduceLT,Int.reduceLE,Int.reduceToNat,Int.reduceNeg]
  refine .forUp 10 (fun i F S => ∃ (A : Int) (a' : Nat) (ob' : List (Nat × List AV)),F = [(0,AV.ptr l 0),(2,AV.int .u64 A),(3,AV.int .i64 i)] ∧ S = ⟨n,(l,[.sl 1 (b.map byteAV) t,.int .i64 a']) :: ob',nt,live,gl⟩ ∧ (∀ l' cs,l' ≠ l → List.lookup l' ob = some cs → List.lookup l' ob' = some cs) ∧ a' ≤ b.length ∧
    (i < 10 → ∃ N : Nat,A = N ∧ N < 128 ^ i ∧ rdU (b.drop a) = rdN (10 - i) i N (b.drop a')) ∧ (i = 10 → rdU (b.drop a) = .error 3)) ⟨0,a,ob,rfl,rfl,fun _ _ _ h => h,ha,fun _ => ⟨0,rfl,by simp,rfl⟩,fun h => by cases h⟩ ?_
  rintro i F S hi ⟨A,a',ob',rfl,rfl,ho,ha',hN,h10⟩ ih
  by_cases h : i < 10
  · obtain ⟨N,rfl,hN1,hN2⟩ := hN h
    have hd : decide ((i : Int) < 10) = true := decide_eq_true (by omega)
    rw [show 10 - i = (9 - i) + 1 by omega] at hN2
    by_cases he : a' < b.length
    · obtain ⟨c,hc⟩ := some_of_lt he
      rw [drop_some hc,rdN] at hN2
      have h72 := c72 (gl := gl) (n := n) (nt := nt) (l := l) (live := live) (ob := ob') b t a' 1 (by omega) hb
      rw [drop_some hc,List.take_succ_cons,List.take_zero] at h72
      have hw7 : IntKind.i64.wrap (7 * (i : Int)) = ((7 * i : Nat) : Int) := by rw [wrap_i64_in (by omega) (by omega)]; omega
      refine opn m71l0.eq_1 ?_
      have e9 : ((i : Int) == 9) = decide (i = 9) := by rw [Bool.eq_iff_iff]; simp; omega
      have g1 : decide (1 < (c.toNat : Int)) = decide (1 < c.toNat) := by rw [Bool.eq_iff_iff]; simp; omega
      have g0 : decide (0 < (i : Int)) = decide (0 < i) := by rw [Bool.eq_iff_iff]; simp
      have e0 : ((c.toNat : Int) == 0) = decide (c.toNat = 0) := by rw [Bool.eq_iff_iff]; simp
      have l1 : decide ((c.toNat : Int) < 128) = decide (c.toNat < 128) := by rw [Bool.eq_iff_iff]; simp; omega
      have l0 : decide ((0 : Int) < 1) = true := rfl
      have l00 : decide (0 < 1) = true := rfl
      have hp : (0 : Nat) < 128 ^ i := Nat.pow_pos (by omega)
      have hp9 : 128 ^ i * 128 ≤ 9223372036854775808 ∨ i = 9 := by
        rcases Nat.lt_or_ge i 9 with h9 | h9
        · exact .inl (pow_small (by omega))
        · exact .inr (by omega)
      by_cases hc1 : c.toNat < 128
      · have l1 : decide ((c.toNat : Int) < 128) = true := by rw [l1]; simpa using hc1
        rw [if_pos hc1] at hN2
        have hmod : c.toNat % 128 = c.toNat := Nat.mod_eq_of_lt hc1
        by_cases hbad : ((i == 9 && decide (1 < c.toNat)) || (decide (0 < i) && c.toNat == 0)) = true
        · rw [if_pos hbad] at hN2
          repeat' first
            | with_reducible first | refine mw_as m71.eq_1 ?_ | refine opn m71k0.eq_1 ?_ | refine opn m71k1.eq_1 ?_ | refine opn m71k2.eq_1 ?_ | refine CallK.eff (h72) ?_ | refine ⟨?_,?_⟩ | intro _
            | simp only [go_sem,↓reduceIte,Nat.reduceAdd,Nat.reduceLeDiff,Nat.reduceEqDiff,Nat.reduceBEq,Nat.reduceBNe,Nat.reduceMul,Nat.reduceLT,reduceCtorEq,Int.reduceLT,Int.reduceLE,Int.reduceToNat,Int.reduceNeg,  hd,hw7,byteAV,and127,wrap_succ (show i < 9223372036854775807 by omega),e9,g1,g0,e0,l1,l0,l00]
          all_goals first
            | (refine ⟨_,_,rfl,fun l' cs hne h => by rw [lookG,if_neg hne]; exact ho l' cs hne h,?_⟩
               rw [hN2]
               done)
            | omega
            | (exfalso; grind)
        · rw [if_neg hbad] at hN2
          have hb1 : ¬ (i = 9 ∧ 1 < c.toNat) := by grind
          have hor := or_shift N c.toNat i hN1 (by
            rcases hp9 with h9 | h9
            · have : c.toNat * 128 ^ i ≤ 127 * 128 ^ i := Nat.mul_le_mul_right _ (by omega)
              omega
            · subst h9
              omega)
          repeat' first
            | with_reducible first | refine mw_as m71.eq_1 ?_ | refine opn m71k0.eq_1 ?_ | refine opn m71k1.eq_1 ?_ | refine opn m71k2.eq_1 ?_ | refine CallK.eff (h72) ?_ | refine ⟨?_,?_⟩ | intro _
            | simp only [go_sem,↓reduceIte,Nat.reduceAdd,Nat.reduceLeDiff,Nat.reduceEqDiff,Nat.reduceBEq,Nat.reduceBNe,Nat.reduceMul,Nat.reduceLT,reduceCtorEq,Int.reduceLT,Int.reduceLE,Int.reduceToNat,Int.reduceNeg,  hd,hw7,byteAV,and127,wrap_succ (show i < 9223372036854775807 by omega),e9,g1,g0,e0,l1,l0,l00,hmod,hor]
          all_goals first
            | (refine ⟨_,_,rfl,fun l' cs hne h => by rw [lookG,if_neg hne]; exact ho l' cs hne h,?_⟩
               rw [hN2]
               refine ⟨rfl,?_⟩
               rw [List.length_drop]
               omega)
            | omega
            | (exfalso; grind)
      · have l1 : decide ((c.toNat : Int) < 128) = false := by rw [l1]; simpa using hc1
        have hc2 := c.toNat_lt
        rw [if_neg hc1] at hN2
        have hmod : c.toNat % 128 = c.toNat - 128 := by omega
        repeat' first
          | with_reducible first | refine mw_as m71.eq_1 ?_ | refine opn m71k0.eq_1 ?_ | refine opn m71k1.eq_1 ?_ | refine opn m71k2.eq_1 ?_ | refine CallK.eff (h72) ?_ | refine ⟨?_,?_⟩ | intro _
          | simp only [go_sem,↓reduceIte,Nat.reduceAdd,Nat.reduceLeDiff,Nat.reduceEqDiff,Nat.reduceBEq,Nat.reduceBNe,Nat.reduceMul,Nat.reduceLT,reduceCtorEq,Int.reduceLT,Int.reduceLE,Int.reduceToNat,Int.reduceNeg,  hd,hw7,byteAV,and127,wrap_succ (show i < 9223372036854775807 by omega),e9,g1,g0,e0,l1,l0,l00,hmod]
        all_goals first
          | omega
          | skip
        refine ih h _ _ ⟨_,a' + 1,_,rfl,rfl,fun l' cs hne h => by rw [lookG,if_neg hne]; exact ho l' cs hne h,by omega,fun h9 => ⟨N + (c.toNat - 128) * 128 ^ i,?_,?_,?_⟩,fun h9 => ?_⟩
        · refine or_shift N (c.toNat - 128) i hN1 ?_
          have h10 : 128 ^ i * 128 ≤ 9223372036854775808 := pow_small (by omega)
          have : (c.toNat - 128) * 128 ^ i ≤ 127 * 128 ^ i := Nat.mul_le_mul_right _ (by omega)
          omega
        · have : (c.toNat - 128) * 128 ^ i ≤ 127 * 128 ^ i := Nat.mul_le_mul_right _ (by omega)
          rw [Nat.pow_succ]
          omega
        · rw [hN2,show 10 - (i + 1) = 9 - i by omega]
        · rw [hN2,show 9 - i = 0 by omega]
          rfl
    · have h72 := c72p (gl := gl) (n := n) (nt := nt) (l := l) (live := live) (ob := ob') b t a' 1 (by omega) (by omega) (by omega) hb
      rw [List.drop_eq_nil_of_le (Nat.le_of_not_lt he),rdN] at hN2
      refine opn m71l0.eq_1 ?_
      repeat' first
        | with_reducible first | refine mw_as m71.eq_1 ?_ | refine opn m71k0.eq_1 ?_ | refine opn m71k1.eq_1 ?_ | refine opn m71k2.eq_1 ?_ | refine CallK.effPan (h72) ?_ | refine PCallK.effPan (h72) ?_ | refine ⟨?_,?_⟩ | intro _
        | simp only [go_sem,↓reduceIte,Nat.reduceAdd,Nat.reduceLeDiff,Nat.reduceEqDiff,Nat.reduceBEq,Nat.reduceBNe,Nat.reduceMul,Nat.reduceLT,reduceCtorEq,Int.reduceLT,Int.reduceLE,Int.reduceToNat,Int.reduceNeg,  hd]
      exact ⟨_,_,rfl,ho,by rw [hN2]⟩
  · have hd : decide ((i : Int) < 10) = false := decide_eq_false (by omega)
    have hr := h10 (by omega)
    refine opn m71l0.eq_1 ?_
    repeat' first
      | with_reducible first | refine mw_as m71.eq_1 ?_ | refine opn m71k0.eq_1 ?_ | refine opn m71k1.eq_1 ?_ | refine opn m71k2.eq_1 ?_ | refine ⟨?_,?_⟩ | intro _
      | simp only [go_sem,↓reduceIte,Nat.reduceAdd,Nat.reduceLeDiff,Nat.reduceEqDiff,Nat.reduceBEq,Nat.reduceBNe,Nat.reduceMul,Nat.reduceLT,reduceCtorEq,Int.reduceLT,Int.reduceLE,Int.reduceToNat,Int.reduceNeg,  hd]
    exact ⟨_,_,rfl,ho,by rw [hr]⟩
end Go.Proofs.YtdjdhecanjmchaaGreatDoor
