/- Contracts: decimals read back; plain laws of digits. -/
import Derived.Test.YtdjdhecanjmchaaGreatDoorFa
import Derived.Test.YtdjdhecanjmchaaGreatDoorFb
import Derived.Test.YtdjdhecanjmchaaGreatDoorFc
import Derived.Test.YtdjdhecanjmchaaGreatDoorTa
import Derived.Test.YtdjdhecanjmchaaGreatDoorM1
import Derived.Lib.AtoiAll
set_option linter.unusedSimpArgs false
set_option linter.unusedVariables false
namespace Go.Proofs.YtdjdhecanjmchaaGreatDoor
open Go Go.V Go.Lib
set_option maxRecDepth 40000
attribute [local go_sem ↓] keepK Opd.ev MK.ev MK.ob gsA
attribute [local go_sem high] gsB
attribute [local go_sem] binEv binOb intOp strOp unEv eqvEv eqCells eqCell noBld tasEv AV.there AV.plus pickCells storeEv AV.solid AV.cells splice putParts rowOK fldEv iarrEv extEv minEv nonNil lenEv isStr appEv appOb appArg slVecEv slVecOb slStrEv slStrOb bnd argF endQ rvsEv rvEv resOf St.none if_true if_false ite_self eq_self ne_eq implies_true forall_const Lab.av Val.av Exa.av Dset.av Req.av gsC
variable {gl : List (Nat × List AV)}
def dvl (c : UInt8) : Nat := c.toNat - 48
def valD (a : Nat) (s : Bytes) : Nat := s.foldl (fun a c => 10 * a + dvl c) a
theorem valD_cons (a : Nat) (c : UInt8) (s : Bytes) : valD a (c :: s) = valD (10 * a + dvl c) s := by
  unfold valD
  rw [List.foldl_cons]
theorem valD_nil (a : Nat) : valD a [] = a := by
  unfold valD
  rw [List.foldl_nil]
def IsDg (c : UInt8) : Prop := 48 ≤ c.toNat ∧ c.toNat ≤ 57
theorem valD_append : ∀ (p q : Bytes) (a : Nat),valD a (p ++ q) = valD (valD a p) q
  | [],_,_ => by rw [List.nil_append,valD_nil]
  | c :: p,q,a => by rw [List.cons_append,valD_cons,valD_cons,valD_append p q]
theorem valD_ge : ∀ (s : Bytes) (a : Nat),a ≤ valD a s
  | [],a => by rw [valD_nil]; exact Nat.le_refl _
  | c :: s,a => by rw [valD_cons]; exact Nat.le_trans (by omega) (valD_ge s _)
theorem dg_of (m : Nat) (h : m < 10) : IsDg (UInt8.ofNat (48 + m)) ∧ dvl (UInt8.ofNat (48 + m)) = m := by
  have : (UInt8.ofNat (48 + m)).toNat = 48 + m := by rw [UInt8.toNat_ofNat']; omega
  unfold IsDg dvl
  rw [this]
  omega
theorem dec_dg (u : Nat) : valD 0 (decDigits u) = u ∧ (∀ c ∈ decDigits u,IsDg c) ∧ decDigits u ≠ [] := by
  induction u using Nat.strongRecOn with
  | _ u ih =>
    by_cases h : u < 10
    · rw [dec_lt h]
      obtain ⟨h1,h2⟩ := dg_of (u % 10) (by omega)
      refine ⟨by rw [valD_cons,valD_nil,h2]; omega,fun c hc => ?_,by simp⟩
      rw [List.mem_singleton] at hc
      subst hc
      exact h1
    · rw [dec_ge h]
      obtain ⟨h1,h2⟩ := dg_of (u % 10) (by omega)
      obtain ⟨g1,g2,g3⟩ := ih (u / 10) (by omega)
      refine ⟨?_,fun c hc => ?_,by simp⟩
      · rw [valD_append,g1]
        rw [valD_cons,valD_nil,h2]
        omega
      · rcases List.mem_append.1 hc with hc | hc
        · exact g2 c hc
        · rw [List.mem_singleton] at hc
          subst hc
          exact h1
theorem valD_rep : ∀ (k : Nat) (s : Bytes),valD 0 (List.replicate k 48 ++ s) = valD 0 s
  | 0,_ => by rw [List.replicate_zero,List.nil_append]
  | k + 1,s => by rw [List.replicate_succ,List.cons_append,valD_cons,show 10 * 0 + dvl 48 = 0 from rfl]; exact valD_rep k s
theorem padZ_dg (k u : Nat) : valD 0 (padZ k u) = u ∧ ∀ c ∈ padZ k u,IsDg c := by
  obtain ⟨h1,h2,_⟩ := dec_dg u
  refine ⟨by rw [padZ,valD_rep,h1],fun c hc => ?_⟩
  rcases List.mem_append.1 hc with hc | hc
  · rw [List.eq_of_mem_replicate hc]
    exact ⟨by decide,by decide⟩
  · exact h2 c hc
theorem parse_digits : ∀ (s : Bytes) (a : Nat),(∀ c ∈ s,IsDg c) → valD a s < 18446744073709551616 → parseUint10 a s = .ok (valD a s)
  | [],a,_,_ => by rw [parseUint10,valD_nil]
  | c :: s,a,h,hv => by
    have h1 := h c List.mem_cons_self
    have h2 := valD_ge s (10 * a + dvl c)
    rw [valD_cons] at hv ⊢
    unfold dvl at h2 hv ⊢
    obtain ⟨h3,h4⟩ := h1
    rw [parseUint10,if_pos ⟨h3,h4⟩,if_neg (by omega),if_neg (by omega),show a * 10 + (c.toNat - 48) = 10 * a + (c.toNat - 48) by omega]
    exact parse_digits s _ (fun d hd => h d (List.mem_cons_of_mem _ hd)) hv
theorem atoi_itoa (n : Int) (h0 : -9223372036854775808 ≤ n) (h1 : n ≤ 9223372036854775807) : atoiAll (itoa n) = .ok n := by
  obtain ⟨d1,d2,d3⟩ := dec_dg n.natAbs
  have hp : parseMag (decDigits n.natAbs) = .ok n.natAbs := by
    rw [parseMag,if_neg d3,parse_digits _ _ d2 (by rw [d1]; omega),d1]
  rw [itoa_digS]
  by_cases hn : n < 0
  · rw [if_pos hn]
    have e : (if (45 : UInt8).toNat = 43 ∨ (45 : UInt8).toNat = 45 then digS n else 45 :: digS n) = digS n := if_pos (.inr rfl)
    unfold atoiAll
    simp only [e]
    unfold digS
    rw [hp]
    simp only
    rw [if_neg (fun h => h.1 rfl),if_neg (fun h => absurd h.2 (by omega)),if_pos (show UInt8.toNat 45 = 45 from rfl)]
    congr 1
    omega
  · rw [if_neg hn]
    unfold digS
    cases hd : decDigits n.natAbs with
    | nil => exact absurd hd d3
    | cons c r =>
      have hc : IsDg c := d2 c (by rw [hd]; exact List.mem_cons_self)
      unfold IsDg at hc
      unfold atoiAll
      simp only
      rw [if_neg (by omega),← hd,hp]
      simp only
      rw [if_neg (by omega),if_neg (by omega),if_neg (by omega)]
      congr 1
      omega
theorem decS_parts (n : Int) : ∃ p q : Bytes,decS n = p ++ 46 :: q ∧ 1 ≤ p.length ∧ q.length = 6 ∧ valD 0 (p ++ q) = n.natAbs ∧ (∀ c ∈ p,IsDg c) ∧ ∀ c ∈ q,IsDg c := by
  obtain ⟨h1,h2⟩ := padZ_dg 7 n.natAbs
  have h3 := padZ_len 7 n.natAbs
  refine ⟨(padZ 7 n.natAbs).take ((padZ 7 n.natAbs).length - 6),(padZ 7 n.natAbs).drop ((padZ 7 n.natAbs).length - 6),rfl,by rw [List.length_take]; omega,by rw [List.length_drop]; omega,by rw [List.take_append_drop]; exact h1,fun c hc => h2 c (List.mem_of_mem_take hc),fun c hc => h2 c (List.mem_of_mem_drop hc)⟩
set_option maxHeartbeats 4000000 in
theorem c89 {tl : List AV} (ht : gl.lookup 0 = some (.int .i64 1 :: tl)) (n : Int) (h0 : -1152921504606846976 ≤ n) (h1 : n ≤ 1152921504606846976) : Pure Tryz.prog gl 89 [.str (decF n)] (.ok (.tup [.int .i64 n,.int .i64 0])) := by
  refine ⟨?_,by simp only [fgs,nrs,forall_eq_or_imp,forall_eq,implies_true],by simp only [nrs,forall_eq_or_imp,forall_eq,implies_true]⟩
  simp only [fgs]
  refine .of_run is89 (by simp) (mw_sound 200 ?_)
  obtain ⟨p,q,hS,hpl,hql,hv,hp,hq⟩ := decS_parts n
  have hSl := decS_len n (by omega) (by omega)
  have hRl : (decS n).length = p.length + 7 := by rw [hS]; simp [hql]
  have hne : (decS n == []) = false := by
    cases h : decS n with
    | nil => rw [h] at hRl; simp at hRl
    | cons => rfl
  have key : ∀ ng : Bool,(if ng then -(n.natAbs : Int) else n.natAbs) = n → MRun Tryz.prog 97 [MI.code m89l0.loop,MI.inBlock 0,MI.code (MC.named [2,4,5,6,7] m89k10),MI.inBlock 1000000] []
      [(2,.int .i64 0),(4,.str (decS n)),(5,.bool ng),(6,.int .i64 (-1)),(7,.bool false),(8,.int .i64 0)] (.none gl) (endQ [RV.t 2,RV.t 3] fun o' x => o' = Out.ok (AV.tup [.int .i64 n,.int .i64 0])) := by
    intro ng hng
    have dstep : ∀ (i x : Nat) (pt : Int) (c : UInt8),(decS n)[i]? = some c → IsDg c → 10 * x + dvl c ≤ 1152921504606846976 →
        MRun Tryz.prog 97 [MI.inLoop m89l0,MI.inBlock 0,MI.code (MC.named [2,4,5,6,7] m89k10),MI.inBlock 1000000] [] [(2,.int .i64 (10 * x + dvl c : Nat)),(4,.str (decS n)),(5,.bool ng),(6,.int .i64 pt),(7,.bool false),(8,.int .i64 (i + 1 : Nat))] (.none gl) (endQ [RV.t 2,RV.t 3] fun o' x => o' = Out.ok (AV.tup [.int .i64 n,.int .i64 0])) →
        MRun Tryz.prog 97 [MI.code m89l0,MI.inLoop m89l0,MI.inBlock 0,MI.code (MC.named [2,4,5,6,7] m89k10),MI.inBlock 1000000] [] [(2,.int .i64 x),(4,.str (decS n)),(5,.bool ng),(6,.int .i64 pt),(7,.bool false),(8,.int .i64 i)] (.none gl) (endQ [RV.t 2,RV.t 3] fun o' x => o' = Out.ok (AV.tup [.int .i64 n,.int .i64 0])) := by
      intro i x pt c hc hd hle hnext
      have hil := lt_of_some hc
      unfold IsDg at hd
      obtain ⟨d,hdd⟩ : ∃ d,d = dvl c := ⟨_,rfl⟩
      rw [← hdd] at hle hnext
      unfold dvl at hdd
      have e46 : ((c.toNat : Int) == 46 || false) = (c == 46) := by rw [Bool.or_false,Bool.eq_iff_iff]; simp only [beq_iff_eq]; constructor <;> intro h; exact UInt8.toNat_inj.1 (by have : (46 : UInt8).toNat = 46 := rfl; omega); rw [h]; rfl
      have hlt := ltB hil
      have g48 : decide ((c.toNat : Int) < 48) = false := decide_eq_false (by omega)
      have g57 : decide ((57 : Int) < (c.toNat : Int)) = false := decide_eq_false (by omega)
      have w1 : IntKind.u8.wrap ((c.toNat : Int) - 48) = (d : Int) := by rw [wrap_u8_in (by omega) (by omega)]; omega
      have w2 : IntKind.i64.wrap (d : Int) = (d : Int) := wrap_i64_in (by omega) (by omega)
      have w3 : IntKind.i64.wrap (1152921504606846976 - (d : Int)) = ((1152921504606846976 - d : Nat) : Int) := by rw [wrap_i64_in (by omega) (by omega)]; omega
      have w4 : IntKind.i64.wrap (((1152921504606846976 - d : Nat) : Int).tdiv 10) = (((1152921504606846976 - d) / 10 : Nat) : Int) := by
        rw [show ((1152921504606846976 - d : Nat) : Int).tdiv 10 = (((1152921504606846976 - d) / 10 : Nat) : Int) from rfl,wrap_i64_in (by omega) (by omega)]
      have g10 : decide ((((1152921504606846976 - d) / 10 : Nat) : Int) < (x : Int)) = false := decide_eq_false (by omega)
      have w5 : IntKind.i64.wrap (10 * (x : Int)) = ((10 * x : Nat) : Int) := by rw [wrap_i64_in (by omega) (by omega)]; omega
      have w6 : IntKind.i64.wrap (((10 * x : Nat) : Int) + (d : Int)) = ((10 * x + d : Nat) : Int) := by rw [wrap_i64_in (by omega) (by omega)]; omega
      have e46 : ((c.toNat : Int) == 46) = false := by simp; omega
      refine opn m89l0.eq_1 ?_
      repeat' first
        | with_reducible first | refine mw_as m89.eq_1 ?_ | refine opn m89k0.eq_1 ?_ | refine opn m89k1.eq_1 ?_ | refine opn m89k2.eq_1 ?_ | refine opn m89k3.eq_1 ?_ | refine opn m89k4.eq_1 ?_ | refine opn m89k5.eq_1 ?_ | refine opn m89k6.eq_1 ?_ | refine opn m89k7.eq_1 ?_ | refine opn m89k8.eq_1 ?_ | refine opn m89k9.eq_1 ?_ | refine opn m89k10.eq_1 ?_ | refine opn m89k11.eq_1 ?_ | refine ⟨?_,?_⟩ | intro _
        | simp only [go_sem,↓reduceIte,Nat.reduceAdd,Nat.reduceLeDiff,Nat.reduceEqDiff,Nat.reduceBEq,Nat.reduceBNe,Nat.reduceMul,Nat.reduceLT,reduceCtorEq,Int.reduceLT,Int.reduceLE,Int.reduceToNat,Int.reduceNeg,  hlt,hc,e46,g48,g57,w1,w2,w3,w4,g10,w5,w6,wrap_succ (show i < 9223372036854775807 by omega)]
      all_goals first
        | exact hnext
        | omega
        | (intro h; cases h; done)
        | decide
        | skip
      all_goals trace_state
    refine .forUp (p.length + 7) (fun i F S => ∃ (x : Nat) (pt : Int),F = [(2,.int .i64 x),(4,.str (decS n)),(5,.bool ng),(6,.int .i64 pt),(7,.bool false),(8,.int .i64 i)] ∧ S = .none gl ∧
      ((i ≤ p.length ∧ pt = -1 ∧ x = valD 0 (p.take i)) ∨ (p.length < i ∧ pt = p.length ∧ x = valD 0 (p ++ q.take (i - (p.length + 1)))))) ⟨0,-1,rfl,rfl,.inl ⟨by omega,rfl,by rw [List.take_zero,valD_nil]⟩⟩ ?_
    rintro i F S hi ⟨x,pt,rfl,rfl,hI⟩ ih
    rcases hI with ⟨hip,rfl,hx⟩ | ⟨hip,rfl,hx⟩
    · by_cases h : i < p.length
      · obtain ⟨c,hc⟩ := some_of_lt h
        have hcR : (decS n)[i]? = some c := by rw [hS,List.getElem?_append_left h]; exact hc
        have hnx : 10 * x + dvl c = valD 0 (p.take (i + 1)) := by rw [take_some hc,valD_append,← hx,valD_cons,valD_nil]
        refine dstep i x _ c hcR (hp c (List.mem_of_getElem? hc)) ?_ (ih (by omega) _ _ ⟨_,_,rfl,rfl,.inl ⟨by omega,rfl,hnx⟩⟩)
        have h2 := valD_ge (p.drop (i + 1) ++ q) (valD 0 (p.take (i + 1)))
        rw [← valD_append,← List.append_assoc,List.take_append_drop,hv] at h2
        omega
      · obtain rfl : i = p.length := by omega
        have hcR : (decS n)[p.length]? = some 46 := by rw [hS,List.getElem?_append_right (Nat.le_refl _)]; simp
        have hlt : decide ((p.length : Int) < ((decS n).length : Int)) = true := decide_eq_true (by omega)
        have hpos : decide ((0 : Int) < (p.length : Int)) = true := decide_eq_true (by omega)
        refine opn m89l0.eq_1 ?_
        repeat' first
          | with_reducible first | refine mw_as m89.eq_1 ?_ | refine opn m89k0.eq_1 ?_ | refine opn m89k1.eq_1 ?_ | refine opn m89k2.eq_1 ?_ | refine opn m89k3.eq_1 ?_ | refine opn m89k4.eq_1 ?_ | refine opn m89k5.eq_1 ?_ | refine opn m89k6.eq_1 ?_ | refine opn m89k7.eq_1 ?_ | refine opn m89k8.eq_1 ?_ | refine opn m89k9.eq_1 ?_ | refine opn m89k10.eq_1 ?_ | refine opn m89k11.eq_1 ?_ | refine ⟨?_,?_⟩ | intro _
          | simp only [go_sem,↓reduceIte,Nat.reduceAdd,Nat.reduceLeDiff,Nat.reduceEqDiff,Nat.reduceBEq,Nat.reduceBNe,Nat.reduceMul,Nat.reduceLT,reduceCtorEq,Int.reduceLT,Int.reduceLE,Int.reduceToNat,Int.reduceNeg,  hlt,hcR,hpos,wrap_succ (show p.length < 9223372036854775807 by omega),(show (((46 : UInt8).toNat : Int) == 46) = true from rfl),(show decide ((-1 : Int) < 0) = true from rfl)]
        exact ih (by omega) _ _ ⟨_,_,rfl,rfl,.inr ⟨by omega,rfl,by rw [Nat.sub_self,List.take_zero,List.append_nil,hx,List.take_length]⟩⟩
    · by_cases h : i < p.length + 7
      · obtain ⟨j,hj⟩ : ∃ j,j = i - (p.length + 1) := ⟨_,rfl⟩
        obtain ⟨c,hc⟩ := some_of_lt (show j < q.length by omega)
        have hcR : (decS n)[i]? = some c := by
          rw [hS,List.getElem?_append_right (by omega),show i - p.length = j + 1 by omega,List.getElem?_cons_succ]
          exact hc
        rw [← hj] at hx
        have hnx : 10 * x + dvl c = valD 0 (p ++ q.take (i + 1 - (p.length + 1))) := by
          rw [show i + 1 - (p.length + 1) = j + 1 by omega,take_some hc,← List.append_assoc,valD_append,← hx,valD_cons,valD_nil]
        refine dstep i x _ c hcR (hq c (List.mem_of_getElem? hc)) ?_ (ih (by omega) _ _ ⟨_,_,rfl,rfl,.inr ⟨by omega,rfl,hnx⟩⟩)
        have h2 := valD_ge (q.drop (i + 1 - (p.length + 1))) (valD 0 (p ++ q.take (i + 1 - (p.length + 1))))
        rw [← valD_append,List.append_assoc,List.take_append_drop,hv] at h2
        omega
      · obtain rfl : i = p.length + 7 := by omega
        have hxu : x = n.natAbs := by rw [hx,show p.length + 7 - (p.length + 1) = 6 by omega,← hql,List.take_length,hv]
        subst hxu
        have hlt : decide (((p.length + 7 : Nat) : Int) < ((decS n).length : Int)) = false := decide_eq_false (by omega)
        have hge : decide ((0 : Int) ≤ (p.length : Int)) = true := decide_eq_true (by omega)
        have w1 : IntKind.i64.wrap (((decS n).length : Int) - (p.length : Int)) = 7 := by rw [wrap_i64_in (by omega) (by omega)]; omega
        have w2 : IntKind.i64.wrap ((7 : Int) - 1) = 6 := by decide
        have w3 : IntKind.i64.wrap ((6 : Int) - 6) = 0 := by decide
        have w4 : IntKind.i64.wrap ((1152921504606846976 : Int).tdiv 1) = 1152921504606846976 := by decide
        have g1 : decide ((1152921504606846976 : Int) < (n.natAbs : Int)) = false := decide_eq_false (by omega)
        have w5 : IntKind.i64.wrap ((n.natAbs : Int) * 1) = (n.natAbs : Int) := by rw [Int.mul_one]; exact wrap_i64_in (by omega) (by omega)
        have w6 : IntKind.i64.wrap (-(n.natAbs : Int)) = -(n.natAbs : Int) := wrap_i64_in (by omega) (by omega)
        refine opn m89l0.eq_1 ?_
        cases ng
        all_goals
          repeat' first
            | with_reducible first | refine mw_as m89.eq_1 ?_ | refine opn m89k0.eq_1 ?_ | refine opn m89k1.eq_1 ?_ | refine opn m89k2.eq_1 ?_ | refine opn m89k3.eq_1 ?_ | refine opn m89k4.eq_1 ?_ | refine opn m89k5.eq_1 ?_ | refine opn m89k6.eq_1 ?_ | refine opn m89k7.eq_1 ?_ | refine opn m89k8.eq_1 ?_ | refine opn m89k9.eq_1 ?_ | refine opn m89k10.eq_1 ?_ | refine opn m89k11.eq_1 ?_ | refine ⟨?_,?_⟩ | intro _
            | simp only [go_sem,↓reduceIte,Nat.reduceAdd,Nat.reduceLeDiff,Nat.reduceEqDiff,Nat.reduceBEq,Nat.reduceBNe,Nat.reduceMul,Nat.reduceLT,reduceCtorEq,Int.reduceLT,Int.reduceLE,Int.reduceToNat,Int.reduceNeg,  hlt,hge,w1,w2,w3,w4,g1,w5,w6,hne,ht,(show ((6 : Int) == 0) = false from rfl),(show decide ((6 : Int) < 6) = false from rfl)]
          all_goals first
            | omega
            | (simp at hng; rw [wrap_i64_in (by omega) (by omega)]; omega)
            | (simp at hng; rw [hng]; done)
            | skip
          all_goals trace_state
  have hc0 : ∃ c t,decS n = c :: t ∧ IsDg c := by
    cases p with
    | nil => simp at hpl
    | cons c t => exact ⟨c,t ++ 46 :: q,by rw [hS]; rfl,hp c List.mem_cons_self⟩
  obtain ⟨c,t,hct,hc⟩ := hc0
  unfold IsDg at hc
  by_cases hn : n < 0
  · have hk := key true (by simp; omega)
    rw [hct] at hk hRl
    have hF : decF n = 45 :: c :: t := by rw [decF,if_pos hn,hct]
    rw [hF]
    have h2 : ((45 :: c :: t : Bytes) == []) = false := rfl
    repeat' first
      | with_reducible first | refine mw_as m89.eq_1 ?_ | refine opn m89k0.eq_1 ?_ | refine opn m89k1.eq_1 ?_ | refine opn m89k2.eq_1 ?_ | refine opn m89k3.eq_1 ?_ | refine opn m89k4.eq_1 ?_ | refine opn m89k5.eq_1 ?_ | refine opn m89k6.eq_1 ?_ | refine opn m89k7.eq_1 ?_ | refine opn m89k8.eq_1 ?_ | refine opn m89k9.eq_1 ?_ | refine opn m89k10.eq_1 ?_ | refine opn m89k11.eq_1 ?_ | refine ⟨?_,?_⟩ | intro _
      | simp only [go_sem,↓reduceIte,Nat.reduceAdd,Nat.reduceLeDiff,Nat.reduceEqDiff,Nat.reduceBEq,Nat.reduceBNe,Nat.reduceMul,Nat.reduceLT,reduceCtorEq,Int.reduceLT,Int.reduceLE,Int.reduceToNat,Int.reduceNeg,  h2,(show (((45 : UInt8).toNat : Int) == 45) = true from rfl)]
    all_goals first
      | exact hk
      | omega
      | skip
    all_goals trace_state
  · have hk := key false (by simp; omega)
    rw [hct] at hk hRl
    have hF : decF n = c :: t := by rw [decF,if_neg hn,hct]
    rw [hF]
    have h2 : ((c :: t : Bytes) == []) = false := rfl
    have e45 : ((c.toNat : Int) == 45) = false := by simp; omega
    repeat' first
      | with_reducible first | refine mw_as m89.eq_1 ?_ | refine opn m89k0.eq_1 ?_ | refine opn m89k1.eq_1 ?_ | refine opn m89k2.eq_1 ?_ | refine opn m89k3.eq_1 ?_ | refine opn m89k4.eq_1 ?_ | refine opn m89k5.eq_1 ?_ | refine opn m89k6.eq_1 ?_ | refine opn m89k7.eq_1 ?_ | refine opn m89k8.eq_1 ?_ | refine opn m89k9.eq_1 ?_ | refine opn m89k10.eq_1 ?_ | refine opn m89k11.eq_1 ?_ | refine ⟨?_,?_⟩ | intro _
      | simp only [go_sem,↓reduceIte,Nat.reduceAdd,Nat.reduceLeDiff,Nat.reduceEqDiff,Nat.reduceBEq,Nat.reduceBNe,Nat.reduceMul,Nat.reduceLT,reduceCtorEq,Int.reduceLT,Int.reduceLE,Int.reduceToNat,Int.reduceNeg,  h2,e45]
    all_goals first
      | exact hk
      | omega
      | skip
    all_goals trace_state
end Go.Proofs.YtdjdhecanjmchaaGreatDoor
