/- Contracts: names and keywords. -/
import Derived.Test.YtdjdhecanjmchaaGreatDoorP1
set_option linter.unusedSimpArgs false
set_option linter.unusedVariables false
namespace Go.Proofs.YtdjdhecanjmchaaGreatDoor
open Go Go.V
attribute [local go_sem ↓] keepK Opd.ev MK.ev MK.ob gsA
attribute [local go_sem high] gsB
attribute [local go_sem] binEv binOb intOp strOp unEv eqvEv eqCells eqCell noBld tasEv AV.there AV.plus pickCells storeEv AV.solid AV.cells splice putParts rowOK fldEv iarrEv extEv minEv nonNil lenEv isStr appEv appOb appArg slVecEv slVecOb slStrEv slStrOb bnd argF endQ rvsEv rvEv resOf St.none if_true if_false ite_self eq_self ne_eq implies_true forall_const Lab.av Val.av Exa.av Dset.av Req.av gsC
section
open Go Go.V
set_option maxRecDepth 40000
variable {gl : List (Nat × List AV)}
def letB (c : UInt8) : Bool := decide (97 ≤ (c.toNat : Int)) && decide ((c.toNat : Int) ≤ 122)
def digB (c : UInt8) : Bool := decide (48 ≤ (c.toNat : Int)) && decide ((c.toNat : Int) ≤ 57)
theorem c196 (c : UInt8) : Pure Tryz.prog gl 196 [.int .u8 c.toNat] (.ok (.bool (letB c))) := by
  refine ⟨?_,by simp only [fgs,nrs,forall_eq_or_imp,forall_eq,implies_true],by simp only [nrs,forall_eq_or_imp,forall_eq,implies_true]⟩
  simp only [fgs]
  refine .of_run is196 (by simp) (mw_sound 200 ?_)
  repeat' first
    | with_reducible first | refine mw_as m196.eq_1 ?_ | refine ⟨?_,?_⟩ | intro _
    | simp only [go_sem,↓reduceIte,Nat.reduceAdd,Nat.reduceLeDiff,Nat.reduceEqDiff,Nat.reduceBEq,Nat.reduceBNe,Nat.reduceMul,Nat.reduceLT,reduceCtorEq,Int.reduceLT,Int.reduceLE,Int.reduceToNat,Int.reduceNeg]
  all_goals (simp only [letB]; grind)
theorem c197 (c : UInt8) : Pure Tryz.prog gl 197 [.int .u8 c.toNat] (.ok (.bool (digB c))) := by
  refine ⟨?_,by simp only [fgs,nrs,forall_eq_or_imp,forall_eq,implies_true],by simp only [nrs,forall_eq_or_imp,forall_eq,implies_true]⟩
  simp only [fgs]
  refine .of_run is197 (by simp) (mw_sound 200 ?_)
  repeat' first
    | with_reducible first | refine mw_as m197.eq_1 ?_ | refine ⟨?_,?_⟩ | intro _
    | simp only [go_sem,↓reduceIte,Nat.reduceAdd,Nat.reduceLeDiff,Nat.reduceEqDiff,Nat.reduceBEq,Nat.reduceBNe,Nat.reduceMul,Nat.reduceLT,reduceCtorEq,Int.reduceLT,Int.reduceLE,Int.reduceToNat,Int.reduceNeg]
  all_goals (simp only [digB]; grind)
def kwL : List Bytes := [[116,97,98,108,101],[102,101,97,116,117,114,101],[111,102],[107,101,101,112],[98,111,111,108],[116,101,120,116],[107,101,121],[105,110,116],[100,101,99],[105,102],[116,104,101,110],[101,108,115,101],[100,101,102,97,117,108,116],[111,114],[97,110,100],[110,111,116],[116,114,117,101],[102,97,108,115,101],[110,117,108,108],[99,111,117,110,116],[115,117,109],[109,101,97,110],[109,105,110],[109,97,120],[102,105,114,115,116],[108,97,115,116],[100,105,115,116,105,110,99,116],[113,117,97,110,116,105,108,101],[100,101,99,97,121],[97,108,108],[115,108,105,100,105,110,103],[116,117,109,98,108,105,110,103],[115,101,115,115,105,111,110],[119,104,101,114,101]]
def kwB (s : Bytes) : Bool := kwL.contains s
theorem c163 (s : Bytes) : Pure Tryz.prog gl 163 [.str s] (.ok (.bool (kwB s))) := by
  refine ⟨?_,by simp only [fgs,nrs,forall_eq_or_imp,forall_eq,implies_true],by simp only [nrs,forall_eq_or_imp,forall_eq,implies_true]⟩
  simp only [fgs]
  refine .of_run is163 (by simp) (mw_sound 200 ?_)
  repeat' first
    | with_reducible first | refine mw_as m163.eq_1 ?_ | refine opn m163k0.eq_1 ?_ | refine opn m163k1.eq_1 ?_ | refine opn m163k2.eq_1 ?_ | refine ⟨?_,?_⟩ | intro _
    | simp only [go_sem,↓reduceIte,Nat.reduceAdd,Nat.reduceLeDiff,Nat.reduceEqDiff,Nat.reduceBEq,Nat.reduceBNe,Nat.reduceMul,Nat.reduceLT,reduceCtorEq,Int.reduceLT,Int.reduceLE,Int.reduceToNat,Int.reduceNeg]
  all_goals
    simp only [kwB,kwL,List.contains_cons,List.contains_nil,Bool.or_false]
    simp only [Bool.or_eq_true,Bool.or_eq_false_iff,beq_iff_eq,beq_eq_false_iff_ne] at *
    grind
def tailB (c : UInt8) : Bool := letB c || (digB c || (c.toNat : Int) == 95)
def tailN : Bytes → Nat
  | [] => 0
  | c :: s => if tailB c then tailN s + 1 else 0
def wordN : Bytes → Nat
  | [] => 0
  | c :: s => if letB c then tailN s + 1 else 0
theorem c162 (hg : GlNR gl) (b : Bytes) (c : UInt8) (s : Bytes) (hb : b = c :: s) (t : STok) (hs : b.length < 4294967296) : Pure Tryz.prog gl 162 [.sl 1 (b.map byteAV) t,.int .i64 0] (.ok (.int .i64 (wordN b))) := by
  have h0 : b[0]? = some c := by rw [hb]; rfl
  have hl : 0 < b.length := by rw [hb]; simp
  refine ⟨?_,by simp only [fgs,nrs,forall_eq_or_imp,forall_eq,implies_true],by simp only [nrs,forall_eq_or_imp,forall_eq,implies_true]⟩
  simp only [fgs]
  refine .of_run is162 (by simp) (mw_sound 200 ?_)
  repeat' first
    | with_reducible first | refine mw_as m162.eq_1 ?_ | refine opn m162k0.eq_1 ?_ | refine opn m162k1.eq_1 ?_ | refine opn m162k2.eq_1 ?_ | refine .pu (c196 c) hg rfl ?_ | refine ⟨?_,?_⟩ | intro _
    | simp only [go_sem,↓reduceIte,Nat.reduceAdd,Nat.reduceLeDiff,Nat.reduceEqDiff,Nat.reduceBEq,Nat.reduceBNe,Nat.reduceMul,Nat.reduceLT,reduceCtorEq,Int.reduceLT,Int.reduceLE,Int.reduceToNat,Int.reduceNeg,  h0,ltP hl,byteAV,(show (0 < (b.length : Int)) = True from eq_true (by omega))]
  · rename_i hx
    rw [hb,wordN]
    grind
  rename_i hx
  have hw : wordN b = tailN s + 1 := by rw [hb,wordN]; grind
  refine .loopN (fun j F S => ∃ i : Nat,i + j = b.length ∧ 1 ≤ i ∧ F = [(0,AV.sl 1 (List.map byteAV b) STok.unk),(1,AV.int IntKind.i64 0),(5,AV.int IntKind.i64 i)] ∧ S = .none gl ∧ wordN b = i + tailN (b.drop i)) (b.length - 1) ⟨1,by omega,by omega,rfl,rfl,by rw [hw,hb]; simp; omega⟩ ?_
  rintro j F S ⟨i,hi,hi1,rfl,rfl,he⟩ ih
  by_cases h : i < b.length
  · obtain ⟨d,hc⟩ := some_of_lt h
    have hd := drop_some hc
    refine opn m162l0.eq_1 ?_
    repeat' first
      | with_reducible first | refine mw_as m162.eq_1 ?_ | refine opn m162k0.eq_1 ?_ | refine opn m162k1.eq_1 ?_ | refine opn m162k2.eq_1 ?_ | refine .pu (c196 d) hg rfl ?_ | refine .pu (c197 d) hg rfl ?_ | refine ⟨?_,?_⟩ | intro _
      | simp only [go_sem,↓reduceIte,Nat.reduceAdd,Nat.reduceLeDiff,Nat.reduceEqDiff,Nat.reduceBEq,Nat.reduceBNe,Nat.reduceMul,Nat.reduceLT,reduceCtorEq,Int.reduceLT,Int.reduceLE,Int.reduceToNat,Int.reduceNeg,  hc,ltB h,ltP h,byteAV,Int.zero_add,wrap_succ (show i < 9223372036854775807 by omega),wrap_i64_in (x := (i : Int)) (by omega) (by omega)]
    all_goals first
      | (refine ih (j - 1) _ _ (by omega) ⟨i + 1,by omega,by omega,rfl,rfl,?_⟩
         clear ih
         rw [he,hd,tailN]
         clear he hd hc hw hx
         simp only [tailB]
         grind)
      | (clear ih
         rw [he,hd,tailN]
         clear he hd hc hw hx
         simp only [tailB]
         grind)
  · refine opn m162l0.eq_1 ?_
    repeat' first
      | with_reducible first | refine mw_as m162.eq_1 ?_ | refine opn m162k0.eq_1 ?_ | refine opn m162k1.eq_1 ?_ | refine opn m162k2.eq_1 ?_ | refine ⟨?_,?_⟩ | intro _
      | simp only [go_sem,↓reduceIte,Nat.reduceAdd,Nat.reduceLeDiff,Nat.reduceEqDiff,Nat.reduceBEq,Nat.reduceBNe,Nat.reduceMul,Nat.reduceLT,reduceCtorEq,Int.reduceLT,Int.reduceLE,Int.reduceToNat,Int.reduceNeg,  geB (Nat.le_of_not_lt h),Int.zero_add,wrap_i64_in (x := (i : Int)) (by omega) (by omega)]
    rw [he,List.drop_eq_nil_of_le (Nat.le_of_not_lt h)]
    rfl
def nameB (s : Bytes) : Bool := !(s == []) && decide (s.length ≤ 24) && decide (wordN s = s.length) && !kwB s
theorem c98 (hg : GlNR gl) (s : Bytes) (hs : s.length < 4294967296) : Pure Tryz.prog gl 98 [.str s] (.ok (.bool (nameB s))) := by
  cases s with
  | nil =>
    refine ⟨?_,by simp only [fgs,nrs,forall_eq_or_imp,forall_eq,implies_true],by simp only [nrs,forall_eq_or_imp,forall_eq,implies_true]⟩
    simp only [fgs]
    refine .of_run is98 (by simp) (mw_sound 200 ?_)
    repeat' first
      | with_reducible first | refine mw_as m98.eq_1 ?_ | refine ⟨?_,?_⟩ | intro _
      | simp only [go_sem,↓reduceIte,Nat.reduceAdd,Nat.reduceLeDiff,Nat.reduceEqDiff,Nat.reduceBEq,Nat.reduceBNe,Nat.reduceMul,Nat.reduceLT,reduceCtorEq,Int.reduceLT,Int.reduceLE,Int.reduceToNat,Int.reduceNeg]
    all_goals rfl
  | cons c s =>
    refine ⟨?_,by simp only [fgs,nrs,forall_eq_or_imp,forall_eq,implies_true],by simp only [nrs,forall_eq_or_imp,forall_eq,implies_true]⟩
    simp only [fgs]
    refine .of_run is98 (by simp) (mw_sound 200 ?_)
    repeat' first
      | with_reducible first | refine mw_as m98.eq_1 ?_ | refine .pu (c162 hg (c :: s) c s rfl .unk hs) hg rfl ?_ | refine .pu (c163 (c :: s)) hg rfl ?_ | refine ⟨?_,?_⟩ | intro _
      | simp only [go_sem,↓reduceIte,Nat.reduceAdd,Nat.reduceLeDiff,Nat.reduceEqDiff,Nat.reduceBEq,Nat.reduceBNe,Nat.reduceMul,Nat.reduceLT,reduceCtorEq,Int.reduceLT,Int.reduceLE,Int.reduceToNat,Int.reduceNeg,  leBl (c :: s).length 24 24 rfl]
    all_goals
      simp only [nameB,List.length_cons]
      grind
end
section
open Go Go.V
set_option maxRecDepth 40000
variable {gl : List (Nat × List AV)}
theorem c88 {m : Int} (hm : gl.lookup 1 = some [.int .i64 m]) (a b : Bytes) (ha : a.length < 4294967281) : Pure Tryz.prog gl 88 [.str a,.str b] (.ok (.bool (Lib.contains a b))) := by
  refine ⟨?_,by simp only [fgs,nrs,forall_eq_or_imp,forall_eq,implies_true],by simp only [nrs,forall_eq_or_imp,forall_eq,implies_true]⟩
  simp only [fgs]
  refine (MCalls.ofSame Tryz.call88 fun wb G w vs hS hv => ?_).mono fun o S' h => h.2
  obtain ⟨v1,vs1,rfl,h1,hv⟩ := hv.cons_inv
  obtain ⟨v2,vs2,rfl,h2,hv⟩ := hv.cons_inv
  obtain rfl := hv.nil_inv
  obtain rfl := h1.str_inv
  obtain rfl := h2.str_inv
  obtain ⟨v,q1,q2,_⟩ := hS.glob 1 _ hm 0 _ rfl
  obtain rfl := q2.int_inv
  exact ⟨_,.bool _,by simpa using Tryz.strings_Contains ⟨a.toArray⟩ ⟨b.toArray⟩ m w (by simpa [ByteArray.size] using ha) (hS.prom 1 0 _ q1)⟩
def containsE : Bytes → Bytes → Bool
  | [],sub => sub.isEmpty
  | b :: l,sub => sub.isPrefixOf (b :: l) || containsE l sub
theorem contains_eqE (s sub : Bytes) : Lib.contains s sub = containsE s sub := by
  unfold Lib.contains
  induction s with
  | nil => unfold Lib.index containsE; cases sub <;> simp
  | cons b l ih =>
    unfold Lib.index containsE
    rw [← ih]
    have := Lib.index_ge l sub
    by_cases hp : sub.isPrefixOf (b :: l) = true
    · simp [hp]
    · have hp : sub.isPrefixOf (b :: l) = false := by cases h : sub.isPrefixOf (b :: l) with
        | false => rfl
        | true => exact absurd h hp
      simp only [hp,Bool.false_or,Bool.false_eq_true,if_false]
      by_cases hn : Lib.index l sub = -1
      · simp [hn]
      · have h2 : (Lib.index l sub == -1) = false := by simpa using hn
        rw [h2]
        have h3 : 0 ≤ Lib.index l sub := by omega
        simp only [Bool.false_eq_true,if_false]
        rw [decide_eq_true (by omega),decide_eq_true h3]
theorem containsE_sp (s : Bytes) : containsE s [32] = s.contains 32 := by
  induction s with
  | nil => rfl
  | cons b l ih => rw [containsE,ih,List.contains_cons]; simp [List.isPrefixOf]
theorem containsE_skip (k R q : Bytes) (h : k.contains 32 = false) : containsE (k ++ R) (32 :: q) = containsE R (32 :: q) := by
  induction k with
  | nil => rfl
  | cons b l ih =>
    rw [List.contains_cons,Bool.or_eq_false_iff] at h
    rw [List.cons_append,containsE,ih h.2]
    have : ((32 : UInt8) == b) = false := h.1
    simp [List.isPrefixOf,this]
theorem pre_sp (T : Bytes) : ∀ (s k : Bytes),s.contains 32 = false → k.contains 32 = false → (s ++ [32]).isPrefixOf (k ++ 32 :: T) = (s == k)
  | [],[],_,_ => by simp [List.isPrefixOf]
  | [],b :: k,_,hk => by
    rw [List.contains_cons,Bool.or_eq_false_iff] at hk
    have : ((32 : UInt8) == b) = false := hk.1
    simp [List.isPrefixOf,this]
  | a :: s,[],hs,_ => by
    rw [List.contains_cons,Bool.or_eq_false_iff] at hs
    have h1 : ((32 : UInt8) == a) = false := hs.1
    have h2 : (a == (32 : UInt8)) = false := by
      rw [beq_eq_false_iff_ne] at h1 ⊢
      exact fun e => h1 e.symm
    simp [List.isPrefixOf,h2]
  | a :: s,b :: k,hs,hk => by
    rw [List.contains_cons,Bool.or_eq_false_iff] at hs hk
    rw [List.cons_append,List.cons_append,List.isPrefixOf,pre_sp T s k hs.2 hk.2]
    rfl
def spaced (ks : List Bytes) : Bytes := ks.flatMap (· ++ [32])
theorem contains_spaced (s : Bytes) (h0 : s ≠ []) (hs : s.contains 32 = false) : ∀ ks : List Bytes,(∀ k ∈ ks,k.contains 32 = false) → containsE (32 :: spaced ks) (32 :: (s ++ [32])) = ks.contains s
  | [],_ => by
    cases s with
    | nil => exact absurd rfl h0
    | cons a s => simp [spaced,containsE,List.isPrefixOf]
  | k :: ks,h => by
    have hk := h k (by simp)
    have e1 : spaced (k :: ks) = k ++ 32 :: spaced ks := by simp [spaced]
    rw [containsE,e1,containsE_skip k _ _ hk,contains_spaced s h0 hs ks fun k hk => h k (by simp [hk]),List.contains_cons]
    congr 1
    rw [List.isPrefixOf,pre_sp _ s k hs hk]
    rfl
theorem kw_spaces : ∀ k ∈ kwL,k.contains 32 = false := by decide
theorem kw_law (s : Bytes) (h0 : s ≠ []) (hs : Lib.contains s [32] = false) : Lib.contains (32 :: spaced kwL) (32 :: (s ++ [32])) = kwB s := by
  rw [contains_eqE,containsE_sp] at hs
  rw [contains_eqE]
  exact contains_spaced s h0 hs kwL kw_spaces
theorem kw_no_space (s : Bytes) (hs : Lib.contains s [32] = true) : kwB s = false := by
  rw [contains_eqE,containsE_sp] at hs
  cases hk : kwB s with
  | false => rfl
  | true =>
    unfold kwB at hk
    have := kw_spaces s (by simpa using hk)
    rw [this] at hs
    cases hs
theorem c156 (hg : GlNR gl) {m : Int} (hm : gl.lookup 1 = some [.int .i64 m]) (s : Bytes) (hs : s.length < 4294960000) : Pure Tryz.prog gl 156 [.str s] (.ok (.bool (kwB s))) := by
  refine ⟨?_,by simp only [fgs,nrs,forall_eq_or_imp,forall_eq,implies_true],by simp only [nrs,forall_eq_or_imp,forall_eq,implies_true]⟩
  simp only [fgs]
  refine .of_run is156 (by simp) (mw_sound 200 ?_)
  repeat' first
    | with_reducible first | refine mw_as m156.eq_1 ?_ | refine .pu (c88 hm s [32] (by omega)) hg rfl ?_ | refine ⟨?_,?_⟩ | intro _
    | simp only [go_sem,↓reduceIte,Nat.reduceAdd,Nat.reduceLeDiff,Nat.reduceEqDiff,Nat.reduceBEq,Nat.reduceBNe,Nat.reduceMul,Nat.reduceLT,reduceCtorEq,Int.reduceLT,Int.reduceLE,Int.reduceToNat,Int.reduceNeg]
  · omega
  · omega
  · rename_i h1 h2
    refine CallK.pure (c88 hm _ (32 :: (s ++ [32])) (by decide)) hg rfl ?_
    simp only [go_sem,↓reduceIte,Nat.reduceAdd,Nat.reduceLeDiff,Nat.reduceEqDiff,Nat.reduceBEq,Nat.reduceBNe,Nat.reduceMul,Nat.reduceLT,reduceCtorEq,Int.reduceLT,Int.reduceLE,Int.reduceToNat,Int.reduceNeg]
    have h3 := kw_law s (by simpa using h1) (by simpa using h2)
    exact h3
  · rename_i h1 h2
    have := kw_no_space s (by simpa using h2)
    rw [this]
  · rename_i h1
    have : s = [] := by simpa using h1
    subst this
    rfl
def nmB (i : Nat) (c : UInt8) : Bool := letB c || (decide (0 < i) && (digB c || (c.toNat : Int) == 95))
def allNm : Nat → Bytes → Bool
  | _,[] => true
  | i,c :: s => nmB i c && allNm (i + 1) s
theorem tailN_le : ∀ s : Bytes,tailN s ≤ s.length
  | [] => Nat.le_refl _
  | c :: s => by have := tailN_le s; simp only [tailN,List.length_cons]; split <;> omega
theorem allNm_succ : ∀ (s : Bytes) (i : Nat),allNm (i + 1) s = decide (tailN s = s.length)
  | [],i => by simp [allNm,tailN]
  | c :: s,i => by
    have h := tailN_le s
    have h1 : nmB (i + 1) c = tailB c := by simp [nmB,tailB]
    rw [allNm,allNm_succ s,h1]
    simp only [tailN,List.length_cons]
    by_cases hb : tailB c = true <;> simp [hb]
theorem allNm_zero (s : Bytes) (h : s ≠ []) : allNm 0 s = decide (wordN s = s.length) := by
  cases s with
  | nil => exact absurd rfl h
  | cons c s =>
    have h1 : nmB 0 c = letB c := by simp [nmB]
    rw [allNm,allNm_succ s 0,h1]
    simp only [wordN,List.length_cons]
    by_cases hb : letB c = true <;> simp [hb]
theorem c92 (hg : GlNR gl) {m : Int} (hm : gl.lookup 1 = some [.int .i64 m]) (s : Bytes) (hs : s.length < 4294960000) : Pure Tryz.prog gl 92 [.str s] (.ok (.bool (nameB s))) := by
  refine ⟨?_,by simp only [fgs,nrs,forall_eq_or_imp,forall_eq,implies_true],by simp only [nrs,forall_eq_or_imp,forall_eq,implies_true]⟩
  simp only [fgs]
  refine .of_run is92 (by simp) (mw_sound 200 ?_)
  repeat' first
    | with_reducible first | refine mw_as m92.eq_1 ?_ | refine opn m92k0.eq_1 ?_ | refine opn m92k1.eq_1 ?_ | refine opn m92k2.eq_1 ?_ | refine opn m92k3.eq_1 ?_ | refine opn m92k4.eq_1 ?_ | refine opn m92k5.eq_1 ?_ | refine .pu (c156 hg hm s hs) hg rfl ?_ | refine ⟨?_,?_⟩ | intro _
    | simp only [go_sem,↓reduceIte,Nat.reduceAdd,Nat.reduceLeDiff,Nat.reduceEqDiff,Nat.reduceBEq,Nat.reduceBNe,Nat.reduceMul,Nat.reduceLT,reduceCtorEq,Int.reduceLT,Int.reduceLE,Int.reduceToNat,Int.reduceNeg]
  · rename_i h1 h2 h3
    simp [nameB,h3]
  · rename_i h1 h2 h3
    have h0 : s ≠ [] := by simpa using h1
    have hn : nameB s = allNm 0 s := by
      rw [allNm_zero s h0]
      have h4 : decide (s.length ≤ 24) = true := by simp at h2 ⊢; omega
      simp [nameB,h1,h3,h4]
    refine .forUp s.length (fun i F S => F = [(0,AV.str s),(17,AV.int IntKind.i64 ↑(List.length s)),(18,AV.int IntKind.i64 i)] ∧ S = .none gl ∧ nameB s = allNm i (s.drop i)) ⟨rfl,rfl,hn⟩ ?_
    rintro i F S hi ⟨rfl,rfl,he⟩ ih
    by_cases h : i < s.length
    · obtain ⟨c,hc⟩ := some_of_lt h
      have hd := drop_some hc
      refine opn m92l0.eq_1 ?_
      repeat' first
        | with_reducible first | refine mw_as m92.eq_1 ?_ | refine opn m92k0.eq_1 ?_ | refine opn m92k1.eq_1 ?_ | refine opn m92k2.eq_1 ?_ | refine opn m92k3.eq_1 ?_ | refine opn m92k4.eq_1 ?_ | refine opn m92k5.eq_1 ?_ | refine ⟨?_,?_⟩ | intro _
        | simp only [go_sem,↓reduceIte,Nat.reduceAdd,Nat.reduceLeDiff,Nat.reduceEqDiff,Nat.reduceBEq,Nat.reduceBNe,Nat.reduceMul,Nat.reduceLT,reduceCtorEq,Int.reduceLT,Int.reduceLE,Int.reduceToNat,Int.reduceNeg,  hc,ltB h,ltP h,wrap_succ (show i < 9223372036854775807 by omega),List.length_drop]
      all_goals first
        | (refine ih h _ _ ⟨rfl,rfl,?_⟩
           clear ih
           rw [he,hd,allNm]
           clear he hd hc hn h3 h1 h2
           simp only [nmB,letB,digB]
           grind)
        | (clear ih
           rw [he,hd,allNm]
           clear he hd hc hn h3 h1 h2
           simp only [nmB,letB,digB]
           grind)
    · refine opn m92l0.eq_1 ?_
      have hi' : i = s.length := by omega
      repeat' first
        | with_reducible first | refine mw_as m92.eq_1 ?_ | refine opn m92k0.eq_1 ?_ | refine opn m92k1.eq_1 ?_ | refine opn m92k2.eq_1 ?_ | refine opn m92k3.eq_1 ?_ | refine opn m92k4.eq_1 ?_ | refine opn m92k5.eq_1 ?_ | refine ⟨?_,?_⟩ | intro _
        | simp only [go_sem,↓reduceIte,Nat.reduceAdd,Nat.reduceLeDiff,Nat.reduceEqDiff,Nat.reduceBEq,Nat.reduceBNe,Nat.reduceMul,Nat.reduceLT,reduceCtorEq,Int.reduceLT,Int.reduceLE,Int.reduceToNat,Int.reduceNeg,  geB (Nat.le_of_not_lt h)]
      rw [he,List.drop_eq_nil_of_le (Nat.le_of_not_lt h)]
      rfl
  · rename_i h1 h2
    have h4 : decide (s.length ≤ 24) = false := by simp at h2 ⊢; omega
    simp [nameB,h4]
  · rename_i h1
    simp [nameB,h1]
end
section
open Go Go.V
set_option maxRecDepth 40000
variable {gl : List (Nat × List AV)}
def keyR (s : Bytes) : Bool := s.all (okB 33) && (decide (1 ≤ s.length) && decide (s.length ≤ 32))
theorem c164 (hg : GlNR gl) (s : Bytes) (hs : s.length ≤ 9223372036854775807) : Pure Tryz.prog gl 164 [.str s] (.ok (.bool (keyR s))) := by
  refine ⟨?_,by simp only [fgs,nrs,forall_eq_or_imp,forall_eq,implies_true],by simp only [nrs,forall_eq_or_imp,forall_eq,implies_true]⟩
  simp only [fgs]
  refine .of_run is164 (by simp) (mw_sound 200 ?_)
  repeat' first
    | with_reducible first | refine mw_as m164.eq_1 ?_ | refine opn m164k0.eq_1 ?_ | refine opn m164k1.eq_1 ?_ | refine opn m164k2.eq_1 ?_ | refine ⟨?_,?_⟩ | intro _
    | simp only [go_sem,↓reduceIte,Nat.reduceAdd,Nat.reduceLeDiff,Nat.reduceEqDiff,Nat.reduceBEq,Nat.reduceBNe,Nat.reduceMul,Nat.reduceLT,reduceCtorEq,Int.reduceLT,Int.reduceLE,Int.reduceToNat,Int.reduceNeg]
  refine .forUp s.length (fun i F S => F = [(0,AV.str s),(3,AV.int IntKind.i64 i)] ∧ S = .none gl ∧ s.all (okB 33) = (s.drop i).all (okB 33)) ⟨rfl,rfl,rfl⟩ ?_
  rintro i F S hi ⟨rfl,rfl,he⟩ ih
  by_cases h : i < s.length
  · obtain ⟨c,hc⟩ := some_of_lt h
    have hd := drop_some hc
    rw [hd,List.all_cons,okB_eq] at he
    refine opn m164l0.eq_1 ?_
    repeat' first
      | with_reducible first | refine mw_as m164.eq_1 ?_ | refine opn m164k0.eq_1 ?_ | refine opn m164k1.eq_1 ?_ | refine opn m164k2.eq_1 ?_ | refine ⟨?_,?_⟩ | intro _
      | simp only [go_sem,↓reduceIte,Nat.reduceAdd,Nat.reduceLeDiff,Nat.reduceEqDiff,Nat.reduceBEq,Nat.reduceBNe,Nat.reduceMul,Nat.reduceLT,reduceCtorEq,Int.reduceLT,Int.reduceLE,Int.reduceToNat,Int.reduceNeg,  hc,ltB h,ltP h,wrap_succ (show i < 9223372036854775807 by omega),List.length_drop]
    · clear ih
      have e33 : ((33 : Nat) : Int) = 33 := rfl
      rw [e33] at he
      rename_i hx
      simp only [keyR,he,hx,Bool.not_true,Bool.false_and]
    · rename_i hx
      have e33 : ((33 : Nat) : Int) = 33 := rfl
      rw [e33,hx,Bool.not_false,Bool.true_and] at he
      exact ih h _ _ ⟨rfl,rfl,he⟩
  · refine opn m164l0.eq_1 ?_
    have hi' : i = s.length := by omega
    rw [List.drop_eq_nil_of_le (Nat.le_of_not_lt h),List.all_nil] at he
    repeat' first
      | with_reducible first | refine mw_as m164.eq_1 ?_ | refine opn m164k0.eq_1 ?_ | refine opn m164k1.eq_1 ?_ | refine opn m164k2.eq_1 ?_ | refine ⟨?_,?_⟩ | intro _
      | simp only [go_sem,↓reduceIte,Nat.reduceAdd,Nat.reduceLeDiff,Nat.reduceEqDiff,Nat.reduceBEq,Nat.reduceBNe,Nat.reduceMul,Nat.reduceLT,reduceCtorEq,Int.reduceLT,Int.reduceLE,Int.reduceToNat,Int.reduceNeg,  geB (Nat.le_of_not_lt h)]
    all_goals (clear ih; simp only [keyR,he]; grind)
def labB (x : Lab) : Bool := keyR x.k && (tickB x.e && tickB x.n)
theorem c101 (hg : GlNR gl) (x : Lab) (hs : x.k.length ≤ 9223372036854775807) : Pure Tryz.prog gl 101 [x.av] (.ok (.bool (labB x))) := by
  refine ⟨?_,by simp only [fgs,nrs,forall_eq_or_imp,forall_eq,implies_true],by simp only [nrs,forall_eq_or_imp,forall_eq,implies_true]⟩
  simp only [fgs]
  refine .of_run is101 (by simp) (mw_sound 200 ?_)
  repeat' first
    | with_reducible first | refine mw_as m101.eq_1 ?_ | refine .pu (c164 hg x.k hs) hg rfl ?_ | refine .pu (c99 x.e) hg rfl ?_ | refine .pu (c99 x.n) hg rfl ?_ | refine ⟨?_,?_⟩ | intro _
    | simp only [go_sem,↓reduceIte,Nat.reduceAdd,Nat.reduceLeDiff,Nat.reduceEqDiff,Nat.reduceBEq,Nat.reduceBNe,Nat.reduceMul,Nat.reduceLT,reduceCtorEq,Int.reduceLT,Int.reduceLE,Int.reduceToNat,Int.reduceNeg]
  all_goals (simp only [labB]; grind)
def featsFrom (fs : List Bytes) : Nat → List Bytes → Bool
  | _,[] => true
  | i,f :: l => nameB f && (!(fs.take i).contains f && featsFrom fs (i + 1) l)
def featsB (fs : List Bytes) : Bool := featsFrom fs 0 fs
def form24 (r : Req) : Bool := nameB r.ent && (decide (1 ≤ r.fs.length) && (decide (r.fs.length ≤ 8) && (decide (r.labs.length ≤ 256) && (tickB r.seed && (decide (0 ≤ r.pm) && (decide (r.pm ≤ 1000) && (featsB r.fs && r.labs.all labB)))))))
theorem c40 (hg : GlNR gl) (r : Req) (h1 : r.ent.length < 4294960000) (h2 : ∀ f ∈ r.fs,f.length < 4294960000) (h3 : ∀ x ∈ r.labs,x.k.length ≤ 9223372036854775807) (h4 : r.fs.length < 4294960000) (h5 : r.labs.length < 4294960000) : Pure Tryz.prog gl 40 [r.av] (.ok (.bool (form24 r))) := by
  refine ⟨?_,by simp only [fgs,nrs,forall_eq_or_imp,forall_eq,implies_true],by simp only [nrs,forall_eq_or_imp,forall_eq,implies_true]⟩
  simp only [fgs]
  refine .of_run is40 (by simp) (mw_sound 200 ?_)
  let S0 : St := ⟨1,[(0,[AV.str r.ent,AV.sl 1 (List.map AV.str r.fs) STok.unk,AV.sl 3 (List.map Lab.av r.labs) STok.unk,AV.int IntKind.i64 r.seed,AV.int IntKind.i64 r.pm])],0,[],gl⟩
  have key2 : form24 r = r.labs.all labB → MRun Tryz.prog 83 [MI.code m40l1.loop,MI.inBlock 2,MI.code (MC.named [] m40k3)] [] [(1,AV.ptr 0 0),(4,AV.int IntKind.i64 0)] S0 (endQ [RV.t 2] fun o' x => o' = Out.ok (AV.bool (form24 r))) := by
    intro hf
    refine .forUp r.labs.length (fun i F S => F = [(1,AV.ptr 0 0),(4,AV.int IntKind.i64 i)] ∧ S = S0 ∧ form24 r = (r.labs.drop i).all labB) ⟨rfl,rfl,hf⟩ ?_
    rintro i F S hi ⟨rfl,rfl,he⟩ ih
    by_cases h : i < r.labs.length
    · obtain ⟨c,hc⟩ := some_of_lt h
      have hd := drop_some hc
      rw [hd,List.all_cons] at he
      refine opn m40l1.eq_1 ?_
      repeat' first
        | with_reducible first | refine mw_as m40.eq_1 ?_ | refine opn m40k0.eq_1 ?_ | refine opn m40k1.eq_1 ?_ | refine opn m40k2.eq_1 ?_ | refine opn m40k3.eq_1 ?_ | refine opn m40k4.eq_1 ?_ | refine opn m40k5.eq_1 ?_ | refine .pu (c101 hg c (h3 c (List.mem_of_getElem? hc))) hg rfl ?_ | refine ⟨?_,?_⟩ | intro _
        | simp only [go_sem,↓reduceIte,Nat.reduceAdd,Nat.reduceLeDiff,Nat.reduceEqDiff,Nat.reduceBEq,Nat.reduceBNe,Nat.reduceMul,Nat.reduceLT,reduceCtorEq,Int.reduceLT,Int.reduceLE,Int.reduceToNat,Int.reduceNeg,  S0,hc,ltB h,ltP h,wrap_succ (show i < 9223372036854775807 by omega)]
      · rename_i hx
        rw [he]
        have hx : labB c = false := by simpa using hx
        rw [hx]
        rfl
      · rename_i hx
        have hx : labB c = true := by simpa using hx
        rw [hx,Bool.true_and] at he
        exact ih h _ _ ⟨rfl,rfl,he⟩
    · refine opn m40l1.eq_1 ?_
      rw [List.drop_eq_nil_of_le (Nat.le_of_not_lt h),List.all_nil] at he
      repeat' first
        | with_reducible first | refine mw_as m40.eq_1 ?_ | refine opn m40k0.eq_1 ?_ | refine opn m40k1.eq_1 ?_ | refine opn m40k2.eq_1 ?_ | refine opn m40k3.eq_1 ?_ | refine opn m40k4.eq_1 ?_ | refine opn m40k5.eq_1 ?_ | refine ⟨?_,?_⟩ | intro _
        | simp only [go_sem,↓reduceIte,Nat.reduceAdd,Nat.reduceLeDiff,Nat.reduceEqDiff,Nat.reduceBEq,Nat.reduceBNe,Nat.reduceMul,Nat.reduceLT,reduceCtorEq,Int.reduceLT,Int.reduceLE,Int.reduceToNat,Int.reduceNeg,  S0,geB (Nat.le_of_not_lt h)]
      rw [he]
  have key1 : form24 r = (featsB r.fs && r.labs.all labB) → MRun Tryz.prog 83 [MI.code m40l0.loop,MI.inBlock 0,MI.code (MC.named [1] m40k4)] [] [(1,AV.ptr 0 0),(3,AV.int IntKind.i64 0)] S0 (endQ [RV.t 2] fun o' x => o' = Out.ok (AV.bool (form24 r))) := by
    intro hf
    refine .forUp r.fs.length (fun i F S => F = [(1,AV.ptr 0 0),(3,AV.int IntKind.i64 i)] ∧ S = S0 ∧ form24 r = (featsFrom r.fs i (r.fs.drop i) && r.labs.all labB)) ⟨rfl,rfl,hf⟩ ?_
    rintro i F S hi ⟨rfl,rfl,he⟩ ih
    by_cases h : i < r.fs.length
    · obtain ⟨c,hc⟩ := some_of_lt h
      have hd := drop_some hc
      rw [hd,featsFrom] at he
      refine opn m40l0.eq_1 ?_
      have hcl : c.length < 4294967296 := by have := h2 c (List.mem_of_getElem? hc); omega
      have htl : (r.fs.take i).length < 4294967296 := by rw [List.length_take]; omega
      repeat' first
        | with_reducible first | refine mw_as m40.eq_1 ?_ | refine opn m40k0.eq_1 ?_ | refine opn m40k1.eq_1 ?_ | refine opn m40k2.eq_1 ?_ | refine opn m40k3.eq_1 ?_ | refine opn m40k4.eq_1 ?_ | refine opn m40k5.eq_1 ?_ | refine .pu (c98 hg c hcl) hg rfl ?_ | refine .pu (c100 hg (r.fs.take i) c .unk htl) hg rfl ?_ | refine ⟨?_,?_⟩ | intro _
        | simp only [go_sem,↓reduceIte,Nat.reduceAdd,Nat.reduceLeDiff,Nat.reduceEqDiff,Nat.reduceBEq,Nat.reduceBNe,Nat.reduceMul,Nat.reduceLT,reduceCtorEq,Int.reduceLT,Int.reduceLE,Int.reduceToNat,Int.reduceNeg,  S0,hc,ltB h,ltP h,wrap_succ (show i < 9223372036854775807 by omega),← List.map_take,Int.natCast_nonneg]
      · omega
      · rename_i h6 h7
        rw [he,h7]
        simp
      · rename_i h6 h7
        have h6 : nameB c = true := by simpa using h6
        rw [h6,h7,Bool.not_false,Bool.true_and,Bool.true_and] at he
        exact ih h _ _ ⟨rfl,rfl,he⟩
      · rename_i h6
        have h6 : nameB c = false := by simpa using h6
        rw [he,h6]
        rfl
    · refine opn m40l0.eq_1 ?_
      rw [List.drop_eq_nil_of_le (Nat.le_of_not_lt h),featsFrom,Bool.true_and] at he
      repeat' first
        | with_reducible first | refine mw_as m40.eq_1 ?_ | refine opn m40k0.eq_1 ?_ | refine opn m40k1.eq_1 ?_ | refine opn m40k2.eq_1 ?_ | refine opn m40k3.eq_1 ?_ | refine opn m40k4.eq_1 ?_ | refine opn m40k5.eq_1 ?_ | refine ⟨?_,?_⟩ | intro _
        | simp only [go_sem,↓reduceIte,Nat.reduceAdd,Nat.reduceLeDiff,Nat.reduceEqDiff,Nat.reduceBEq,Nat.reduceBNe,Nat.reduceMul,Nat.reduceLT,reduceCtorEq,Int.reduceLT,Int.reduceLE,Int.reduceToNat,Int.reduceNeg,  S0,geB (Nat.le_of_not_lt h)]
      exact key2 he
  repeat' first
    | with_reducible first | refine mw_as m40.eq_1 ?_ | refine opn m40k0.eq_1 ?_ | refine opn m40k1.eq_1 ?_ | refine opn m40k2.eq_1 ?_ | refine opn m40k3.eq_1 ?_ | refine opn m40k4.eq_1 ?_ | refine opn m40k5.eq_1 ?_ | refine .pu (c98 hg r.ent (by omega)) hg rfl ?_ | refine .pu (c99 r.seed) hg rfl ?_ | refine ⟨?_,?_⟩ | intro _
    | simp only [go_sem,↓reduceIte,Nat.reduceAdd,Nat.reduceLeDiff,Nat.reduceEqDiff,Nat.reduceBEq,Nat.reduceBNe,Nat.reduceMul,Nat.reduceLT,reduceCtorEq,Int.reduceLT,Int.reduceLE,Int.reduceToNat,Int.reduceNeg]
  all_goals first
    | (refine key1 ?_
       simp only [form24]
       grind)
    | (simp only [form24]
       grind)
end
section
open Go Go.V
set_option maxRecDepth 40000
variable {gl : List (Nat × List AV)}
def useL (live : List Nat) : STok → List Nat
  | .tok n => live.filter (· != n)
  | .new n => live.filter (· != n)
  | _ => live
theorem use_eq (n : Nat) (ob : List (Nat × List AV)) (nt : Nat) (live : List Nat) (gl : List (Nat × List AV)) (t : STok) : St.use ⟨n,ob,nt,live,gl⟩ t = ⟨n,ob,nt + 1,nt :: useL live t,gl⟩ := by cases t <;> rfl
theorem sub_one (i : Nat) (h : i < 9223372036854775807) : IntKind.i64.wrap (((i + 1 : Nat) : Int) - 1) = (i : Int) := by rw [wrap_i64_in (by omega) (by omega)]; omega
theorem lookG {α : Type} (t u : Nat) (v : α) (l : List (Nat × α)) : List.lookup t ((u,v) :: l) = if t = u then some v else List.lookup t l := by
  rw [List.lookup_cons]
  by_cases h : t = u
  · subst h; simp
  · have : (t == u) = false := by simpa using h
    simp [this,h]
theorem keep_l1 {a0 a1 b1 : List AV} : ∀ l cs,List.lookup l [(1,a1),(0,a0)] = some cs → List.lookup l [(1,a1),(1,b1),(0,a0)] = some cs := by
  intro l cs h
  simp only [lookG] at h ⊢
  split at h
  · rename_i e; rw [if_pos e]; exact h
  · rename_i e; rw [if_neg e,if_neg e]; exact h
theorem keep_l2 {m : Nat} (hm : 2 ≤ m) {a0 a1 b1 am bm : List AV} : ∀ l cs,List.lookup l [(1,a1),(m,am),(0,a0)] = some cs → List.lookup l [(1,a1),(m,am),(m,bm),(1,b1),(0,a0)] = some cs := by
  intro l cs h
  simp only [lookG] at h ⊢
  grind
theorem keep_l3 {m : Nat} (hm : 2 ≤ m) {a0 a1 am : List AV} : ∀ l cs,List.lookup l [(1,a1),(0,a0)] = some cs → List.lookup l [(1,a1),(m,am),(0,a0)] = some cs := by
  intro l cs h
  simp only [lookG] at h ⊢
  grind
theorem natNe (a b : Nat) : (((a : Int) != (b : Int)) : Bool) = !decide (a = b) := by rw [Bool.eq_iff_iff]; simp; omega
def valsB (l : List Val) : Bool := l.all fun v => chkR v == 0
def ltO (p : Option Lab) (x : Lab) : Bool := match p with
  | none => true
  | some q => labLt q x
def exsB (n : Nat) : Option Lab → List Exa → Bool
  | _,[] => true
  | p,x :: xs => labB x.lab && (decide (x.vs.length = n) && (ltO p x.lab && (valsB x.vs && exsB n (some x.lab) xs)))
def exsR (n : Nat) : Option Lab → List Exa → Bool
  | _,[] => true
  | p,x :: xs => ltO p x.lab && (decide (x.vs.length = n) && (valsB x.vs && exsR n (some x.lab) xs))
def formB (d : Dset) : Bool := nameB d.ent && (decide (1 ≤ d.fs.length) && (decide (d.fs.length ≤ 8) && (decide (d.xs.length ≤ 256) && (featsB d.fs && exsB d.fs.length none d.xs))))
theorem exsB_eq (n : Nat) : ∀ (xs : List Exa) (p : Option Lab),exsB n p xs = (exsR n p xs && (xs.map Exa.lab).all labB)
  | [],p => rfl
  | x :: xs,p => by
    simp only [exsB,exsR,exsB_eq n xs,List.map_cons,List.all_cons]
    grind
theorem formB_eq (d : Dset) : formB d = (exsR d.fs.length none d.xs && form24 ⟨d.ent,d.fs,d.xs.map Exa.lab,0,0⟩) := by
  simp only [formB,form24,exsB_eq,List.length_map]
  have h1 : tickB 0 = true := by decide
  simp only [h1,Bool.true_and]
  have h2 : decide ((0 : Int) ≤ 0) = true := by decide
  have h3 : decide ((0 : Int) ≤ 1000) = true := by decide
  rw [h2,h3]
  simp only [Bool.true_and]
  grind
def prevAt (xs : List Exa) (i : Nat) : Option Lab := if i = 0 then none else (xs[i - 1]?).map Exa.lab
structure SmallD (d : Dset) : Prop where
  ent : d.ent.length < 4294960000
  fs : d.fs.length < 4294960000
  f : ∀ f ∈ d.fs,f.length < 4294960000
  xs : d.xs.length < 4294960000
  k : ∀ x ∈ d.xs,x.lab.k.length < 4294960000
  vs : ∀ x ∈ d.xs,x.vs.length < 4294960000
  v : ∀ x ∈ d.xs,∀ v ∈ x.vs,v.s.length < 4294960000
theorem SmallD.kk {d : Dset} (hs : SmallD d) : ∀ x ∈ d.xs.map Exa.lab,x.k.length ≤ 9223372036854775807 := by
  intro x hx
  obtain ⟨y,hy,rfl⟩ := List.mem_map.1 hx
  have := hs.k y hy
  omega
theorem c22 (hg : GlNR gl) (d : Dset) (hs : SmallD d) : Pure Tryz.prog gl 22 [d.av] (.ok (.bool (formB d))) := by
  refine ⟨?_,by simp only [fgs,nrs,forall_eq_or_imp,forall_eq,implies_true],by simp only [nrs,forall_eq_or_imp,forall_eq,implies_true]⟩
  simp only [fgs]
  refine .of_run is22 (by simp) (mw_sound 200 ?_)
  repeat' first
    | with_reducible first | refine mw_as m22.eq_1 ?_ | refine opn m22k0.eq_1 ?_ | refine opn m22k1.eq_1 ?_ | refine opn m22k2.eq_1 ?_ | refine opn m22k3.eq_1 ?_ | refine ⟨?_,?_⟩ | intro _
    | simp only [go_sem,↓reduceIte,Nat.reduceAdd,Nat.reduceLeDiff,Nat.reduceEqDiff,Nat.reduceBEq,Nat.reduceBNe,Nat.reduceMul,Nat.reduceLT,reduceCtorEq,Int.reduceLT,Int.reduceLE,Int.reduceToNat,Int.reduceNeg]
  refine MRun.keep (ob' := [(1,[AV.str d.ent,AV.sl 1 (List.map AV.str d.fs) STok.unk,AV.sl 3 [] STok.exact,AV.int IntKind.i64 0,AV.int IntKind.i64 0]),(0,[AV.str d.ent,AV.sl 1 (List.map AV.str d.fs) STok.unk,AV.sl 4 (List.map Exa.av d.xs) STok.unk])]) (live' := []) ?_ keep_l1 (by simp)
  refine .forUp d.xs.length (fun i F S => F = [(1,AV.ptr 0 0),(3,AV.ptr 1 0),(4,AV.int IntKind.i64 i)] ∧ (∃ (m t : Nat) (tk : STok) (live : List Nat),2 ≤ m ∧ (tk = .exact ∨ ∃ n,tk = .tok n ∧ n ∈ live) ∧ S = ⟨m,[(1,[AV.str d.ent,AV.sl 1 (List.map AV.str d.fs) STok.unk,AV.sl 3 (List.map Lab.av ((d.xs.take i).map Exa.lab)) tk,AV.int IntKind.i64 0,AV.int IntKind.i64 0]),(0,[AV.str d.ent,AV.sl 1 (List.map AV.str d.fs) STok.unk,AV.sl 4 (List.map Exa.av d.xs) STok.unk])],t,live,gl⟩) ∧ formB d = (exsR d.fs.length (prevAt d.xs i) (d.xs.drop i) && form24 ⟨d.ent,d.fs,d.xs.map Exa.lab,0,0⟩)) ⟨rfl,⟨2,0,.exact,[],Nat.le_refl _,.inl rfl,by simp⟩,formB_eq d⟩ ?_
  rintro i F S hi ⟨rfl,⟨m,t,tk,live,hm,hab,rfl⟩,he⟩ ih
  have hxl := hs.xs
  by_cases h : i < d.xs.length
  · obtain ⟨x,hx⟩ := some_of_lt h
    have hd := drop_some hx
    rw [hd,exsR] at he
    have hvs := hs.vs x (List.mem_of_getElem? hx)
    have hxv := hs.v x (List.mem_of_getElem? hx)
    have key : formB d = (valsB x.vs && (exsR d.fs.length (some x.lab) (List.drop (i + 1) d.xs) && form24 { ent := d.ent,fs := d.fs,labs := List.map Exa.lab d.xs,seed := 0,pm := 0 })) →
        MRun Tryz.prog 71 [MI.code m22l0.loop,MI.inBlock 2,MI.inBlock 1,MI.code (MC.named [1,3,4] m22k2),MI.inLoop m22l1,MI.inBlock 0,MI.code (MC.named [3] m22k3)] [] [(1,AV.ptr 0 0),(3,AV.ptr 1 0),(4,AV.int IntKind.i64 i),(5,AV.ptr m 0),(6,AV.int IntKind.i64 0)]
          ⟨m + 1,[(1,[AV.str d.ent,AV.sl 1 (List.map AV.str d.fs) STok.unk,AV.sl 3 (List.map Lab.av ((d.xs.take (i + 1)).map Exa.lab)) (.tok t),AV.int IntKind.i64 0,AV.int IntKind.i64 0]),(m,[AV.str x.lab.k,AV.int IntKind.i64 x.lab.e,AV.int IntKind.i64 x.lab.n,AV.sl 3 (List.map Val.av x.vs) STok.unk]),(0,[AV.str d.ent,AV.sl 1 (List.map AV.str d.fs) STok.unk,AV.sl 4 (List.map Exa.av d.xs) STok.unk])],t + 1,[t],gl⟩
          (endQ [RV.t 2] fun o' x => o' = Out.ok (AV.bool (formB d))) := by
      intro hf
      refine .forUp x.vs.length (fun k F S => F = [(1,AV.ptr 0 0),(3,AV.ptr 1 0),(4,AV.int IntKind.i64 i),(5,AV.ptr m 0),(6,AV.int IntKind.i64 k)] ∧
          S = ⟨m + 1,[(1,[AV.str d.ent,AV.sl 1 (List.map AV.str d.fs) STok.unk,AV.sl 3 (List.map Lab.av ((d.xs.take (i + 1)).map Exa.lab)) (.tok t),AV.int IntKind.i64 0,AV.int IntKind.i64 0]),(m,[AV.str x.lab.k,AV.int IntKind.i64 x.lab.e,AV.int IntKind.i64 x.lab.n,AV.sl 3 (List.map Val.av x.vs) STok.unk]),(0,[AV.str d.ent,AV.sl 1 (List.map AV.str d.fs) STok.unk,AV.sl 4 (List.map Exa.av d.xs) STok.unk])],t + 1,[t],gl⟩ ∧
          formB d = (valsB (x.vs.drop k) && (exsR d.fs.length (some x.lab) (List.drop (i + 1) d.xs) && form24 { ent := d.ent,fs := d.fs,labs := List.map Exa.lab d.xs,seed := 0,pm := 0 }))) ⟨rfl,rfl,hf⟩ ?_
      rintro k F S hk ⟨rfl,rfl,hq⟩ ihk
      by_cases h2 : k < x.vs.length
      · obtain ⟨v,hv⟩ := some_of_lt h2
        have hdv := drop_some hv
        rw [hdv,valsB,List.all_cons] at hq
        have hvl : v.s.length < 4294967296 := by have := hxv v (List.mem_of_getElem? hv); omega
        refine opn m22l0.eq_1 ?_
        repeat' first
          | with_reducible first | refine mw_as m22.eq_1 ?_ | refine opn m22k0.eq_1 ?_ | refine opn m22k1.eq_1 ?_ | refine opn m22k2.eq_1 ?_ | refine opn m22k3.eq_1 ?_ | refine .pu (c56 hg v hvl) hg rfl ?_ | refine ⟨?_,?_⟩ | intro _
          | simp only [go_sem,↓reduceIte,Nat.reduceAdd,Nat.reduceLeDiff,Nat.reduceEqDiff,Nat.reduceBEq,Nat.reduceBNe,Nat.reduceMul,Nat.reduceLT,reduceCtorEq,Int.reduceLT,Int.reduceLE,Int.reduceToNat,Int.reduceNeg,  hv,ltB h2,ltP h2,(show (0 = m) = False from eq_false (by omega)),(show (1 = m) = False from eq_false (by omega)),(show (m = 0) = False from eq_false (by omega)),(show (m = 1) = False from eq_false (by omega)),wrap_succ (show k < 9223372036854775807 by omega)]
        · rename_i h3
          have h3 : (chkR v == 0) = false := by simpa using h3
          rw [hq,h3]
          rfl
        · rename_i h3
          have h3 : (chkR v == 0) = true := by simpa using h3
          rw [h3,Bool.true_and] at hq
          exact ihk h2 _ _ ⟨rfl,rfl,hq⟩
      · refine opn m22l0.eq_1 ?_
        rw [List.drop_eq_nil_of_le (Nat.le_of_not_lt h2),valsB,List.all_nil,Bool.true_and] at hq
        repeat' first
          | with_reducible first | refine mw_as m22.eq_1 ?_ | refine opn m22k0.eq_1 ?_ | refine opn m22k1.eq_1 ?_ | refine opn m22k2.eq_1 ?_ | refine opn m22k3.eq_1 ?_ | refine ⟨?_,?_⟩ | intro _
          | simp only [go_sem,↓reduceIte,Nat.reduceAdd,Nat.reduceLeDiff,Nat.reduceEqDiff,Nat.reduceBEq,Nat.reduceBNe,Nat.reduceMul,Nat.reduceLT,reduceCtorEq,Int.reduceLT,Int.reduceLE,Int.reduceToNat,Int.reduceNeg,  geB (Nat.le_of_not_lt h2),(show (0 = m) = False from eq_false (by omega)),(show (1 = m) = False from eq_false (by omega)),(show (m = 0) = False from eq_false (by omega)),(show (m = 1) = False from eq_false (by omega)),wrap_succ (show i < 9223372036854775807 by omega)]
        refine MRun.keep (live' := [t]) (ih h _ _ ⟨rfl,⟨m + 1,t + 1,.tok t,[t],by omega,.inr ⟨t,rfl,by simp⟩,rfl⟩,?_⟩) (keep_l3 hm) (fun _ h => h)
        rw [hq]
        congr 2
        simp [prevAt,hx]
    have htk : List.map Lab.av ((d.xs.take i).map Exa.lab) ++ [AV.agg [AV.str x.lab.k,AV.int IntKind.i64 x.lab.e,AV.int IntKind.i64 x.lab.n]] = List.map Lab.av ((d.xs.take (i + 1)).map Exa.lab) := by
      rw [take_some hx]; simp
    have hlen : (d.xs.take i).length < 4294960000 := by rw [List.length_take]; omega
    have hab2 : ∀ n ob nt,Able ⟨n,ob,nt,live,gl⟩ tk := fun n ob nt => by
      rcases hab with rfl | ⟨a,rfl,ha⟩
      · exact .inl rfl
      · exact .inr ⟨a,rfl,ha⟩
    rcases Nat.eq_zero_or_pos i with h0 | h0
    · subst h0
      have hlt : decide ((0 : Int) < ((0 : Nat) : Int)) = false := by decide
      refine opn m22l1.eq_1 ?_
      repeat' first
        | with_reducible first | refine mw_as m22.eq_1 ?_ | refine opn m22k0.eq_1 ?_ | refine opn m22k1.eq_1 ?_ | refine opn m22k2.eq_1 ?_ | refine opn m22k3.eq_1 ?_ | refine ⟨?_,?_⟩ | intro _
        | simp only [go_sem,↓reduceIte,Nat.reduceAdd,Nat.reduceLeDiff,Nat.reduceEqDiff,Nat.reduceBEq,Nat.reduceBNe,Nat.reduceMul,Nat.reduceLT,reduceCtorEq,Int.reduceLT,Int.reduceLE,Int.reduceToNat,Int.reduceNeg,  hx,ltB h,ltP h,use_eq,hlt,(show (0 = m) = False from eq_false (by omega)),(show (1 = m) = False from eq_false (by omega)),(show (m = 0) = False from eq_false (by omega)),(show (m = 1) = False from eq_false (by omega)),wrap_succ (show 0 < 9223372036854775807 by omega)]
      · exact hab2 _ _ _
      · clear ih key
        rename_i h3
        rw [he]
        have h4 : decide (x.vs.length = d.fs.length) = false := by rw [natNe] at h3; simpa using h3
        simp [h4]
      · rename_i h3
        have h4 : decide (x.vs.length = d.fs.length) = true := by rw [natNe] at h3; simpa using h3
        have htk0 : [AV.agg [AV.str x.lab.k,AV.int IntKind.i64 x.lab.e,AV.int IntKind.i64 x.lab.n]] = List.map Lab.av ((d.xs.take (0 + 1)).map Exa.lab) := by simpa using htk
        rw [htk0]
        refine MRun.keep (live' := [t]) (key ?_) (keep_l2 hm) (by simp)
        rw [he,h4]
        simp only [prevAt,ltO,if_true,Bool.true_and,Bool.and_assoc]
    · obtain ⟨j,rfl⟩ : ∃ j,i = j + 1 := ⟨i - 1,by omega⟩
      obtain ⟨y,hy⟩ := some_of_lt (show j < d.xs.length by omega)
      have hlt : decide ((0 : Int) < ((j + 1 : Nat) : Int)) = true := decide_eq_true (by omega)
      refine opn m22l1.eq_1 ?_
      repeat' first
        | with_reducible first | refine mw_as m22.eq_1 ?_ | refine opn m22k0.eq_1 ?_ | refine opn m22k1.eq_1 ?_ | refine opn m22k2.eq_1 ?_ | refine opn m22k3.eq_1 ?_ | refine .pu (c27 hg y.lab x.lab) hg rfl ?_ | refine ⟨?_,?_⟩ | intro _
        | simp only [go_sem,↓reduceIte,Nat.reduceAdd,Nat.reduceLeDiff,Nat.reduceEqDiff,Nat.reduceBEq,Nat.reduceBNe,Nat.reduceMul,Nat.reduceLT,reduceCtorEq,Int.reduceLT,Int.reduceLE,Int.reduceToNat,Int.reduceNeg,  hx,hy,ltB h,ltP h,use_eq,hlt,sub_one j (by omega),ltP (show j < d.xs.length by omega),(show (0 = m) = False from eq_false (by omega)),(show (1 = m) = False from eq_false (by omega)),(show (m = 0) = False from eq_false (by omega)),(show (m = 1) = False from eq_false (by omega)),wrap_succ (show j + 1 < 9223372036854775807 by omega)]
      · exact hab2 _ _ _
      · omega
      · omega
      · clear ih key
        rename_i h3
        rw [he]
        simp only [prevAt,Nat.add_one_sub_one,hy,Option.map_some,ltO,Nat.succ_ne_zero,if_false]
        rw [natNe] at h3
        revert h3
        cases labLt y.lab x.lab <;> cases decide (x.vs.length = d.fs.length) <;> simp [Bool.and_assoc]
      · rename_i h3
        rw [htk]
        refine MRun.keep (live' := [t]) (key ?_) (keep_l2 hm) (by simp)
        rw [he]
        simp only [prevAt,Nat.add_one_sub_one,hy,Option.map_some,ltO,Nat.succ_ne_zero,if_false]
        rw [natNe] at h3
        revert h3
        cases labLt y.lab x.lab <;> cases decide (x.vs.length = d.fs.length) <;> simp [Bool.and_assoc]
  · refine opn m22l1.eq_1 ?_
    rw [List.drop_eq_nil_of_le (Nat.le_of_not_lt h),exsR,Bool.true_and] at he
    have hi' : i = d.xs.length := by omega
    subst hi'
    repeat' first
      | with_reducible first | refine mw_as m22.eq_1 ?_ | refine opn m22k0.eq_1 ?_ | refine opn m22k1.eq_1 ?_ | refine opn m22k2.eq_1 ?_ | refine opn m22k3.eq_1 ?_ | refine .pu (Pure.conv (c40 hg ⟨d.ent,d.fs,d.xs.map Exa.lab,0,0⟩ hs.ent hs.f hs.kk hs.fs (by simpa using hs.xs)) (by simp only [fgs])) hg rfl ?_ | refine ⟨?_,?_⟩ | intro _
      | simp only [go_sem,↓reduceIte,Nat.reduceAdd,Nat.reduceLeDiff,Nat.reduceEqDiff,Nat.reduceBEq,Nat.reduceBNe,Nat.reduceMul,Nat.reduceLT,reduceCtorEq,Int.reduceLT,Int.reduceLE,Int.reduceToNat,Int.reduceNeg,  geB (Nat.le_refl _),List.take_length]
    try rw [he]
end
end Go.Proofs.YtdjdhecanjmchaaGreatDoor
