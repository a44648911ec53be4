/- Contract: values.Parse gives back what values.Format printed. -/
import Derived.Test.YtdjdhecanjmchaaGreatDoorFa
import Derived.Test.YtdjdhecanjmchaaGreatDoorFb
import Derived.Test.YtdjdhecanjmchaaGreatDoorFc
import Derived.Test.YtdjdhecanjmchaaGreatDoorTa
import Derived.Test.YtdjdhecanjmchaaGreatDoorM2
import Derived.Test.YtdjdhecanjmchaaGreatDoorM3
set_option linter.unusedSimpArgs false
set_option linter.unusedVariables false
namespace Go.Proofs.YtdjdhecanjmchaaGreatDoor
open Go Go.V Go.Lib Go.RowKit
set_option maxRecDepth 40000
attribute [local go_sem ↓] keepK Opd.ev MK.ev MK.ob gsA
attribute [local go_sem high] gsB
attribute [local go_sem] binEv binOb intOp strOp unEv eqvEv eqCells eqCell noBld tasEv AV.there AV.plus pickCells storeEv AV.solid AV.cells splice putParts rowOK fldEv iarrEv extEv minEv nonNil lenEv isStr appEv appOb appArg slVecEv slVecOb slStrEv slStrOb bnd argF endQ rvsEv rvEv resOf St.none if_true if_false ite_self eq_self ne_eq implies_true forall_const Lab.av Val.av Exa.av Dset.av Req.av gsC
variable {gl : List (Nat × List AV)}
theorem c90 (n : Int) (h0 : -9223372036854775808 ≤ n) (h1 : n ≤ 9223372036854775807) : Pure Tryz.prog gl 90 [.str (itoa n)] (.ok (.tup [.int .i64 n,.nili])) := by
  refine ⟨?_,by simp only [fgs,nrs,forall_eq_or_imp,forall_eq,implies_true],by simp only [nrs,forall_eq_or_imp,forall_eq,implies_true]⟩
  simp only [fgs]
  refine (MCalls.ofBelow Tryz.call90 fun wb G w vs hS hv => ?_).mono fun o S' h => h.2
  obtain ⟨v1,vs1,rfl,e1,hv⟩ := hv.cons_inv
  obtain rfl := hv.nil_inv
  obtain rfl := e1.str_inv
  refine ⟨.tuple #[.int .i64 n,.nilIface],?_,?_⟩
  · exact VRel.tup (vs := [.int .i64 n,.nilIface]) rfl fun m c u e1 e2 => by
      match m with
      | 0 => simp at e1 e2; subst e1; subst e2; exact .int _ _
      | 1 => simp at e1 e2; subst e1; subst e2; exact .nili
      | m + 2 => simp at e1
  · have hln : (itoa n).length ≤ 30 := by
      rw [itoa_digS]
      have := nDigits_le20 n.natAbs (by omega)
      rw [← decDigits_length] at this
      unfold digS
      split <;> simp <;> omega
    refine (Tryz.strconv_Atoi_ok ⟨(itoa n).toArray⟩ (by show (itoa n).toArray.size ≤ _; simp; omega) n (by simpa using atoi_itoa n h0 h1) w).mono ?_
    rintro e w' ⟨rfl,rfl | ⟨t,rfl⟩⟩
    · exact ⟨rfl,Below.refl _ _⟩
    · exact ⟨rfl,⟨rfl,rfl,rfl,by rw [Lib.bytesWorld_size]; omega,fun k hk => Lib.bytesWorld_at_old w _ t k hk⟩⟩
theorem six_kinds {v : Val} (h : chkR v = 0) : (v.kd = 0 ∧ v.n = 0 ∧ v.s = []) ∨ (v.kd = 1 ∧ (v.n = 0 ∨ v.n = 1) ∧ v.s = []) ∨ ((v.kd = 2 ∨ v.kd = 3) ∧ v.s = [] ∧ -1152921504606846976 ≤ v.n ∧ v.n ≤ 1152921504606846976) ∨
    (v.kd = 4 ∧ v.n = 0 ∧ v.s.length ≤ 64 ∧ v.s.all (okB 32) = true) ∨ (v.kd = 5 ∧ v.n = 0 ∧ v.s ≠ [] ∧ v.s.length ≤ 32 ∧ v.s.all (okB 33) = true) := by
  unfold chkR at h
  split at h
  · cases h
  rename_i h1
  split at h
  · cases h
  rename_i h2
  split at h
  · cases h
  rename_i h3
  have h1 : fieldsB v = true := by simpa using h1
  simp [rangeB] at h2
  unfold fieldsB at h1
  split at h1
  · rename_i hk
    simp at h1
    exact .inl ⟨hk,h1.1,h1.2⟩
  split at h1
  · rename_i hk
    simp at h1
    exact .inr (.inl ⟨hk,h1.1,h1.2⟩)
  split at h1
  · rename_i hk
    simp at h1
    exact .inr (.inr (.inl ⟨hk,h1,by omega,by omega⟩))
  split at h1
  · rename_i hk
    simp at h1
    rcases hk with hk | hk
    · simp [hk,textB] at h3
      exact .inr (.inr (.inr (.inl ⟨hk,h1,h3.1,by simpa using h3.2⟩)))
    · simp [hk,keyB] at h3
      exact .inr (.inr (.inr (.inr ⟨hk,h1,h3.1.1,h3.1.2,by simpa using h3.2⟩)))
  · cases h1
theorem contains_one (s : Bytes) (c : UInt8) : Lib.contains s [c] = s.contains c := by
  rw [contains_eqE]
  induction s with
  | nil => rfl
  | cons b l ih => rw [containsE,ih,List.contains_cons]; simp [List.isPrefixOf]
theorem trim_quoted {s : Bytes} (h : ∀ c ∈ s,c ≠ 34) : trL 34 (trR 34 (34 :: (s ++ [34]))) = s := by
  have hr : trR 34 (34 :: (s ++ [34])) = if s = [] then [] else 34 :: s := by
    unfold trR
    rw [show (34 :: (s ++ [34]) : Bytes).reverse = 34 :: (s.reverse ++ [34]) by simp,List.dropWhile_cons,if_pos (by rfl)]
    split
    · rename_i h0
      subst h0
      rfl
    · rename_i h0
      obtain ⟨t,x,rfl⟩ : ∃ t x,s = t ++ [x] := by
        rcases List.eq_nil_or_concat s with rfl | ⟨t,x,rfl⟩
        · exact absurd rfl h0
        · exact ⟨t,x,by rw [List.concat_eq_append]⟩
      have hx : (x == 34) = false := by simpa using h x (by simp)
      rw [List.reverse_append,List.reverse_singleton,List.singleton_append,List.cons_append,List.dropWhile_cons,if_neg (by rw [hx]; exact Bool.false_ne_true)]
      simp
  rw [hr]
  unfold trL
  split
  · rename_i h0
    rw [h0]
    rfl
  · rw [List.dropWhile_cons,if_pos (by rfl)]
    cases s with
    | nil => rfl
    | cons x t =>
      have hx : (x == 34) = false := by simpa using h x (by simp)
      rw [List.dropWhile_cons,if_neg (by rw [hx]; exact Bool.false_ne_true)]
theorem itoa_bytes (n : Int) : ∀ c ∈ itoa n,IsDg c ∨ c = 45 := by
  intro c hc
  obtain ⟨_,d2,_⟩ := dec_dg n.natAbs
  rw [itoa_digS] at hc
  unfold digS at hc
  split at hc
  · rcases List.mem_cons.1 hc with rfl | hc
    · exact .inr rfl
    · exact .inl (d2 c hc)
  · exact .inl (d2 c hc)
theorem decF_bytes (n : Int) : (∀ c ∈ decF n,IsDg c ∨ c = 45 ∨ c = 46) ∧ (46 : UInt8) ∈ decF n := by
  obtain ⟨p,q,hS,_,_,_,hp,hq⟩ := decS_parts n
  have h1 : ∀ c ∈ decS n,IsDg c ∨ c = 45 ∨ c = 46 := by
    intro c hc
    rw [hS] at hc
    rcases List.mem_append.1 hc with hc | hc
    · exact .inl (hp c hc)
    · rcases List.mem_cons.1 hc with rfl | hc
      · exact .inr (.inr rfl)
      · exact .inl (hq c hc)
  have h2 : (46 : UInt8) ∈ decS n := by rw [hS]; simp
  unfold decF
  split
  · refine ⟨fun c hc => ?_,List.mem_cons_of_mem _ h2⟩
    rcases List.mem_cons.1 hc with rfl | hc
    · exact .inr (.inl rfl)
    · exact h1 c hc
  · exact ⟨h1,h2⟩
theorem num_words {s : Bytes} (h : ∀ c ∈ s,IsDg c ∨ c = 45 ∨ c = 46) (hne : s ≠ []) : (s == [110,117,108,108]) = false ∧ (s == [116,114,117,101]) = false ∧ (s == [102,97,108,115,101]) = false ∧ hpB s 64 = false ∧ hpB s 34 = false ∧ (s == []) = false := by
  cases s with
  | nil => exact absurd rfl hne
  | cons c t =>
    have hc := h c List.mem_cons_self
    have hn : c.toNat ≤ 57 ∧ 45 ≤ c.toNat := by
      rcases hc with hc | rfl | rfl
      · exact ⟨hc.2,by have := hc.1; omega⟩
      · exact ⟨by decide,by decide⟩
      · exact ⟨by decide,by decide⟩
    have key : ∀ d : UInt8,(57 < d.toNat ∨ d.toNat < 45) → (c == d) = false := fun d hd => by
      simp only [beq_eq_false_iff_ne,ne_eq]
      rintro rfl
      omega
    have e0 : ((c :: t : Bytes) == []) = false := rfl
    simp only [List.cons_beq_cons,hpB,key 110 (by decide),key 116 (by decide),key 102 (by decide),key 64 (by decide),key 34 (by decide),Bool.false_and,e0,and_self]
set_option maxHeartbeats 4000000 in
theorem c34 (hg : GlNR gl) {m0 : Int} (hm0 : gl.lookup 1 = some [.int .i64 m0]) {tl : List AV} (ht : gl.lookup 0 = some (.int .i64 1 :: tl)) (v : Val) (hv : chkR v = 0) : Pure Tryz.prog gl 34 [.str (fmtV v)] (.ok (.tup [v.av,.int .i64 0])) := by
  have hsl : v.s.length ≤ 64 := by
    rcases six_kinds hv with h | h | h | h | h
    · rw [h.2.2]; simp
    · rw [h.2.2]; simp
    · rw [h.2.1]; simp
    · exact h.2.2.1
    · have := h.2.2.2.1; omega
  have h52 := c52 hg v (by omega)
  have hfl := fmtV_len v
  have hchk : ((chkR v == 0) = false) = False := by rw [hv]; simp
  have hss : ∀ s : Bytes,(s == s) = true := fun s => beq_self_eq_true s
  generalize hf : fmtV v = f at h52 hfl ⊢
  rcases six_kinds hv with h | h | h | h | h
  · obtain ⟨kd,n,s⟩ := v
    simp only at h
    obtain ⟨rfl,rfl,rfl⟩ := h
    simp [fmtV,hchk] at hf
    subst hf
    have w1 : (nullS == ([110,117,108,108] : Bytes)) = true := rfl
    have w6 : (nullS == ([] : Bytes)) = false := rfl
    refine ⟨?_,by simp only [fgs,nrs,forall_eq_or_imp,forall_eq,implies_true],by simp only [nrs,forall_eq_or_imp,forall_eq,implies_true]⟩
    simp only [fgs]
    refine .of_run is34 (by simp) (mw_sound 200 ?_)
    repeat' first
      | with_reducible first | refine mw_as m34.eq_1 ?_ | refine opn m34k0.eq_1 ?_ | refine opn m34k1.eq_1 ?_ | refine opn m34k2.eq_1 ?_ | refine opn m34k3.eq_1 ?_ | refine .pu (h52) hg rfl ?_ | refine ⟨?_,?_⟩ | intro _
      | simp only [go_sem,↓reduceIte,Nat.reduceAdd,Nat.reduceLeDiff,Nat.reduceEqDiff,Nat.reduceBEq,Nat.reduceBNe,Nat.reduceMul,Nat.reduceLT,reduceCtorEq,Int.reduceLT,Int.reduceLE,Int.reduceToNat,Int.reduceNeg,  hss,w1,w6]
  · obtain ⟨kd,n,s⟩ := v
    simp only at h
    obtain ⟨rfl,hn,rfl⟩ := h
    rcases hn with rfl | rfl
    all_goals
      simp [fmtV,hchk,boolS] at hf
      subst hf
      have w1 : (trueS == ([110,117,108,108] : Bytes)) = false := rfl
      have w2 : (trueS == ([116,114,117,101] : Bytes)) = true := rfl
      have w4 : (trueS == ([] : Bytes)) = false := rfl
      have u1 : (falseS == ([110,117,108,108] : Bytes)) = false := rfl
      have u2 : (falseS == ([116,114,117,101] : Bytes)) = false := rfl
      have u3 : (falseS == ([102,97,108,115,101] : Bytes)) = true := rfl
      have u4 : (falseS == ([] : Bytes)) = false := rfl
      refine ⟨?_,by simp only [fgs,nrs,forall_eq_or_imp,forall_eq,implies_true],by simp only [nrs,forall_eq_or_imp,forall_eq,implies_true]⟩
      simp only [fgs]
      refine .of_run is34 (by simp) (mw_sound 200 ?_)
      repeat' first
        | with_reducible first | refine mw_as m34.eq_1 ?_ | refine opn m34k0.eq_1 ?_ | refine opn m34k1.eq_1 ?_ | refine opn m34k2.eq_1 ?_ | refine opn m34k3.eq_1 ?_ | refine .pu (h52) hg rfl ?_ | refine ⟨?_,?_⟩ | intro _
        | simp only [go_sem,↓reduceIte,Nat.reduceAdd,Nat.reduceLeDiff,Nat.reduceEqDiff,Nat.reduceBEq,Nat.reduceBNe,Nat.reduceMul,Nat.reduceLT,reduceCtorEq,Int.reduceLT,Int.reduceLE,Int.reduceToNat,Int.reduceNeg,  hss,w1,w2,w4,u1,u2,u3,u4]
  · obtain ⟨kd,n,s⟩ := v
    simp only at h
    obtain ⟨hk,rfl,h0,h1⟩ := h
    rcases hk with rfl | rfl
    · simp [fmtV,hchk] at hf
      subst hf
      have hb : ∀ c ∈ itoa n,IsDg c ∨ c = 45 ∨ c = 46 := fun c hc => (itoa_bytes n c hc).imp id .inl
      have hne : itoa n ≠ [] := by
        obtain ⟨_,_,d3⟩ := dec_dg n.natAbs
        rw [itoa_digS]
        unfold digS
        split
        · simp
        · exact d3
      obtain ⟨w1,w2,w3,w4,w5,w6⟩ := num_words hb hne
      have h86a := c86 hg (itoa n) 64 (by omega)
      have h86b := c86 hg (itoa n) 34 (by omega)
      have h88 := c88 hm0 (itoa n) [46] (by omega)
      have hct : (itoa n).contains 46 = false := by
        rw [← Bool.not_eq_true,List.contains_iff_mem]
        intro hc
        rcases itoa_bytes n _ hc with h | h
        · exact absurd h.1 (by decide)
        · exact absurd h (by decide)
      rw [contains_one,hct] at h88
      rw [w4] at h86a
      rw [w5] at h86b
      have h90 := c90 n (by omega) (by omega) (gl := gl)
      refine ⟨?_,by simp only [fgs,nrs,forall_eq_or_imp,forall_eq,implies_true],by simp only [nrs,forall_eq_or_imp,forall_eq,implies_true]⟩
      simp only [fgs]
      refine .of_run is34 (by simp) (mw_sound 200 ?_)
      repeat' first
        | with_reducible first | refine mw_as m34.eq_1 ?_ | refine opn m34k0.eq_1 ?_ | refine opn m34k1.eq_1 ?_ | refine opn m34k2.eq_1 ?_ | refine opn m34k3.eq_1 ?_ | refine .pu (h52) hg rfl ?_ | refine .pu (h86a) hg rfl ?_ | refine .pu (h86b) hg rfl ?_ | refine .pu (h88) hg rfl ?_ | refine .pu (h90) hg rfl ?_ | refine ⟨?_,?_⟩ | intro _
        | simp only [go_sem,↓reduceIte,Nat.reduceAdd,Nat.reduceLeDiff,Nat.reduceEqDiff,Nat.reduceBEq,Nat.reduceBNe,Nat.reduceMul,Nat.reduceLT,reduceCtorEq,Int.reduceLT,Int.reduceLE,Int.reduceToNat,Int.reduceNeg,  hss,w1,w2,w3,w6,(show cmpEv 1 AV.nili AV.nili = some true from rfl)]
    · simp [fmtV,hchk] at hf
      subst hf
      obtain ⟨hb,hdot⟩ := decF_bytes n
      obtain ⟨w1,w2,w3,w4,w5,w6⟩ := num_words hb (by intro e; rw [e] at hdot; simp at hdot)
      have h86a := c86 hg (decF n) 64 (by omega)
      have h86b := c86 hg (decF n) 34 (by omega)
      have h88 := c88 hm0 (decF n) [46] (by omega)
      have hct : (decF n).contains 46 = true := by rw [List.contains_iff_mem]; exact hdot
      rw [contains_one,hct] at h88
      rw [w4] at h86a
      rw [w5] at h86b
      have h89 := c89 ht n h0 h1
      refine ⟨?_,by simp only [fgs,nrs,forall_eq_or_imp,forall_eq,implies_true],by simp only [nrs,forall_eq_or_imp,forall_eq,implies_true]⟩
      simp only [fgs]
      refine .of_run is34 (by simp) (mw_sound 200 ?_)
      repeat' first
        | with_reducible first | refine mw_as m34.eq_1 ?_ | refine opn m34k0.eq_1 ?_ | refine opn m34k1.eq_1 ?_ | refine opn m34k2.eq_1 ?_ | refine opn m34k3.eq_1 ?_ | refine .pu (h52) hg rfl ?_ | refine .pu (h86a) hg rfl ?_ | refine .pu (h86b) hg rfl ?_ | refine .pu (h88) hg rfl ?_ | refine .pu (h89) hg rfl ?_ | refine ⟨?_,?_⟩ | intro _
        | simp only [go_sem,↓reduceIte,Nat.reduceAdd,Nat.reduceLeDiff,Nat.reduceEqDiff,Nat.reduceBEq,Nat.reduceBNe,Nat.reduceMul,Nat.reduceLT,reduceCtorEq,Int.reduceLT,Int.reduceLE,Int.reduceToNat,Int.reduceNeg,  hss,w1,w2,w3,w6]
  · obtain ⟨kd,n,s⟩ := v
    simp only at h hsl
    obtain ⟨rfl,rfl,hl,ha⟩ := h
    simp [fmtV,hchk] at hf
    subst hf
    have h86a := c86 hg (34 :: (s ++ [34])) 64 (by simp; omega)
    have h86b := c86 hg (34 :: (s ++ [34])) 34 (by simp; omega)
    have h87 := c87 hg (34 :: (s ++ [34])) 34 (by decide) (by simp; omega)
    rw [trim_quoted (fun c hc => by
      have := List.all_eq_true.1 ha c hc
      simp [okB] at this
      intro e
      subst e
      exact absurd rfl this.1.2)] at h87
    have w1 : ((34 :: (s ++ [34]) : Bytes) == [110,117,108,108]) = false := rfl
    have w2 : ((34 :: (s ++ [34]) : Bytes) == [116,114,117,101]) = false := rfl
    have w3 : ((34 :: (s ++ [34]) : Bytes) == [102,97,108,115,101]) = false := rfl
    have w6 : ((34 :: (s ++ [34]) : Bytes) == []) = false := rfl
    rw [show hpB (34 :: (s ++ [34])) 64 = false from rfl] at h86a
    rw [show hpB (34 :: (s ++ [34])) 34 = true from rfl] at h86b
    refine ⟨?_,by simp only [fgs,nrs,forall_eq_or_imp,forall_eq,implies_true],by simp only [nrs,forall_eq_or_imp,forall_eq,implies_true]⟩
    simp only [fgs]
    refine .of_run is34 (by simp) (mw_sound 200 ?_)
    repeat' first
      | with_reducible first | refine mw_as m34.eq_1 ?_ | refine opn m34k0.eq_1 ?_ | refine opn m34k1.eq_1 ?_ | refine opn m34k2.eq_1 ?_ | refine opn m34k3.eq_1 ?_ | refine .pu (h52) hg rfl ?_ | refine .pu (h86a) hg rfl ?_ | refine .pu (h86b) hg rfl ?_ | refine .pu (h87) hg rfl ?_ | refine ⟨?_,?_⟩ | intro _
      | simp only [go_sem,↓reduceIte,Nat.reduceAdd,Nat.reduceLeDiff,Nat.reduceEqDiff,Nat.reduceBEq,Nat.reduceBNe,Nat.reduceMul,Nat.reduceLT,reduceCtorEq,Int.reduceLT,Int.reduceLE,Int.reduceToNat,Int.reduceNeg,  hss,w1,w2,w3,w6]
  · obtain ⟨kd,n,s⟩ := v
    simp only at h hsl
    obtain ⟨rfl,rfl,hne,hl,ha⟩ := h
    simp [fmtV,hchk] at hf
    subst hf
    have h86a := c86 hg (64 :: s) 64 (by simp; omega)
    rw [show hpB (64 :: s) 64 = true from rfl] at h86a
    have w1 : ((64 :: s : Bytes) == [110,117,108,108]) = false := rfl
    have w2 : ((64 :: s : Bytes) == [116,114,117,101]) = false := rfl
    have w3 : ((64 :: s : Bytes) == [102,97,108,115,101]) = false := rfl
    have w6 : ((64 :: s : Bytes) == []) = false := rfl
    refine ⟨?_,by simp only [fgs,nrs,forall_eq_or_imp,forall_eq,implies_true],by simp only [nrs,forall_eq_or_imp,forall_eq,implies_true]⟩
    simp only [fgs]
    refine .of_run is34 (by simp) (mw_sound 200 ?_)
    repeat' first
      | with_reducible first | refine mw_as m34.eq_1 ?_ | refine opn m34k0.eq_1 ?_ | refine opn m34k1.eq_1 ?_ | refine opn m34k2.eq_1 ?_ | refine opn m34k3.eq_1 ?_ | refine .pu (h52) hg rfl ?_ | refine .pu (h86a) hg rfl ?_ | refine ⟨?_,?_⟩ | intro _
      | simp only [go_sem,↓reduceIte,Nat.reduceAdd,Nat.reduceLeDiff,Nat.reduceEqDiff,Nat.reduceBEq,Nat.reduceBNe,Nat.reduceMul,Nat.reduceLT,reduceCtorEq,Int.reduceLT,Int.reduceLE,Int.reduceToNat,Int.reduceNeg,  hss,w1,w2,w3,w6]
    · omega
    · omega
end Go.Proofs.YtdjdhecanjmchaaGreatDoor
