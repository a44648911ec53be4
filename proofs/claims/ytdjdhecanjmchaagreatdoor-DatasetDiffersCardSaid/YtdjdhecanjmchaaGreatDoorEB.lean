/- Contract: the law that datasets are decoded from their encodings, and from nothing else. -/
import Derived.Test.YtdjdhecanjmchaaGreatDoorFa
import Derived.Test.YtdjdhecanjmchaaGreatDoorFb
import Derived.Test.YtdjdhecanjmchaaGreatDoorFc
import Derived.Test.YtdjdhecanjmchaaGreatDoorHa
import Derived.Test.YtdjdhecanjmchaaGreatDoorE3
import Derived.Test.YtdjdhecanjmchaaGreatDoorEA
set_option linter.unusedSimpArgs false
set_option linter.unusedVariables false
namespace Go.Proofs.YtdjdhecanjmchaaGreatDoor
open Go Go.V Go.Lib
set_option maxRecDepth 40000
attribute [local go_sem ↓] keepK Opd.ev MK.ev MK.ob gsA
attribute [local go_sem high] gsB
attribute [local go_sem] binEv binOb intOp strOp unEv eqvEv eqCells eqCell noBld tasEv AV.there AV.plus pickCells storeEv AV.solid AV.cells splice putParts rowOK fldEv iarrEv extEv minEv nonNil lenEv isStr appEv appOb appArg slVecEv slVecOb slStrEv slStrOb bnd argF endQ rvsEv rvEv resOf St.none if_true if_false ite_self eq_self ne_eq implies_true forall_const Lab.av Val.av Exa.av Dset.av Req.av gsC
variable {gl : List (Nat × List AV)}
def NoZ {α : Type} (rd : Rd α) : Prop := ∀ s e,rd s = .error e → e ≠ 0
theorem NoZ.map {α β : Type} {rd : Rd α} (h : NoZ rd) (f : α → β) : NoZ (rd.map f) := by
  intro s e he
  unfold Rd.map at he
  split at he
  · injection he with he; subst he; rename_i e h1; exact h _ _ h1
  · cases he
theorem NoZ.pair {α β : Type} {rd : Rd α} (h : NoZ rd) {f : α → Rd β} (h2 : ∀ a,NoZ (f a)) : NoZ (rd.pair f) := by
  intro s e he
  unfold Rd.pair Rd.bind at he
  split at he
  · injection he with he; subst he; rename_i e h1; exact h _ _ h1
  · exact (h2 _).map _ _ _ he
theorem NoZ.only {α : Type} {rd : Rd α} (h : NoZ rd) (p : α → Bool) {k : Int} (hk : k ≠ 0) : NoZ (rd.only p k) := by
  intro s e he
  unfold Rd.only at he
  split at he
  · injection he with he; subst he; rename_i e h1; exact h _ _ h1
  · split at he
    · cases he
    · injection he with he; subst he; exact hk
theorem NoZ.rep {α : Type} {rd : Rd α} (h : NoZ rd) : ∀ n,NoZ (rd.rep n)
  | 0 => fun s e he => by cases he
  | n + 1 => fun s e he => by
    rw [rep_succ] at he
    split at he
    · injection he with he; subst he; rename_i e h1; exact h _ _ h1
    · split at he
      · injection he with he; subst he; rename_i e h1; exact NoZ.rep h n _ _ h1
      · cases he
theorem NoZ.inF {α : Type} {rd : Rd α} (h : NoZ rd) : NoZ (rdIn rd) := by
  intro s e he
  unfold rdIn at he
  split at he
  · injection he with he; subst he; rename_i e h1; exact rdF_err h1
  · split at he
    · injection he with he; subst he; rename_i e h1; exact h _ _ h1
    · cases he
    · injection he with he; subst he; decide
theorem noz_T : NoZ rdT := fun s e h => by rcases rdT_err h with rfl | rfl <;> decide
theorem noz_I : NoZ rdI := fun s e h => by rcases rdI_err h with rfl | rfl <;> decide
theorem noz_U : NoZ rdU := fun s e h => by rcases rdN_err _ _ _ _ _ h with rfl | rfl <;> decide
theorem noz_V : NoZ rdV := fun s e h => rdV_err h
theorem dec_err {b : Bytes} {e : Int} (h : decB b = .error e) : e ≠ 0 := by
  have hd : NoZ rdDset := by
    refine NoZ.map (NoZ.pair (NoZ.inF ?_) fun _ => NoZ.rep (NoZ.inF ?_) _) _
    · exact noz_T.pair fun _ => (noz_U.only _ (by decide)).pair fun _ => (noz_T.rep _).pair fun _ => noz_U.only _ (by decide)
    · exact (noz_T.pair fun _ => noz_I.pair fun _ => noz_I.pair fun _ => noz_V.rep _).map _
  unfold decB at h
  split at h
  · injection h with h; subst h; rename_i e h1; exact hd _ _ h1
  · split at h
    · cases h
    · injection h with h; subst h; decide
  · injection h with h; subst h; decide
theorem form_small {d : Dset} (h : formB d = true) : SmallD d := by
  simp only [formB,Bool.and_eq_true,decide_eq_true_eq] at h
  obtain ⟨h1,h2,h3,h4,h5,h6⟩ := h
  have h7 := name_len h1
  have h8 := featsF_mem d.fs d.fs 0 h5
  have h9 := exsB_all _ _ _ h6
  refine ⟨by omega,by omega,fun f hf => by have := name_len (h8 f hf); omega,by omega,fun x hx => ?_,fun x hx => by have := (h9 x hx).2.1; omega,fun x hx v hv => ?_⟩
  · have h10 := (h9 x hx).1
    simp only [labB,keyR,Bool.and_eq_true,decide_eq_true_eq] at h10
    have := h10.1.2.2
    omega
  · rcases chk_kinds ((h9 x hx).2.2 v hv) with (h9 | h9) | h9 | h9
    · rw [h9.2.2]; simp
    · rw [h9.2.2]; simp
    · rw [h9.2.1]; simp
    · omega
theorem encB_len {d : Dset} (h : formB d = true) : (encB d).length ≤ 5000000 := by
  obtain ⟨⟨_,hhl⟩,hll⟩ := formB_ok h
  have hx8 := (formF h).xs
  have h2 := flat_len (fun x => frameE (lineE x)) 8206 d.xs fun x hx => by
    have h3 := (hll x hx).2
    have h4 := uvar_le (lineE x).length
    simp only [frameE,List.length_append,sumB_len]
    omega
  have h5 : d.xs.length * 8206 ≤ 256 * 8206 := Nat.mul_le_mul_right _ hx8
  have h6 := uvar_le (headE (hd d)).length
  simp only [encB,frameE,List.length_append,sumB_len] at h2 ⊢
  omega
abbrev zD : Dset := ⟨[],[],[]⟩
set_option maxHeartbeats 4000000 in
theorem c5 (hg : GlNR gl) {m0 : Int} (hm0 : gl.lookup 1 = some [.int .i64 m0]) (h11 : Pure Tryz.prog gl 11 [] (.ok (.bool true))) (d : Dset) (b : Bytes) (n : Int) : Pure Tryz.prog gl 5 [d.av,.sl 1 (b.map byteAV) .unk,.int .i64 n] (.ok (.bool true)) := by
  refine ⟨?_,by simp only [fgs,nrs,forall_eq_or_imp,forall_eq,implies_true],by simp only [nrs,forall_eq_or_imp,forall_eq,implies_true]⟩
  simp only [fgs]
  refine .of_run is5 (by simp) (mw_sound 200 ?_)
  by_cases hd : fewD d = true
  rotate_left
  · rw [Bool.not_eq_true] at hd
    repeat' first
      | with_reducible first | refine mw_as m5.eq_1 ?_ | refine opn m5k0.eq_1 ?_ | refine opn m5k1.eq_1 ?_ | refine opn m5k2.eq_1 ?_ | refine opn m5k3.eq_1 ?_ | refine opn m5k5.eq_1 ?_ | refine .pu (h11) hg rfl ?_ | refine .pu (c13 hg d) hg rfl ?_ | refine ⟨?_,?_⟩ | intro _
      | simp only [go_sem,↓reduceIte,Nat.reduceAdd,Nat.reduceLeDiff,Nat.reduceEqDiff,Nat.reduceBEq,Nat.reduceBNe,Nat.reduceMul,Nat.reduceLT,reduceCtorEq,Int.reduceLT,Int.reduceLE,Int.reduceToNat,Int.reduceNeg,  hd]
  by_cases hb : b.length ≤ 20000
  rotate_left
  · have hl : decide ((20000 : Int) < b.length) = true := decide_eq_true (by omega)
    repeat' first
      | with_reducible first | refine mw_as m5.eq_1 ?_ | refine opn m5k0.eq_1 ?_ | refine opn m5k1.eq_1 ?_ | refine opn m5k2.eq_1 ?_ | refine opn m5k3.eq_1 ?_ | refine opn m5k5.eq_1 ?_ | refine .pu (h11) hg rfl ?_ | refine .pu (c13 hg d) hg rfl ?_ | refine ⟨?_,?_⟩ | intro _
      | simp only [go_sem,↓reduceIte,Nat.reduceAdd,Nat.reduceLeDiff,Nat.reduceEqDiff,Nat.reduceBEq,Nat.reduceBNe,Nat.reduceMul,Nat.reduceLT,reduceCtorEq,Int.reduceLT,Int.reduceLE,Int.reduceToNat,Int.reduceNeg,  hd,hl]
  have hl : decide ((20000 : Int) < b.length) = false := decide_eq_false (by omega)
  have hs := fewD_small hd
  have h22 := c22 hg d hs
  have key : ∀ (m t : Nat) (ob : List (Nat × List AV)) (live : List Nat),MRun Tryz.prog 92 [MI.code m5k4] [] [(1,AV.sl 1 (b.map byteAV) .unk)] ⟨m,ob,t,live,gl⟩ (endQ [RV.t 6] fun o' _ => o' = .ok (.bool true)) := by
    intro m t ob live
    refine MRun.forget ?_
    have h24 := c24 hg hm0 b .unk (by omega)
    cases hD : decB b with
    | error e =>
      rw [hD] at h24
      simp only [decAV] at h24
      have hne := neI (dec_err hD)
      have h16 := c16 hg zD zD (by simp) (by simp) (by simp)
      refine opn m5k4.eq_1 ?_
      repeat' first
        | with_reducible first | refine mw_as m5.eq_1 ?_ | refine opn m5k0.eq_1 ?_ | refine opn m5k1.eq_1 ?_ | refine opn m5k2.eq_1 ?_ | refine opn m5k3.eq_1 ?_ | refine opn m5k5.eq_1 ?_ | refine .pu (h24) hg rfl ?_ | refine .pu (Pure.conv (h16) (by simp only [fgs])) hg rfl ?_ | refine ⟨?_,?_⟩ | intro _
        | simp only [go_sem,↓reduceIte,Nat.reduceAdd,Nat.reduceLeDiff,Nat.reduceEqDiff,Nat.reduceBEq,Nat.reduceBNe,Nat.reduceMul,Nat.reduceLT,reduceCtorEq,Int.reduceLT,Int.reduceLE,Int.reduceToNat,Int.reduceNeg,  hne]
    | ok x =>
      obtain ⟨hf,he⟩ := enc_dec hD
      rw [hD] at h24
      simp only [decAV] at h24
      have h23 := c23 hg hm0 x (form_small hf)
      have hE : encAV x = .tup [.sl 1 (b.map byteAV) .unk,.int .i64 0] := by simp only [encAV,encL,encE,hf,if_true,he]
      rw [hE] at h23
      refine opn m5k4.eq_1 ?_
      have h0 : ((0 : Int) != 0) = false := rfl
      have h00 : ((0 : Int) == 0) = true := rfl
      repeat' first
        | with_reducible first | refine mw_as m5.eq_1 ?_ | refine opn m5k0.eq_1 ?_ | refine opn m5k1.eq_1 ?_ | refine opn m5k2.eq_1 ?_ | refine opn m5k3.eq_1 ?_ | refine opn m5k5.eq_1 ?_ | refine .pu (h24) hg rfl ?_ | refine .pu (h23) hg rfl ?_ | refine ⟨?_,?_⟩ | intro _
        | simp only [go_sem,↓reduceIte,Nat.reduceAdd,Nat.reduceLeDiff,Nat.reduceEqDiff,Nat.reduceBEq,Nat.reduceBNe,Nat.reduceMul,Nat.reduceLT,reduceCtorEq,Int.reduceLT,Int.reduceLE,Int.reduceToNat,Int.reduceNeg,  h0,h00,strOf_bytes]
  by_cases hf : formB d = true
  · rw [hf] at h22
    have h23 := c23 hg hm0 d hs
    have hE : encAV d = .tup [.sl 1 ((encB d).map byteAV) .unk,.int .i64 0] := by simp only [encAV,encL,encE,hf,if_true]
    rw [hE] at h23
    have hel := encB_len hf
    have h24 := c24 hg hm0 (encB d) .unk (by omega)
    rw [dec_enc hf] at h24
    simp only [decAV] at h24
    have hfs := hs.fs
    have hxs := hs.xs
    have h16 := c16 hg d d (by omega) (by omega) (fun x hx => by have := hs.vs x hx; omega)
    rw [beq_self_eq_true] at h16
    have h0 : ((0 : Int) != 0) = false := rfl
    by_cases hn : 0 ≤ n
    · have g1 : decide (0 ≤ n) = true := decide_eq_true hn
      obtain ⟨k,rfl⟩ : ∃ k : Nat,n = k := ⟨n.toNat,by omega⟩
      by_cases hk : k < (encB d).length
      · have g2 : decide ((k : Int) < ((encB d).length : Int)) = true := decide_eq_true (by omega)
        have h24n := c24 hg hm0 ((encB d).take k) .unk (by rw [List.length_take]; omega)
        rw [dec_cut hf hk] at h24n
        simp only [decAV] at h24n
        have h41 : ((41 : Int) != 41) = false := rfl
        repeat' first
          | with_reducible first | refine mw_as m5.eq_1 ?_ | refine opn m5k0.eq_1 ?_ | refine opn m5k1.eq_1 ?_ | refine opn m5k2.eq_1 ?_ | refine opn m5k3.eq_1 ?_ | refine opn m5k5.eq_1 ?_ | refine .pu (h11) hg rfl ?_ | refine .pu (c13 hg d) hg rfl ?_ | refine .pu (h22) hg rfl ?_ | refine .pu (h23) hg rfl ?_ | refine .pu (h24) hg rfl ?_ | refine .pu (h16) hg rfl ?_ | refine .pu (h24n) hg rfl ?_ | refine ⟨?_,?_⟩ | intro _
          | simp only [go_sem,↓reduceIte,Nat.reduceAdd,Nat.reduceLeDiff,Nat.reduceEqDiff,Nat.reduceBEq,Nat.reduceBNe,Nat.reduceMul,Nat.reduceLT,reduceCtorEq,Int.reduceLT,Int.reduceLE,Int.reduceToNat,Int.reduceNeg,  hd,hl,g1,g2,h0,h41,← List.map_take]
        · omega
        · exact key _ _ _ _
      · have g2 : decide ((k : Int) < ((encB d).length : Int)) = false := decide_eq_false (by omega)
        repeat' first
          | with_reducible first | refine mw_as m5.eq_1 ?_ | refine opn m5k0.eq_1 ?_ | refine opn m5k1.eq_1 ?_ | refine opn m5k2.eq_1 ?_ | refine opn m5k3.eq_1 ?_ | refine opn m5k5.eq_1 ?_ | refine .pu (h11) hg rfl ?_ | refine .pu (c13 hg d) hg rfl ?_ | refine .pu (h22) hg rfl ?_ | refine .pu (h23) hg rfl ?_ | refine .pu (h24) hg rfl ?_ | refine .pu (h16) hg rfl ?_ | refine ⟨?_,?_⟩ | intro _
          | simp only [go_sem,↓reduceIte,Nat.reduceAdd,Nat.reduceLeDiff,Nat.reduceEqDiff,Nat.reduceBEq,Nat.reduceBNe,Nat.reduceMul,Nat.reduceLT,reduceCtorEq,Int.reduceLT,Int.reduceLE,Int.reduceToNat,Int.reduceNeg,  hd,hl,g1,g2,h0]
        exact key _ _ _ _
    · have g1 : decide (0 ≤ n) = false := decide_eq_false hn
      repeat' first
        | with_reducible first | refine mw_as m5.eq_1 ?_ | refine opn m5k0.eq_1 ?_ | refine opn m5k1.eq_1 ?_ | refine opn m5k2.eq_1 ?_ | refine opn m5k3.eq_1 ?_ | refine opn m5k5.eq_1 ?_ | refine .pu (h11) hg rfl ?_ | refine .pu (c13 hg d) hg rfl ?_ | refine .pu (h22) hg rfl ?_ | refine .pu (h23) hg rfl ?_ | refine .pu (h24) hg rfl ?_ | refine .pu (h16) hg rfl ?_ | refine ⟨?_,?_⟩ | intro _
        | simp only [go_sem,↓reduceIte,Nat.reduceAdd,Nat.reduceLeDiff,Nat.reduceEqDiff,Nat.reduceBEq,Nat.reduceBNe,Nat.reduceMul,Nat.reduceLT,reduceCtorEq,Int.reduceLT,Int.reduceLE,Int.reduceToNat,Int.reduceNeg,  hd,hl,g1,h0]
      exact key _ _ _ _
  · rw [Bool.not_eq_true] at hf
    rw [hf] at h22
    repeat' first
      | with_reducible first | refine mw_as m5.eq_1 ?_ | refine opn m5k0.eq_1 ?_ | refine opn m5k1.eq_1 ?_ | refine opn m5k2.eq_1 ?_ | refine opn m5k3.eq_1 ?_ | refine opn m5k5.eq_1 ?_ | refine .pu (h11) hg rfl ?_ | refine .pu (c13 hg d) hg rfl ?_ | refine .pu (h22) hg rfl ?_ | refine ⟨?_,?_⟩ | intro _
      | simp only [go_sem,↓reduceIte,Nat.reduceAdd,Nat.reduceLeDiff,Nat.reduceEqDiff,Nat.reduceBEq,Nat.reduceBNe,Nat.reduceMul,Nat.reduceLT,reduceCtorEq,Int.reduceLT,Int.reduceLE,Int.reduceToNat,Int.reduceNeg,  hd,hl]
    exact key _ _ _ _
end Go.Proofs.YtdjdhecanjmchaaGreatDoor
