/- Contracts: what is read: numbers, texts, frames; errors are caught. -/
import Derived.Test.YtdjdhecanjmchaaGreatDoorFa
import Derived.Test.YtdjdhecanjmchaaGreatDoorFb
import Derived.Test.YtdjdhecanjmchaaGreatDoorFc
import Derived.Test.YtdjdhecanjmchaaGreatDoorHa
import Derived.Test.YtdjdhecanjmchaaGreatDoorE5
import Derived.KernelRfl
set_option linter.unusedSimpArgs false
set_option linter.unusedVariables false
namespace Go.Proofs.YtdjdhecanjmchaaGreatDoor
open Go Go.V Go.Lib
set_option maxRecDepth 40000
attribute [local go_sem ↓] keepK Opd.ev MK.ev MK.ob gsA
attribute [local go_sem high] gsB
attribute [local go_sem] binEv binOb intOp strOp unEv eqvEv eqCells eqCell noBld tasEv AV.there AV.plus pickCells storeEv AV.solid AV.cells splice putParts rowOK fldEv iarrEv extEv minEv nonNil lenEv isStr appEv appOb appArg slVecEv slVecOb slStrEv slStrOb bnd argF endQ rvsEv rvEv resOf St.none if_true if_false ite_self eq_self ne_eq implies_true forall_const Lab.av Val.av Exa.av Dset.av Req.av gsC
variable {gl : List (Nat × List AV)}
theorem cmp_nn : cmpEv 1 .nili .nili = some true := rfl
theorem cmp_en (e : Int) : cmpEv 1 (.ifc 32 (.int .i64 e)) .nili = some false := rfl
theorem c69n {p q : Nat} {S : St} : MCallsD Tryz.prog 69 [.ptr p 0,.ptr q 0] S none fun o S' => o = .ok (.tup []) ∧ S' = S := by
  refine MCallsD.of_run is69 (by simp) ?_
  unfold m69
  refine .seq (.rcv ?_)
  simp only [go_sem,↓reduceIte,Nat.reduceAdd,Nat.reduceLeDiff,Nat.reduceEqDiff,Nat.reduceBEq,Nat.reduceBNe,Nat.reduceMul,Nat.reduceLT,reduceCtorEq,Int.reduceLT,Int.reduceLE,Int.reduceToNat,Int.reduceNeg,Option.getD_none]
  refine mw_sound 200 ?_
  repeat' first
    | with_reducible first | refine mw_as m69.eq_1 ?_ | refine opn m69k0.eq_1 ?_ | refine ⟨?_,?_⟩ | intro _
    | simp only [go_sem,↓reduceIte,Nat.reduceAdd,Nat.reduceLeDiff,Nat.reduceEqDiff,Nat.reduceBEq,Nat.reduceBNe,Nat.reduceMul,Nat.reduceLT,reduceCtorEq,Int.reduceLT,Int.reduceLE,Int.reduceToNat,Int.reduceNeg,  cmp_nn]
  all_goals skip
  all_goals skip
theorem c69e {p q : Nat} {S : St} {x y e : Int} (hp : S.get p = some [.int .i64 x]) (hq : S.get q = some [.int .i64 y]) (hpq : p ≠ q) : MCallsD Tryz.prog 69 [.ptr p 0,.ptr q 0] S (some (errA e)) fun o S' => o = .ok (.tup []) ∧ S' = (S.set p [.int .i64 0]).set q [.int .i64 e] := by
  have hq2 : (S.set p [.int .i64 0]).get q = some [.int .i64 y] := by
    show List.lookup q ((p,_) :: S.obj) = _
    rw [lookG,if_neg (Ne.symm hpq)]
    exact hq
  refine MCallsD.of_run is69 (by simp) ?_
  unfold m69
  refine .seq (.rcv ?_)
  simp only [go_sem,↓reduceIte,Nat.reduceAdd,Nat.reduceLeDiff,Nat.reduceEqDiff,Nat.reduceBEq,Nat.reduceBNe,Nat.reduceMul,Nat.reduceLT,reduceCtorEq,Int.reduceLT,Int.reduceLE,Int.reduceToNat,Int.reduceNeg,Option.getD_some]
  refine mw_sound 200 ?_
  repeat' first
    | with_reducible first | refine mw_as m69.eq_1 ?_ | refine opn m69k0.eq_1 ?_ | refine ⟨?_,?_⟩ | intro _
    | simp only [go_sem,↓reduceIte,Nat.reduceAdd,Nat.reduceLeDiff,Nat.reduceEqDiff,Nat.reduceBEq,Nat.reduceBNe,Nat.reduceMul,Nat.reduceLT,reduceCtorEq,Int.reduceLT,Int.reduceLE,Int.reduceToNat,Int.reduceNeg,  hp,hq,hq2,cmp_en,errA]
  all_goals (rename_i h; cases h)
theorem mw_tail {P : Program} {n : Nat} {pl : MPl} {pr kp : List Nat} {D : Dfs} {F : Fr} {S : St} {Q : EndQ} {m : MC} (hm : m = .seq (.any pl pr kp) .ret) (h : plK P (fun o F' S' => match o with | none => MRun P n [.code .ret] D (keepK kp F') S' Q | some _ => False) S (protOf F pr) pl F S) : MRun P n [.code m] D F S Q := by
  subst hm
  exact .seq (.anyQ (Q1 := fun _ _ _ _ => False) (fun _ _ _ _ _ _ h => h) (fun _ _ _ h => h.elim) h)
def rdAt {α : Type} (rd : Rd α) (b : Bytes) (a : Int) : Except Int (α × Bytes) := if a < 0 ∨ (b.length : Int) < a then .error 1 else rd (b.drop a.toNat)
def outR {α : Type} (f : α → AV) (z : AV) (b : Bytes) : Except Int (α × Bytes) → AV
  | .ok (x,r) => .tup [f x,.int .i64 ((b.length - r.length : Nat) : Int),.int .i64 0]
  | .error e => .tup [z,.int .i64 0,.int .i64 e]
def t119 : MC :=
  .seq (.any (on1 (mv 0 14 8) <|
      on1 (mv 1 15 7) <|
      on1 (oo 2 16 (.nilChk (.t 15))) <|
      on1 (fa 3 17 1 16) <|
      on1 (ld 4 18 1 false 17) <|
      on1 (mv 5 4 14) <|
      on1 ⟨6,none,none,.k (.store 1 (.t 5) (.t 18))⟩ <|
      on1 ⟨7,none,none,.k (.store 1 (.t 6) (.c (.int .i64 0)))⟩ <|
      .done) [] [4,5,6])
  (.ret)
def n119 : MC :=
  .seq (.reg [mc 0 4 (.int .u64 0),
      oo 1 5 (.alloc [.int .i64 0]),
      oo 2 6 (.alloc [.int .i64 0])] [0,1,4,5,6])
  (.seq (.dfr [] (.f 69) [.t 5,.t 6] [0,1,4,5,6])
  (.seq (.reg [mv 0 9 0,
      mv 1 10 1,
      oc 2 11 70 [.t 9,.t 10],
      mv 3 7 11] [4,5,6,7])
  (.seq (.reg [mv 0 12 7,
      oc 1 13 71 [.t 12],
      mv 2 8 13] [4,5,6,7,8])
  (.named [4,5,6,7,8] t119))))
theorem isn119 : FnIs Tryz.prog 119 19 n119 [.t 4,.c 5 1 false,.c 6 1 false] := .of Tryz.call119 Tryz.func119 (by kernel_rfl)
def t118 : MC :=
  .seq (.any (on1 (mv 0 16 8) <|
      on1 (oo 1 17 (.b2s (.t 16))) <|
      on1 (mv 2 18 7) <|
      on1 (oo 3 19 (.nilChk (.t 18))) <|
      on1 (fa 4 20 1 19) <|
      on1 (ld 5 21 1 false 20) <|
      on1 (mv 6 4 17) <|
      on1 ⟨7,none,none,.k (.store 1 (.t 5) (.t 21))⟩ <|
      on1 ⟨8,none,none,.k (.store 1 (.t 6) (.c (.int .i64 0)))⟩ <|
      .done) [] [4,5,6])
  (.ret)
def n118 : MC :=
  .seq (.reg [mc 0 4 (.str []),
      oo 1 5 (.alloc [.int .i64 0]),
      oo 2 6 (.alloc [.int .i64 0])] [0,1,4,5,6])
  (.seq (.dfr [] (.f 69) [.t 5,.t 6] [0,1,4,5,6])
  (.seq (.reg [mv 0 9 0,
      mv 1 10 1,
      oc 2 11 70 [.t 9,.t 10],
      mv 3 7 11] [4,5,6,7])
  (.seq (.reg [mv 0 12 7,
      mv 1 13 7,
      oc 2 14 71 [.t 13],
      oc 3 15 72 [.t 12,.t 14],
      mv 4 8 15] [4,5,6,7,8])
  (.named [4,5,6,7,8] t118))))
theorem isn118 : FnIs Tryz.prog 118 22 n118 [.t 4,.c 5 1 false,.c 6 1 false] := .of Tryz.call118 Tryz.func118 (by kernel_rfl)
theorem c119 (hg : GlNR gl) (b : Bytes) (t : STok) (a : Int) (hb : b.length < 4294967296) : Pure Tryz.prog gl 119 [.sl 1 (b.map byteAV) t,.int .i64 a] (.ok (outR (fun k : Nat => .int .u64 k) (.int .u64 0) b (rdAt rdU b a))) := by
  refine ⟨?_,by simp only [fgs,nrs,forall_eq_or_imp,forall_eq,implies_true],by simp only [nrs,forall_eq_or_imp,forall_eq,implies_true]; unfold outR; split <;> simp only [nrs,forall_eq_or_imp,forall_eq,implies_true]⟩
  simp only [fgs]
  refine .of_runD isn119 (by simp) (mw_sound 200 ?_)
  by_cases ha : a < 0 ∨ (b.length : Int) < a
  · have hR : rdAt rdU b a = .error 1 := by unfold rdAt; rw [if_pos ha]
    rw [hR]
    have h70 := fun n nt live ob => c70p (gl := gl) (n := n) (nt := nt) (live := live) (ob := ob) b .unk a ha
    repeat' first
      | with_reducible first | refine mw_as n119.eq_1 ?_ | refine CallK.effPan (h70 _ _ _ _) ?_ | refine PCallK.effPan (h70 _ _ _ _) ?_ | refine ⟨?_,?_⟩ | intro _
      | simp only [go_sem,↓reduceIte,Nat.reduceAdd,Nat.reduceLeDiff,Nat.reduceEqDiff,Nat.reduceBEq,Nat.reduceBNe,Nat.reduceMul,Nat.reduceLT,reduceCtorEq,Int.reduceLT,Int.reduceLE,Int.reduceToNat,Int.reduceNeg]
    exact ⟨69,rfl,Tryz.call69,(c69e (x := 0) (y := 0) rfl rfl (by decide)).mono fun o S' h => by obtain ⟨rfl,rfl⟩ := h; rfl⟩
  · have hR : rdAt rdU b a = rdU (b.drop a.toNat) := by unfold rdAt; rw [if_neg ha]
    rw [hR]
    obtain ⟨m,rfl⟩ : ∃ m : Nat,a = m := ⟨a.toNat,by omega⟩
    have h70 := fun n nt live ob => c70 (gl := gl) (n := n) (nt := nt) (live := live) (ob := ob) b .unk m (by omega)
    have h71 := c71 (gl := gl) hg (n := 3) (nt := 0) (live := []) (l := 2) (ob := [(1,[.int .i64 0]),(0,[.int .i64 0])]) rfl b .unk m (by omega) hb
    rw [Int.toNat_natCast]
    generalize rdU (b.drop m) = R at h71 ⊢
    cases R with
    | error e =>
      repeat' first
        | with_reducible first | refine mw_as n119.eq_1 ?_ | refine CallK.eff (h70 _ _ _ _) ?_ | refine CallK.effPan (h71) ?_ | refine PCallK.effPan (h71) ?_ | refine ⟨?_,?_⟩ | intro _
        | simp only [go_sem,↓reduceIte,Nat.reduceAdd,Nat.reduceLeDiff,Nat.reduceEqDiff,Nat.reduceBEq,Nat.reduceBNe,Nat.reduceMul,Nat.reduceLT,reduceCtorEq,Int.reduceLT,Int.reduceLE,Int.reduceToNat,Int.reduceNeg]
      exact ⟨69,rfl,Tryz.call69,(c69e (x := 0) (y := 0) rfl rfl (by decide)).mono fun o S' h => by obtain ⟨rfl,rfl⟩ := h; rfl⟩
    | ok x =>
      repeat' first
        | with_reducible first | refine mw_as n119.eq_1 ?_ | refine CallK.eff (h70 _ _ _ _) ?_ | refine CallK.eff (h71) ?_ | refine ⟨?_,?_⟩ | intro _
        | simp only [go_sem,↓reduceIte,Nat.reduceAdd,Nat.reduceLeDiff,Nat.reduceEqDiff,Nat.reduceBEq,Nat.reduceBNe,Nat.reduceMul,Nat.reduceLT,reduceCtorEq,Int.reduceLT,Int.reduceLE,Int.reduceToNat,Int.reduceNeg]
      refine mw_tail t119.eq_1 ?_
      simp only [go_sem,↓reduceIte,Nat.reduceAdd,Nat.reduceLeDiff,Nat.reduceEqDiff,Nat.reduceBEq,Nat.reduceBNe,Nat.reduceMul,Nat.reduceLT,reduceCtorEq,Int.reduceLT,Int.reduceLE,Int.reduceToNat,Int.reduceNeg]
      refine MRun.ret ?_
      exact ⟨69,rfl,Tryz.call69,c69n.mono fun o S' h => by obtain ⟨rfl,rfl⟩ := h; rfl⟩
theorem rdU_rest {b r : Bytes} {m k : Nat} (hm : m ≤ b.length) (h : rdU (b.drop m) = .ok (k,r)) : k < 18446744073709551616 ∧ r.length ≤ b.length - m ∧ b.drop (b.length - r.length) = r := by
  obtain ⟨h1,h2⟩ := codec_U.bwd _ _ _ h
  have h3 : r <:+ b := ⟨b.take m ++ uvar k,by rw [List.append_assoc,← h2,List.take_append_drop]⟩
  have h4 := congrArg List.length h2
  rw [List.length_drop,List.length_append] at h4
  exact ⟨h1,by omega,(List.suffix_iff_eq_drop.1 h3).symm⟩
theorem c118 (hg : GlNR gl) (b : Bytes) (t : STok) (a : Int) (hb : b.length < 4294967296) : Pure Tryz.prog gl 118 [.sl 1 (b.map byteAV) t,.int .i64 a] (.ok (outR AV.str (.str []) b (rdAt rdT b a))) := by
  refine ⟨?_,by simp only [fgs,nrs,forall_eq_or_imp,forall_eq,implies_true],by simp only [nrs,forall_eq_or_imp,forall_eq,implies_true]; unfold outR; split <;> simp only [nrs,forall_eq_or_imp,forall_eq,implies_true]⟩
  simp only [fgs]
  refine .of_runD isn118 (by simp) (mw_sound 200 ?_)
  by_cases ha : a < 0 ∨ (b.length : Int) < a
  · have hR : rdAt rdT b a = .error 1 := by unfold rdAt; rw [if_pos ha]
    rw [hR]
    have h70 := fun n nt live ob => c70p (gl := gl) (n := n) (nt := nt) (live := live) (ob := ob) b .unk a ha
    repeat' first
      | with_reducible first | refine mw_as n118.eq_1 ?_ | refine CallK.effPan (h70 _ _ _ _) ?_ | refine PCallK.effPan (h70 _ _ _ _) ?_ | refine ⟨?_,?_⟩ | intro _
      | simp only [go_sem,↓reduceIte,Nat.reduceAdd,Nat.reduceLeDiff,Nat.reduceEqDiff,Nat.reduceBEq,Nat.reduceBNe,Nat.reduceMul,Nat.reduceLT,reduceCtorEq,Int.reduceLT,Int.reduceLE,Int.reduceToNat,Int.reduceNeg]
    exact ⟨69,rfl,Tryz.call69,(c69e (x := 0) (y := 0) rfl rfl (by decide)).mono fun o S' h => by obtain ⟨rfl,rfl⟩ := h; rfl⟩
  · have hR : rdAt rdT b a = rdT (b.drop a.toNat) := by unfold rdAt; rw [if_neg ha]
    rw [hR]
    obtain ⟨m,rfl⟩ : ∃ m : Nat,a = m := ⟨a.toNat,by omega⟩
    have h70 := fun n nt live ob => c70 (gl := gl) (n := n) (nt := nt) (live := live) (ob := ob) b .unk m (by omega)
    have h71 := c71 (gl := gl) hg (n := 3) (nt := 0) (live := []) (l := 2) (ob := [(1,[.int .i64 0]),(0,[.int .i64 0])]) rfl b .unk m (by omega) hb
    rw [Int.toNat_natCast]
    unfold rdT Rd.bind
    cases hU : rdU (b.drop m) with
    | error e =>
      rw [hU] at h71
      repeat' first
        | with_reducible first | refine mw_as n118.eq_1 ?_ | refine CallK.eff (h70 _ _ _ _) ?_ | refine CallK.effPan (h71) ?_ | refine PCallK.effPan (h71) ?_ | refine ⟨?_,?_⟩ | intro _
        | simp only [go_sem,↓reduceIte,Nat.reduceAdd,Nat.reduceLeDiff,Nat.reduceEqDiff,Nat.reduceBEq,Nat.reduceBNe,Nat.reduceMul,Nat.reduceLT,reduceCtorEq,Int.reduceLT,Int.reduceLE,Int.reduceToNat,Int.reduceNeg]
      exact ⟨69,rfl,Tryz.call69,(c69e (x := 0) (y := 0) rfl rfl (by decide)).mono fun o S' h => by obtain ⟨rfl,rfl⟩ := h; rfl⟩
    | ok x =>
      obtain ⟨k,r⟩ := x
      obtain ⟨hk,hr,hd⟩ := rdU_rest (by omega) hU
      rw [hU] at h71
      simp only at h71 ⊢
      unfold rdTake
      by_cases hkr : r.length < k
      · rw [if_pos hkr]
        have h72 := c72p (gl := gl) (n := 3) (nt := 0) (live := []) (l := 2) (ob := [(1,[.int .i64 0]),(0,[.int .i64 0])]) b .unk (b.length - r.length) k (by omega) (by omega) hk hb
        repeat' first
          | with_reducible first | refine mw_as n118.eq_1 ?_ | refine CallK.eff (h70 _ _ _ _) ?_ | refine CallK.eff (h71) ?_ | refine CallK.effPan (h72) ?_ | refine PCallK.effPan (h72) ?_ | refine ⟨?_,?_⟩ | intro _
          | simp only [go_sem,↓reduceIte,Nat.reduceAdd,Nat.reduceLeDiff,Nat.reduceEqDiff,Nat.reduceBEq,Nat.reduceBNe,Nat.reduceMul,Nat.reduceLT,reduceCtorEq,Int.reduceLT,Int.reduceLE,Int.reduceToNat,Int.reduceNeg]
        exact ⟨69,rfl,Tryz.call69,(c69e (x := 0) (y := 0) rfl rfl (by decide)).mono fun o S' h => by obtain ⟨rfl,rfl⟩ := h; rfl⟩
      · rw [if_neg hkr]
        have h72 := c72 (gl := gl) (n := 3) (nt := 0) (live := []) (l := 2) (ob := [(1,[.int .i64 0]),(0,[.int .i64 0])]) b .unk (b.length - r.length) k (by omega) hb
        rw [hd] at h72
        repeat' first
          | with_reducible first | refine mw_as n118.eq_1 ?_ | refine CallK.eff (h70 _ _ _ _) ?_ | refine CallK.eff (h71) ?_ | refine CallK.eff (h72) ?_ | refine ⟨?_,?_⟩ | intro _
          | simp only [go_sem,↓reduceIte,Nat.reduceAdd,Nat.reduceLeDiff,Nat.reduceEqDiff,Nat.reduceBEq,Nat.reduceBNe,Nat.reduceMul,Nat.reduceLT,reduceCtorEq,Int.reduceLT,Int.reduceLE,Int.reduceToNat,Int.reduceNeg]
        refine mw_tail t118.eq_1 ?_
        simp only [go_sem,↓reduceIte,Nat.reduceAdd,Nat.reduceLeDiff,Nat.reduceEqDiff,Nat.reduceBEq,Nat.reduceBNe,Nat.reduceMul,Nat.reduceLT,reduceCtorEq,Int.reduceLT,Int.reduceLE,Int.reduceToNat,Int.reduceNeg,strOf_bytes]
        refine MRun.ret ?_
        refine ⟨69,rfl,Tryz.call69,c69n.mono fun o S' h => ?_⟩
        obtain ⟨rfl,rfl⟩ := h
        have e : b.length - r.length + k = b.length - (r.drop k).length := by rw [List.length_drop]; omega
        rw [e]
        rfl
end Go.Proofs.YtdjdhecanjmchaaGreatDoor
namespace Go.Proofs.YtdjdhecanjmchaaGreatDoor
open Go Go.V Go.Lib
set_option maxRecDepth 40000
attribute [local go_sem ↓] keepK Opd.ev MK.ev MK.ob gsA
attribute [local go_sem high] gsB
attribute [local go_sem] binEv binOb intOp strOp unEv eqvEv eqCells eqCell noBld tasEv AV.there AV.plus pickCells storeEv AV.solid AV.cells splice putParts rowOK fldEv iarrEv extEv minEv nonNil lenEv isStr appEv appOb appArg slVecEv slVecOb slStrEv slStrOb bnd argF endQ rvsEv rvEv resOf St.none if_true if_false ite_self eq_self ne_eq implies_true forall_const Lab.av Val.av Exa.av Dset.av Req.av gsC
variable {gl : List (Nat × List AV)}
theorem rdN_err : ∀ f i acc s e,rdN f i acc s = .error e → e = 3 ∨ e = 41
  | 0,_,_,_,e,h => by injection h with h; exact .inl h.symm
  | _ + 1,_,_,[],e,h => by injection h with h; exact .inr h.symm
  | f + 1,i,acc,c :: s,e,h => by
    rw [rdN] at h
    split at h
    · split at h
      · injection h with h; exact .inl h.symm
      · cases h
    · exact rdN_err f _ _ _ _ h
theorem rdAt_err {b : Bytes} {a e : Int} (h : rdAt rdU b a = .error e) : e = 1 ∨ e = 3 ∨ e = 41 := by
  unfold rdAt at h
  split at h
  · injection h with h; exact .inl h.symm
  · exact .inr (rdN_err _ _ _ _ _ h)
theorem xor_ones64 (x : Int) (h0 : 0 ≤ x) (h1 : x < 9223372036854775808) : ixor .i64 x (-1) = -x - 1 := by
  have h2 : (BitVec.ofInt 64 (-1) : BitVec 64) = BitVec.allOnes 64 := by decide
  have h3 : (BitVec.ofInt 64 x).toNat = x.toNat := by rw [BitVec.toNat_ofInt]; omega
  have h4 : (BitVec.ofInt 64 x ^^^ BitVec.allOnes 64).toNat = 18446744073709551615 - x.toNat := by
    rw [BitVec.xor_allOnes,BitVec.toNat_not,h3]
  show IntKind.i64.wrap (BitVec.ofInt 64 x ^^^ BitVec.ofInt 64 (-1)).toNat = _
  rw [h2,h4]
  have : ((18446744073709551615 - x.toNat : Nat) : Int) = 18446744073709551615 - x := by omega
  rw [this]
  simp [IntKind.wrap,IntKind.bits,IntKind.signed]
  omega
theorem iand1 (k : Nat) (h : k < 18446744073709551616) : iand .u64 (k : Int) 1 = ((k % 2 : Nat) : Int) := by
  show IntKind.u64.wrap (BitVec.ofInt 64 (k : Int) &&& BitVec.ofInt 64 1).toNat = _
  have h1 : (BitVec.ofInt 64 (k : Int)).toNat = k := by rw [BitVec.toNat_ofInt]; omega
  rw [BitVec.toNat_and,h1,show (BitVec.ofInt 64 1).toNat = 1 from rfl,Nat.and_one_is_mod,wrap_u64]
  omega
theorem zag_bits {k : Nat} (hk : k < 18446744073709551616) : ixor .i64 ((k / 2 : Nat) : Int) (IntKind.i64.wrap (0 - ((k % 2 : Nat) : Int))) = zag k := by
  rcases Nat.mod_two_eq_zero_or_one k with h | h
  · rw [h]
    show IntKind.i64.wrap (BitVec.ofInt 64 ((k / 2 : Nat) : Int) ^^^ BitVec.ofInt 64 0).toNat = _
    rw [show (BitVec.ofInt 64 0 : BitVec 64) = 0#64 from rfl,BitVec.xor_zero,BitVec.toNat_ofInt,zag,if_pos h]
    rw [wrap_i64_in (by omega) (by omega)]
    omega
  · rw [h,show IntKind.i64.wrap (0 - ((1 : Nat) : Int)) = -1 from rfl,xor_ones64 _ (by omega) (by omega),zag,if_neg (by omega)]
theorem nr_nil1 : NoRef (.sl 1 [] .unk) = True := NoRef.sl_unk (by simp)
theorem c120 (hg : GlNR gl) (b : Bytes) (t : STok) (a : Int) (hb : b.length < 4294967296) : Pure Tryz.prog gl 120 [.sl 1 (b.map byteAV) t,.int .i64 a] (.ok (outR (AV.int .i64) (.int .i64 0) b (rdAt rdI b a))) := by
  refine ⟨?_,by simp only [fgs,nrs,forall_eq_or_imp,forall_eq,implies_true],by simp only [nrs,forall_eq_or_imp,forall_eq,implies_true]; unfold outR; split <;> simp only [nrs,forall_eq_or_imp,forall_eq,implies_true]⟩
  simp only [fgs]
  refine .of_run is120 (by simp) (mw_sound 200 ?_)
  have h119 := c119 hg b .unk a hb
  have hR : rdAt rdI b a = match rdAt rdU b a with
    | .error e => .error e
    | .ok (k,r) => .ok (zag k,r) := by
    unfold rdAt
    split
    · rfl
    · unfold rdI Rd.map
      cases rdU (b.drop a.toNat) <;> rfl
  rw [hR]
  have he := fun e => rdAt_err (b := b) (a := a) (e := e)
  have hk : ∀ k r,rdAt rdU b a = .ok (k,r) → k < 18446744073709551616 := by
    intro k r h
    unfold rdAt at h
    split at h
    · cases h
    · exact (codec_U.bwd _ _ _ h).1
  generalize rdAt rdU b a = R at h119 he hk ⊢
  cases R with
  | error e =>
    have he := he e rfl
    have hne : (e != 0) = true := by rcases he with rfl | rfl | rfl <;> rfl
    simp only [outR] at h119
    repeat' first
      | with_reducible first | refine mw_as m120.eq_1 ?_ | refine .pu (h119) hg rfl ?_ | refine ⟨?_,?_⟩ | intro _
      | simp only [go_sem,↓reduceIte,Nat.reduceAdd,Nat.reduceLeDiff,Nat.reduceEqDiff,Nat.reduceBEq,Nat.reduceBNe,Nat.reduceMul,Nat.reduceLT,reduceCtorEq,Int.reduceLT,Int.reduceLE,Int.reduceToNat,Int.reduceNeg,  hne]
    rfl
  | ok x =>
    obtain ⟨k,r⟩ := x
    have hk := hk k r rfl
    simp only [outR] at h119
    have h1 : IntKind.i64.wrap (ishr .u64 (k : Int) 1) = ((k / 2 : Nat) : Int) := by
      rw [ishr_nat _ _ _ (by decide)]
      exact wrap_i64_in (by simp; omega) (by simp; omega)
    have h2 : iand .u64 (k : Int) 1 = ((k % 2 : Nat) : Int) := iand1 k hk
    have h3 : IntKind.i64.wrap ((k % 2 : Nat) : Int) = ((k % 2 : Nat) : Int) := wrap_i64_in (by omega) (by omega)
    have h0 : ((0 : Int) != 0) = false := rfl
    repeat' first
      | with_reducible first | refine mw_as m120.eq_1 ?_ | refine .pu (h119) hg rfl ?_ | refine ⟨?_,?_⟩ | intro _
      | simp only [go_sem,↓reduceIte,Nat.reduceAdd,Nat.reduceLeDiff,Nat.reduceEqDiff,Nat.reduceBEq,Nat.reduceBNe,Nat.reduceMul,Nat.reduceLT,reduceCtorEq,Int.reduceLT,Int.reduceLE,Int.reduceToNat,Int.reduceNeg,  h1,h2,h3,h0]
    rw [zag_bits hk]
    rfl
theorem byte_neD (s : UInt8) (z : Int) : (((s.toNat : Int) != IntKind.u8.wrap z) : Bool) = !decide (s = byteOf z) := by
  have h : 0 ≤ IntKind.u8.wrap z ∧ IntKind.u8.wrap z < 256 := by rw [wrap_u8]; omega
  rw [Bool.eq_iff_iff]
  simp only [bne_iff_ne,ne_eq,Bool.not_eq_true',decide_eq_false_iff_not]
  refine not_congr ⟨fun e => ?_,fun e => ?_⟩
  · unfold byteOf
    rw [← e]
    simp
  · rw [e,byteOf]
    simp
    omega
theorem byte_neF {s : UInt8} {z : Int} (h : s = byteOf z) : (((s.toNat : Int) != IntKind.u8.wrap z) : Bool) = false := by
  rw [byte_neD,decide_eq_true h]
  rfl
theorem c25 (hg : GlNR gl) (b : Bytes) (t : STok) (a : Int) (hb : b.length < 4294960000) : Pure Tryz.prog gl 25 [.sl 1 (b.map byteAV) t,.int .i64 a] (.ok (outR (fun p : Bytes => .sl 1 (p.map byteAV) .unk) (.sl 1 [] .unk) b (rdAt rdF b a))) := by
  refine Pure.ofFg ?_ (by simp only [fgs,nrs,forall_eq_or_imp,forall_eq,implies_true]) (by unfold outR; split <;> simp only [nrs,forall_eq_or_imp,forall_eq,implies_true,nr_nil1])
  simp only [fgs]
  refine .of_runD is25 (by simp) (mw_sound 200 ?_)
  have fin : ∀ (ob : List (Nat × List AV)) (n nt : Nat) (live : List Nat) (F : Fr) (e : Int),List.lookup 4 F = some (.sl 1 [] .exact) → List.lookup 5 F = some (.ptr 0 0) → List.lookup 6 F = some (.ptr 1 0) → List.lookup 0 ob = some [.int .i64 0] → List.lookup 1 ob = some [.int .i64 0] →
      endQD Tryz.prog [RV.t 4,RV.c 5 1 false,RV.c 6 1 false] (fun o' x => FgOut o' (outR (fun p : Bytes => .sl 1 (p.map byteAV) .unk) (.sl 1 [] .unk) b (.error e))) (some (errA e)) [(Fn.func 69,[AV.ptr 0 0,AV.ptr 1 0],[])] F ⟨n,ob,nt,live,gl⟩ := by
    intro ob n nt live F e h4 h5 h6 h0 h1
    refine ⟨69,rfl,Tryz.call69,(c69e (S := ⟨n,ob,nt,live,gl⟩) (x := 0) (y := 0) h0 h1 (by decide)).mono fun o S' h => ?_⟩
    obtain ⟨rfl,rfl⟩ := h
    simp only [rvsEv,rvEv,Fr.get,h4,h5,h6]
    rfl
  by_cases ha : a < 0 ∨ (b.length : Int) < a
  · have hR : rdAt rdF b a = .error 1 := by unfold rdAt; rw [if_pos ha]
    rw [hR]
    have h70 := fun n nt live ob => c70p (gl := gl) (n := n) (nt := nt) (live := live) (ob := ob) b .unk a ha
    repeat' first
      | with_reducible first | refine mw_as m25.eq_1 ?_ | refine opn m25k0.eq_1 ?_ | refine opn m25k2.eq_1 ?_ | refine CallK.effPan (h70 _ _ _ _) ?_ | refine PCallK.effPan (h70 _ _ _ _) ?_ | refine ⟨?_,?_⟩ | intro _
      | simp only [go_sem,↓reduceIte,Nat.reduceAdd,Nat.reduceLeDiff,Nat.reduceEqDiff,Nat.reduceBEq,Nat.reduceBNe,Nat.reduceMul,Nat.reduceLT,reduceCtorEq,Int.reduceLT,Int.reduceLE,Int.reduceToNat,Int.reduceNeg]
    exact fin _ _ _ _ _ _ rfl rfl rfl rfl rfl
  · have hR : rdAt rdF b a = rdF (b.drop a.toNat) := by unfold rdAt; rw [if_neg ha]
    rw [hR]
    obtain ⟨m,rfl⟩ : ∃ m : Nat,a = m := ⟨a.toNat,by omega⟩
    have h70 := fun n nt live ob => c70 (gl := gl) (n := n) (nt := nt) (live := live) (ob := ob) b .unk m (by omega)
    have h71 := c71 (gl := gl) hg (n := 3) (nt := 0) (live := []) (l := 2) (ob := [(1,[.int .i64 0]),(0,[.int .i64 0])]) rfl b .unk m (by omega) (by omega)
    rw [Int.toNat_natCast]
    unfold rdF
    cases hU : rdU (b.drop m) with
    | error e =>
      rw [hU] at h71
      repeat' first
        | with_reducible first | refine mw_as m25.eq_1 ?_ | refine opn m25k0.eq_1 ?_ | refine opn m25k2.eq_1 ?_ | refine CallK.eff (h70 _ _ _ _) ?_ | refine CallK.effPan (h71) ?_ | refine PCallK.effPan (h71) ?_ | refine ⟨?_,?_⟩ | intro _
        | simp only [go_sem,↓reduceIte,Nat.reduceAdd,Nat.reduceLeDiff,Nat.reduceEqDiff,Nat.reduceBEq,Nat.reduceBNe,Nat.reduceMul,Nat.reduceLT,reduceCtorEq,Int.reduceLT,Int.reduceLE,Int.reduceToNat,Int.reduceNeg]
      exact fin _ _ _ _ _ _ rfl rfl rfl rfl rfl
    | ok x =>
      obtain ⟨k,r⟩ := x
      obtain ⟨hk,hr,hd⟩ := rdU_rest (by omega) hU
      rw [hU] at h71
      simp only at h71 ⊢
      by_cases hk2 : 8192 < k
      · rw [if_pos hk2]
        have hd2 : decide (8192 < (k : Int)) = true := decide_eq_true (by omega)
        repeat' first
          | with_reducible first | refine mw_as m25.eq_1 ?_ | refine opn m25k0.eq_1 ?_ | refine opn m25k2.eq_1 ?_ | refine CallK.eff (h70 _ _ _ _) ?_ | refine CallK.eff (h71) ?_ | refine ⟨?_,?_⟩ | intro _
          | simp only [go_sem,↓reduceIte,Nat.reduceAdd,Nat.reduceLeDiff,Nat.reduceEqDiff,Nat.reduceBEq,Nat.reduceBNe,Nat.reduceMul,Nat.reduceLT,reduceCtorEq,Int.reduceLT,Int.reduceLE,Int.reduceToNat,Int.reduceNeg,  hd2]
        exact fin _ _ _ _ _ _ rfl rfl rfl rfl rfl
      · rw [if_neg hk2]
        have hd2 : decide (8192 < (k : Int)) = false := decide_eq_false (by omega)
        have hw4 : IntKind.u64.wrap ((k : Int) + 4) = ((k + 4 : Nat) : Int) := by rw [wrap_u64_in (by omega) (by omega)]; omega
        by_cases hkr : r.length < k + 4
        · rw [if_pos hkr]
          have h72 := c72p (gl := gl) (n := 3) (nt := 0) (live := []) (l := 2) (ob := [(1,[.int .i64 0]),(0,[.int .i64 0])]) b .unk (b.length - r.length) (k + 4) (by omega) (by omega) (by omega) (by omega)
          repeat' first
            | with_reducible first | refine mw_as m25.eq_1 ?_ | refine opn m25k0.eq_1 ?_ | refine opn m25k2.eq_1 ?_ | refine CallK.eff (h70 _ _ _ _) ?_ | refine CallK.eff (h71) ?_ | refine CallK.effPan (h72) ?_ | refine PCallK.effPan (h72) ?_ | refine ⟨?_,?_⟩ | intro _
            | simp only [go_sem,↓reduceIte,Nat.reduceAdd,Nat.reduceLeDiff,Nat.reduceEqDiff,Nat.reduceBEq,Nat.reduceBNe,Nat.reduceMul,Nat.reduceLT,reduceCtorEq,Int.reduceLT,Int.reduceLE,Int.reduceToNat,Int.reduceNeg,  hd2,hw4]
          exact fin _ _ _ _ _ _ rfl rfl rfl rfl rfl
        · rw [if_neg hkr]
          have h72 := c72 (gl := gl) (n := 3) (nt := 0) (live := []) (l := 2) (ob := [(1,[.int .i64 0]),(0,[.int .i64 0])]) b .unk (b.length - r.length) (k + 4) (by omega) (by omega)
          rw [hd] at h72
          have hPl : (r.take k).length = k := by rw [List.length_take]; omega
          have h73 := c73 hg (r.take k) .unk (by omega)
          obtain ⟨s0,s1,s2,s3,h4s⟩ : ∃ s0 s1 s2 s3,(r.drop k).take 4 = [s0,s1,s2,s3] := by
            have h4l : ((r.drop k).take 4).length = 4 := by rw [List.length_take,List.length_drop]; omega
            match (r.drop k).take 4,h4l with
            | [x0,x1,x2,x3],_ => exact ⟨_,_,_,_,rfl⟩
          have hA : r.take (k + 4) = r.take k ++ [s0,s1,s2,s3] := by rw [List.take_add,h4s]
          rw [hA] at h72
          rw [h4s]
          have hnx : b.length - r.length + (k + 4) = b.length - (r.drop (k + 4)).length := by rw [List.length_drop]; omega
          generalize r.take k = P at *
          have hAl : (P ++ [s0,s1,s2,s3]).length = k + 4 := by simp; omega
          have htk : (P ++ [s0,s1,s2,s3]).take k = P := by rw [← hPl,List.take_left]
          have a0 : (P ++ [s0,s1,s2,s3])[k]? = some s0 := by rw [List.getElem?_append_right (by omega),hPl,Nat.sub_self]; rfl
          have a1 : (P ++ [s0,s1,s2,s3])[k + 1]? = some s1 := by rw [List.getElem?_append_right (by omega),hPl,show k + 1 - k = 1 by omega]; rfl
          have a2 : (P ++ [s0,s1,s2,s3])[k + 2]? = some s2 := by rw [List.getElem?_append_right (by omega),hPl,show k + 2 - k = 2 by omega]; rfl
          have a3 : (P ++ [s0,s1,s2,s3])[k + 3]? = some s3 := by rw [List.getElem?_append_right (by omega),hPl,show k + 3 - k = 3 by omega]; rfl
          generalize P ++ [s0,s1,s2,s3] = A at *
          have hw1 : IntKind.u64.wrap ((k : Int) + 1) = ((k + 1 : Nat) : Int) := by rw [wrap_u64_in (by omega) (by omega)]; omega
          have hw2 : IntKind.u64.wrap ((k : Int) + 2) = ((k + 2 : Nat) : Int) := by rw [wrap_u64_in (by omega) (by omega)]; omega
          have hw3 : IntKind.u64.wrap ((k : Int) + 3) = ((k + 3 : Nat) : Int) := by rw [wrap_u64_in (by omega) (by omega)]; omega
          by_cases hs : [s0,s1,s2,s3] = sumB P
          · rw [if_pos hs]
            simp only [sumB,List.cons.injEq,and_true] at hs
            obtain ⟨e0,e1,e2,e3⟩ := hs
            have q0 := byte_neF e0
            have q1 := byte_neF e1
            have q2 := byte_neF e2
            have q3 := byte_neF e3
            repeat' first
              | with_reducible first | refine mw_as m25.eq_1 ?_ | refine opn m25k0.eq_1 ?_ | refine opn m25k2.eq_1 ?_ | refine CallK.eff (h70 _ _ _ _) ?_ | refine CallK.eff (h71) ?_ | refine CallK.eff (h72) ?_ | refine .pu (h73) hg rfl ?_ | refine ⟨?_,?_⟩ | intro _
              | simp only [go_sem,↓reduceIte,Nat.reduceAdd,Nat.reduceLeDiff,Nat.reduceEqDiff,Nat.reduceBEq,Nat.reduceBNe,Nat.reduceMul,Nat.reduceLT,reduceCtorEq,Int.reduceLT,Int.reduceLE,Int.reduceToNat,Int.reduceNeg,  hd2,hw4,hw1,hw2,hw3,← List.map_take,htk,a0,a1,a2,a3,q0,q1,q2,q3,byteAV,hAl]
            all_goals first
              | omega
              | skip
            refine mw_tail m25k1.eq_1 ?_
            simp only [go_sem,↓reduceIte,Nat.reduceAdd,Nat.reduceLeDiff,Nat.reduceEqDiff,Nat.reduceBEq,Nat.reduceBNe,Nat.reduceMul,Nat.reduceLT,reduceCtorEq,Int.reduceLT,Int.reduceLE,Int.reduceToNat,Int.reduceNeg,hAl,htk,← List.map_take]
            refine ⟨by omega,MRun.ret ?_⟩
            refine ⟨69,rfl,Tryz.call69,c69n.mono fun o S' h => ?_⟩
            obtain ⟨rfl,rfl⟩ := h
            rw [hnx]
            refine FgOut.mk' ?_
            show AV.fg (.tup [.sl 1 (P.map byteAV) .exact,.int .i64 _,.int .i64 0]) = _
            simp only [outR,fgs]
          · rw [if_neg hs]
            have q0 := byte_neD s0 (crcX 0 P)
            have q1 := byte_neD s1 (ishr .u32 (crcX 0 P) 8)
            have q2 := byte_neD s2 (ishr .u32 (crcX 0 P) 16)
            have q3 := byte_neD s3 (ishr .u32 (crcX 0 P) 24)
            simp only [sumB,List.cons.injEq,and_true] at hs
            repeat' first
              | with_reducible first | refine mw_as m25.eq_1 ?_ | refine opn m25k0.eq_1 ?_ | refine opn m25k2.eq_1 ?_ | refine CallK.eff (h70 _ _ _ _) ?_ | refine CallK.eff (h71) ?_ | refine CallK.eff (h72) ?_ | refine .pu (h73) hg rfl ?_ | refine ⟨?_,?_⟩ | intro _
              | simp only [go_sem,↓reduceIte,Nat.reduceAdd,Nat.reduceLeDiff,Nat.reduceEqDiff,Nat.reduceBEq,Nat.reduceBNe,Nat.reduceMul,Nat.reduceLT,reduceCtorEq,Int.reduceLT,Int.reduceLE,Int.reduceToNat,Int.reduceNeg,  hd2,hw4,hw1,hw2,hw3,← List.map_take,htk,a0,a1,a2,a3,q0,q1,q2,q3,byteAV,hAl]
            all_goals first
              | omega
              | exact fin _ _ _ _ _ _ rfl rfl rfl rfl rfl
              | (exfalso; grind)
end Go.Proofs.YtdjdhecanjmchaaGreatDoor
