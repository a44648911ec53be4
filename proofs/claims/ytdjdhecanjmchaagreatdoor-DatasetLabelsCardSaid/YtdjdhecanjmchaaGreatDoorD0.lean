/- Contracts: the reference's numbers and texts in bytes. -/
import Derived.Test.YtdjdhecanjmchaaGreatDoorFa
import Derived.Test.YtdjdhecanjmchaaGreatDoorFb
import Derived.Test.YtdjdhecanjmchaaGreatDoorFc
import Derived.Test.YtdjdhecanjmchaaGreatDoorHa
import Derived.Test.YtdjdhecanjmchaaGreatDoorQa
import Derived.Test.YtdjdhecanjmchaaGreatDoorE3
import Derived.Test.YtdjdhecanjmchaaGreatDoorE5
set_option linter.unusedSimpArgs false
set_option linter.unusedVariables false
namespace Go.Proofs.YtdjdhecanjmchaaGreatDoor
open Go Go.V Go.Lib
set_option maxRecDepth 40000
attribute [local go_sem ↓] keepK Opd.ev MK.ev MK.ob gsA
attribute [local go_sem high] gsB
attribute [local go_sem] binEv binOb intOp strOp unEv eqvEv eqCells eqCell noBld tasEv AV.there AV.plus pickCells storeEv AV.solid AV.cells splice putParts rowOK fldEv iarrEv extEv minEv nonNil lenEv isStr appEv appOb appArg slVecEv slVecOb slStrEv slStrOb bnd argF endQ rvsEv rvEv resOf St.none if_true if_false ite_self eq_self ne_eq implies_true forall_const Lab.av Val.av Exa.av Dset.av Req.av gsC
variable {gl : List (Nat × List AV)}
theorem slB_fg {ys : List AV} (tk : STok) {l' : Bytes} (h : ys = l'.map byteAV) : FgOut (.ok (.sl 1 ys tk)) (.sl 1 (l'.map byteAV) .unk) := .mk' (by subst h; simp only [fgs])
set_option maxHeartbeats 4000000 in
theorem c127 (hg : GlNR gl) (n : Nat) (hn : n < 18446744073709551616) : Toks Tryz.prog gl 127 [.int .u64 n] 1 ((uvar n).map byteAV) := by
  refine ⟨?_,by simp only [fgs,nrs,forall_eq_or_imp,forall_eq,implies_true],nrcB _⟩
  simp only [fgs]
  refine .of_run is127 (by simp) (mw_sound 200 ?_)
  repeat' first
    | with_reducible first | refine mw_as m127.eq_1 ?_ | refine opn m127k0.eq_1 ?_ | refine ⟨?_,?_⟩ | intro _
    | simp only [go_sem,↓reduceIte,Nat.reduceAdd,Nat.reduceLeDiff,Nat.reduceEqDiff,Nat.reduceBEq,Nat.reduceBNe,Nat.reduceMul,Nat.reduceLT,reduceCtorEq,Int.reduceLT,Int.reduceLE,Int.reduceToNat,Int.reduceNeg]
  refine .loop (fun F S => ∃ (cs : List UInt8) (m f : Nat) (tk : STok) (nt : Nat) (live : List Nat),F = [(0,.int .u64 m),(3,.sl 1 (cs.map byteAV) tk)] ∧ S = ⟨0,[],nt,live,gl⟩ ∧ AbT live tk ∧ m < 18446744073709551616 ∧ m < 128 ^ (f + 1) ∧ cs.length + f ≤ 9 ∧ cs ++ uvarF f m = uvarF 9 n)
    (fun F _ => match F with | (_,.int _ m) :: _ => m.toNat | _ => 0) ⟨[],n,9,.exact,0,[],rfl,rfl,.inl rfl,hn,by omega,by simp,by simp⟩ ?_
  rintro F S ⟨cs,m,f,tk,nt,live,rfl,rfl,hab,hm64,hm,hl,hc⟩ ih
  have hab2 := fun n ob nt => hab.able (gl := gl) n ob nt
  refine opn m127l0.eq_1 ?_
  by_cases h : 128 ≤ m
  · have hd : decide (128 ≤ (m : Int)) = true := decide_eq_true (by omega)
    obtain ⟨f,rfl⟩ : ∃ f',f = f' + 1 := ⟨f - 1,by cases f with | zero => simp at hm; omega | succ f => simp⟩
    have e1 : IntKind.u64.wrap ((m : Int).tdiv 128) = ((m / 128 : Nat) : Int) := by
      rw [show (m : Int).tdiv 128 = ((m / 128 : Nat) : Int) from rfl]
      exact wrap_u64_in (by omega) (by omega)
    have e2 : cs.map byteAV ++ [AV.int .u8 (IntKind.u8.wrap (IntKind.u8.wrap ((m : Int).tmod 128) + 128))] = (cs ++ [UInt8.ofNat (m % 128 + 128)]).map byteAV := by
      rw [List.map_append]
      congr 1
      simp only [List.map_cons,List.map_nil]
      rw [byteAV_ofNat,show (m : Int).tmod 128 = ((m % 128 : Nat) : Int) from rfl,wrap_u8,wrap_u8]
      congr 2
      omega
    repeat' first
      | with_reducible first | refine mw_as m127.eq_1 ?_ | refine opn m127k0.eq_1 ?_ | refine ⟨?_,?_⟩ | intro _
      | simp only [go_sem,↓reduceIte,Nat.reduceAdd,Nat.reduceLeDiff,Nat.reduceEqDiff,Nat.reduceBEq,Nat.reduceBNe,Nat.reduceMul,Nat.reduceLT,reduceCtorEq,Int.reduceLT,Int.reduceLE,Int.reduceToNat,Int.reduceNeg,  hd,use_eq,e1,e2]
    all_goals first
      | decide
      | exact hab2 _ _ _
      | omega
      | skip
    refine ih _ _ ⟨cs ++ [UInt8.ofNat (m % 128 + 128)],m / 128,f,_,_,_,rfl,rfl,.inr ⟨nt,rfl,List.mem_cons_self⟩,by omega,by rw [Nat.pow_succ] at hm; omega,by simp; omega,?_⟩ ?_
    · rw [← hc]
      conv => rhs; unfold uvarF
      rw [if_neg (by omega)]
      simp
    · simp
      omega
  · have hd : decide (128 ≤ (m : Int)) = false := decide_eq_false (by omega)
    repeat' first
      | with_reducible first | refine mw_as m127.eq_1 ?_ | refine opn m127k0.eq_1 ?_ | refine ⟨?_,?_⟩ | intro _
      | simp only [go_sem,↓reduceIte,Nat.reduceAdd,Nat.reduceLeDiff,Nat.reduceEqDiff,Nat.reduceBEq,Nat.reduceBNe,Nat.reduceMul,Nat.reduceLT,reduceCtorEq,Int.reduceLT,Int.reduceLE,Int.reduceToNat,Int.reduceNeg,  hd,use_eq]
    all_goals first
      | exact hab2 _ _ _
      | omega
      | skip
    rotate_left
    · refine congrArg (fun l => AV.sl 1 l (STok.tok _)) ?_
      have : uvarF f m = [UInt8.ofNat m] := by
        cases f with
        | zero => rfl
        | succ f => unfold uvarF; rw [if_pos (by omega)]
      rw [show uvar n = uvarF 9 n from rfl,← hc,this,wrap_u8,byte_mod]
      simp
theorem c130 (hg : GlNR gl) (n : Int) (hn : -9223372036854775808 ≤ n) (hn2 : n ≤ 9223372036854775807) : Toks Tryz.prog gl 130 [.int .i64 n] 1 ((uvar (zig n)).map byteAV) := by
  refine ⟨?_,by simp only [fgs,nrs,forall_eq_or_imp,forall_eq,implies_true],nrcB _⟩
  simp only [fgs]
  refine .of_run is130 (by simp) (mw_sound 200 ?_)
  have h127 := c127 (gl := gl) hg (zig n) (by unfold zig; split <;> omega)
  by_cases h : 0 ≤ n
  · have hd : decide (0 ≤ n) = true := decide_eq_true h
    have e1 : IntKind.u64.wrap (2 * IntKind.u64.wrap n) = ((zig n : Nat) : Int) := by
      rw [wrap_u64,wrap_u64,zig,if_pos h]
      omega
    repeat' first
      | with_reducible first | refine mw_as m130.eq_1 ?_ | refine .tk (h127) hg rfl ?_ | refine ⟨?_,?_⟩ | intro _
      | simp only [go_sem,↓reduceIte,Nat.reduceAdd,Nat.reduceLeDiff,Nat.reduceEqDiff,Nat.reduceBEq,Nat.reduceBNe,Nat.reduceMul,Nat.reduceLT,reduceCtorEq,Int.reduceLT,Int.reduceLE,Int.reduceToNat,Int.reduceNeg,  hd,own_eq,e1]
    rotate_left
    · rfl
    · rfl
  · have hd : decide (0 ≤ n) = false := decide_eq_false h
    have e1 : IntKind.u64.wrap (IntKind.u64.wrap (2 * IntKind.u64.wrap (IntKind.i64.wrap (0 - IntKind.i64.wrap (n + 1)))) + 1) = ((zig n : Nat) : Int) := by
      rw [wrap_i64_in (x := n + 1) (by omega) (by omega),wrap_i64_in (by omega) (by omega),wrap_u64,wrap_u64,wrap_u64,zig,if_neg h]
      omega
    repeat' first
      | with_reducible first | refine mw_as m130.eq_1 ?_ | refine .tk (h127) hg rfl ?_ | refine ⟨?_,?_⟩ | intro _
      | simp only [go_sem,↓reduceIte,Nat.reduceAdd,Nat.reduceLeDiff,Nat.reduceEqDiff,Nat.reduceBEq,Nat.reduceBNe,Nat.reduceMul,Nat.reduceLT,reduceCtorEq,Int.reduceLT,Int.reduceLE,Int.reduceToNat,Int.reduceNeg,  hd,own_eq,e1]
    rotate_left
    · rfl
    · rfl
theorem c129 (hg : GlNR gl) (s : Bytes) (hs : s.length < 4294967296) : Toks Tryz.prog gl 129 [.str s] 1 ((textE s).map byteAV) := by
  refine ⟨?_,by simp only [fgs,nrs,forall_eq_or_imp,forall_eq,implies_true],nrcB _⟩
  simp only [fgs]
  refine .of_run is129 (by simp) (mw_sound 200 ?_)
  have h127 := c127 (gl := gl) hg s.length (by omega)
  have hw : IntKind.u64.wrap (s.length : Int) = s.length := by rw [wrap_u64]; omega
  have hul := uvar_le s.length
  repeat' first
    | with_reducible first | refine mw_as m129.eq_1 ?_ | refine .tk (h127) hg rfl ?_ | refine ⟨?_,?_⟩ | intro _
    | simp only [go_sem,↓reduceIte,Nat.reduceAdd,Nat.reduceLeDiff,Nat.reduceEqDiff,Nat.reduceBEq,Nat.reduceBNe,Nat.reduceMul,Nat.reduceLT,reduceCtorEq,Int.reduceLT,Int.reduceLE,Int.reduceToNat,Int.reduceNeg,  hw,own_eq,use_eq,useL]
  any_goals first
    | exact .inr ⟨_,rfl,by simp⟩
    | omega
    | (simp [sumB_len]; omega)
  rotate_left
  · refine congrArg (fun l => AV.sl 1 l (STok.tok _)) ?_
    simp only [textE,List.map_append]
  · simp
theorem c133 (hg : GlNR gl) (a b : Bytes) (t u : STok) (ha : a.length ≤ 1000000000) (hb : b.length ≤ 1000000000) : Toks Tryz.prog gl 133 [.sl 1 (a.map byteAV) t,.sl 1 (b.map byteAV) u] 1 ((a ++ b).map byteAV) := by
  refine ⟨?_,by simp only [fgs,nrs,forall_eq_or_imp,forall_eq,implies_true],nrcB _⟩
  simp only [fgs]
  refine .of_run is133 (by simp) (mw_sound 200 ?_)
  repeat' first
    | with_reducible first | refine mw_as m133.eq_1 ?_ | refine ⟨?_,?_⟩ | intro _
    | simp only [go_sem,↓reduceIte,Nat.reduceAdd,Nat.reduceLeDiff,Nat.reduceEqDiff,Nat.reduceBEq,Nat.reduceBNe,Nat.reduceMul,Nat.reduceLT,reduceCtorEq,Int.reduceLT,Int.reduceLE,Int.reduceToNat,Int.reduceNeg,  own_eq,use_eq,useL]
  any_goals first
    | exact .inr ⟨_,rfl,by simp⟩
    | omega
    | (simp [sumB_len]; omega)
  rotate_left
  · refine congrArg (fun l => AV.sl 1 l (STok.tok _)) ?_
    simp only [List.map_append]
  · simp
end Go.Proofs.YtdjdhecanjmchaaGreatDoor
