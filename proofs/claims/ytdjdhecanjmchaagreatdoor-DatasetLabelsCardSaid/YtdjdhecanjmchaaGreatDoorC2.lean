/- Contracts: a label's bytes and the sample's rule, of the program and of the reference. -/
import Derived.Test.YtdjdhecanjmchaaGreatDoorC1
import Derived.Test.YtdjdhecanjmchaaGreatDoorD0
import Derived.Test.YtdjdhecanjmchaaGreatDoorD3
import Derived.Test.YtdjdhecanjmchaaGreatDoorE3
set_option linter.unusedSimpArgs false
set_option linter.unusedVariables false
namespace Go.Proofs.YtdjdhecanjmchaaGreatDoor
open Go Go.V Go.Lib
set_option maxRecDepth 40000
attribute [local go_sem ↓] keepK Opd.ev MK.ev MK.ob gsA
attribute [local go_sem high] gsB
attribute [local go_sem] binEv binOb intOp strOp unEv eqvEv eqCells eqCell noBld tasEv AV.there AV.plus pickCells storeEv AV.solid AV.cells splice putParts rowOK fldEv iarrEv extEv minEv nonNil lenEv isStr appEv appOb appArg slVecEv slVecOb slStrEv slStrOb bnd argF endQ rvsEv rvEv resOf St.none if_true if_false ite_self eq_self ne_eq implies_true forall_const Lab.av Val.av Exa.av Dset.av Req.av gsC
variable {gl : List (Nat × List AV)}
theorem nr_e1 : NoRef (.sl 1 [] .unk) := .sl (by simp) (.inl rfl)
theorem c165 (hg : GlNR gl) (b s : Bytes) (t : STok) (hb : b.length ≤ 100000000) (hs : s.length ≤ 100000000) : Toks Tryz.prog gl 165 [.sl 1 (b.map byteAV) t,.str s] 1 ((b ++ textE s).map byteAV) := by
  refine ⟨?_,by simp only [fgs,nrs,forall_eq_or_imp,forall_eq,implies_true],nrcB _⟩
  simp only [fgs]
  refine .of_run is165 (by simp) (mw_sound 200 ?_)
  have hul := uvar_le s.length
  have hl : (textE s).length ≤ 1000000000 := by simp only [textE,List.length_append]; omega
  have h129 := c129 (gl := gl) hg s (by omega)
  have h133 := c133 (gl := gl) hg b (textE s) .unk .unk (by omega) hl
  repeat' first
    | with_reducible first | refine mw_as m165.eq_1 ?_ | refine .tk (h129) hg rfl ?_ | refine .tk (Toks.conv (h133) (by simp only [fgs])) hg rfl ?_ | refine ⟨?_,?_⟩ | intro _
    | simp only [go_sem,↓reduceIte,Nat.reduceAdd,Nat.reduceLeDiff,Nat.reduceEqDiff,Nat.reduceBEq,Nat.reduceBNe,Nat.reduceMul,Nat.reduceLT,reduceCtorEq,Int.reduceLT,Int.reduceLE,Int.reduceToNat,Int.reduceNeg,  own_eq,use_eq,useL]
  rotate_left
  · rfl
  · simp
theorem c166 (hg : GlNR gl) (b : Bytes) (t : STok) (n : Int) (hb : b.length ≤ 200000000) (hn : -9223372036854775808 ≤ n) (hn2 : n ≤ 9223372036854775807) : Toks Tryz.prog gl 166 [.sl 1 (b.map byteAV) t,.int .i64 n] 1 ((b ++ uvar (zig n)).map byteAV) := by
  refine ⟨?_,by simp only [fgs,nrs,forall_eq_or_imp,forall_eq,implies_true],nrcB _⟩
  simp only [fgs]
  refine .of_run is166 (by simp) (mw_sound 200 ?_)
  have hul := uvar_le (zig n)
  have h130 := c130 (gl := gl) hg n hn hn2
  have h133 := c133 (gl := gl) hg b (uvar (zig n)) .unk .unk (by omega) (by omega)
  repeat' first
    | with_reducible first | refine mw_as m166.eq_1 ?_ | refine .tk (h130) hg rfl ?_ | refine .tk (Toks.conv (h133) (by simp only [fgs])) hg rfl ?_ | refine ⟨?_,?_⟩ | intro _
    | simp only [go_sem,↓reduceIte,Nat.reduceAdd,Nat.reduceLeDiff,Nat.reduceEqDiff,Nat.reduceBEq,Nat.reduceBNe,Nat.reduceMul,Nat.reduceLT,reduceCtorEq,Int.reduceLT,Int.reduceLE,Int.reduceToNat,Int.reduceNeg,  own_eq,use_eq,useL]
  rotate_left
  · rfl
  · simp
def labE (x : Lab) : Bytes := textE x.k ++ (uvar (zig x.e) ++ uvar (zig x.n))
theorem labB_in {x : Lab} (h : labB x = true) : x.k.length ≤ 32 ∧ (0 ≤ x.e ∧ x.e ≤ 1099511627776) ∧ 0 ≤ x.n ∧ x.n ≤ 1099511627776 := by
  simp only [labB,keyR,tickB] at h
  grind
theorem labE_len {x : Lab} (h : labB x = true) : (labE x).length ≤ 10000 := by
  have h1 := labB_in h
  have a := uvar_le x.k.length
  have b := uvar_le (zig x.e)
  have c := uvar_le (zig x.n)
  simp only [labE,textE,List.length_append]
  omega
theorem c104 (hg : GlNR gl) (x : Lab) (h : labB x = true) : Pure Tryz.prog gl 104 [x.av] (.ok (.sl 1 ((labE x).map byteAV) .unk)) := by
  refine Pure.ofFg ?_ (by simp only [fgs,nrs,forall_eq_or_imp,forall_eq,implies_true]) (by simp only [nrs,forall_eq_or_imp,forall_eq,implies_true])
  simp only [fgs]
  refine .of_run is104 (by simp) (mw_sound 200 ?_)
  have h1 := labB_in h
  have a := uvar_le x.k.length
  have b := uvar_le (zig x.e)
  have hl : (textE x.k).length ≤ 10000 := by simp only [textE,List.length_append]; omega
  have h165 := c165 (gl := gl) hg [] x.k .exact (by simp) (by omega)
  rw [List.nil_append] at h165
  have h1a := c166 (gl := gl) hg (textE x.k) (.tok 0) x.e (by omega) (by omega) (by omega)
  have h1b := c166 (gl := gl) hg (textE x.k ++ uvar (zig x.e)) (.tok 1) x.n (by simp only [List.length_append]; omega) (by omega) (by omega)
  repeat' first
    | with_reducible first | refine mw_as m104.eq_1 ?_ | refine .tk (Toks.conv (h165) (by simp only [fgs])) hg rfl ?_ | refine .tk (h1a) hg rfl ?_ | refine .tk (h1b) hg rfl ?_ | refine ⟨?_,?_⟩ | intro _
    | simp only [go_sem,↓reduceIte,Nat.reduceAdd,Nat.reduceLeDiff,Nat.reduceEqDiff,Nat.reduceBEq,Nat.reduceBNe,Nat.reduceMul,Nat.reduceLT,reduceCtorEq,Int.reduceLT,Int.reduceLE,Int.reduceToNat,Int.reduceNeg,  own_eq,use_eq,useL]
  all_goals exact slB_fg _ (by simp [labE])
theorem c126 (hg : GlNR gl) (x : Lab) (h : labB x = true) : Pure Tryz.prog gl 126 [.sl 1 [] .exact,x.av] (.ok (.sl 1 ((labE x).map byteAV) .unk)) := by
  refine Pure.ofFg ?_ (by simp only [fgs,nrs,forall_eq_or_imp,forall_eq,implies_true,nr_e1]) (by simp only [nrs,forall_eq_or_imp,forall_eq,implies_true])
  simp only [fgs]
  refine .of_run is126 (by simp) (mw_sound 200 ?_)
  have h1 := labB_in h
  have a := uvar_le x.k.length
  have b := uvar_le (zig x.e)
  have hl : (textE x.k).length ≤ 10000 := by simp only [textE,List.length_append]; omega
  have h58 := c58 (gl := gl) hg [] x.k .exact (by omega) (by simp)
  rw [List.nil_append] at h58
  have h1a := c60 (gl := gl) hg (textE x.k) (.tok 0) x.e (by omega) (by omega) (by omega)
  have h1b := c60 (gl := gl) hg (textE x.k ++ uvar (zig x.e)) (.tok 1) x.n (by omega) (by omega) (by simp only [List.length_append]; omega)
  repeat' first
    | with_reducible first | refine mw_as m126.eq_1 ?_ | refine .tk (Toks.conv (h58) (by simp only [fgs])) hg rfl ?_ | refine .tk (h1a) hg rfl ?_ | refine .tk (h1b) hg rfl ?_ | refine ⟨?_,?_⟩ | intro _
    | simp only [go_sem,↓reduceIte,Nat.reduceAdd,Nat.reduceLeDiff,Nat.reduceEqDiff,Nat.reduceBEq,Nat.reduceBNe,Nat.reduceMul,Nat.reduceLT,reduceCtorEq,Int.reduceLT,Int.reduceLE,Int.reduceToNat,Int.reduceNeg,  own_eq,use_eq,useL]
  all_goals exact slB_fg _ (by simp [labE])
def keptR (seed pm : Int) (x : Lab) : Bool := decide (IntKind.i64.wrap ((hashX (IntKind.u64.wrap seed) (labE x)).tmod 1000) < pm)
theorem c103 (hg : GlNR gl) (seed pm : Int) (x : Lab) (t : STok) (h : labB x = true) : Pure Tryz.prog gl 103 [.int .i64 seed,.sl 1 ((labE x).map byteAV) t,.int .i64 pm] (.ok (.bool (keptR seed pm x))) := by
  refine ⟨?_,by simp only [fgs,nrs,forall_eq_or_imp,forall_eq,implies_true],by simp only [nrs,forall_eq_or_imp,forall_eq,implies_true]⟩
  simp only [fgs]
  refine .of_run is103 (by simp) (mw_sound 200 ?_)
  have hl := labE_len h
  repeat' first
    | with_reducible first | refine mw_as m103.eq_1 ?_ | refine .pu (c85 hg (IntKind.u64.wrap seed) (labE x) .unk (by omega)) hg rfl ?_ | refine ⟨?_,?_⟩ | intro _
    | simp only [go_sem,↓reduceIte,Nat.reduceAdd,Nat.reduceLeDiff,Nat.reduceEqDiff,Nat.reduceBEq,Nat.reduceBNe,Nat.reduceMul,Nat.reduceLT,reduceCtorEq,Int.reduceLT,Int.reduceLE,Int.reduceToNat,Int.reduceNeg]
  · decide
  · rfl
theorem c125 (hg : GlNR gl) (seed pm : Int) (x : Lab) (t : STok) (h : labB x = true) : Pure Tryz.prog gl 125 [.int .i64 seed,.sl 1 ((labE x).map byteAV) t,.int .i64 pm] (.ok (.bool (keptR seed pm x))) := by
  refine ⟨?_,by simp only [fgs,nrs,forall_eq_or_imp,forall_eq,implies_true],by simp only [nrs,forall_eq_or_imp,forall_eq,implies_true]⟩
  simp only [fgs]
  refine .of_run is125 (by simp) (mw_sound 200 ?_)
  have hl := labE_len h
  repeat' first
    | with_reducible first | refine mw_as m125.eq_1 ?_ | refine .pu (c84 hg (IntKind.u64.wrap seed) (labE x) .unk (by omega)) hg rfl ?_ | refine ⟨?_,?_⟩ | intro _
    | simp only [go_sem,↓reduceIte,Nat.reduceAdd,Nat.reduceLeDiff,Nat.reduceEqDiff,Nat.reduceBEq,Nat.reduceBNe,Nat.reduceMul,Nat.reduceLT,reduceCtorEq,Int.reduceLT,Int.reduceLE,Int.reduceToNat,Int.reduceNeg]
  · decide
  · rfl
def sampleR (r : Req) : List Lab := (sortR r.labs).filter (keptR r.seed r.pm)
theorem sortR_len (l : List Lab) : (sortR l).length ≤ l.length := by have := fold_len l []; simpa [sortR] using this
theorem c41 (hg : GlNR gl) (r : Req) (hl : r.labs.length < 4294960000) (hv : r.labs.all labB = true) : Pure Tryz.prog gl 41 [r.av] (.ok (.sl 3 ((sampleR r).map Lab.av) .unk)) := by
  refine Pure.ofFg ?_ (by simp only [fgs,nrs,forall_eq_or_imp,forall_eq,implies_true]) (by simp only [nrs,forall_eq_or_imp,forall_eq,implies_true])
  simp only [fgs]
  refine .of_run is41 (by simp) (mw_sound 200 ?_)
  have hsl := sortR_len r.labs
  have hsv : ∀ x ∈ sortR r.labs,labB x = true := fun x hx => List.all_eq_true.1 hv x ((sortR_mem _ _).1 hx)
  repeat' first
    | with_reducible first | refine mw_as m41.eq_1 ?_ | refine opn m41k0.eq_1 ?_ | refine opn m41k1.eq_1 ?_ | refine .pu (c102 hg r.labs .unk hl) hg rfl ?_ | refine ⟨?_,?_⟩ | intro _
    | simp only [go_sem,↓reduceIte,Nat.reduceAdd,Nat.reduceLeDiff,Nat.reduceEqDiff,Nat.reduceBEq,Nat.reduceBNe,Nat.reduceMul,Nat.reduceLT,reduceCtorEq,Int.reduceLT,Int.reduceLE,Int.reduceToNat,Int.reduceNeg]
  generalize hA : sortR r.labs = A at hsl hsv
  refine .forUp A.length (fun i F S => ∃ out tk,F = [(1,.ptr 0 0),(3,AV.sl 3 (A.map Lab.av) .unk),(4,AV.sl 3 (out.map Lab.av) tk),(5,.int .i64 i)] ∧
    (∃ m t live,1 ≤ m ∧ (tk = .exact ∨ ∃ n,tk = .tok n ∧ n ∈ live) ∧ S = ⟨m,[(0,[.str r.ent,.sl 1 (r.fs.map AV.str) .unk,.sl 3 (r.labs.map Lab.av) .unk,.int .i64 r.seed,.int .i64 r.pm])],t,live,gl⟩) ∧ out.length ≤ i ∧ sampleR r = out ++ (A.drop i).filter (keptR r.seed r.pm)) ⟨[],_,rfl,⟨_,_,[],by omega,.inl rfl,rfl⟩,Nat.le_refl _,by rw [sampleR,hA]; rfl⟩ ?_
  rintro i F S hi ⟨out,tk,rfl,⟨m,nt,live,hm,hab,rfl⟩,hol,he⟩ ih
  by_cases h : i < A.length
  · obtain ⟨x,hx⟩ := some_of_lt h
    have hd := drop_some hx
    rw [hd,List.filter_cons] at he
    have hxb := hsv x (List.mem_of_getElem? hx)
    have hab2 : ∀ n ob nt,Able ⟨n,ob,nt,live,gl⟩ tk := fun n ob nt => by
      rcases hab with rfl | ⟨a,rfl,ha⟩
      · exact .inl rfl
      · exact .inr ⟨a,rfl,ha⟩
    refine opn m41l0.eq_1 ?_
    repeat' first
      | with_reducible first | refine mw_as m41.eq_1 ?_ | refine opn m41k0.eq_1 ?_ | refine opn m41k1.eq_1 ?_ | refine .pu (c104 hg x hxb) hg rfl ?_ | refine .pu (c103 hg r.seed r.pm x .unk hxb) hg rfl ?_ | refine ⟨?_,?_⟩ | intro _
      | simp only [go_sem,↓reduceIte,Nat.reduceAdd,Nat.reduceLeDiff,Nat.reduceEqDiff,Nat.reduceBEq,Nat.reduceBNe,Nat.reduceMul,Nat.reduceLT,reduceCtorEq,Int.reduceLT,Int.reduceLE,Int.reduceToNat,Int.reduceNeg,  hx,ltB h,ltP h,use_eq,wrap_succ (show i < 9223372036854775807 by omega)]
    · exact hab2 _ _ _
    · omega
    · omega
    · rename_i h4
      have h4 : keptR r.seed r.pm x = true := h4
      rw [if_pos h4] at he
      have e1 : List.map Lab.av out ++ [AV.agg [AV.str x.k,AV.int IntKind.i64 x.e,AV.int IntKind.i64 x.n]] = (out ++ [x]).map Lab.av := by simp
      rw [e1]
      refine ih h _ _ ⟨out ++ [x],_,rfl,⟨_,_,_,hm,.inr ⟨_,rfl,List.mem_cons_self⟩,rfl⟩,by simp; omega,by rw [he]; simp⟩
    · rename_i h4
      have h4 : keptR r.seed r.pm x = false := by simpa using h4
      rw [if_neg (by simp [h4])] at he
      exact ih h _ _ ⟨out,tk,rfl,⟨_,_,_,hm,hab,rfl⟩,by omega,he⟩
  · refine opn m41l0.eq_1 ?_
    rw [List.drop_eq_nil_of_le (Nat.le_of_not_lt h),List.filter_nil,List.append_nil] at he
    repeat' first
      | with_reducible first | refine mw_as m41.eq_1 ?_ | refine opn m41k0.eq_1 ?_ | refine opn m41k1.eq_1 ?_ | refine ⟨?_,?_⟩ | intro _
      | simp only [go_sem,↓reduceIte,Nat.reduceAdd,Nat.reduceLeDiff,Nat.reduceEqDiff,Nat.reduceBEq,Nat.reduceBNe,Nat.reduceMul,Nat.reduceLT,reduceCtorEq,Int.reduceLT,Int.reduceLE,Int.reduceToNat,Int.reduceNeg,  geB (Nat.le_of_not_lt h)]
    rw [he]
    exact slL_fg _ rfl
end Go.Proofs.YtdjdhecanjmchaaGreatDoor
