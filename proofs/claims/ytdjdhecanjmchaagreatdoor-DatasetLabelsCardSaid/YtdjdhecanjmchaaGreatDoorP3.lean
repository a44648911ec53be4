/- Contracts: dataset's own test of a dataset's form. -/
import Derived.Test.YtdjdhecanjmchaaGreatDoorP2
set_option linter.unusedSimpArgs false
set_option linter.unusedVariables false
namespace Go.Proofs.YtdjdhecanjmchaaGreatDoor
open Go Go.V
attribute [local go_sem ↓] keepK Opd.ev MK.ev MK.ob gsA
attribute [local go_sem high] gsB
attribute [local go_sem] binEv binOb intOp strOp unEv eqvEv eqCells eqCell noBld tasEv AV.there AV.plus pickCells storeEv AV.solid AV.cells splice putParts rowOK fldEv iarrEv extEv minEv nonNil lenEv isStr appEv appOb appArg slVecEv slVecOb slStrEv slStrOb bnd argF endQ rvsEv rvEv resOf St.none if_true if_false ite_self eq_self ne_eq implies_true forall_const Lab.av Val.av Exa.av Dset.av Req.av gsC
section
open Go Go.V
set_option maxRecDepth 40000
variable {gl : List (Nat × List AV)}
theorem chk_key (s : Bytes) : (chkR ⟨5,0,s⟩ == 0) = keyR s := by
  have h1 : fieldsB ⟨5,0,s⟩ = true := by simp [fieldsB]
  have h2 : rangeB 0 = true := by decide
  have h3 : (s == []) = !decide (1 ≤ s.length) := by cases s <;> simp
  simp only [chkR,h1,h2,keyR,keyB,h3]
  by_cases h4 : 1 ≤ s.length <;> by_cases h5 : s.length ≤ 32 <;> by_cases h6 : s.all (okB 33) = true <;> simp [h4,h5,h6] <;> omega
theorem bytesLess_irrefl : ∀ a : Bytes,Op.bytesLess a a = false
  | [] => rfl
  | c :: s => by
    have := bytesLess_irrefl s
    simp [Op.bytesLess,this]
theorem labCmp_lt (a b : Lab) : decide (0 ≤ labCmp a b) = !labLt a b := by
  unfold labCmp labLt cmpB cmpI
  by_cases hk : a.k = b.k
  · rw [hk,bytesLess_irrefl]
    simp only [Bool.false_eq_true,if_false,if_true,ne_eq,not_true_eq_false]
    by_cases he : a.e = b.e
    · rw [he]
      by_cases hn : a.n < b.n <;> by_cases hn2 : b.n < a.n <;> simp [hn,hn2]
    · rw [if_neg he]
      by_cases hn : a.e < b.e
      · simp [hn]
      · have : b.e < a.e := by omega
        simp [hn,this]
  · rw [if_neg hk]
    by_cases hl : Op.bytesLess a.k b.k = true
    · simp [hl,hk]
    · have hl : Op.bytesLess a.k b.k = false := by simpa using hl
      simp [hl,hk]
theorem any_valsB (l : List Val) : (l.any fun v => chkR v != 0) = !valsB l := by
  induction l with
  | nil => rfl
  | cons v l ih => rw [List.any_cons,ih,valsB,valsB,List.all_cons,Bool.not_and]; rfl
theorem exsB_prog (n : Nat) (p : Option Lab) (x : Exa) (xs : List Exa) : exsB n p (x :: xs) = (!(chkR ⟨5,0,x.lab.k⟩ != 0) && (!(!tickB x.lab.e) && (!(!tickB x.lab.n || ((x.vs.length : Int) != (n : Int))) && (ltO p x.lab && (!(x.vs.any fun v => chkR v != 0) && exsB n (some x.lab) xs))))) := by
  rw [exsB,labB,← chk_key,any_valsB,natNe]
  have : (chkR ⟨5,0,x.lab.k⟩ != 0) = !(chkR ⟨5,0,x.lab.k⟩ == 0) := rfl
  rw [this]
  cases (chkR ⟨5,0,x.lab.k⟩ == 0) <;> cases tickB x.lab.e <;> cases tickB x.lab.n <;> cases decide (x.vs.length = n) <;> simp only [Bool.not_true,Bool.not_false,Bool.true_and,Bool.false_and,Bool.and_true,Bool.or_true,Bool.true_or,Bool.or_false,Bool.false_or,Bool.and_false,Bool.not_not]
theorem ltO_prog (y x : Lab) : ltO (some y) x = !decide (0 ≤ labCmp y x) := by rw [labCmp_lt]; simp [ltO]
theorem keep_g0 {m : Nat} (hm : 1 ≤ m) {a0 a b c d : List AV} : ∀ l cs,List.lookup l [(0,a0)] = some cs → List.lookup l [(m + 1,a),(m + 1,b),(m,c),(m,d),(0,a0)] = some cs := by
  intro l cs h
  simp only [lookG] at h ⊢
  grind
set_option maxHeartbeats 4000000 in
theorem c37 (hg : GlNR gl) {m0 : Int} (hm0 : gl.lookup 1 = some [.int .i64 m0]) (d : Dset) (hs : SmallD d) : Pure Tryz.prog gl 37 [d.av] (.ok (.bool (formB d))) := by
  refine ⟨?_,by simp only [fgs,nrs,forall_eq_or_imp,forall_eq,implies_true],by simp only [nrs,forall_eq_or_imp,forall_eq,implies_true]⟩
  simp only [fgs]
  refine .of_run is37 (by simp) (mw_sound 200 ?_)
  have hxl := hs.xs
  have hfl := hs.fs
  have key2 : formB d = exsB d.fs.length none d.xs → MRun Tryz.prog 107 [MI.code m37l1.loop,MI.inBlock 2,MI.code (MC.named [] m37k8)] [] [(1,AV.ptr 0 0),(51,AV.sl 4 (List.map Exa.av d.xs) STok.unk),(52,AV.int IntKind.i64 d.xs.length),(53,AV.int IntKind.i64 0)]
      ⟨1,[(0,[AV.str d.ent,AV.sl 1 (List.map AV.str d.fs) STok.unk,AV.sl 4 (List.map Exa.av d.xs) STok.unk])],0,[],gl⟩ (endQ [RV.t 2] fun o' x => o' = Out.ok (AV.bool (formB d))) := by
    intro hf
    refine .forUp d.xs.length (fun i F S => F = [(1,AV.ptr 0 0),(51,AV.sl 4 (List.map Exa.av d.xs) STok.unk),(52,AV.int IntKind.i64 d.xs.length),(53,AV.int IntKind.i64 i)] ∧ (∃ m t,1 ≤ m ∧ S = ⟨m,[(0,[AV.str d.ent,AV.sl 1 (List.map AV.str d.fs) STok.unk,AV.sl 4 (List.map Exa.av d.xs) STok.unk])],t,[],gl⟩) ∧ formB d = exsB d.fs.length (prevAt d.xs i) (d.xs.drop i)) ⟨rfl,⟨1,0,Nat.le_refl _,rfl⟩,hf⟩ ?_
    rintro i F S hi ⟨rfl,⟨m,t,hm,rfl⟩,he⟩ ih
    by_cases h : i < d.xs.length
    · obtain ⟨x,hx⟩ := some_of_lt h
      have hd := drop_some hx
      rw [hd,exsB_prog] at he
      have hkl : x.lab.k.length < 4294967296 := by have := hs.k x (List.mem_of_getElem? hx); omega
      have hk2 : x.lab.k.length ≤ 9223372036854775807 := by omega
      have hvs : x.vs.length < 4294967296 := by have := hs.vs x (List.mem_of_getElem? hx); omega
      have hxv : ∀ v ∈ x.vs,v.s.length < 4294967296 := fun v hv => by have := hs.v x (List.mem_of_getElem? hx) v hv; omega
      have hprev : prevAt d.xs (i + 1) = some x.lab := by simp [prevAt,hx]
      rcases Nat.eq_zero_or_pos i with h0 | h0
      · subst h0
        have hlt : decide ((0 : Int) < ((0 : Nat) : Int)) = false := by decide
        refine opn m37l1.eq_1 ?_
        repeat' first
          | with_reducible first | refine mw_as m37.eq_1 ?_ | refine opn m37k0.eq_1 ?_ | refine opn m37k1.eq_1 ?_ | refine opn m37k2.eq_1 ?_ | refine opn m37k3.eq_1 ?_ | refine opn m37k4.eq_1 ?_ | refine opn m37k5.eq_1 ?_ | refine opn m37k6.eq_1 ?_ | refine opn m37k7.eq_1 ?_ | refine opn m37k8.eq_1 ?_ | refine opn m37k9.eq_1 ?_ | refine opn m37k10.eq_1 ?_ | refine .pu (c32 ⟨5,0,x.lab.k⟩ hk2) hg rfl ?_ | refine .pu (c94 x.lab.e) hg rfl ?_ | refine .pu (c94 x.lab.n) hg rfl ?_ | refine .pu (c96 hg x.vs .unk hvs hxv) hg rfl ?_ | refine ⟨?_,?_⟩ | intro _
          | simp only [go_sem,↓reduceIte,Nat.reduceAdd,Nat.reduceLeDiff,Nat.reduceEqDiff,Nat.reduceBEq,Nat.reduceBNe,Nat.reduceMul,Nat.reduceLT,reduceCtorEq,Int.reduceLT,Int.reduceLE,Int.reduceToNat,Int.reduceNeg,  hx,ltB h,ltP h,hlt,(show (0 = m) = False from eq_false (by omega)),(show (m = 0) = False from eq_false (by omega)),(show (0 = m + 1) = False from eq_false (by omega)),(show (m + 1 = 0) = False from eq_false (by omega)),wrap_succ (show 0 < 9223372036854775807 by omega)]
        all_goals first
          | (refine MRun.keep (live' := []) (ih h _ _ ⟨rfl,⟨m + 1 + 1,t,by omega,rfl⟩,?_⟩) (keep_g0 hm) (fun _ h => h)
             rw [he,hprev]
             clear ih he hf
             simp only [*,prevAt,ltO,if_true,Bool.not_true,Bool.not_false,Bool.true_and,Bool.false_and,Bool.and_true,Bool.and_false])
          | (clear ih
             rw [he]
             clear he hf hprev
             simp only [*,Bool.not_true,Bool.not_false,Bool.true_and,Bool.false_and,Bool.and_true,Bool.and_false])
      · obtain ⟨j,rfl⟩ : ∃ j,i = j + 1 := ⟨i - 1,by omega⟩
        obtain ⟨y,hy⟩ := some_of_lt (show j < d.xs.length by omega)
        have hlt : decide ((0 : Int) < ((j + 1 : Nat) : Int)) = true := decide_eq_true (by omega)
        have hpy : prevAt d.xs (j + 1) = some y.lab := by simp [prevAt,hy]
        rw [hpy,ltO_prog] at he
        refine opn m37l1.eq_1 ?_
        repeat' first
          | with_reducible first | refine mw_as m37.eq_1 ?_ | refine opn m37k0.eq_1 ?_ | refine opn m37k1.eq_1 ?_ | refine opn m37k2.eq_1 ?_ | refine opn m37k3.eq_1 ?_ | refine opn m37k4.eq_1 ?_ | refine opn m37k5.eq_1 ?_ | refine opn m37k6.eq_1 ?_ | refine opn m37k7.eq_1 ?_ | refine opn m37k8.eq_1 ?_ | refine opn m37k9.eq_1 ?_ | refine opn m37k10.eq_1 ?_ | refine .pu (c32 ⟨5,0,x.lab.k⟩ hk2) hg rfl ?_ | refine .pu (c94 x.lab.e) hg rfl ?_ | refine .pu (c94 x.lab.n) hg rfl ?_ | refine .pu (c95 hg y.lab x.lab) hg rfl ?_ | refine .pu (c96 hg x.vs .unk hvs hxv) hg rfl ?_ | refine ⟨?_,?_⟩ | intro _
          | simp only [go_sem,↓reduceIte,Nat.reduceAdd,Nat.reduceLeDiff,Nat.reduceEqDiff,Nat.reduceBEq,Nat.reduceBNe,Nat.reduceMul,Nat.reduceLT,reduceCtorEq,Int.reduceLT,Int.reduceLE,Int.reduceToNat,Int.reduceNeg,  hx,hy,ltB h,ltP h,hlt,sub_one j (by omega),ltP (show j < d.xs.length by omega),(show (0 = m) = False from eq_false (by omega)),(show (m = 0) = False from eq_false (by omega)),(show (0 = m + 1) = False from eq_false (by omega)),(show (m + 1 = 0) = False from eq_false (by omega)),wrap_succ (show j + 1 < 9223372036854775807 by omega)]
        all_goals first
          | (refine MRun.keep (live' := []) (ih h _ _ ⟨rfl,⟨m + 1 + 1,t,by omega,rfl⟩,?_⟩) (keep_g0 hm) (fun _ h => h)
             rw [he,hprev]
             clear ih he hf hpy hprev
             simp only [*,Bool.not_true,Bool.not_false,Bool.true_and,Bool.false_and,Bool.and_true,Bool.and_false])
          | (clear ih
             rw [he]
             clear he hf hprev
             simp only [*,Bool.not_true,Bool.not_false,Bool.true_and,Bool.false_and,Bool.and_true,Bool.and_false])
    · refine opn m37l1.eq_1 ?_
      rw [List.drop_eq_nil_of_le (Nat.le_of_not_lt h),exsB] at he
      repeat' first
        | with_reducible first | refine mw_as m37.eq_1 ?_ | refine opn m37k0.eq_1 ?_ | refine opn m37k1.eq_1 ?_ | refine opn m37k2.eq_1 ?_ | refine opn m37k3.eq_1 ?_ | refine opn m37k4.eq_1 ?_ | refine opn m37k5.eq_1 ?_ | refine opn m37k6.eq_1 ?_ | refine opn m37k7.eq_1 ?_ | refine opn m37k8.eq_1 ?_ | refine opn m37k9.eq_1 ?_ | refine opn m37k10.eq_1 ?_ | refine ⟨?_,?_⟩ | intro _
        | simp only [go_sem,↓reduceIte,Nat.reduceAdd,Nat.reduceLeDiff,Nat.reduceEqDiff,Nat.reduceBEq,Nat.reduceBNe,Nat.reduceMul,Nat.reduceLT,reduceCtorEq,Int.reduceLT,Int.reduceLE,Int.reduceToNat,Int.reduceNeg,  geB (Nat.le_of_not_lt h)]
      rw [he]
  have key1 : formB d = (featsB d.fs && exsB d.fs.length none d.xs) → MRun Tryz.prog 107 [MI.code m37l0.loop,MI.inBlock 0,MI.code (MC.named [1] m37k9)] [] [(1,AV.ptr 0 0),(31,AV.sl 1 (List.map AV.str d.fs) STok.unk),(32,AV.int IntKind.i64 d.fs.length),(33,AV.int IntKind.i64 0)]
      ⟨1,[(0,[AV.str d.ent,AV.sl 1 (List.map AV.str d.fs) STok.unk,AV.sl 4 (List.map Exa.av d.xs) STok.unk])],0,[],gl⟩ (endQ [RV.t 2] fun o' x => o' = Out.ok (AV.bool (formB d))) := by
    intro hf
    refine .forUp d.fs.length (fun i F S => F = [(1,AV.ptr 0 0),(31,AV.sl 1 (List.map AV.str d.fs) STok.unk),(32,AV.int IntKind.i64 d.fs.length),(33,AV.int IntKind.i64 i)] ∧ S = ⟨1,[(0,[AV.str d.ent,AV.sl 1 (List.map AV.str d.fs) STok.unk,AV.sl 4 (List.map Exa.av d.xs) STok.unk])],0,[],gl⟩ ∧ formB d = (featsFrom d.fs i (d.fs.drop i) && exsB d.fs.length none d.xs)) ⟨rfl,rfl,hf⟩ ?_
    rintro i F S hi ⟨rfl,rfl,he⟩ ih
    by_cases h : i < d.fs.length
    · obtain ⟨c,hc⟩ := some_of_lt h
      have hd := drop_some hc
      rw [hd,featsFrom] at he
      refine opn m37l0.eq_1 ?_
      have hcl : c.length < 4294960000 := hs.f c (List.mem_of_getElem? hc)
      have htl : (d.fs.take i).length < 4294967296 := by rw [List.length_take]; omega
      repeat' first
        | with_reducible first | refine mw_as m37.eq_1 ?_ | refine opn m37k0.eq_1 ?_ | refine opn m37k1.eq_1 ?_ | refine opn m37k2.eq_1 ?_ | refine opn m37k3.eq_1 ?_ | refine opn m37k4.eq_1 ?_ | refine opn m37k5.eq_1 ?_ | refine opn m37k6.eq_1 ?_ | refine opn m37k7.eq_1 ?_ | refine opn m37k8.eq_1 ?_ | refine opn m37k9.eq_1 ?_ | refine opn m37k10.eq_1 ?_ | refine .pu (c92 hg hm0 c hcl) hg rfl ?_ | refine .pu (c93 hg (d.fs.take i) c .unk htl) hg rfl ?_ | refine ⟨?_,?_⟩ | intro _
        | simp only [go_sem,↓reduceIte,Nat.reduceAdd,Nat.reduceLeDiff,Nat.reduceEqDiff,Nat.reduceBEq,Nat.reduceBNe,Nat.reduceMul,Nat.reduceLT,reduceCtorEq,Int.reduceLT,Int.reduceLE,Int.reduceToNat,Int.reduceNeg,  hc,ltB h,ltP h,wrap_succ (show i < 9223372036854775807 by omega),← List.map_take,Int.natCast_nonneg]
      · omega
      · rename_i h6 h7
        rw [he,h7]
        simp
      · rename_i h6 h7
        have h6 : nameB c = true := by simpa using h6
        rw [h6,h7,Bool.not_false,Bool.true_and,Bool.true_and] at he
        exact ih h _ _ ⟨rfl,rfl,he⟩
      · rename_i h6
        have h6 : nameB c = false := by simpa using h6
        rw [he,h6]
        rfl
    · refine opn m37l0.eq_1 ?_
      rw [List.drop_eq_nil_of_le (Nat.le_of_not_lt h),featsFrom,Bool.true_and] at he
      repeat' first
        | with_reducible first | refine mw_as m37.eq_1 ?_ | refine opn m37k0.eq_1 ?_ | refine opn m37k1.eq_1 ?_ | refine opn m37k2.eq_1 ?_ | refine opn m37k3.eq_1 ?_ | refine opn m37k4.eq_1 ?_ | refine opn m37k5.eq_1 ?_ | refine opn m37k6.eq_1 ?_ | refine opn m37k7.eq_1 ?_ | refine opn m37k8.eq_1 ?_ | refine opn m37k9.eq_1 ?_ | refine opn m37k10.eq_1 ?_ | refine ⟨?_,?_⟩ | intro _
        | simp only [go_sem,↓reduceIte,Nat.reduceAdd,Nat.reduceLeDiff,Nat.reduceEqDiff,Nat.reduceBEq,Nat.reduceBNe,Nat.reduceMul,Nat.reduceLT,reduceCtorEq,Int.reduceLT,Int.reduceLE,Int.reduceToNat,Int.reduceNeg,  geB (Nat.le_of_not_lt h)]
      exact key2 he
  repeat' first
    | with_reducible first | refine mw_as m37.eq_1 ?_ | refine opn m37k0.eq_1 ?_ | refine opn m37k1.eq_1 ?_ | refine opn m37k2.eq_1 ?_ | refine opn m37k3.eq_1 ?_ | refine opn m37k4.eq_1 ?_ | refine opn m37k5.eq_1 ?_ | refine opn m37k6.eq_1 ?_ | refine opn m37k7.eq_1 ?_ | refine opn m37k8.eq_1 ?_ | refine opn m37k9.eq_1 ?_ | refine opn m37k10.eq_1 ?_ | refine .pu (c92 hg hm0 d.ent hs.ent) hg rfl ?_ | refine ⟨?_,?_⟩ | intro _
    | simp only [go_sem,↓reduceIte,Nat.reduceAdd,Nat.reduceLeDiff,Nat.reduceEqDiff,Nat.reduceBEq,Nat.reduceBNe,Nat.reduceMul,Nat.reduceLT,reduceCtorEq,Int.reduceLT,Int.reduceLE,Int.reduceToNat,Int.reduceNeg]
  all_goals first
    | (refine key1 ?_
       simp only [formB]
       grind)
    | (simp only [formB]
       grind)
end
section
open Go Go.V
set_option maxRecDepth 40000
variable {gl : List (Nat × List AV)}
def FgOut (o : Out) (r : AV) : Prop := match o with
  | .ok r' => r'.fg = r
  | .pan _ => False
theorem FgOut.mk' {r' r : AV} (h : r'.fg = r) : FgOut (.ok r') r := h
theorem Pure.ofFg {P : Program} {f : FuncId} {xs : List AV} {r : AV} (h : MCalls P f (xs.map AV.fg) (.none gl) fun o' _ => FgOut o' r) (hn : ∀ a ∈ xs.map AV.fg,NoRef a) (hr : NoRef r) : Pure P gl f xs (.ok r) :=
  ⟨MCalls.fgRes h (fun r' S' h => by rw [show r'.fg = r from h]) (fun r' S' h => h.elim),hn,hr⟩
def difI : Nat → List Exa → List Exa → List Int
  | i,x :: xs,y :: ys => if x.vs == y.vs then difI (i + 1) xs ys else (i : Int) :: difI (i + 1) xs ys
  | _,_,_ => []
def difB (a b : Dset) : Bool := formB a && (formB b && (a.ent == b.ent && (a.fs == b.fs && a.xs.map Exa.lab == b.xs.map Exa.lab)))
def difL (a b : Dset) : List Int := if difB a b then difI 0 a.xs b.xs else []
def difE (a b : Dset) : Int := if difB a b then 0 else 1
abbrev difAV (a b : Dset) : AV := .tup [.sl 1 ((difL a b).map (AV.int .i64)) .unk,.int .i64 (difE a b)]
def AbT (live : List Nat) (tk : STok) : Prop := tk = .exact ∨ ∃ n,tk = .tok n ∧ n ∈ live
theorem AbT.able {live : List Nat} {tk : STok} (h : AbT live tk) (n : Nat) (ob : List (Nat × List AV)) (nt : Nat) : Able ⟨n,ob,nt,live,gl⟩ tk := by
  rcases h with rfl | ⟨a,rfl,ha⟩
  · exact .inl rfl
  · exact .inr ⟨a,rfl,ha⟩
theorem fg_slI (l : List Int) (tk : STok) : (AV.sl 1 (l.map (AV.int .i64)) tk).fg = AV.sl 1 (l.map (AV.int .i64)) .unk := by
  simp only [fgs]
theorem keep_d {m : Nat} (hm : 2 ≤ m) {a0 a1 am : List AV} : ∀ l cs,List.lookup l [(1,a1),(0,a0)] = some cs → List.lookup l [(m,am),(1,a1),(0,a0)] = some cs := by
  intro l cs h
  simp only [lookG] at h ⊢
  grind
theorem keep_d2 {m : Nat} (hm : 2 ≤ m) {a0 a1 am bm : List AV} : ∀ l cs,List.lookup l [(1,a1),(0,a0)] = some cs → List.lookup l [(m,am),(m,bm),(1,a1),(0,a0)] = some cs := by
  intro l cs h
  simp only [lookG] at h ⊢
  grind
theorem dif_done {a b : Dset} (h : difB a b = true) {acc : List Int} {tk : STok} (ha : difI 0 a.xs b.xs = acc) : FgOut (.ok (.tup [.sl 1 (acc.map (AV.int .i64)) tk,.int .i64 0])) (difAV a b) :=
  .mk' (by simp only [fgs,difAV,difL,difE,h,if_true,ha])
theorem dif_bad {a b : Dset} (h : difB a b = false) {tk : STok} : FgOut (.ok (.tup [.sl 1 [] tk,.int .i64 1])) (difAV a b) :=
  .mk' (by simp only [fgs,difAV,difL,difE,h,if_false,Bool.false_eq_true])
set_option maxHeartbeats 4000000 in
theorem c17 (hg : GlNR gl) {m0 : Int} (hm0 : gl.lookup 1 = some [.int .i64 m0]) (a b : Dset) (ha : SmallD a) (hb : SmallD b) : Pure Tryz.prog gl 17 [a.av,b.av] (.ok (difAV a b)) := by
  refine Pure.ofFg ?_ (by simp only [fgs,nrs,forall_eq_or_imp,forall_eq,implies_true]) (by simp only [difAV,nrs,forall_eq_or_imp,forall_eq,implies_true])
  simp only [fgs]
  refine .of_run is17 (by simp) (mw_sound 200 ?_)
  have hxl := ha.xs
  have hfl := ha.fs
  have key : difB a b = true → a.xs.length = b.xs.length → MRun Tryz.prog 65 [MI.code m17l0.loop,MI.inBlock 0,MI.code (MC.named [4] m17k2)] []
    [(3,AV.ptr 1 0),(4,AV.sl 1 [] STok.exact),(42,AV.sl 4 (List.map Exa.av a.xs) STok.unk),(43,AV.int IntKind.i64 ↑a.xs.length),(44,AV.int IntKind.i64 0)]
    ⟨2,[(1,[AV.str b.ent,AV.sl 1 (List.map AV.str b.fs) STok.unk,AV.sl 4 (List.map Exa.av b.xs) STok.unk]),(0,[AV.str a.ent,AV.sl 1 (List.map AV.str a.fs) STok.unk,AV.sl 4 (List.map Exa.av a.xs) STok.unk])],0,[],gl⟩
    (endQ [RV.t 4,RV.t 5] fun o' x => FgOut o' (difAV a b)) := by
    intro hd hle
    refine .forUp a.xs.length (fun i F S => ∃ (acc : List Int) (tk : STok) (m t : Nat) (live : List Nat),2 ≤ m ∧ AbT live tk ∧ acc.length ≤ i ∧ F = [(3,AV.ptr 1 0),(4,AV.sl 1 (acc.map (AV.int .i64)) tk),(42,AV.sl 4 (List.map Exa.av a.xs) STok.unk),(43,AV.int IntKind.i64 ↑a.xs.length),(44,AV.int IntKind.i64 i)] ∧
      S = ⟨m,[(1,[AV.str b.ent,AV.sl 1 (List.map AV.str b.fs) STok.unk,AV.sl 4 (List.map Exa.av b.xs) STok.unk]),(0,[AV.str a.ent,AV.sl 1 (List.map AV.str a.fs) STok.unk,AV.sl 4 (List.map Exa.av a.xs) STok.unk])],t,live,gl⟩ ∧ difI 0 a.xs b.xs = acc ++ difI i (a.xs.drop i) (b.xs.drop i)) ⟨[],.exact,2,0,[],Nat.le_refl _,.inl rfl,Nat.le_refl _,rfl,rfl,rfl⟩ ?_
    rintro i F S hi ⟨acc,tk,m,t,live,hm,hab,hal,rfl,rfl,he⟩ ih
    by_cases h : i < a.xs.length
    · obtain ⟨x,hx⟩ := some_of_lt h
      obtain ⟨y,hy⟩ := some_of_lt (show i < b.xs.length by omega)
      rw [drop_some hx,drop_some hy,difI] at he
      have hvl := ha.vs x (List.mem_of_getElem? hx)
      have hab2 := fun n ob nt => hab.able (gl := gl) n ob nt
      have hap : acc.map (AV.int .i64) ++ [AV.int .i64 (i : Int)] = (acc ++ [(i : Int)]).map (AV.int .i64) := by simp
      have hle2 : acc.length ≤ 4294960000 := by omega
      refine opn m17l0.eq_1 ?_
      repeat' first
        | with_reducible first | refine mw_as m17.eq_1 ?_ | refine opn m17k0.eq_1 ?_ | refine opn m17k1.eq_1 ?_ | refine opn m17k2.eq_1 ?_ | refine opn m17k3.eq_1 ?_ | refine .pu (c47 hg x.vs y.vs .unk .unk (by omega)) hg rfl ?_ | refine ⟨?_,?_⟩ | intro _
        | simp only [go_sem,↓reduceIte,Nat.reduceAdd,Nat.reduceLeDiff,Nat.reduceEqDiff,Nat.reduceBEq,Nat.reduceBNe,Nat.reduceMul,Nat.reduceLT,reduceCtorEq,Int.reduceLT,Int.reduceLE,Int.reduceToNat,Int.reduceNeg,  hx,hy,ltB h,ltP h,ltP (show i < b.xs.length by omega),use_eq,hap,(show (0 = m) = False from eq_false (by omega)),(show (1 = m) = False from eq_false (by omega)),(show (m = 0) = False from eq_false (by omega)),(show (m = 1) = False from eq_false (by omega)),wrap_succ (show i < 9223372036854775807 by omega)]
      all_goals first
        | exact hab2 _ _ _
        | (rw [List.length_map]; omega)
        | omega
        | (rename_i h6
           have h6 : (x.vs == y.vs) = false := by simpa using h6
           rw [h6,if_neg (by simp)] at he
           refine MRun.keep (live' := t :: useL live tk) (ih h _ _ ⟨acc ++ [(i : Int)],.tok t,m + 1,t + 1,t :: useL live tk,by omega,.inr ⟨t,rfl,List.mem_cons_self⟩,by simp; omega,rfl,rfl,?_⟩) (keep_d2 hm) (fun _ h => h)
           rw [he,List.append_assoc]
           rfl)
        | (rename_i h6
           have h6 : (x.vs == y.vs) = true := by simpa using h6
           rw [h6,if_pos rfl] at he
           exact MRun.keep (live' := live) (ih h _ _ ⟨acc,tk,m + 1,t,live,by omega,hab,by omega,rfl,rfl,he⟩) (keep_d2 hm) (fun _ h => h))
    · refine opn m17l0.eq_1 ?_
      repeat' first
        | with_reducible first | refine mw_as m17.eq_1 ?_ | refine opn m17k0.eq_1 ?_ | refine opn m17k1.eq_1 ?_ | refine opn m17k2.eq_1 ?_ | refine opn m17k3.eq_1 ?_ | refine ⟨?_,?_⟩ | intro _
        | simp only [go_sem,↓reduceIte,Nat.reduceAdd,Nat.reduceLeDiff,Nat.reduceEqDiff,Nat.reduceBEq,Nat.reduceBNe,Nat.reduceMul,Nat.reduceLT,reduceCtorEq,Int.reduceLT,Int.reduceLE,Int.reduceToNat,Int.reduceNeg,  geB (Nat.le_of_not_lt h)]
      rw [List.drop_eq_nil_of_le (Nat.le_of_not_lt h)] at he
      have he : difI 0 a.xs b.xs = acc := by rw [he]; simp [difI]
      exact dif_done hd he
  repeat' first
    | with_reducible first | refine mw_as m17.eq_1 ?_ | refine opn m17k0.eq_1 ?_ | refine opn m17k1.eq_1 ?_ | refine opn m17k2.eq_1 ?_ | refine opn m17k3.eq_1 ?_ | refine .pu (c37 hg hm0 a ha) hg rfl ?_ | refine .pu (c37 hg hm0 b hb) hg rfl ?_ | refine .pu (c45 hg a.fs b.fs .unk .unk (by omega)) hg rfl ?_ | refine .pu (c46 hg a.xs b.xs .unk .unk (by omega)) hg rfl ?_ | refine ⟨?_,?_⟩ | intro _
    | simp only [go_sem,↓reduceIte,Nat.reduceAdd,Nat.reduceLeDiff,Nat.reduceEqDiff,Nat.reduceBEq,Nat.reduceBNe,Nat.reduceMul,Nat.reduceLT,reduceCtorEq,Int.reduceLT,Int.reduceLE,Int.reduceToNat,Int.reduceNeg]
  all_goals first
    | (refine dif_bad ?_
       simp only [difB]
       grind)
    | (refine key ?_ ?_
       · simp only [difB]
         grind
       · rename_i h6
         have h6 : List.map Exa.lab a.xs = List.map Exa.lab b.xs := by simpa using h6
         simpa using congrArg List.length h6)
end
end Go.Proofs.YtdjdhecanjmchaaGreatDoor
