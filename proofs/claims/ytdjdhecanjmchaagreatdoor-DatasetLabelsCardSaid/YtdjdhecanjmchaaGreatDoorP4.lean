/- Contracts: the reference's Differ. -/
import Derived.Test.YtdjdhecanjmchaaGreatDoorP3
set_option linter.unusedSimpArgs false
set_option linter.unusedVariables false
namespace Go.Proofs.YtdjdhecanjmchaaGreatDoor
open Go Go.V
set_option maxRecDepth 40000
attribute [local go_sem ↓] keepK Opd.ev MK.ev MK.ob gsA
attribute [local go_sem high] gsB
attribute [local go_sem] binEv binOb intOp strOp unEv eqvEv eqCells eqCell noBld tasEv AV.there AV.plus pickCells storeEv AV.solid AV.cells splice putParts rowOK fldEv iarrEv extEv minEv nonNil lenEv isStr appEv appOb appArg slVecEv slVecOb slStrEv slStrOb bnd argF endQ rvsEv rvEv resOf St.none if_true if_false ite_self eq_self ne_eq implies_true forall_const Lab.av Val.av Exa.av Dset.av Req.av gsC
variable {gl : List (Nat × List AV)}
theorem sl_one {α : Type} {l : List α} {i : Nat} {x : α} (h : l[i]? = some x) : (l.take (i + 1)).drop i = [x] := by
  rw [take_some h,List.drop_append,List.drop_eq_nil_of_le (by rw [List.length_take]; omega)]
  have : i < l.length := (List.getElem?_eq_some_iff.1 h).1
  rw [List.length_take,Nat.min_eq_left (by omega),Nat.sub_self]
  rfl
theorem keep_four {a0 a1 x1 x2 x3 x4 x5 x6 : List AV} {i1 i2 i3 i4 i5 i6 : Nat} (h1 : 2 ≤ i1 := by decide) (h2 : 2 ≤ i2 := by decide) (h3 : 2 ≤ i3 := by decide) (h4 : 2 ≤ i4 := by decide) (h5 : 2 ≤ i5 := by decide) (h6 : 2 ≤ i6 := by decide) : ∀ l cs,List.lookup l [(1,a1),(0,a0)] = some cs → List.lookup l [(i1,x1),(i2,x2),(i3,x3),(i4,x4),(i5,x5),(i6,x6),(1,a1),(0,a0)] = some cs := by
  intro l cs h
  simp only [lookG] at h ⊢
  grind
theorem labEq (x y : Lab) : (x.k == y.k && (x.e == y.e && x.n == y.n)) = (x == y) := by
  rw [Bool.eq_iff_iff]
  cases x; cases y; simp
theorem oneEq {x y : Exa} (e : x.lab = y.lab) : ([x] == [y]) = (x.vs == y.vs) := by
  rw [Bool.eq_iff_iff]
  cases x; cases y; simp at e; simp [e]
set_option maxHeartbeats 4000000 in
theorem c18 (hg : GlNR gl) (a b : Dset) (ha : SmallD a) (hb : SmallD b) : Pure Tryz.prog gl 18 [a.av,b.av] (.ok (difAV a b)) := by
  refine Pure.ofFg ?_ (by simp only [fgs,nrs,forall_eq_or_imp,forall_eq,implies_true]) (by simp only [difAV,nrs,forall_eq_or_imp,forall_eq,implies_true])
  simp only [fgs]
  refine .of_run is18 (by simp) (mw_sound 200 ?_)
  have hxl := ha.xs
  have hfl := ha.fs
  have key : difB a b = (a.xs.map Exa.lab == b.xs.map Exa.lab) → a.xs.length = b.xs.length → MRun Tryz.prog 76 [MI.code m18l0.loop,MI.inBlock 0,MI.code (MC.named [8] m18k2)] []
    [(2,AV.ptr 0 0),(3,AV.ptr 1 0),(8,AV.sl 1 [] STok.exact),(9,AV.int IntKind.i64 0)]
    ⟨4,[(1,[AV.str b.ent,AV.sl 1 (List.map AV.str b.fs) STok.unk,AV.sl 4 (List.map Exa.av b.xs) STok.unk]),(0,[AV.str a.ent,AV.sl 1 (List.map AV.str a.fs) STok.unk,AV.sl 4 (List.map Exa.av a.xs) STok.unk])],0,[],gl⟩
    (endQ [RV.t 4,RV.t 5] fun o' x => FgOut o' (difAV a b)) := by
    intro hd hle
    refine .forUp a.xs.length (fun i F S => ∃ (acc : List Int) (tk : STok) (t : Nat) (live : List Nat),AbT live tk ∧ acc.length ≤ i ∧ F = [(2,AV.ptr 0 0),(3,AV.ptr 1 0),(8,AV.sl 1 (acc.map (AV.int .i64)) tk),(9,AV.int IntKind.i64 i)] ∧
      S = ⟨4,[(1,[AV.str b.ent,AV.sl 1 (List.map AV.str b.fs) STok.unk,AV.sl 4 (List.map Exa.av b.xs) STok.unk]),(0,[AV.str a.ent,AV.sl 1 (List.map AV.str a.fs) STok.unk,AV.sl 4 (List.map Exa.av a.xs) STok.unk])],t,live,gl⟩ ∧ difI 0 a.xs b.xs = acc ++ difI i (a.xs.drop i) (b.xs.drop i) ∧ difB a b = ((a.xs.drop i).map Exa.lab == (b.xs.drop i).map Exa.lab)) ⟨[],.exact,0,[],.inl rfl,Nat.le_refl _,rfl,rfl,rfl,hd⟩ ?_
    rintro i F S hi ⟨acc,tk,t,live,hab,hal,rfl,rfl,he,hf⟩ ih
    by_cases h : i < a.xs.length
    · obtain ⟨x,hx⟩ := some_of_lt h
      obtain ⟨y,hy⟩ := some_of_lt (show i < b.xs.length by omega)
      rw [drop_some hx,drop_some hy,difI] at he
      rw [drop_some hx,drop_some hy] at hf
      have hvl := ha.vs x (List.mem_of_getElem? hx)
      have hab2 := fun n ob nt => hab.able (gl := gl) n ob nt
      have hap : acc.map (AV.int .i64) ++ [AV.int .i64 (i : Int)] = (acc ++ [(i : Int)]).map (AV.int .i64) := by simp
      have hle2 : acc.length ≤ 4294960000 := by omega
      refine opn m18l0.eq_1 ?_
      have hf2 : difB a b = ((x.lab == y.lab) && (List.map Exa.lab (List.drop (i + 1) a.xs) == List.map Exa.lab (List.drop (i + 1) b.xs))) := hf
      clear hf
      have h1 : ((i : Int) ≤ ((i + 1 : Nat) : Int)) = True := eq_true (by omega)
      have h2 : (((i + 1 : Nat) : Int) ≤ (a.xs.length : Int)) = True := eq_true (by omega)
      have h3 : (((i + 1 : Nat) : Int) ≤ (b.xs.length : Int)) = True := eq_true (by omega)
      have h4 : List.drop i (List.take (i + 1) (List.map Exa.av a.xs)) = [x].map Exa.av := by rw [← List.map_take,← List.map_drop,sl_one hx]
      have h5 : List.drop i (List.take (i + 1) (List.map Exa.av b.xs)) = [y].map Exa.av := by rw [← List.map_take,← List.map_drop,sl_one hy]
      have h6 : ∀ z ∈ [x],z.vs.length < 4294967296 := by simp; omega
      repeat' first
        | with_reducible first | refine mw_as m18.eq_1 ?_ | refine opn m18k0.eq_1 ?_ | refine opn m18k1.eq_1 ?_ | refine opn m18k2.eq_1 ?_ | refine opn m18k3.eq_1 ?_ | refine .pu (c43 hg [x] [y] .unk .unk (by simp) h6) hg rfl ?_ | refine ⟨?_,?_⟩ | intro _
        | simp only [go_sem,↓reduceIte,Nat.reduceAdd,Nat.reduceLeDiff,Nat.reduceEqDiff,Nat.reduceBEq,Nat.reduceBNe,Nat.reduceMul,Nat.reduceLT,reduceCtorEq,Int.reduceLT,Int.reduceLE,Int.reduceToNat,Int.reduceNeg,  hx,hy,ltB h,ltP h,ltP (show i < b.xs.length by omega),use_eq,hap,h1,h2,h3,h4,h5,wrap_succ (show i < 9223372036854775807 by omega)]
      all_goals first
        | exact hab2 _ _ _
        | omega
        | (refine dif_bad ?_
           rename_i h7
           rw [Bool.not_eq_true',labEq] at h7
           rw [hf2,h7,Bool.false_and])
        | (rename_i h8 h7
           have h8 : (x.lab == y.lab) = true := by simpa only [Bool.not_eq_false',labEq] using h8
           rw [oneEq (eq_of_beq h8)] at h7
           have h7 : (x.vs == y.vs) = false := by simpa using h7
           rw [h7,if_neg (by simp)] at he
           rw [h8,Bool.true_and] at hf2
           refine ih h _ _ ⟨acc ++ [(i : Int)],.tok t,t + 1,t :: useL live tk,.inr ⟨t,rfl,List.mem_cons_self⟩,by simp; omega,rfl,rfl,?_,hf2⟩
           rw [he,List.append_assoc]
           rfl)
        | (rename_i h8 h7
           have h8 : (x.lab == y.lab) = true := by simpa only [Bool.not_eq_false',labEq] using h8
           rw [oneEq (eq_of_beq h8)] at h7
           have h7 : (x.vs == y.vs) = true := by simpa using h7
           rw [h7,if_pos rfl] at he
           rw [h8,Bool.true_and] at hf2
           exact ih h _ _ ⟨acc,tk,t,live,hab,by omega,rfl,rfl,he,hf2⟩)
    · refine opn m18l0.eq_1 ?_
      repeat' first
        | with_reducible first | refine mw_as m18.eq_1 ?_ | refine opn m18k0.eq_1 ?_ | refine opn m18k1.eq_1 ?_ | refine opn m18k2.eq_1 ?_ | refine opn m18k3.eq_1 ?_ | refine ⟨?_,?_⟩ | intro _
        | simp only [go_sem,↓reduceIte,Nat.reduceAdd,Nat.reduceLeDiff,Nat.reduceEqDiff,Nat.reduceBEq,Nat.reduceBNe,Nat.reduceMul,Nat.reduceLT,reduceCtorEq,Int.reduceLT,Int.reduceLE,Int.reduceToNat,Int.reduceNeg,  geB (Nat.le_of_not_lt h)]
      rw [List.drop_eq_nil_of_le (Nat.le_of_not_lt h)] at he hf
      rw [List.drop_eq_nil_of_le (show b.xs.length ≤ i by omega)] at hf
      have he : difI 0 a.xs b.xs = acc := by rw [he]; simp [difI]
      exact dif_done (by simpa using hf) he
  have h16 : Pure Tryz.prog gl 16 [AV.agg [AV.str a.ent,AV.sl 1 (List.map AV.str a.fs) STok.unk,AV.sl 4 [] STok.exact],AV.agg [AV.str b.ent,AV.sl 1 (List.map AV.str b.fs) STok.unk,AV.sl 4 [] STok.exact]] (.ok (.bool ((⟨a.ent,a.fs,[]⟩ : Dset) == ⟨b.ent,b.fs,[]⟩))) :=
    (c16 hg ⟨a.ent,a.fs,[]⟩ ⟨b.ent,b.fs,[]⟩ (show a.fs.length < 4294967296 by omega) (by simp) (by simp)).conv (by simp only [fgs,Dset.av])
  have h17 : ((⟨a.ent,a.fs,[]⟩ : Dset) == ⟨b.ent,b.fs,[]⟩) = (a.ent == b.ent && a.fs == b.fs) := by
    rw [Bool.eq_iff_iff]
    simp
  have h18 : (a.xs.map Exa.lab == b.xs.map Exa.lab) = true → a.xs.length = b.xs.length := fun h => by
    have h := congrArg List.length (eq_of_beq h)
    simpa using h
  repeat' first
    | with_reducible first | refine mw_as m18.eq_1 ?_ | refine opn m18k0.eq_1 ?_ | refine opn m18k1.eq_1 ?_ | refine opn m18k2.eq_1 ?_ | refine opn m18k3.eq_1 ?_ | refine .pu (c22 hg a ha) hg rfl ?_ | refine .pu (c22 hg b hb) hg rfl ?_ | refine .pu (h16) hg rfl ?_ | refine ⟨?_,?_⟩ | intro _
    | simp only [go_sem,↓reduceIte,Nat.reduceAdd,Nat.reduceLeDiff,Nat.reduceEqDiff,Nat.reduceBEq,Nat.reduceBNe,Nat.reduceMul,Nat.reduceLT,reduceCtorEq,Int.reduceLT,Int.reduceLE,Int.reduceToNat,Int.reduceNeg,  h17]
  all_goals first
    | (refine dif_bad ?_
       simp only [difB]
       grind)
    | (refine MRun.keep (live' := []) (key ?_ ?_) keep_four (fun _ h => h)
       · simp only [difB]
         grind
       · rename_i h6
         have h6 : ((a.xs.length : Int) != (b.xs.length : Int)) = false := (Bool.or_eq_false_iff.1 h6).2
         have h6 : (a.xs.length : Int) = b.xs.length := by simpa using h6
         omega)
end Go.Proofs.YtdjdhecanjmchaaGreatDoor
