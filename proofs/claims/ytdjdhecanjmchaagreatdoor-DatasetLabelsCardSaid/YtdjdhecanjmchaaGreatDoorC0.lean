/- Plain: the order of labels; the sorted list of a list's labels, each once, is one only. -/
import Derived.Test.YtdjdhecanjmchaaGreatDoorP1
import Derived.Test.YtdjdhecanjmchaaGreatDoorFa
import Derived.Test.YtdjdhecanjmchaaGreatDoorFb
import Derived.Test.YtdjdhecanjmchaaGreatDoorFc
import Derived.Test.YtdjdhecanjmchaaGreatDoorUa
import Derived.Test.YtdjdhecanjmchaaGreatDoorP3
import Derived.Test.YtdjdhecanjmchaaGreatDoorD3
set_option linter.unusedSimpArgs false
set_option linter.unusedVariables false
namespace Go.Proofs.YtdjdhecanjmchaaGreatDoor
open Go Go.V
theorem bl_trans : ∀ {a b c : Bytes},Op.bytesLess a b = true → Op.bytesLess b c = true → Op.bytesLess a c = true
  | [],_,[] => by intro h1 h2; cases ‹List UInt8› <;> simp_all [Op.bytesLess]
  | [],_,_ :: _ => by intro h1 h2; simp [Op.bytesLess]
  | x :: a,[],_ => by intro h1; simp [Op.bytesLess] at h1
  | x :: a,y :: b,[] => by intro h1 h2; simp [Op.bytesLess] at h2
  | x :: a,y :: b,z :: c => by
    intro h1 h2
    have ih := @bl_trans a b c
    simp only [Op.bytesLess] at h1 h2 ⊢
    grind
theorem bl_tri : ∀ (a b : Bytes),Op.bytesLess a b = true ∨ a = b ∨ Op.bytesLess b a = true
  | [],[] => by simp
  | [],_ :: _ => by simp [Op.bytesLess]
  | _ :: _,[] => by simp [Op.bytesLess]
  | x :: a,y :: b => by
    have ih := bl_tri a b
    simp only [Op.bytesLess]
    grind
theorem bl_irr : ∀ a : Bytes,Op.bytesLess a a = false
  | [] => rfl
  | x :: a => by
    have ih := bl_irr a
    simp only [Op.bytesLess]
    grind
theorem lt_irr (a : Lab) : labLt a a = false := by simp [labLt]
theorem lt_trans {a b c : Lab} (h1 : labLt a b = true) (h2 : labLt b c = true) : labLt a c = true := by
  have t1 := @bl_trans a.k b.k c.k
  have i1 := bl_irr a.k
  have i2 := bl_irr b.k
  simp only [labLt] at h1 h2 ⊢
  grind
theorem lt_tri (a b : Lab) : labLt a b = true ∨ a = b ∨ labLt b a = true := by
  have t1 := bl_tri a.k b.k
  obtain ⟨k,e,n⟩ := a
  obtain ⟨k2,e2,n2⟩ := b
  simp only [labLt,Lab.mk.injEq] at t1 ⊢
  by_cases hk : k = k2
  · subst hk
    by_cases he : e = e2
    · subst he
      rcases Int.lt_trichotomy n n2 with h | h | h
      · left; simp [h]
      · right; left; simp [h]
      · right; right; simp [h]
    · rcases Int.lt_trichotomy e e2 with h | h | h
      · left; simp [h,he]
      · exact absurd h he
      · right; right; simp [h,Ne.symm he]
  · rcases t1 with h | h | h
    · left; simp [h,hk]
    · exact absurd h hk
    · right; right; simp [h,Ne.symm hk]
def posL (x : Lab) : List Lab → Nat
  | [] => 0
  | y :: l => if labLt y x then posL x l + 1 else 0
def insL (o : List Lab) (x : Lab) : List Lab := if o[posL x o]? = some x then o else o.take (posL x o) ++ x :: o.drop (posL x o)
def sortR (l : List Lab) : List Lab := l.foldl insL []
theorem posL_le (x : Lab) : ∀ o,posL x o ≤ o.length
  | [] => Nat.le_refl _
  | y :: o => by
    have := posL_le x o
    simp only [posL]
    split <;> simp <;> omega
theorem insL_nil (x : Lab) : insL [] x = [x] := rfl
theorem insL_cons (y : Lab) (o : List Lab) (x : Lab) : insL (y :: o) x = if labLt y x then y :: insL o x else if y = x then y :: o else x :: y :: o := by
  by_cases h : labLt y x = true
  · simp only [insL,posL,h,if_true,List.getElem?_cons_succ,List.take_succ_cons,List.drop_succ_cons,List.cons_append]
    split <;> rfl
  · simp only [insL,posL,h,if_false,List.getElem?_cons_zero,Option.some.injEq,List.take_zero,List.drop_zero,List.nil_append,Bool.false_eq_true]
theorem insL_len (o : List Lab) (x : Lab) : (insL o x).length ≤ o.length + 1 := by
  unfold insL
  split
  · omega
  · simp only [List.length_append,List.length_take,List.length_cons,List.length_drop]
    have := posL_le x o
    omega
theorem insL_mem (x z : Lab) : ∀ o,z ∈ insL o x ↔ z = x ∨ z ∈ o
  | [] => by simp [insL_nil]
  | y :: o => by
    rw [insL_cons]
    have ih := insL_mem x z o
    grind
abbrev SortL (o : List Lab) : Prop := o.Pairwise fun a b => labLt a b = true
theorem insL_sorted (x : Lab) : ∀ o,SortL o → SortL (insL o x)
  | [],_ => by simp [insL_nil,SortL]
  | y :: o,h => by
    have ih := insL_sorted x o (List.pairwise_cons.1 h).2
    have h1 := (List.pairwise_cons.1 h).1
    have h2 := (List.pairwise_cons.1 h).2
    rw [insL_cons]
    split
    · rename_i hl
      refine List.pairwise_cons.2 ⟨fun z hz => ?_,ih⟩
      rcases (insL_mem x z o).1 hz with rfl | hz
      · exact hl
      · exact h1 z hz
    · rename_i hl
      split
      · exact h
      · rename_i hne
        have hxy : labLt x y = true := by
          rcases lt_tri x y with h | h | h
          · exact h
          · exact absurd h.symm hne
          · exact absurd h hl
        refine List.pairwise_cons.2 ⟨fun z hz => ?_,h⟩
        rcases List.mem_cons.1 hz with rfl | hz
        · exact hxy
        · exact lt_trans hxy (h1 z hz)
theorem fold_ins : ∀ (l o : List Lab),SortL o → SortL (l.foldl insL o) ∧ ∀ z,z ∈ l.foldl insL o ↔ z ∈ o ∨ z ∈ l
  | [],o,h => ⟨h,by simp⟩
  | x :: l,o,h => by
    obtain ⟨h1,h2⟩ := fold_ins l (insL o x) (insL_sorted x o h)
    refine ⟨h1,fun z => ?_⟩
    rw [List.foldl_cons,h2,insL_mem,List.mem_cons]
    grind
theorem fold_len : ∀ (l o : List Lab),(l.foldl insL o).length ≤ o.length + l.length
  | [],o => by simp
  | x :: l,o => by
    have h1 := fold_len l (insL o x)
    have h2 := insL_len o x
    simp only [List.foldl_cons,List.length_cons]
    omega
theorem sortR_sorted (l : List Lab) : SortL (sortR l) := (fold_ins l [] List.Pairwise.nil).1
theorem sortR_mem (l : List Lab) (z : Lab) : z ∈ sortR l ↔ z ∈ l := by
  have := (fold_ins l [] List.Pairwise.nil).2 z
  simpa [sortR] using this
theorem sort_unique : ∀ {a b : List Lab},SortL a → SortL b → (∀ z,z ∈ a ↔ z ∈ b) → a = b
  | [],[],_,_,_ => rfl
  | [],y :: b,_,_,h => by have := (h y).2 (by simp); simp at this
  | x :: a,[],_,_,h => by have := (h x).1 (by simp); simp at this
  | x :: a,y :: b,ha,hb,h => by
    obtain ⟨ha1,ha2⟩ := List.pairwise_cons.1 ha
    obtain ⟨hb1,hb2⟩ := List.pairwise_cons.1 hb
    have hxy : x = y := by
      have h1 := (h x).1 (by simp)
      have h2 := (h y).2 (by simp)
      rcases List.mem_cons.1 h1 with h1 | h1
      · exact h1
      · rcases List.mem_cons.1 h2 with h2 | h2
        · exact h2.symm
        · have := lt_trans (hb1 x h1) (ha1 y h2)
          rw [lt_irr] at this
          cases this
    subst hxy
    congr 1
    refine sort_unique ha2 hb2 fun z => ?_
    have hz := h z
    simp only [List.mem_cons] at hz
    constructor
    · intro hm
      rcases hz.1 (.inr hm) with rfl | h3
      · have := ha1 z hm; rw [lt_irr] at this; cases this
      · exact h3
    · intro hm
      rcases hz.2 (.inr hm) with rfl | h3
      · have := hb1 z hm; rw [lt_irr] at this; cases this
      · exact h3
def compactL : List Lab → List Lab
  | [] => []
  | [x] => [x]
  | x :: y :: l => if x = y then compactL (y :: l) else x :: compactL (y :: l)
abbrev WeakL (o : List Lab) : Prop := o.Pairwise fun a b => labLt b a = false
theorem compactL_mem (z : Lab) : ∀ l,z ∈ compactL l ↔ z ∈ l
  | [] => by simp [compactL]
  | [x] => by simp [compactL]
  | x :: y :: l => by
    have ih := compactL_mem z (y :: l)
    simp only [compactL]
    grind
theorem compactL_sorted : ∀ l,WeakL l → SortL (compactL l)
  | [],_ => List.Pairwise.nil
  | [x],_ => by simp [compactL,SortL]
  | x :: y :: l,h => by
    obtain ⟨h1,h2⟩ := List.pairwise_cons.1 h
    have ih := compactL_sorted (y :: l) h2
    simp only [compactL]
    split
    · exact ih
    · rename_i hne
      refine List.pairwise_cons.2 ⟨fun z hz => ?_,ih⟩
      have hz := (compactL_mem z (y :: l)).1 hz
      have hxy : labLt x y = true := by
        rcases lt_tri x y with h | h | h
        · exact h
        · exact absurd h hne
        · have := h1 y (by simp); rw [h] at this; cases this
      rcases List.mem_cons.1 hz with rfl | hz
      · exact hxy
      · rcases lt_tri x z with h | h | h
        · exact h
        · subst h
          have := (List.pairwise_cons.1 h2).1 x hz
          rw [hxy] at this
          cases this
        · have := h1 z (by simp [hz]); rw [h] at this; cases this
theorem compact_sort {m l : List Lab} (hp : ∀ z,z ∈ m ↔ z ∈ l) (hw : WeakL m) : compactL m = sortR l :=
  sort_unique (compactL_sorted m hw) (sortR_sorted l) fun z => by rw [compactL_mem,hp,sortR_mem]
theorem cmp_lt (a b : Lab) : (labCmp a b < 0) = (labLt a b = true) := by
  have t1 := bl_tri a.k b.k
  have i1 := bl_irr a.k
  simp only [labCmp,labLt,cmpB,cmpI]
  grind
end Go.Proofs.YtdjdhecanjmchaaGreatDoor
namespace Go.Proofs.YtdjdhecanjmchaaGreatDoor
open Go Go.V Go.Lib
set_option maxRecDepth 40000
attribute [local go_sem ↓] keepK Opd.ev MK.ev MK.ob gsA
attribute [local go_sem high] gsB
attribute [local go_sem] binEv binOb intOp strOp unEv eqvEv eqCells eqCell noBld tasEv AV.there AV.plus pickCells storeEv AV.solid AV.cells splice putParts rowOK fldEv iarrEv extEv minEv nonNil lenEv isStr appEv appOb appArg slVecEv slVecOb slStrEv slStrOb bnd argF endQ rvsEv rvEv resOf St.none if_true if_false ite_self eq_self ne_eq implies_true forall_const Lab.av Val.av Exa.av Dset.av Req.av gsC
variable {gl : List (Nat × List AV)}
theorem slL_fg {ys : List AV} (tk : STok) {l' : List Lab} (h : ys = l'.map Lab.av) : FgOut (.ok (.sl 3 ys tk)) (.sl 3 (l'.map Lab.av) .unk) := .mk' (by subst h; simp only [fgs])
theorem lab_eq {y x : Lab} (h : y.k = x.k ∧ y.e = x.e ∧ y.n = x.n) : y = x := by
  cases y; cases x; simp only [Lab.mk.injEq]; exact h
theorem nrL (l : List Lab) : NoRef (.sl 3 (l.map Lab.av) .unk) := by simp only [nrs,forall_eq_or_imp,forall_eq,implies_true]
theorem c102 (hg : GlNR gl) (l : List Lab) (t : STok) (hl : l.length < 4294960000) : Pure Tryz.prog gl 102 [.sl 3 (l.map Lab.av) t] (.ok (.sl 3 ((sortR l).map Lab.av) .unk)) := by
  refine Pure.ofFg ?_ (by simp only [fgs,nrs,forall_eq_or_imp,forall_eq,implies_true]) (by simp only [nrs,forall_eq_or_imp,forall_eq,implies_true])
  simp only [fgs]
  refine .of_run is102 (by simp) (mw_sound 200 ?_)
  repeat' first
    | with_reducible first | refine mw_as m102.eq_1 ?_ | refine opn m102k0.eq_1 ?_ | refine opn m102k1.eq_1 ?_ | refine opn m102k2.eq_1 ?_ | refine opn m102k3.eq_1 ?_ | refine opn m102k4.eq_1 ?_ | refine opn m102k5.eq_1 ?_ | refine opn m102k6.eq_1 ?_ | refine ⟨?_,?_⟩ | intro _
    | simp only [go_sem,↓reduceIte,Nat.reduceAdd,Nat.reduceLeDiff,Nat.reduceEqDiff,Nat.reduceBEq,Nat.reduceBNe,Nat.reduceMul,Nat.reduceLT,reduceCtorEq,Int.reduceLT,Int.reduceLE,Int.reduceToNat,Int.reduceNeg]
  refine .forUp l.length (fun i F S => ∃ out tk,F = [(0,AV.sl 3 (l.map Lab.av) .unk),(3,AV.sl 3 (out.map Lab.av) tk),(4,.int .i64 i)] ∧ (∃ m t,S = ⟨m,[],t,[],gl⟩) ∧ out.length ≤ i ∧ sortR l = (l.drop i).foldl insL out) ⟨[],_,rfl,⟨_,_,rfl⟩,Nat.le_refl _,rfl⟩ ?_
  rintro i F S hi ⟨out,tk,rfl,⟨m,nt,rfl⟩,hol,he⟩ ih
  by_cases h : i < l.length
  · obtain ⟨x,hx⟩ := some_of_lt h
    have hd := drop_some hx
    rw [hd,List.foldl_cons] at he
    refine opn m102l1.eq_1 ?_
    repeat' first
      | with_reducible first | refine mw_as m102.eq_1 ?_ | refine opn m102k0.eq_1 ?_ | refine opn m102k1.eq_1 ?_ | refine opn m102k2.eq_1 ?_ | refine opn m102k3.eq_1 ?_ | refine opn m102k4.eq_1 ?_ | refine opn m102k5.eq_1 ?_ | refine opn m102k6.eq_1 ?_ | refine ⟨?_,?_⟩ | intro _
      | simp only [go_sem,↓reduceIte,Nat.reduceAdd,Nat.reduceLeDiff,Nat.reduceEqDiff,Nat.reduceBEq,Nat.reduceBNe,Nat.reduceMul,Nat.reduceLT,reduceCtorEq,Int.reduceLT,Int.reduceLE,Int.reduceToNat,Int.reduceNeg,  hx,ltB h,ltP h,wrap_succ (show i < 9223372036854775807 by omega)]
    have hple := posL_le x out
    have same : ∀ (m nt : Nat),insL out x = out → MRun Tryz.prog 63 [MI.inLoop m102l1,MI.inBlock 0,MI.code (MC.named [3] m102k6)] []
        [(0,AV.sl 3 (List.map Lab.av l) STok.unk),(3,AV.sl 3 (List.map Lab.av out) tk),(4,AV.int IntKind.i64 ↑(i + 1))] ⟨m,[],nt,[],gl⟩ (endQ [RV.t 2] fun o' _ => FgOut o' (AV.sl 3 (List.map Lab.av (sortR l)) STok.unk)) :=
      fun m nt e => ih h _ _ ⟨out,tk,rfl,⟨_,_,rfl⟩,by omega,by rw [he,e]⟩
    have new : ∀ (k m nt : Nat) (ys : List AV) (tk : STok) (ob : List (Nat × List AV)) (live : List Nat),posL x out = k → out[k]? ≠ some x → ys = (out.take k ++ x :: out.drop k).map Lab.av → MRun Tryz.prog 63 [MI.inLoop m102l1,MI.inBlock 0,MI.code (MC.named [3] m102k6)] []
        [(0,AV.sl 3 (List.map Lab.av l) STok.unk),(3,AV.sl 3 ys tk),(4,AV.int IntKind.i64 ↑(i + 1))] ⟨m,ob,nt,live,gl⟩ (endQ [RV.t 2] fun o' _ => FgOut o' (AV.sl 3 (List.map Lab.av (sortR l)) STok.unk)) := by
      rintro k m nt ys tk ob live rfl hne rfl
      have e : insL out x = out.take (posL x out) ++ x :: out.drop (posL x out) := by rw [insL,if_neg hne]
      rw [← e]
      exact .forget (ih h _ _ ⟨insL out x,tk,rfl,⟨_,_,rfl⟩,by have := insL_len out x; omega,he⟩)
    clear ih
    refine .forUp out.length (fun k F S => F = [(0,AV.sl 3 (l.map Lab.av) .unk),(3,AV.sl 3 (out.map Lab.av) tk),(4,.int .i64 i),(5,.int .i64 k)] ∧ (∃ m t,S = ⟨m,[],t,[],gl⟩) ∧ posL x out = k + posL x (out.drop k)) ⟨rfl,⟨_,_,rfl⟩,by simp⟩ ?_
    rintro k F S hk ⟨rfl,⟨m,nt,rfl⟩,hp⟩ ih2
    refine opn m102l0.eq_1 ?_
    by_cases h2 : k < out.length
    · obtain ⟨y,hy⟩ := some_of_lt h2
      have hdk := drop_some hy
      rw [hdk] at hp
      repeat' first
        | with_reducible first | refine mw_as m102.eq_1 ?_ | refine opn m102k0.eq_1 ?_ | refine opn m102k1.eq_1 ?_ | refine opn m102k2.eq_1 ?_ | refine opn m102k3.eq_1 ?_ | refine opn m102k4.eq_1 ?_ | refine opn m102k5.eq_1 ?_ | refine opn m102k6.eq_1 ?_ | refine .pu (c27 hg y x) hg rfl ?_ | refine ⟨?_,?_⟩ | intro _
        | simp only [go_sem,↓reduceIte,Nat.reduceAdd,Nat.reduceLeDiff,Nat.reduceEqDiff,Nat.reduceBEq,Nat.reduceBNe,Nat.reduceMul,Nat.reduceLT,reduceCtorEq,Int.reduceLT,Int.reduceLE,Int.reduceToNat,Int.reduceNeg,  hx,hy,ltB h,ltP h,ltB h2,ltP h2,use_eq,useL,wrap_succ (show i < 9223372036854775807 by omega),wrap_succ (show k < 9223372036854775807 by omega)]
      · rename_i h4
        refine ih2 h2 _ _ ⟨rfl,⟨_,_,rfl⟩,?_⟩
        rw [hp,posL,if_pos h4]
        omega
      · rename_i h4 h5
        refine same _ _ ?_
        have hp2 : posL x out = k := by rw [hp,posL,if_neg (by simp [h4])]; rfl
        rw [insL,if_pos]
        rw [hp2,hy]
        exact congrArg some (lab_eq (by simpa using h5))
      all_goals first
        | omega
        | exact .inr ⟨_,rfl,by simp⟩
        | (simp only [List.length_append,List.length_take,List.length_drop,List.length_map,List.length_cons,List.length_nil]; omega)
        | skip
      · rename_i h4 h5
        have hp2 : posL x out = k := by rw [hp,posL,if_neg (by simp [h4])]; rfl
        refine new k _ _ _ _ _ _ hp2 (by rw [hy]; intro e; cases e; simp at h5) ?_
        have e1 : List.take out.length (List.map Lab.av out) = List.map Lab.av out := List.take_of_length_le (by simp)
        simp [e1]
    · rw [List.drop_eq_nil_of_le (Nat.le_of_not_lt h2)] at hp
      have hp2 : posL x out = k := by simpa [posL] using hp
      obtain rfl : k = out.length := by omega
      repeat' first
        | with_reducible first | refine mw_as m102.eq_1 ?_ | refine opn m102k0.eq_1 ?_ | refine opn m102k1.eq_1 ?_ | refine opn m102k2.eq_1 ?_ | refine opn m102k3.eq_1 ?_ | refine opn m102k4.eq_1 ?_ | refine opn m102k5.eq_1 ?_ | refine opn m102k6.eq_1 ?_ | refine ⟨?_,?_⟩ | intro _
        | simp only [go_sem,↓reduceIte,Nat.reduceAdd,Nat.reduceLeDiff,Nat.reduceEqDiff,Nat.reduceBEq,Nat.reduceBNe,Nat.reduceMul,Nat.reduceLT,reduceCtorEq,Int.reduceLT,Int.reduceLE,Int.reduceToNat,Int.reduceNeg,  hx,ltB h,ltP h,geB (Nat.le_of_not_lt h2),use_eq,useL,wrap_succ (show i < 9223372036854775807 by omega)]
      all_goals first
        | omega
        | exact .inr ⟨_,rfl,by simp⟩
        | (simp only [List.length_append,List.length_take,List.length_drop,List.length_map,List.length_cons,List.length_nil]; omega)
        | skip
      refine new out.length _ _ _ _ _ _ hp2 (by rw [List.getElem?_eq_none (by omega)]; simp) ?_
      have e1 : List.take out.length (List.map Lab.av out) = List.map Lab.av out := List.take_of_length_le (by simp)
      simp [e1]
  · refine opn m102l1.eq_1 ?_
    rw [List.drop_eq_nil_of_le (Nat.le_of_not_lt h),List.foldl_nil] at he
    repeat' first
      | with_reducible first | refine mw_as m102.eq_1 ?_ | refine opn m102k0.eq_1 ?_ | refine opn m102k1.eq_1 ?_ | refine opn m102k2.eq_1 ?_ | refine opn m102k3.eq_1 ?_ | refine opn m102k4.eq_1 ?_ | refine opn m102k5.eq_1 ?_ | refine opn m102k6.eq_1 ?_ | refine ⟨?_,?_⟩ | intro _
      | simp only [go_sem,↓reduceIte,Nat.reduceAdd,Nat.reduceLeDiff,Nat.reduceEqDiff,Nat.reduceBEq,Nat.reduceBNe,Nat.reduceMul,Nat.reduceLT,reduceCtorEq,Int.reduceLT,Int.reduceLE,Int.reduceToNat,Int.reduceNeg,  geB (Nat.le_of_not_lt h)]
    rw [he]
    exact slL_fg _ rfl
end Go.Proofs.YtdjdhecanjmchaaGreatDoor
