/- Rows that lay the decimals' powers, the library's errors and its byte tables too. -/
import Derived.Test.YtdjdhecanjmchaaGreatDoorJ0
set_option linter.unusedSimpArgs false
set_option linter.unusedVariables false
namespace Go.Proofs.YtdjdhecanjmchaaGreatDoor
open Go Go.V Go.ChangeShapes Go.WideShapes Go.RowKit
set_option maxRecDepth 40000
abbrev laid8 : List (String × DataW Unit) := Rows.datasetLinesRow.laid
theorem gTens : Tryz.prog.globalNamed "asof/decimal.tens" = some 0 := by kernel_rfl
theorem gTensT : (Tryz.prog.globals[0]?).map (·.type) = some 171 := by kernel_rfl
theorem cof171 : Tryz.prog.cellsOf 171 = 7 := by kernel_rfl
abbrev tensZ : List Int := [1,10,100,1000,10000,100000,1000000]
theorem laid8_tabs {W : World} (h : laidMetH Tryz.prog laid8 W) : tabOK W ∧ ∃ T fz,W.heap[0]? = some (.cells (tensZ.map fun z => Value.int .i64 z).toArray T fz) := by
  have h : laidMet Tryz.prog laid8 W := h
  obtain ⟨ps,h1,_,_⟩ := h
  simp only [laid8,Rows.datasetLinesRow,DataW.LaidVars] at h1
  obtain ⟨_,_,_,_,_,_,_,_,_,_,⟨_,_,_,_,_,_,_,_,_,_,h2,_⟩,_⟩ := h1
  obtain ⟨g,t,cs,fuel,p,q,hg,hty,hvar,hd,⟨_,_,_,_,_,_,_,_,_,_,⟨_,_,_,_,_,_,_,_,_,_,⟨_,_,_,_,_,_,_,_,_,_,h3,_⟩,_⟩,_⟩,_⟩ := h2
  obtain ⟨g3,t3,cs3,fuel3,p3,q3,hg3,hty3,hvar3,hd3,_,_⟩ := h3
  obtain rfl := Option.some.inj (gPow.symm.trans hg)
  obtain rfl := Option.some.inj (gPowT.symm.trans hty)
  obtain rfl := Option.some.inj (gTens.symm.trans hg3)
  obtain rfl := Option.some.inj (gTensT.symm.trans hty3)
  have hcs := Lib.cells_of_tab (k := .u64) (zs := (List.range 20).map fun i => ((10 ^ i : Nat) : Int)) Tryz.underlying214 Tryz.underlying58 cof58 cof214 hd
  have hcs3 := Lib.cells_of_tab (k := .i64) (zs := tensZ) Tryz.underlying171 Tryz.underlying3 cof3 cof171 hd3
  refine ⟨?_,?_⟩
  · intro pr hpr
    simp only [gtab,List.mem_singleton] at hpr
    subst hpr
    unfold World.var? at hvar
    rw [gPow] at hvar
    simp only [Option.bind_some] at hvar
    split at hvar
    · rename_i c T fz hh
      injection hvar with hvar
      subst hvar
      refine ⟨T,fz,?_⟩
      have hc : c = ((List.range 20).map fun i => Value.int .u64 ((10 ^ i : Nat) : Int)).toArray := by
        have h3 := congrArg List.toArray hcs
        rw [List.map_map] at h3
        rw [← show c.toList.toArray = c from by simp,h3]
        rfl
      rw [hh,hc]
    · cases hvar
  · unfold World.var? at hvar3
    rw [gTens] at hvar3
    simp only [Option.bind_some] at hvar3
    split at hvar3
    · rename_i c T fz hh
      injection hvar3 with hvar3
      subst hvar3
      refine ⟨T,fz,?_⟩
      have hc : c = (tensZ.map fun z => Value.int .i64 z).toArray := by
        have h3 := congrArg List.toArray hcs3
        rw [← show c.toList.toArray = c from by simp,h3]
      rw [hh,hc]
    · cases hvar3
abbrev tensAV : List AV := tensZ.map fun z => AV.int .i64 z
abbrev glW8 (m : Int) : List (Nat × List AV) := [(1,[.int .i64 m]),(0,tensAV)]
theorem glW8_nr (m : Int) : GlNR (glW8 m) := by
  intro g cs h c hc
  simp only [List.lookup_cons,List.lookup_nil] at h
  split at h
  · injection h with h
    subst h
    simp at hc
    subst hc
    exact .int _ _
  · split at h
    · injection h with h
      subst h
      obtain ⟨z,_,rfl⟩ := List.mem_map.1 hc
      exact .int _ _
    · cases h
theorem glW8_at (m : Int) : (glW8 m).lookup 1 = some [.int .i64 m] := rfl
theorem glW8_at0 (m : Int) : (glW8 m).lookup 0 = some (.int .i64 1 :: ([10,100,1000,10000,100000,1000000] : List Int).map fun z => AV.int .i64 z) := rfl
theorem calls_law8 {W : World} (hL : laidMetH Tryz.prog laid8 W) (hsh : W.ShapedOpen Tryz.prog) {f : FuncId} {xs : List AV} (hc : ∀ (args : Array Value) (w : World),(callFunc f args).run Tryz.prog w = .ok (.enter f args) w)
    (h : ∀ m,Pure Tryz.prog (glW8 m) f xs (.ok (.bool true))) {vs : List Value} (hv : VRels (ghW W) xs vs) :
    Calls Tryz.prog f vs.toArray W fun e W' => e = .returned (.bool true) ∧ Below W.heap.size W W' := by
  obtain ⟨m,hm⟩ := maxLen_at hsh
  obtain ⟨hgood,T,fz,ht⟩ := laid8_tabs hL
  let wb : Base := { toWorld := W,φ := fun r o => W.cell? ⟨r,o,none⟩,good := hgood }
  have hst : StRel wb (ghW W) (.none (glW8 m)) W := {
    prom := fun r o v h => h
    apart := fun l cs r o _ e => by cases e
    obj := fun l cs e => by cases e
    beta := rfl
    bld := fun l s e => by cases e
    bldu := fun l l' s s' e => by cases e
    inj := fun l l' r e => by cases e
    dom := fun l r e => by cases e
    tok := fun t ht => by cases ht
    tdom := fun t x e => by cases e
    tdis := fun t ht => by cases ht
    base := ⟨Nat.le_refl _,fun _ _ => rfl⟩
    pold := fun r o v _ e => e
    still := ⟨rfl,rfl,rfl⟩
    glob := fun g cs e i c hc => by
      have e : (glW8 m).lookup g = some cs := e
      simp only [List.lookup_cons,List.lookup_nil] at e
      split at e
      · rename_i hg
        have hg : g = 1 := by simpa using hg
        subst hg
        injection e with e
        subst e
        match i with
        | 0 => simp at hc; subst hc; exact ⟨_,hm,.int _ _,rfl⟩
        | i + 1 => simp at hc
      · split at e
        · rename_i hg
          have hg : g = 0 := by simpa using hg
          subst hg
          injection e with e
          subst e
          rw [List.getElem?_map,Option.map_eq_some_iff] at hc
          obtain ⟨z,hz,rfl⟩ := hc
          refine ⟨.int .i64 z,?_,.int _ _,rfl⟩
          show W.cell? ⟨0,i,none⟩ = _
          unfold World.cell?
          rw [ht]
          simp only [List.getElem?_toArray,List.getElem?_map,hz,Option.map_some]
          rfl
        · cases e }
  have hi := (h m).call wb (ghW W) W vs hst hv.fg
  unfold Invk at hi
  rw [hc] at hi
  refine Calls.mono hi fun e w2 ⟨G',S',h1,h2,h3⟩ => ?_
  have hb : Below W.heap.size W w2 := ⟨h2.still.1,h2.still.2.2,h2.still.2.1,h2.base.1,fun k hk => h2.base.2 k hk⟩
  cases e with
  | returned v => obtain ⟨r,h4,h5⟩ := h3; injection h5 with h5; subst h5; rw [h4.bool_inv]; exact ⟨rfl,hb⟩
  | panicked ch => obtain ⟨v,av,h4,h5,h6⟩ := h3; cases h6
  | outgrown => exact h3.elim
def setC (h : Array Obj) (i : Nat) (vs : List Value) : Array Obj := h.modify i fun
  | .cells _ t _ => .cells vs.toArray t (0,0)
  | o => o
noncomputable def laidWorld8 (os : Os) : World :=
  let w0 := laidWorld os
  let n := w0.heap.size
  { w0 with heap := (setC (setC (setC (setC (setC w0.heap 0 (tensZ.map (Value.int .i64))) 2 [.iface 233 (.pointer (some ⟨n,0,none⟩))]) 3 [.iface 233 (.pointer (some ⟨n + 1,0,none⟩))])
      5 ((List.replicate 128 240 ++ List.replicate 66 241 ++ List.replicate 30 2 ++ [19] ++ List.replicate 12 3 ++ [35] ++ List.replicate 2 3 ++ [52] ++ List.replicate 3 4 ++ [68] ++ List.replicate 11 241 : List Int).map (Value.int .u8)))
      6 (([128,191,160,191,128,159,144,191,128,143] ++ List.replicate 22 0 : List Int).map (Value.int .u8))) ++
      #[.cells #[.string ⟨#[105,110,118,97,108,105,100,32,115,121,110,116,97,120]⟩] 235 (0,0),.cells #[.string ⟨#[118,97,108,117,101,32,111,117,116,32,111,102,32,114,97,110,103,101]⟩] 235 (0,0)] }
end Go.Proofs.YtdjdhecanjmchaaGreatDoor
