/- The law on printed lines: they can be read back. -/
import Derived.Test.YtdjdhecanjmchaaGreatDoorJ1
import Derived.Test.YtdjdhecanjmchaaGreatDoorJ8
import Derived.Test.YtdjdhecanjmchaaGreatDoorM6
import Derived.Test.YtdjdhecanjmchaaGreatDoorX1
import Derived.Test.YtdjdhecanjmchaaGreatDoorCards
import Derived.Test.YtdjdhecanjmchaaGreatDoorTie
set_option linter.unusedSimpArgs false
set_option linter.unusedVariables false
namespace Go.Proofs.YtdjdhecanjmchaaGreatDoor
open Go Go.V Go.ChangeShapes Go.WideShapes Go.ChangeAt Go.RowKit
set_option maxRecDepth 40000
namespace DatasetLines
abbrev argsW : Array Value := #[.agg #[.string ⟨#[]⟩,.slice none 0 0,.slice none 0 0]]
theorem laid_met (os : Os) : laidMet Tryz.prog Rows.datasetLinesRow.laid ((laidWorld8 os).forCall (fun _ _ => 0) ⟨#[],argsW,[]⟩).memory :=
  laidMet_of_run' 8 (by kernel_rfl) (by kernel_rfl)
theorem reads (os : Os) {H : Type} (enc : TypeId × Value → H) : ∃ places,DataW.whole enc Tryz.prog ((laidWorld8 os).forCall (fun _ _ => 0) ⟨#[],argsW,[]⟩).memory Tryz.f10.params.toList Rows.datasetLinesSpec.vars false argsW.toList 8 = some ([.agg [.lit (.string []),.nil,.nil]],[],places) :=
  ⟨[],by kernel_rfl⟩
theorem contract (H : Type) (enc : TypeId × Value → H) (W : World) (args : Array Value) (ds gs : List (DataW H)) (before : List MemPlace)
    (hval : ∀ (j : Nat) t v,Tryz.f10.params[j]? = some t → args[j]? = some v → Value.okWide Tryz.prog W .any 0 t v)
    (hW : DataW.Whole enc Tryz.prog Tryz.f10.params.toList Rows.datasetLinesSpec.vars false W args.toList ds gs before) (hL : laidMetH Tryz.prog laid8 W) (hsh : W.ShapedOpen Tryz.prog) :
    Calls Tryz.prog 10 args W fun e W' => ∃ v,e = .returned v ∧ Rows.datasetLinesSpec.post enc Tryz.prog Tryz.f10 false true false false W args v W' := by
  have hW' := hW
  obtain ⟨p,q,hA0,hV,rfl,hfz,hnd⟩ := hW
  have hA : DataW.TrodAll enc Tryz.prog W 0 (fun _ => true) true Tryz.f10.params.toList args.toList ds p := hA0
  rw [Tryz.params10] at hA hval
  obtain ⟨v0,d0,rfl,rfl,h0⟩ := trodAll_one hA
  obtain ⟨rfl,rfl⟩ := trodVars_none hV
  obtain ⟨z0,hz0⟩ := open_dset (hval 0 31 v0 rfl rfl) h0
  have hv : VRels (ghW W) [z0.av] [v0] := ⟨rfl,fun m c u e1 e2 => by
    match m with
    | 0 => simp only [List.getElem?_cons_succ,List.getElem?_cons_zero,Option.some.injEq] at e1 e2; subst e1; subst e2; exact hz0
    | m + 1 => simp at e1⟩
  refine (calls_law8 hL hsh Tryz.call10 (fun m => c10 (glW8_nr m) (glW8_at m) (glW8_at0 m) (c11 (glW8_nr m) (glW8_at m)) z0 ) hv).mono fun e W' ⟨he,hB⟩ => ?_
  subst he
  exact ⟨_,rfl,post_law rfl (by kernel_rfl) rfl rfl rfl (by
    rw [Tryz.params10]
    intro t ht
    have ht : t = 31 := by simpa using ht
    rcases ht with rfl
    all_goals exact ⟨by kernel_rfl,of_decide_eq_true (by kernel_rfl)⟩) hW' hB⟩
set_option maxRecDepth 100000 in
theorem lifted (os : Os) (started : os.Started) (H : Type) (enc : TypeId × Value → H) (F : Stop.Interp) :
    ReturnsInHanded {} Tryz.checked os 10 .any ((OpenSpec.ofChange Rows.datasetLinesSpec).preRow enc Tryz.prog Tryz.f10 Rows.datasetLinesRow.domain false Rows.datasetLinesRow.laid) (((OpenSpec.ofChange Rows.datasetLinesSpec).at F).post enc Tryz.prog Tryz.f10 false true false false) := by
  obtain ⟨places,hx⟩ := reads os enc
  refine returnsInHanded_of_row (C := Tryz.checked) (s := OpenSpec.ofChange Rows.datasetLinesSpec) own started (by kernel_rfl) Tryz.func10
    (witness_row_at (enc := enc) (C := Tryz.checked) false (laidWorld8 os) argsW rfl (by kernel_rfl) (by kernel_rfl) (by kernel_rfl)
      (OpenSpec.preRow_of_cond 8 hx (by kernel_rfl) (fun k hk => by cases hk) (by kernel_rfl) (laid_met os))) ?_
  intro W base args ds gs before hval hW _ _ _ hL hsh _
  exact contract H enc W args ds gs before hval hW hL hsh
theorem said : Rows.DatasetLinesSaid :=
  OpenClaim.holds_of_cond 10 Tryz.f10 rfl rfl rfl rfl rfl rfl rfl ⟨rfl,rfl,rfl,rfl,rfl⟩ rfl rfl rfl rfl rfl (by kernel_rfl) Tryz.func10 (by kernel_rfl)
    (of_decide_eq_true (by kernel_rfl)) (by unfold Func.isWrapper; first | (rw [if_pos (by decide +kernel)]; kernel_rfl) | (rw [if_neg (by decide +kernel)]; exact ⟨rfl,rfl⟩))
    (fun os started H enc _ F => by rw [OpenClaim.pre_eq_preRow]; exact lifted os started H enc F)
theorem plain (f : FuncId) (fn : Func) (hf : Tryz.pinned.checked.prog.funcNamed "asof/asoflaw29.DatasetLines" = some f) (hfn : Tryz.pinned.checked.prog.funcs[f]? = some fn) :
    true = Tryz.pinned.checked.prog.looks [] ∧ ∀ (j : Nat) t,fn.params[j]? = some t → Tryz.pinned.checked.prog.wantsStandIn t = false := by
  obtain rfl : f = 10 := Option.some.inj ((show Tryz.prog.funcNamed "asof/asoflaw29.DatasetLines" = some 10 by kernel_rfl).symm.trans hf) |>.symm
  obtain rfl : fn = Tryz.f10 := (Option.some.inj (Tryz.func10.symm.trans hfn)).symm
  refine ⟨by kernel_rfl,fun j t ht => ?_⟩
  rw [Tryz.params10] at ht
  have ht := Array.mem_of_getElem? ht
  have ht : t = 31 := by simpa using ht
  rcases ht with rfl
  · exact (show Tryz.prog.wantsStandIn 31 = false by kernel_rfl)
theorem card : Rows.DatasetLinesCardSaid :=
  Claim7.holds_tied_plain_at .later [] _ _ _ _ said (fun _ h => by cases h) (by kernel_rfl) (fun _ h => by cases h) datasetLines_row_tie rfl ⟨rfl,rfl⟩ (by kernel_rfl) rfl plain (by kernel_rfl)
#print axioms card
end DatasetLines
end Go.Proofs.YtdjdhecanjmchaaGreatDoor
