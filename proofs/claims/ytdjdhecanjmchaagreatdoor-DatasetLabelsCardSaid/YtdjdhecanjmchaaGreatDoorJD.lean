/- The law that a dataset has exactly the sampled labels. -/
import Derived.Test.YtdjdhecanjmchaaGreatDoorJ1
import Derived.Test.YtdjdhecanjmchaaGreatDoorJ0
import Derived.Test.YtdjdhecanjmchaaGreatDoorJ9
import Derived.Test.YtdjdhecanjmchaaGreatDoorCB
import Derived.Test.YtdjdhecanjmchaaGreatDoorX1
import Derived.Test.YtdjdhecanjmchaaGreatDoorCards
import Derived.Test.YtdjdhecanjmchaaGreatDoorTie
set_option linter.unusedSimpArgs false
set_option linter.unusedVariables false
namespace Go.Proofs.YtdjdhecanjmchaaGreatDoor
open Go Go.V Go.ChangeShapes Go.WideShapes Go.ChangeAt Go.RowKit
set_option maxRecDepth 40000
namespace DatasetLabels
abbrev argsW : Array Value := #[.agg #[.string ⟨#[]⟩,.slice none 0 0,.slice none 0 0,.int .i64 0,.int .i64 0],.slice none 0 0]
theorem laid_met (os : Os) : laidMet Tryz.prog Rows.datasetLabelsRow.laid ((laidWorld os).forCall (fun _ _ => 0) ⟨#[],argsW,[]⟩).memory :=
  laidMet_of_run' 8 (by kernel_rfl) (by kernel_rfl)
theorem reads (os : Os) {H : Type} (enc : TypeId × Value → H) : ∃ places,DataW.whole enc Tryz.prog ((laidWorld os).forCall (fun _ _ => 0) ⟨#[],argsW,[]⟩).memory Tryz.f7.params.toList Rows.datasetLabelsSpec.vars false argsW.toList 8 = some ([.agg [.lit (.string []),.nil,.nil,.lit (.int .i64 0),.lit (.int .i64 0)],.nil],[],places) :=
  ⟨[],by kernel_rfl⟩
theorem contract (H : Type) (enc : TypeId × Value → H) (W : World) (args : Array Value) (ds gs : List (DataW H)) (before : List MemPlace)
    (hval : ∀ (j : Nat) t v,Tryz.f7.params[j]? = some t → args[j]? = some v → Value.okWide Tryz.prog W .any 0 t v)
    (hW : DataW.Whole enc Tryz.prog Tryz.f7.params.toList Rows.datasetLabelsSpec.vars false W args.toList ds gs before) (hL : laidMetH Tryz.prog laid3 W) (hsh : W.ShapedOpen Tryz.prog) :
    Calls Tryz.prog 7 args W fun e W' => ∃ v,e = .returned v ∧ Rows.datasetLabelsSpec.post enc Tryz.prog Tryz.f7 false true false false W args v W' := by
  have hW' := hW
  obtain ⟨p,q,hA0,hV,rfl,hfz,hnd⟩ := hW
  have hA : DataW.TrodAll enc Tryz.prog W 0 (fun _ => true) true Tryz.f7.params.toList args.toList ds p := hA0
  rw [Tryz.params7] at hA hval
  obtain ⟨v0,v1,d0,d1,p0,p1,rfl,rfl,rfl,h0,h1⟩ := trodAll_two hA
  obtain ⟨rfl,rfl⟩ := trodVars_none hV
  obtain ⟨z0,hz0,kz0⟩ := open_req (hval 0 25 v0 rfl rfl) h0
  obtain ⟨z1,hz1⟩ := open_exas (hval 1 26 v1 rfl rfl) h1
  have hv : VRels (ghW W) [z0.av,.sl 4 (z1.map Exa.av) .unk] [v0,v1] := ⟨rfl,fun m c u e1 e2 => by
    match m with
    | 0 => simp only [List.getElem?_cons_succ,List.getElem?_cons_zero,Option.some.injEq] at e1 e2; subst e1; subst e2; exact hz0
    | 1 => simp only [List.getElem?_cons_succ,List.getElem?_cons_zero,Option.some.injEq] at e1 e2; subst e1; subst e2; exact hz1
    | m + 2 => simp at e1⟩
  refine (calls_law hL hsh Tryz.call7 (fun m => c7 (glW_nr m) (glW_at m) (c11 (glW_nr m) (glW_at m)) z0 z1 kz0) hv).mono fun e W' ⟨he,hB⟩ => ?_
  subst he
  exact ⟨_,rfl,post_law rfl (by kernel_rfl) rfl rfl rfl (by
    rw [Tryz.params7]
    intro t ht
    have ht : t = 25 ∨ t = 26 := by simpa using ht
    rcases ht with rfl | rfl
    all_goals exact ⟨by kernel_rfl,of_decide_eq_true (by kernel_rfl)⟩) hW' hB⟩
set_option maxRecDepth 100000 in
theorem lifted (os : Os) (started : os.Started) (H : Type) (enc : TypeId × Value → H) (F : Stop.Interp) :
    ReturnsInHanded {} Tryz.checked os 7 .any ((OpenSpec.ofChange Rows.datasetLabelsSpec).preRow enc Tryz.prog Tryz.f7 Rows.datasetLabelsRow.domain false Rows.datasetLabelsRow.laid) (((OpenSpec.ofChange Rows.datasetLabelsSpec).at F).post enc Tryz.prog Tryz.f7 false true false false) := by
  obtain ⟨places,hx⟩ := reads os enc
  refine returnsInHanded_of_row (C := Tryz.checked) (s := OpenSpec.ofChange Rows.datasetLabelsSpec) own started (by kernel_rfl) Tryz.func7
    (witness_row_at (enc := enc) (C := Tryz.checked) false (laidWorld os) argsW rfl (by kernel_rfl) (by kernel_rfl) (by kernel_rfl)
      (OpenSpec.preRow_of_cond 8 hx (by kernel_rfl) (fun k hk => by cases hk) (by kernel_rfl) (laid_met os))) ?_
  intro W base args ds gs before hval hW _ _ _ hL hsh _
  exact contract H enc W args ds gs before hval hW hL hsh
theorem said : Rows.DatasetLabelsSaid :=
  OpenClaim.holds_of_cond 7 Tryz.f7 rfl rfl rfl rfl rfl rfl rfl ⟨rfl,rfl,rfl,rfl,rfl⟩ rfl rfl rfl rfl rfl (by kernel_rfl) Tryz.func7 (by kernel_rfl)
    (of_decide_eq_true (by kernel_rfl)) (by unfold Func.isWrapper; first | (rw [if_pos (by decide +kernel)]; kernel_rfl) | (rw [if_neg (by decide +kernel)]; exact ⟨rfl,rfl⟩))
    (fun os started H enc _ F => by rw [OpenClaim.pre_eq_preRow]; exact lifted os started H enc F)
theorem plain (f : FuncId) (fn : Func) (hf : Tryz.pinned.checked.prog.funcNamed "asof/asoflaw29.DatasetLabels" = some f) (hfn : Tryz.pinned.checked.prog.funcs[f]? = some fn) :
    true = Tryz.pinned.checked.prog.looks [] ∧ ∀ (j : Nat) t,fn.params[j]? = some t → Tryz.pinned.checked.prog.wantsStandIn t = false := by
  obtain rfl : f = 7 := Option.some.inj ((show Tryz.prog.funcNamed "asof/asoflaw29.DatasetLabels" = some 7 by kernel_rfl).symm.trans hf) |>.symm
  obtain rfl : fn = Tryz.f7 := (Option.some.inj (Tryz.func7.symm.trans hfn)).symm
  refine ⟨by kernel_rfl,fun j t ht => ?_⟩
  rw [Tryz.params7] at ht
  have ht := Array.mem_of_getElem? ht
  have ht : t = 25 ∨ t = 26 := by simpa using ht
  rcases ht with rfl | rfl
  · exact (show Tryz.prog.wantsStandIn 25 = false by kernel_rfl)
  · exact (show Tryz.prog.wantsStandIn 26 = false by kernel_rfl)
theorem card : Rows.DatasetLabelsCardSaid :=
  Claim7.holds_tied_plain_at .later [] _ _ _ _ said (fun _ h => by cases h) (by kernel_rfl) (fun _ h => by cases h) datasetLabels_row_tie rfl ⟨rfl,rfl⟩ (by kernel_rfl) rfl plain (by kernel_rfl)
#print axioms card
end DatasetLabels
end Go.Proofs.YtdjdhecanjmchaaGreatDoor
