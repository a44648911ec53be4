/- For all intervals and sizes, Cover agrees with the reference; if it covers, whole and the edges together are the interval, whole consists of whole ranges, and the edges are shorter than a range: the law, its row, its card. -/
import Derived.Test.YtombgigaefgaiaaGreatDoorJP
import Derived.Test.YtombgigaefgaiaaGreatDoorB9
import Derived.Deep.DeepWitnessRowRef
import Derived.Test.YtombgigaefgaiaaGreatDoorCards
import Derived.Test.YtombgigaefgaiaaGreatDoorTie
set_option linter.unusedSimpArgs false
set_option linter.unusedVariables false
namespace Go.Proofs.YtombgigaefgaiaaGreatDoor
open Go Go.V Go.ChangeShapes Go.WideShapes Go.ChangeAt Go.RowKit
set_option maxRecDepth 40000
namespace PartialsCovers
abbrev argsW : Array Value := #[.agg #[.int .i64 0,.int .i64 0],.int .i64 0]
theorem laid_met (os : Os) : laidMet Tryz.prog Rows.partialsCoversRow.laid ((laidWorld os).forCall (fun _ _ => 0) ⟨#[],argsW,[]⟩).memory :=
  laidMet_of_run' 8 (by kernel_rfl) (by kernel_rfl)
theorem reads (os : Os) {H : Type} (enc : TypeId × Value → H) : ∃ places,DataW.whole enc Tryz.prog ((laidWorld os).forCall (fun _ _ => 0) ⟨#[],argsW,[]⟩).memory Tryz.f3.params.toList Rows.partialsCoversSpec.vars false argsW.toList 8 = some ([.agg [.lit (.int .i64 0),.lit (.int .i64 0)],.lit (.int .i64 0)],[],places) :=
  ⟨[],by kernel_rfl⟩
theorem contract (H : Type) (enc : TypeId × Value → H) (W : World) (args : Array Value) (ds gs : List (DataW H)) (before : List MemPlace)
    (hval : ∀ (j : Nat) t v,Tryz.f3.params[j]? = some t → args[j]? = some v → Value.okWide Tryz.prog W .any 0 t v)
    (hW : DataW.Whole enc Tryz.prog Tryz.f3.params.toList Rows.partialsCoversSpec.vars false W args.toList ds gs before) (hL : laidMetH Tryz.prog laidP W) (hsh : W.ShapedOpen Tryz.prog) :
    Calls Tryz.prog 3 args W fun e W' => ∃ v,e = .returned v ∧ Rows.partialsCoversSpec.post enc Tryz.prog Tryz.f3 false true false false W args v W' := by
  have hW' := hW
  obtain ⟨p,q,hA0,hV,rfl,hfz,hnd⟩ := hW
  have hA : DataW.TrodAll enc Tryz.prog W 0 (fun _ => true) true Tryz.f3.params.toList args.toList ds p := hA0
  rw [Tryz.params3] at hA hval
  obtain ⟨v0,v1,d0,d1,p0,p1,rfl,rfl,rfl,h0,h1⟩ := trodAll_two hA
  obtain ⟨rfl,rfl⟩ := trodVars_none hV
  obtain ⟨a,b,ha⟩ := open_ivl (hval 0 23 v0 rfl rfl) h0
  obtain ⟨s,rfl,_,_,hs⟩ := open_int Tryz.underlying3 (hval 1 3 v1 rfl rfl) h1
  have hv : VRels (ghW W) [.agg [.int .i64 a,.int .i64 b],.int .i64 s] [v0,.int .i64 s] := ⟨rfl,fun m c u e1 e2 => by
    match m with
    | 0 => simp at e1 e2; subst e1; subst e2; exact ha
    | 1 => simp at e1 e2; subst e1; subst e2; exact .int _ _
    | m + 2 => simp at e1⟩
  refine (calls_law hL hsh Tryz.call3 (fun m => c3 m (glP_nr m) a b s) hv).mono fun e W' ⟨he,hB⟩ => ?_
  subst he
  exact ⟨_,rfl,post_law rfl (by kernel_rfl) rfl rfl rfl (by rw [Tryz.params3]; intro t ht; simp only [Array.toList,List.mem_cons,List.not_mem_nil,or_false] at ht; rcases ht with rfl | rfl <;> exact ⟨by kernel_rfl,of_decide_eq_true (by kernel_rfl)⟩) hW' hB⟩
set_option maxRecDepth 100000 in
theorem lifted (os : Os) (started : os.Started) (H : Type) (enc : TypeId × Value → H) (F : Stop.Interp) :
    ReturnsInHanded {} Tryz.checked os 3 .any ((OpenSpec.ofChange Rows.partialsCoversSpec).preRow enc Tryz.prog Tryz.f3 Rows.partialsCoversRow.domain false Rows.partialsCoversRow.laid) (((OpenSpec.ofChange Rows.partialsCoversSpec).at F).post enc Tryz.prog Tryz.f3 false true false false) := by
  obtain ⟨places,hx⟩ := reads os enc
  refine returnsInHanded_of_row (C := Tryz.checked) (s := OpenSpec.ofChange Rows.partialsCoversSpec) own started (by kernel_rfl) Tryz.func3
    (witness_row_atRef (enc := enc) (C := Tryz.checked) false (laidWorld os) argsW rfl (by kernel_rfl) (by kernel_rfl) (by kernel_rfl)
      (OpenSpec.preRow_of_cond 8 hx (by kernel_rfl) (fun k hk => by cases hk) (by kernel_rfl) (laid_met os))) ?_
  intro W base args ds gs before hval hW _ _ _ hL hsh _
  exact contract H enc W args ds gs before hval hW hL hsh
theorem said : Rows.PartialsCoversSaid :=
  OpenClaim.holds_of_cond 3 Tryz.f3 rfl rfl rfl rfl rfl rfl rfl ⟨rfl,rfl,rfl,rfl,rfl⟩ rfl rfl rfl rfl rfl (by kernel_rfl) Tryz.func3 (by kernel_rfl)
    (of_decide_eq_true (by kernel_rfl)) (by unfold Func.isWrapper; first | (rw [if_pos (by decide +kernel)]; kernel_rfl) | (rw [if_neg (by decide +kernel)]; exact ⟨rfl,rfl⟩))
    (fun os started H enc _ F => by rw [OpenClaim.pre_eq_preRow]; exact lifted os started H enc F)
theorem plain (f : FuncId) (fn : Func) (hf : Tryz.pinned.checked.prog.funcNamed "asof/asoflaw26.PartialsCovers" = some f) (hfn : Tryz.pinned.checked.prog.funcs[f]? = some fn) :
    false = Tryz.pinned.checked.prog.looks [] ∧ ∀ (j : Nat) t,fn.params[j]? = some t → Tryz.pinned.checked.prog.wantsStandIn t = false := by
  obtain rfl : f = 3 := Option.some.inj ((show Tryz.prog.funcNamed "asof/asoflaw26.PartialsCovers" = some 3 by kernel_rfl).symm.trans hf) |>.symm
  obtain rfl : fn = Tryz.f3 := (Option.some.inj (Tryz.func3.symm.trans hfn)).symm
  refine ⟨by kernel_rfl,fun j t ht => ?_⟩
  rw [Tryz.params3] at ht
  have ht : t = 23 ∨ t = 3 := by simpa using Array.mem_of_getElem? ht
  rcases ht with rfl | rfl
  · exact (show Tryz.prog.wantsStandIn 23 = false by kernel_rfl)
  · exact (show Tryz.prog.wantsStandIn 3 = false by kernel_rfl)
theorem card : Rows.PartialsCoversCardSaid :=
  Claim7.holds_tied_plain_at .later [] _ _ _ _ said (fun _ h => by cases h) (by kernel_rfl) (fun _ h => by cases h) partialsCovers_row_tie rfl ⟨rfl,rfl⟩ (by kernel_rfl) rfl plain (by kernel_rfl)
#print axioms card
end PartialsCovers
end Go.Proofs.YtombgigaefgaiaaGreatDoor
