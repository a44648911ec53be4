/- Readers of bytes and ints; the law on datasets that are decoded: its row, its card. -/
import Derived.Test.YtdjdhecanjmchaaGreatDoorJ1B
import Derived.Test.YtdjdhecanjmchaaGreatDoorJ0B
import Derived.Test.YtdjdhecanjmchaaGreatDoorEBB
import Derived.Test.YtdjdhecanjmchaaGreatDoorX1B
import Derived.Test.YtdjdhecanjmchaaGreatDoorCards
import Derived.Test.YtdjdhecanjmchaaGreatDoorTie
set_option linter.unusedSimpArgs false
set_option linter.unusedVariables false
namespace Go.Proofs.YtdjdhecanjmchaaGreatDoor
open Go Go.V Go.ChangeShapes Go.WideShapes Go.ChangeAt Go.RowKit
set_option maxRecDepth 40000
section read
variable {H : Type} {enc : TypeId × Value → H} {W : World}
theorem cof5 : Tryz.prog.cellsOf 5 = 1 := by kernel_rfl
theorem rd_byte {n : Nat} {cs : List Value} {x : DataW H × List MemPlace} (h : rdT enc W n 5 cs = some x) : ∃ c : UInt8, CRel (ghW W) (byteAV c).cells cs := by
  obtain ⟨m, rfl, _, hw⟩ := DataW.trod_int Tryz.underlying5 h
  have hb := bounds_u8 hw
  refine ⟨UInt8.ofNat m.toNat, ?_⟩
  have e : byteAV (UInt8.ofNat m.toNat) = .int .u8 m := by
    rw [byteAV_ofNat]
    congr 1
    omega
  rw [e]
  exact CRel.one (.int _ _) rfl
theorem rd_bytes {n : Nat} {cs : List Value} {x : DataW H × List MemPlace} (h : rdT enc W n 43 cs = some x) : ∃ vs : Bytes, ∃ u, cs = [u] ∧ VRel (ghW W) (.sl 1 (vs.map byteAV) .unk) u ∧ u.oneCell' = true :=
  rd_slice (k := 1) (en := byteAV) (by decide) (fun _ => rfl) Tryz.underlying43 cof5 (fun n cs x h => rd_byte h) h
theorem open_bytes {v : Value} {d : DataW H} {ps : List MemPlace} (hval : Value.okWide Tryz.prog W .any 0 43 v) (h : DataW.Trod enc Tryz.prog W 0 (fun _ => true) true 43 v d ps) : ∃ z : Bytes, VRel (ghW W) (.sl 1 (z.map byteAV) .unk) v := by
  obtain ⟨a0, len, cap, rfl⟩ := okWide_slice Tryz.underlying43 hval
  obtain ⟨n, hn⟩ := h
  obtain ⟨vs, u, e, hu, _⟩ := rd_bytes hn
  simp [Value.cells] at e
  subst e
  exact ⟨vs, hu⟩
end read
namespace DatasetBack
abbrev argsW : Array Value := #[.agg #[.string ⟨#[]⟩, .slice none 0 0, .slice none 0 0], .slice none 0 0, .int .i64 0]
theorem laid_met (os : Os) : laidMet Tryz.prog Rows.datasetBackRow.laid ((laidWorld os).forCall (fun _ _ => 0) ⟨#[], argsW, []⟩).memory :=
  laidMet_of_run' 8 (by kernel_rfl) (by kernel_rfl)
theorem reads (os : Os) {H : Type} (enc : TypeId × Value → H) : ∃ places, DataW.whole enc Tryz.prog ((laidWorld os).forCall (fun _ _ => 0) ⟨#[], argsW, []⟩).memory Tryz.f5.params.toList Rows.datasetBackSpec.vars false argsW.toList 8 = some ([.agg [.lit (.string []), .nil, .nil], .nil, .lit (.int .i64 0)], [], places) :=
  ⟨[], by kernel_rfl⟩
theorem contract (H : Type) (enc : TypeId × Value → H) (W : World) (args : Array Value) (ds gs : List (DataW H)) (before : List MemPlace)
    (hval : ∀ (j : Nat) t v, Tryz.f5.params[j]? = some t → args[j]? = some v → Value.okWide Tryz.prog W .any 0 t v)
    (hW : DataW.Whole enc Tryz.prog Tryz.f5.params.toList Rows.datasetBackSpec.vars false W args.toList ds gs before) (hL : laidMetH Tryz.prog laid3 W) (hsh : W.ShapedOpen Tryz.prog) :
    Calls Tryz.prog 5 args W fun e W' => ∃ v, e = .returned v ∧ Rows.datasetBackSpec.post enc Tryz.prog Tryz.f5 false true false false W args v W' := by
  have hW' := hW
  obtain ⟨p, q, hA0, hV, rfl, hfz, hnd⟩ := hW
  have hA : DataW.TrodAll enc Tryz.prog W 0 (fun _ => true) true Tryz.f5.params.toList args.toList ds p := hA0
  rw [Tryz.params5] at hA hval
  obtain ⟨v0, v1, v2, d0, d1, d2, p0, p1, p2, rfl, rfl, rfl, h0, h1, h2⟩ := trodAll_three hA
  obtain ⟨rfl, rfl⟩ := trodVars_none hV
  obtain ⟨a, ha⟩ := open_dset (hval 0 31 v0 rfl rfl) h0
  obtain ⟨b, hb⟩ := open_bytes (hval 1 43 v1 rfl rfl) h1
  obtain ⟨n, rfl, _, _, _⟩ := open_int Tryz.underlying3 (hval 2 3 v2 rfl rfl) h2
  have hv : VRels (ghW W) [a.av, .sl 1 (b.map byteAV) .unk, .int .i64 n] [v0, v1, .int .i64 n] := ⟨rfl, fun m c u e1 e2 => by
    match m with
    | 0 => simp at e1 e2; subst e1; subst e2; exact ha
    | 1 => simp only [List.getElem?_cons_succ, List.getElem?_cons_zero, Option.some.injEq] at e1 e2; subst e1; subst e2; exact hb
    | 2 => simp at e1 e2; subst e1; subst e2; exact .int _ _
    | m + 3 => simp at e1⟩
  refine (calls_law hL hsh Tryz.call5 (fun m => c5 (glW_nr m) (glW_at m) (c11 (glW_nr m) (glW_at m)) a b n) hv).mono fun e W' ⟨he, hB⟩ => ?_
  subst he
  exact ⟨_, rfl, post_law rfl (by kernel_rfl) rfl rfl rfl (by
    rw [Tryz.params5]
    intro t ht
    simp at ht
    rcases ht with rfl | rfl | rfl
    · exact ⟨by kernel_rfl, of_decide_eq_true (by kernel_rfl)⟩
    · exact ⟨by kernel_rfl, of_decide_eq_true (by kernel_rfl)⟩
    · exact ⟨by kernel_rfl, of_decide_eq_true (by kernel_rfl)⟩) hW' hB⟩
set_option maxRecDepth 100000 in
theorem lifted (os : Os) (started : os.Started) (H : Type) (enc : TypeId × Value → H) (F : Stop.Interp) :
    ReturnsInHanded {} Tryz.checked os 5 .any ((OpenSpec.ofChange Rows.datasetBackSpec).preRow enc Tryz.prog Tryz.f5 Rows.datasetBackRow.domain false Rows.datasetBackRow.laid) (((OpenSpec.ofChange Rows.datasetBackSpec).at F).post enc Tryz.prog Tryz.f5 false true false false) := by
  obtain ⟨places, hx⟩ := reads os enc
  refine returnsInHanded_of_row (C := Tryz.checked) (s := OpenSpec.ofChange Rows.datasetBackSpec) own started (by kernel_rfl) Tryz.func5
    (witness_row_at (enc := enc) (C := Tryz.checked) false (laidWorld os) argsW rfl (by kernel_rfl) (by kernel_rfl) (by kernel_rfl)
      (OpenSpec.preRow_of_cond 8 hx (by kernel_rfl) (fun k hk => by cases hk) (by kernel_rfl) (laid_met os))) ?_
  intro W base args ds gs before hval hW _ _ _ hL hsh _
  exact contract H enc W args ds gs before hval hW hL hsh
theorem said : Rows.DatasetBackSaid :=
  OpenClaim.holds_of_cond 5 Tryz.f5 rfl rfl rfl rfl rfl rfl rfl ⟨rfl, rfl, rfl, rfl, rfl⟩ rfl rfl rfl rfl rfl (by kernel_rfl) Tryz.func5 (by kernel_rfl)
    (of_decide_eq_true (by kernel_rfl)) (by unfold Func.isWrapper; first | (rw [if_pos (by decide +kernel)]; kernel_rfl) | (rw [if_neg (by decide +kernel)]; exact ⟨rfl, rfl⟩))
    (fun os started H enc _ F => by rw [OpenClaim.pre_eq_preRow]; exact lifted os started H enc F)
theorem plain (f : FuncId) (fn : Func) (hf : Tryz.pinned.checked.prog.funcNamed "asof/asoflaw29.DatasetBack" = some f) (hfn : Tryz.pinned.checked.prog.funcs[f]? = some fn) :
    true = Tryz.pinned.checked.prog.looks [] ∧ ∀ (j : Nat) t, fn.params[j]? = some t → Tryz.pinned.checked.prog.wantsStandIn t = false := by
  obtain rfl : f = 5 := Option.some.inj ((show Tryz.prog.funcNamed "asof/asoflaw29.DatasetBack" = some 5 by kernel_rfl).symm.trans hf) |>.symm
  obtain rfl : fn = Tryz.f5 := (Option.some.inj (Tryz.func5.symm.trans hfn)).symm
  refine ⟨by kernel_rfl, fun j t ht => ?_⟩
  rw [Tryz.params5] at ht
  have ht := Array.mem_of_getElem? ht
  simp at ht
  rcases ht with rfl | rfl | rfl
  · exact (show Tryz.prog.wantsStandIn 31 = false by kernel_rfl)
  · exact (show Tryz.prog.wantsStandIn 43 = false by kernel_rfl)
  · exact (show Tryz.prog.wantsStandIn 3 = false by kernel_rfl)
theorem card : Rows.DatasetBackCardSaid :=
  Claim7.holds_tied_plain_at .later [] _ _ _ _ said (fun _ h => by cases h) (by kernel_rfl) (fun _ h => by cases h) datasetBack_row_tie rfl ⟨rfl, rfl⟩ (by kernel_rfl) rfl plain (by kernel_rfl)
#print axioms card
end DatasetBack
end Go.Proofs.YtdjdhecanjmchaaGreatDoor
