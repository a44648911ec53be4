/- A world for the witness of a row. -/
import Derived.Test.YtdjdhecanjmchaaGreatDoorJ1
set_option linter.unusedSimpArgs false
set_option linter.unusedVariables false
namespace Go.Proofs.YtdjdhecanjmchaaGreatDoor
open Go Go.V Go.ChangeShapes Go.WideShapes Go.ChangeAt Go.RowKit
set_option maxRecDepth 40000
noncomputable def laidWorld (os : Os) : World :=
  let w0 := World.holding Tryz.prog os ⟨#[],#[],[]⟩
  { w0 with heap := ((w0.heap.modify 7 fun
      | .cells _ t frozen => .cells (([0,1,28,2,29,14,24,3,30,22,20,15,25,17,4,8,31,27,13,23,21,19,16,7,26,12,18,6,11,5,10,9] : List Int).map fun z => Value.int .u8 z).toArray t frozen
      | o => o).modify 8 fun
      | .cells _ t frozen => .cells (([0,1,56,2,57,49,28,3,61,58,42,50,38,29,17,4,62,47,59,36,45,43,51,22,53,39,33,30,24,18,12,5,63,55,48,27,60,41,37,16,46,35,44,21,52,32,23,11,54,26,40,15,34,20,31,10,25,14,19,9,13,8,7,6] : List Int).map fun z => Value.int .u8 z).toArray t frozen
      | o => o).modify 4 fun
      | .cells _ t frozen => .cells (([1,10,100,1000,10000,100000,1000000,10000000,100000000,1000000000,10000000000,100000000000,1000000000000,10000000000000,100000000000000,1000000000000000,10000000000000000,100000000000000000,1000000000000000000,10000000000000000000] : List Int).map fun z => Value.int .u64 z).toArray t frozen
      | o => o }
section read
variable {H : Type} {enc : TypeId × Value → H} {W : World}
theorem cof5 : Tryz.prog.cellsOf 5 = 1 := by kernel_rfl
theorem rd_byte {n : Nat} {cs : List Value} {x : DataW H × List MemPlace} (h : rdT enc W n 5 cs = some x) : ∃ c : UInt8,CRel (ghW W) (byteAV c).cells cs := by
  obtain ⟨m,rfl,_,hw⟩ := DataW.trod_int Tryz.underlying5 h
  have hb := bounds_u8 hw
  refine ⟨UInt8.ofNat m.toNat,?_⟩
  have e : byteAV (UInt8.ofNat m.toNat) = .int .u8 m := by
    rw [byteAV_ofNat]
    congr 1
    omega
  rw [e]
  exact CRel.one (.int _ _) rfl
theorem rd_bytes {n : Nat} {cs : List Value} {x : DataW H × List MemPlace} (h : rdT enc W n 43 cs = some x) : ∃ vs : Bytes,∃ u,cs = [u] ∧ VRel (ghW W) (.sl 1 (vs.map byteAV) .unk) u ∧ u.oneCell' = true :=
  rd_slice (k := 1) (en := byteAV) (by decide) (fun _ => rfl) Tryz.underlying43 cof5 (fun n cs x h => rd_byte h) h
theorem open_bytes {v : Value} {d : DataW H} {ps : List MemPlace} (hval : Value.okWide Tryz.prog W .any 0 43 v) (h : DataW.Trod enc Tryz.prog W 0 (fun _ => true) true 43 v d ps) : ∃ z : Bytes,VRel (ghW W) (.sl 1 (z.map byteAV) .unk) v := by
  obtain ⟨a0,len,cap,rfl⟩ := okWide_slice Tryz.underlying43 hval
  obtain ⟨n,hn⟩ := h
  obtain ⟨vs,u,e,hu,_⟩ := rd_bytes hn
  simp [Value.cells] at e
  subst e
  exact ⟨vs,hu⟩
end read
end Go.Proofs.YtdjdhecanjmchaaGreatDoor
