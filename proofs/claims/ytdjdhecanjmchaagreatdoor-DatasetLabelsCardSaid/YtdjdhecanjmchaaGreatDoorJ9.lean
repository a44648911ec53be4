/- Readers of values, requests, and lists of examples. -/
import Derived.Test.YtdjdhecanjmchaaGreatDoorJ1
set_option linter.unusedSimpArgs false
set_option linter.unusedVariables false
namespace Go.Proofs.YtdjdhecanjmchaaGreatDoor
open Go Go.V Go.ChangeShapes Go.WideShapes Go.ChangeAt Go.RowKit
set_option maxRecDepth 40000
section read
variable {H : Type} {enc : TypeId × Value → H} {W : World}
theorem open_val {v : Value} {d : DataW H} {ps : List MemPlace} (hval : Value.okWide Tryz.prog W .any 0 62 v) (h : DataW.Trod enc Tryz.prog W 0 (fun _ => true) true 62 v d ps) : ∃ z : Val,VRel (ghW W) z.av v := by
  obtain ⟨n,hn⟩ := h
  unfold Value.okWide at hval
  rw [Tryz.underlying62] at hval
  obtain ⟨cs,rfl,_,_⟩ := hval
  obtain ⟨z,hz⟩ := rd_val hn
  exact ⟨z,VRel.of_cells (by simpa [Value.cells,AV.cells] using hz)⟩
theorem open_exas {v : Value} {d : DataW H} {ps : List MemPlace} (hval : Value.okWide Tryz.prog W .any 0 26 v) (h : DataW.Trod enc Tryz.prog W 0 (fun _ => true) true 26 v d ps) : ∃ z : List Exa,VRel (ghW W) (.sl 4 (z.map Exa.av) .unk) v := by
  obtain ⟨a0,len,cap,rfl⟩ := okWide_slice Tryz.underlying26 hval
  obtain ⟨n,hn⟩ := h
  obtain ⟨vs,u,e,hu,_⟩ := rd_exas hn
  simp [Value.cells] at e
  subst e
  exact ⟨vs,hu⟩
abbrev LabK := { x : Lab // x.k.length ≤ 9223372036854775807 }
theorem rd_strK {n : Nat} {cs : List Value} {x : DataW H × List MemPlace} (h : rdT enc W n 9 cs = some x) : ∃ s : Bytes,s.length ≤ 9223372036854775807 ∧ cs = [.string ⟨s.toArray⟩] := by
  obtain ⟨s,rfl,_,hs⟩ := DataW.trod_string Tryz.underlying9 h
  have e : maxLen = 9223372036854775807 := rfl
  rw [e] at hs
  exact ⟨s.data.toList,by rw [Array.length_toList]; exact hs,by rw [str_eq]⟩
theorem rd_labK {n : Nat} {cs : List Value} {x : DataW H × List MemPlace} (h : rdT enc W n 53 cs = some x) : ∃ v : LabK,CRel (ghW W) v.1.av.cells cs := by
  obtain ⟨v,hv⟩ := rd_lab h
  obtain ⟨xs,m,rfl,_,hl,hxl,hf⟩ := DataW.trod_struct Tryz.underlying53 h
  rw [cof53] at hl
  match cs,hl with
  | [a,b,c],_ =>
    have f0 : rdT enc W m 9 ((([a,b,c] : List Value).drop 0).take (Tryz.prog.cellsOf 9)) = xs[0]? := hf 0 _ rfl
    rw [cof9] at f0
    have hx : xs.length = 3 := hxl
    match xs,hx with
    | [y0,y1,y2],_ =>
      obtain ⟨s,hs,e0⟩ := rd_strK (x := y0) f0
      simp at e0
      subst e0
      have h0 := (hv.rel 0 (.str v.k) _ rfl rfl).str_inv
      injection h0 with h0
      injection h0 with h0
      have h1 : s = v.k := by simpa using congrArg Array.toList h0
      exact ⟨⟨v,by rw [← h1]; exact hs⟩,hv⟩
theorem rd_labs {n : Nat} {cs : List Value} {x : DataW H × List MemPlace} (h : rdT enc W n 23 cs = some x) : ∃ vs : List Lab,∃ u,cs = [u] ∧ VRel (ghW W) (.sl 3 (vs.map Lab.av) .unk) u ∧ u.oneCell' = true ∧ ∀ x ∈ vs,x.k.length ≤ 9223372036854775807 := by
  obtain ⟨zs,u,h1,h2,h3⟩ := rd_slice (k := 3) (en := fun z : LabK => z.1.av) (by decide) (fun _ => rfl) Tryz.underlying23 cof53 (fun n cs x h => rd_labK h) h
  refine ⟨zs.map Subtype.val,u,h1,by rw [List.map_map]; exact h2,h3,fun x hx => ?_⟩
  obtain ⟨z,_,rfl⟩ := List.mem_map.1 hx
  exact z.2
theorem cof25 : Tryz.prog.cellsOf 25 = 5 := by kernel_rfl
theorem cof23 : Tryz.prog.cellsOf 23 = 1 := by kernel_rfl
theorem rd_req {n : Nat} {cs : List Value} {x : DataW H × List MemPlace} (h : rdT enc W n 25 cs = some x) : ∃ r : Req,CRel (ghW W) r.av.cells cs ∧ ∀ x ∈ r.labs,x.k.length ≤ 9223372036854775807 := by
  obtain ⟨xs,m,rfl,_,hl,hxl,hf⟩ := DataW.trod_struct Tryz.underlying25 h
  rw [cof25] at hl
  match cs,hl with
  | [a,b,c,d,e],_ =>
    have f0 : rdT enc W m 9 ((([a,b,c,d,e] : List Value).drop 0).take (Tryz.prog.cellsOf 9)) = xs[0]? := hf 0 _ rfl
    rw [cof9] at f0
    have f1 : rdT enc W m 22 ((([a,b,c,d,e] : List Value).drop 1).take (Tryz.prog.cellsOf 22)) = xs[1]? := hf 1 _ rfl
    rw [cof22] at f1
    have f2 : rdT enc W m 23 ((([a,b,c,d,e] : List Value).drop 2).take (Tryz.prog.cellsOf 23)) = xs[2]? := hf 2 _ rfl
    rw [cof23] at f2
    have f3 : rdT enc W m 3 ((([a,b,c,d,e] : List Value).drop 3).take (Tryz.prog.cellsOf 3)) = xs[3]? := hf 3 _ rfl
    rw [cof3] at f3
    have f4 : rdT enc W m 3 ((([a,b,c,d,e] : List Value).drop 4).take (Tryz.prog.cellsOf 3)) = xs[4]? := hf 4 _ rfl
    rw [cof3] at f4
    have hx : xs.length = 5 := hxl
    match xs,hx with
    | [y0,y1,y2,y3,y4],_ =>
      obtain ⟨s,e0⟩ := rd_str (x := y0) f0
      obtain ⟨fs,u,e1,hu,ho⟩ := rd_strs (x := y1) f1
      obtain ⟨ls,u2,e2,hu2,ho2,hk2⟩ := rd_labs (x := y2) f2
      obtain ⟨n3,e3⟩ := rd_int (x := y3) f3
      obtain ⟨n4,e4⟩ := rd_int (x := y4) f4
      simp at e0 e1 e2 e3 e4
      subst e0 e1 e2 e3 e4
      exact ⟨⟨s,fs,ls,n3,n4⟩,.append (CRel.one (.str _) rfl) (.append (CRel.one hu ho) (.append (CRel.one hu2 ho2) (.append (CRel.one (.int _ _) rfl) (CRel.one (.int _ _) rfl)))),hk2⟩
theorem open_req {v : Value} {d : DataW H} {ps : List MemPlace} (hval : Value.okWide Tryz.prog W .any 0 25 v) (h : DataW.Trod enc Tryz.prog W 0 (fun _ => true) true 25 v d ps) : ∃ z : Req,VRel (ghW W) z.av v ∧ ∀ x ∈ z.labs,x.k.length ≤ 9223372036854775807 := by
  obtain ⟨n,hn⟩ := h
  unfold Value.okWide at hval
  rw [Tryz.underlying25] at hval
  obtain ⟨cs,rfl,_,_⟩ := hval
  obtain ⟨z,hz,hk⟩ := rd_req hn
  exact ⟨z,VRel.of_cells (by simpa [Value.cells,AV.cells] using hz),hk⟩
end read
end Go.Proofs.YtdjdhecanjmchaaGreatDoor
