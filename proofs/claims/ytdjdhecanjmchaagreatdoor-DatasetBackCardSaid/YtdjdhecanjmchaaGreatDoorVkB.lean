/- The by-value layer, part eleven: the small language's operations as one type; that each fits the model's operation and does just that. Over any program. -/
import Derived.Test.YtdjdhecanjmchaaGreatDoorVjB
set_option linter.unusedSimpArgs false
set_option linter.unusedVariables false
namespace Go.V
open Go
def putParts (F : Fr) : List AV → List (Nat × Nat × Opd) → Option (List AV)
  | cs, [] => some cs
  | cs, (o, n, x) :: ps => if (x.ev F).solid && (x.ev F).cells.length == n && decide (o + n ≤ cs.length) then putParts F (splice cs o (x.ev F).cells) ps else none
def partsFit (places : Nat → Option (Nat × Nat)) : List (Nat × Nat × Opd) → List (Nat × Operand) → Bool
  | [], [] => true
  | (o, n, x) :: ps, (i, y) :: qs => decide (places i = some (o, n)) && x.fits y && partsFit places ps qs
  | _, _ => false
theorem splice_length {cs ds : List AV} {o : Nat} (h : o + ds.length ≤ cs.length) : (splice cs o ds).length = cs.length := by
  simp [splice]; omega
theorem CRel.splice {G : Gh} {cs ds : List AV} {acc : Array Value} {us : List Value} (h : CRel G cs acc.toList) (hd : CRel G ds us) {o : Nat} (ho : o + ds.length ≤ cs.length) :
    CRel G (V.splice cs o ds) ((us.zipIdx.foldl (fun (cs : Array Value) (x : Value × Nat) => cs.setIfInBounds (o + x.2) x.1) acc)).toList := by
  obtain ⟨h1, h2⟩ := Great.foldl_set o us 0 acc
  have hl := h.len
  have hdl := hd.len
  simp at hl
  refine ⟨(splice_length ho).trans (hl.trans (h1.symm.trans Array.length_toList.symm)), ?_, ?_⟩
  · intro v hv
    obtain ⟨m, hm⟩ := List.mem_iff_getElem?.1 hv
    rw [Array.getElem?_toList, h2 m] at hm
    split at hm
    · exact hd.one v (List.mem_iff_getElem?.2 ⟨_, hm⟩)
    · exact h.one v (List.mem_iff_getElem?.2 ⟨m, by rw [Array.getElem?_toList]; exact hm⟩)
  · intro m c v hc hv
    rw [splice_get ho] at hc
    rw [Array.getElem?_toList, h2 m] at hv
    simp only [Nat.add_zero] at hv
    by_cases hin : o ≤ m ∧ m < o + ds.length
    · rw [if_pos hin] at hc
      rw [if_pos ⟨hin.1, by omega, by omega⟩] at hv
      exact hd.rel _ c v hc hv
    · rw [if_neg hin] at hc
      rw [if_neg (by omega)] at hv
      exact h.rel m c v hc (by rw [Array.getElem?_toList]; exact hv)
theorem fill_parts {G : Gh} {F : Fr} {a : Act} (hf : FRel G F a) (places : Nat → Option (Nat × Nat)) : ∀ {ps : List (Nat × Nat × Opd)} {qs : List (Nat × Operand)} {cs ds : List AV} {acc : Array Value},
    partsFit places ps qs = true → CRel G cs acc.toList → putParts F cs ps = some ds → ∃ r, Instr.fill places acc (qs.map fun p => (p.1, a.eval p.2)) = some r ∧ CRel G ds r.toList
  | [], [], cs, ds, acc, _, hc, hp => by
    simp only [putParts, Option.some.injEq] at hp
    subst hp
    exact ⟨acc, rfl, hc⟩
  | [], _ :: _, _, _, _, h, _, _ => by cases h
  | _ :: _, [], _, _, _, h, _, _ => by cases h
  | (o, n, x) :: ps, (i, y) :: qs, cs, ds, acc, h, hc, hp => by
    simp only [partsFit, Bool.and_eq_true, decide_eq_true_eq] at h
    obtain ⟨⟨h1, h2⟩, h3⟩ := h
    simp only [putParts] at hp
    split at hp
    · rename_i hcond
      simp only [Bool.and_eq_true, beq_iff_eq, decide_eq_true_eq] at hcond
      obtain ⟨⟨h4, h5⟩, h6⟩ := hcond
      have hx := (Opd.rel hf h2).cells h4
      have hxl : (a.eval y).cells.size = n := by have := hx.len; simp at this; omega
      have hacc : acc.size = cs.length := by have := hc.len; simp at this; omega
      have hc' := hc.splice hx (o := o) (by omega)
      obtain ⟨r, h7, h8⟩ := fill_parts hf places h3 hc' hp
      refine ⟨r, ?_, h8⟩
      simp only [List.map_cons]
      unfold Instr.fill
      simp only [h1, hxl]
      rw [if_neg (by simp; omega), ← h7]
      congr 1
      rw [← Array.foldl_toList, Array.toList_zipIdx]
    · cases hp
def placesOf (P : Program) (t : TypeId) : Option (Nat → Option (Nat × Nat)) :=
  match P.underlying t with
  | some (.struct fs) => some fun i => match fs[i]? with
    | some f => match P.info? f.type with
      | some j => some (f.offset, j.size)
      | none => none
    | none => none
  | some (.array _ e) => match P.info? e with
    | some j => some fun i => some (i * j.size, j.size)
    | none => none
  | _ => none
def fieldsKnown (P : Program) (t : TypeId) : Bool :=
  match P.underlying t with
  | some (.struct fs) => fs.all fun f => (P.info? f.type).isSome
  | _ => true
def buildTy (P : Program) (t : TypeId) (z : List AV) (ps : List (Nat × Nat × Opd)) (qs : List (Nat × Operand)) : Bool :=
  zeroIs P t z && fieldsKnown P t && (match placesOf P t with
    | some pl => partsFit pl ps qs
    | none => false)
theorem run_fieldPlaces {P : Program} {w : World} : ∀ (fs : List Field), (fs.all fun f => (P.info? f.type).isSome) = true →
    (fs.mapM fun f => do pure (f.offset, ← Go.sizeOf f.type) : Sem (List (Nat × Nat))).run P w = .ok (fs.map fun f => (f.offset, ((P.info? f.type).map (·.size)).getD 0)) w
  | [], _ => by simp
  | f :: fs, h => by
    simp only [List.all_cons, Bool.and_eq_true] at h
    obtain ⟨j, hj⟩ := Option.isSome_iff_exists.1 h.1
    have ih := run_fieldPlaces (P := P) (w := w) fs h.2
    simp only [List.mapM_cons, Sem.run_bind, Go.sizeOf, typeInfo, run_program, hj, Result.andThen_ok, Sem.run_pure] at ih ⊢
    rw [ih]
    simp [hj]
theorem run_build {P : Program} {w : World} {G : Gh} {F : Fr} {a : Act} (hf : FRel G F a) {t : TypeId} {z ds : List AV} {ps : List (Nat × Nat × Opd)} {qs : Array (Nat × Operand)} (ht : buildTy P t z ps qs.toList = true) (he : putParts F z ps = some ds) :
    ∃ v, (Instr.build t (qs.map fun p => (p.1, a.eval p.2))).run P w = .ok v w ∧ VRel G (.agg ds) v := by
  unfold buildTy at ht
  simp only [Bool.and_eq_true] at ht
  obtain ⟨⟨h1, h2⟩, h3⟩ := ht
  obtain ⟨zv, h4, h5⟩ := run_zeroIs h1 w
  split at h3
  · rename_i pl hpl
    obtain ⟨r, h6, h7⟩ := fill_parts hf pl h3 (acc := zv.cells) (h5 G) he
    have hqs : (qs.map fun p => (p.1, a.eval p.2)).toList = qs.toList.map fun p => (p.1, a.eval p.2) := by simp
    refine ⟨.agg r, ?_, by have := VRel.agg (G := G) h7.len h7.one h7.rel; simpa using this⟩
    unfold placesOf at hpl
    split at hpl
    · rename_i fs hfs
      injection hpl with hpl
      unfold fieldsKnown at h2
      rw [hfs] at h2
      simp only [Instr.build, Sem.run_bind, h4, Result.andThen_ok, run_und hfs]
      have hm : (fs.mapM fun f => do pure (f.offset, ← Go.sizeOf f.type) : Sem (Array (Nat × Nat))).run P w = .ok (fs.map fun f => (f.offset, ((P.info? f.type).map (·.size)).getD 0)) w := by
        rw [← Array.toArray_toList (xs := fs), List.mapM_toArray]
        simp only [Sem.run_map]
        rw [run_fieldPlaces fs.toList (by simpa using h2)]
        simp only [Result.andThen_ok]
        congr 1
        apply Array.ext'
        simp
      rw [hm]
      simp only [Result.andThen_ok]
      have hpe : (fun i => (fs.map fun f => (f.offset, ((P.info? f.type).map (·.size)).getD 0))[i]?) = pl := by
        rw [← hpl]
        funext i
        simp only [Array.getElem?_map]
        cases e : fs[i]? with
        | none => rfl
        | some f =>
          have hall := Array.all_eq_true_iff_forall_mem.1 h2 f (Array.mem_of_getElem? e)
          obtain ⟨j, hj⟩ := Option.isSome_iff_exists.1 hall
          simp [hj]
      rw [hqs, hpe, h6]
      simp
    · rename_i n e hfs
      split at hpl
      · rename_i j hj
        injection hpl with hpl
        have hs : (Go.sizeOf e).run P w = .ok j.size w := by simp [Go.sizeOf, typeInfo, hj]
        simp only [Instr.build, Sem.run_bind, h4, Result.andThen_ok, run_und hfs, hs]
        rw [hqs, hpl, h6]
        simp
      · cases hpl
    · cases hpl
  · cases h3
end Go.V
