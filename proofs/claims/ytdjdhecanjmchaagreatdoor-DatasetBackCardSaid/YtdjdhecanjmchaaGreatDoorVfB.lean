/- The by-value layer, part six: rows: a slice written out, append, slices of slices, lengths, conversions, structs written out. Over any program. -/
import Derived.Test.YtdjdhecanjmchaaGreatDoorVeB
set_option linter.unusedSimpArgs false
set_option linter.unusedVariables false
namespace Go.V
open Go
theorem sl_of_row {G : Gh} {k : Nat} {xs : List AV} {t : STok} {r b cap : Nat} {vs : List Value} (hk : ∀ x ∈ xs, x.cells.length = k) (hc : CRel G (flat xs) vs)
    (hp : ∀ (j : Nat) (v : Value), vs[j]? = some v → G.φ r (b + j) = some v) (hcap : xs.length ≤ cap) (ht : TokOK G t r (b + xs.length * k) (b + cap * k)) :
    VRel G (.sl k xs t) (.slice (some ⟨r, b, none⟩) xs.length cap) := by
  refine .sl (fun m => vs.getD m undef) hk (fun m c e => ?_) (fun m c e => ?_) (fun m c e => ?_) hcap ht
  all_goals
    obtain ⟨v, h1, h2, h3⟩ := hc.get e
    have : vs.getD m undef = v := by simp [List.getD, h1]
    rw [this]
  · exact hp m v h1
  · exact h3
  · exact h2
def rowOK (k : Nat) (xs : List AV) : Bool := xs.all fun x => x.solid && x.cells.length == k
theorem rowOK_spec {k : Nat} {xs : List AV} (h : rowOK k xs = true) : ∀ x ∈ xs, x.solid = true ∧ x.cells.length = k := by
  intro x hx
  have := List.all_eq_true.1 h x hx
  simpa using this
theorem flat_rel {G : Gh} : ∀ {xs : List AV} {vs : List Value}, xs.length = vs.length → (∀ (m : Nat) (c : AV) (v : Value), xs[m]? = some c → vs[m]? = some v → VRel G c v) → (∀ x ∈ xs, x.solid = true) →
    CRel G (flat xs) (vs.flatMap fun v => v.cells.toList)
  | [], [], _, _, _ => .nil G
  | [], _ :: _, h, _, _ => by cases h
  | _ :: _, [], h, _, _ => by cases h
  | x :: xs, v :: vs, hl, hr, hs => by
    rw [flat_cons, List.flatMap_cons]
    exact .append ((hr 0 x v rfl rfl).cells (hs x (by simp))) (flat_rel (by simpa using hl) (fun m c u a b => hr (m + 1) c u (by simpa using a) (by simpa using b)) (fun y hy => hs y (by simp [hy])))
theorem sem_buildSlice {P : Program} {wb : Base} {G : Gh} {S : St} {w : World} (h : StRel wb G S w) {t e : TypeId} {k : Nat} {xs : List AV} {vs : List Value} {parts : Array (Nat × Value)} {z : List AV}
    (hl : xs.length = vs.length) (hr : ∀ (m : Nat) (c : AV) (v : Value), xs[m]? = some c → vs[m]? = some v → VRel G c v) (hx : rowOK k xs = true)
    (ht : P.underlying t = some (.slice e)) (hs : sizeIs P e k = true) (hz : zeroIs P e z = true) (hk : 0 < k) (hb : xs.length * k ≤ 16777216) (hp : parts.toList = (vs.zipIdx 0).map fun x => (x.2, x.1)) :
    SemOK P wb G (Instr.buildSlice t xs.length parts) w (.sl k xs .exact) S := by
  have hx' := rowOK_spec hx
  obtain ⟨zv, hz1, hz2⟩ := run_zeroIs hz w
  have hvk : ∀ v ∈ vs, v.cells.size = k := by
    intro v hv
    obtain ⟨m, hm, rfl⟩ := List.mem_iff_getElem.1 hv
    have hm' : m < xs.length := by omega
    have h1 := hx' xs[m] (by simp)
    have h2 := ((hr m xs[m] vs[m] (by simp [hm']) (by simp [hm])).cells h1.1).len
    rw [h1.2] at h2
    simpa using h2.symm
  have hfill : ∀ cells : Array Value, cells.size = xs.length * k → Instr.fill (fun i => some (i * k, k)) cells parts.toList = some (vs.flatMap fun v => v.cells.toList).toArray := by
    intro cells hc
    rw [hp]
    exact Great.fill_whole hk vs cells hvk (by rw [hc, hl])
  have hcr := flat_rel hl hr (fun x hm => (hx' x hm).1)
  obtain ⟨G', h1, h2, h3, h4, h5⟩ := h.promise (E := e) (fr := (0, 0)) (row := vs.flatMap fun v => v.cells.toList) (vs := vs.flatMap fun v => v.cells.toList) (fun _ _ e => e)
  refine ⟨.slice (some ⟨w.heap.size, 0, none⟩) xs.length xs.length, _, G', ?_, h1, h4, ?_⟩
  · have hb' : ¬ (xs.length * k > 2 ^ 24) := by omega
    simp only [Instr.buildSlice, Sem.run_bind, run_und ht, Result.andThen_ok, run_sizeIs hs, hb', if_false]
    by_cases h0 : xs.length * k = 0
    · simp only [h0, if_true, Sem.run_bind, Sem.run_pure, Result.andThen_ok]
      rw [hfill _ (by simp [h0])]
      simp [newRow]
    · simp only [h0, if_false, Sem.run_bind, hz1, Result.andThen_ok, Sem.run_pure]
      rw [hfill _ (by simp)]
      simp [newRow]
  · have := sl_of_row (G := G') (k := k) (xs := xs) (t := .exact) (r := w.heap.size) (b := 0) (cap := xs.length) (fun x hm => (hx' x hm).2) (hcr.mono h1) (fun j v e => by rw [Nat.zero_add, h5]; exact e) (Nat.le_refl _) rfl
    exact this
def byteAV (b : UInt8) : AV := .int .u8 b.toNat
def appArg (k : Nat) : AV → Option (List AV)
  | .sl k' ys _ => if k' = k then some ys else none
  | .str s => if k = 1 then some (s.map byteAV) else none
  | _ => none
def Able (S : St) (t : STok) : Prop := t = .exact ∨ ∃ n, t = .tok n ∧ n ∈ S.live
def St.use (S : St) (t : STok) : St := { S with nt := S.nt + 1, live := S.nt :: (match t with
  | .tok n => S.live.filter (· != n)
  | .new n => S.live.filter (· != n)
  | _ => S.live) }
theorem able_exact (S : St) : Able S .exact := .inl rfl
theorem able_use (S : St) (t : STok) : Able (S.use t) (.tok S.nt) := .inr ⟨_, rfl, by simp [St.use]⟩
def appEv (k : Nat) (S : St) (x y : AV) : Option (AV × St) :=
  match x with
  | .sl k' xs t => if k' = k then (appArg k y).map fun ys => (.sl k (xs ++ ys) (.tok S.nt), S.use t) else none
  | _ => none
def appNEv (k : Nat) (S : St) (x y : AV) : Option (AV × St) :=
  match x with
  | .sl k' xs t => if k' = k then (appArg k y).bind fun ys => (match t with
    | .new n => some (.sl k (xs ++ ys) (.new S.nt), S.use (.new n))
    | .exact => (match xs with
      | [] => (match ys with
        | [] => some (.sl k [] .exact, S)
        | a :: ys => some (.sl k (a :: ys) (.new S.nt), S.use .exact))
      | _ => none)
    | _ => none) else none
  | _ => none
def appNOb (k bytes : Nat) (S : St) (x y : AV) : Prop :=
  match x with
  | .sl _ xs t => (match t with
     | .new n => n ∈ S.live
     | _ => True) ∧ (match appArg k y with
     | some ys => (xs.length + ys.length) * bytes ≤ 140737488355328 ∧ xs.length + ys.length ≤ 9223372036854775807
     | none => True)
  | _ => True
def appOb (k bytes : Nat) (S : St) (x y : AV) : Prop :=
  match x with
  | .sl _ xs t => Able S t ∧ (match appArg k y with
     | some ys => (xs.length + ys.length) * bytes ≤ 140737488355328 ∧ xs.length + ys.length ≤ 9223372036854775807
     | none => True)
  | _ => True
theorem byte_cells (s : List UInt8) : flat (s.map byteAV) = s.map byteAV := by
  induction s with
  | nil => rfl
  | cons b s ih => rw [List.map_cons, flat_cons, ih]; rfl
theorem bytes_rel (G : Gh) (s : List UInt8) : CRel G (s.map byteAV) (s.map fun b => Value.int .u8 b.toNat) := by
  induction s with
  | nil => exact .nil G
  | cons b s ih => exact .cons (.int _ _) rfl ih
theorem appArg_cells {P : Program} {wb : Base} {G : Gh} {S : St} {w : World} (h : StRel wb G S w) {k : Nat} {y : AV} {ys : List AV} {v : Value} (hy : VRel G y v) (ha : appArg k y = some ys) (hk : 0 < k) :
    ∃ us : List Value, CRel G (flat ys) us ∧ (∀ x ∈ ys, x.cells.length = k) ∧ (Builtin.lenOf v).run P w = .ok ys.length w ∧
      ∀ w', (∀ r o u, G.φ r o = some u → w'.cell? ⟨r, o, none⟩ = some u) → (Builtin.firstCells k ys.length v).run P w' = .ok us.toArray w' := by
  cases hy <;> simp only [appArg] at ha <;> first
    | (cases ha; done)
    | skip
  · rename_i s
    split at ha
    · rename_i hk1
      injection ha with ha
      subst ha hk1
      refine ⟨_, by rw [byte_cells]; exact bytes_rel G s, ?_, ?_, fun w' _ => ?_⟩
      · intro x hx
        obtain ⟨b, _, rfl⟩ := List.mem_map.1 hx
        rfl
      · simp [Builtin.lenOf, ByteArray.size]
      · simp only [Builtin.firstCells, Sem.run_pure]
        congr 1
        have : (ByteArray.mk s.toArray).extract 0 (s.map byteAV).length = ByteArray.mk s.toArray := by
          apply ByteArray.ext
          simp
        rw [this]
        simp
    · cases ha
  · split at ha
    · injection ha with ha
      subst ha
      exact ⟨[], .nil G, by simp, by simp [Builtin.lenOf], fun w' _ => by
        rename_i ad _ _
        cases ad <;> simp [Builtin.firstCells, loadCells, loadCellsFrom]⟩
    · cases ha
  · rename_i k' xs t r b cap f hk' hp ho hv hc ht
    split at ha
    · rename_i hkk
      injection ha with ha
      subst ha hkk
      have hat : At w G r b (flat xs) := At.of_row h hp ho hv
      let us : List Value := (List.range (flat xs).length).map f
      have hus : ∀ (m : Nat) (c : AV), (flat xs)[m]? = some c → us[m]? = some (f m) := fun m c e => by
        have hm : m < (flat xs).length := by
          rcases Nat.lt_or_ge m (flat xs).length with h' | h'
          · exact h'
          · rw [List.getElem?_eq_none h'] at e; cases e
        simp [us, hm]
      refine ⟨us, ⟨by simp [us], ?_, ?_⟩, hk', by simp [Builtin.lenOf], fun w' hw' => ?_⟩
      · intro v hv'
        simp only [us, List.mem_map, List.mem_range] at hv'
        obtain ⟨m, hm, rfl⟩ := hv'
        exact ho m _ (List.getElem?_eq_getElem hm)
      · intro m c v h1 h2
        rw [hus m c h1] at h2
        injection h2 with h2
        subst h2
        exact hv m c h1
      · have := run_firstCells_some (P := P) w' k' xs.length ⟨r, b, none⟩ xs.length cap us (by simp [us, flat_length hk']) (fun j u e => by
          rw [add_none]
          have hj : j < (flat xs).length := by
            rcases Nat.lt_or_ge j (flat xs).length with h' | h'
            · exact h'
            · have : us.length ≤ j := by simp [us]; exact h'
              rw [List.getElem?_eq_none this] at e; cases e
          rw [hus j _ (List.getElem?_eq_getElem hj)] at e
          injection e with e
          subst e
          exact hw' _ _ _ (hp j _ (List.getElem?_eq_getElem hj)))
        exact this
    · cases ha
end Go.V
