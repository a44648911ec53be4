/- The by-value layer, between parts eleven and twelve: bytes of a string, room made ahead, and comparisons with nil and of bools. Over any program. -/
import Derived.Test.YtdjdhecanjmchaaGreatDoorVkB
import Derived.Laws.IdiomStrings
import Derived.Laws.MakeOwn
set_option linter.unusedSimpArgs false
set_option linter.unusedVariables false
namespace Go.V
open Go
theorem sem_s2y {P : Program} {wb : Base} {G : Gh} {S : St} {w : World} (h : StRel wb G S w) {s d : TypeId} {b : List UInt8} {u : Value} (hx : VRel G (.str b) u) (hs : isStrTy P s = true) (hd : byteTy P d = true) :
    SemOK P wb G (convert s d u) w (.sl 1 (b.map byteAV) .unk) S := by
  cases hx
  unfold isStrTy at hs
  split at hs
  · rename_i e1
    unfold byteTy at hd
    split at hd
    · rename_i e he
      simp only [Bool.and_eq_true] at hd
      obtain ⟨hk0, _⟩ := hd
      unfold kindTy at hk0
      split at hk0
      · rename_i k' hk1
        have hk : P.underlying e = some (.int .u8) := by rw [hk1, ← (by simpa using hk0 : IntKind.u8 = k')]
        have hrun := run_bytes_of_string (P := P) w s d e ⟨b.toArray⟩ e1 he hk
        generalize hcap : grownCap w (ByteArray.mk b.toArray).size 0 e = cap at hrun
        have hge : b.length ≤ cap := by rw [← hcap]; simpa [ByteArray.size] using grownCap_ge w (ByteArray.mk b.toArray).size 0 e
        have hrow : bytesRow (ByteArray.mk b.toArray) cap = ((b.map fun x => Value.int .u8 x.toNat) ++ List.replicate (cap - b.length) (Value.int .u8 0)).toArray := by
          apply Array.ext'
          simp [bytesRow, ByteArray.size]
        rw [hrow] at hrun
        obtain ⟨G', h1, h2, h3, h4, h5⟩ := h.drew.promise (E := e) (fr := (((b.map fun x => Value.int .u8 x.toNat) ++ List.replicate (cap - b.length) (Value.int .u8 0)).toArray.size, ((b.map fun x => Value.int .u8 x.toNat) ++ List.replicate (cap - b.length) (Value.int .u8 0)).toArray.size + 1))
          (row := (b.map fun x => Value.int .u8 x.toNat) ++ List.replicate (cap - b.length) (Value.int .u8 0)) (vs := b.map fun x => Value.int .u8 x.toNat)
          (fun j v e' => by
            rw [List.getElem?_append_left (by
              rcases Nat.lt_or_ge j (b.map fun x => Value.int .u8 x.toNat).length with h' | h'
              · exact h'
              · rw [List.getElem?_eq_none h'] at e'; cases e')]
            exact e')
        refine ⟨_, _, G', hrun, h1, h4, ?_⟩
        have hsz : (ByteArray.mk b.toArray).size = (b.map byteAV).length := by simp [ByteArray.size]
        rw [hsz]
        exact sl_of_row (G := G') (k := 1) (xs := b.map byteAV) (t := .unk) (r := w.heap.size) (b := 0) (cap := cap) (fun x hm => by obtain ⟨y, _, rfl⟩ := List.mem_map.1 hm; rfl)
          (by rw [byte_cells]; exact (bytes_rel G' b)) (fun j v e' => by rw [Nat.zero_add]; rw [show w.heap.size = w.drew.heap.size from rfl, h5]; exact e') (by simpa using hge) trivial
      · cases hk0
    · cases hd
  · cases hs
theorem sem_mkCap {P : Program} {wb : Base} {G : Gh} {S : St} {w : World} (h : StRel wb G S w) {t e : TypeId} {i : TypeInfo} {z : Value} {k : Nat} {kl kc : IntKind} {c : Int} (ht : P.underlying t = some (.slice e)) (hi : P.info? e = some i) (hz : i.zero = some z)
    (h0 : 0 ≤ c) (hb : (i.bytes : Int) * c ≤ 281474976710656) (h63 : c ≤ 9223372036854775807) (hk : i.size = k) :
    SemOK P wb G (Instr.makeSlice t (.int kl 0) (.int kc c)) w (.sl k [] (.tok S.nt)) { S with nt := S.nt + 1, live := S.nt :: S.live } := by
  have hrun := run_make (P := P) w t e i z ht hi hz kl kc 0 c (Int.le_refl _) h0 hb h63
  have hm : madeCells z.cells (c.toNat * i.size) = ([] ++ (madeCells z.cells (c.toNat * i.size)).toList).toArray := by simp
  obtain ⟨G', g1, g2, g3, g4, g5⟩ := h.rowTok (E := e) (vs := []) (rest := (madeCells z.cells (c.toNat * i.size)).toList)
  rw [hm] at hrun
  refine ⟨_, _, G', hrun, g1, g5, ?_⟩
  have := VRel.sl (G := G') (k := k) (xs := []) (t := .tok S.nt) (r := w.heap.size) (b := 0) (cap := c.toNat) (fun _ => undef) (by simp) (by simp) (by simp) (by simp) (Nat.zero_le _) (by
    show G'.τ S.nt = _
    rw [g3]
    simp [size_madeCells, hk])
  simpa using this
def cmpEv : Nat → AV → AV → Option Bool
  | 0, .bool a, .bool b => some (a == b)
  | 1, .nili, .nili => some true
  | 1, .ifc _ _, .nili => some false
  | 2, .nilp, .nilp => some true
  | 2, .ptr _ _, .nilp => some false
  | 2, .gp _ _, .nilp => some false
  | 2, .eptr _ _ _ _, .nilp => some false
  | _, _, _ => none
def cmpTy (P : Program) (t : TypeId) (k : Nat) (y : Operand) : Bool :=
  match P.underlying t with
  | some .bool => k == 0
  | some (.interface _) => k == 1 && (match y with
    | .const _ => true
    | _ => false)
  | some (.pointer _) => k == 2
  | _ => false
theorem equalIn_step (P : Program) (w : World) (t : TypeId) (d : TypeDesc) (hu : P.underlying t = some d) (x y : Value) (r : Bool)
    (h : ∀ n, (Op.equalIn (n + 1) t x y).run P w = .ok r w) : (Op.equal t x y).run P w = .ok r w := by
  unfold Op.equal Op.maxDepth
  exact h 9999
theorem run_cmp {P : Program} {w : World} {G : Gh} {t : TypeId} {neg : Bool} {k : Nat} {x y : AV} {ox oy : Operand} {u v : Value} {b : Bool} (hx : VRel G x u) (hy : VRel G y v) (ht : cmpTy P t k oy = true) (he : cmpEv k x y = some b) :
    ∃ z, (do eqGuard (if neg then .neq else .eql) t ox oy u v; binOp (if neg then .neq else .eql) t u v).run P w = .ok z w ∧ VRel G (.bool (neg != b)) z := by
  have fin : ∀ (u v : Value), (∀ op : BinOp, (eqGuard op t ox oy u v).run P w = .ok () w) → (Op.equal t u v).run P w = .ok b w → (binOp .eql t u v = do pure (.bool (← Op.equal t u v))) → (binOp .neq t u v = do pure (.bool (!(← Op.equal t u v)))) →
      ∃ z, (do eqGuard (if neg then .neq else .eql) t ox oy u v; binOp (if neg then .neq else .eql) t u v).run P w = .ok z w ∧ VRel G (.bool (neg != b)) z := by
    intro u v h1 h2 h3 h4
    refine ⟨.bool (neg != b), ?_, .bool _⟩
    cases neg
    · simp only [Bool.false_eq_true, if_false, Sem.run_bind, h1, Result.andThen_ok, h3, h2, Sem.run_pure]
      cases b <;> rfl
    · simp only [if_true, Sem.run_bind, h1, Result.andThen_ok, h4, h2, Sem.run_pure]
      cases b <;> rfl
  unfold cmpTy at ht
  unfold cmpEv at he
  split at he <;> first
    | (cases he; done)
    | (injection he with he; subst he)
  · cases hx
    cases hy
    split at ht
    · rename_i hu
      refine fin _ _ (fun op => by unfold eqGuard; split <;> rfl) (equalIn_step P w t _ hu _ _ _ fun n => ?_) rfl rfl
      simp only [Op.equalIn, Sem.run_bind, run_und hu, Result.andThen_ok, Sem.run_pure]
    all_goals (simp at ht)
  · cases hx
    cases hy
    split at ht
    · simp at ht
    · rename_i ms hu
      simp only [Bool.and_eq_true] at ht
      have ho := ht.2
      split at ho
      · refine fin _ _ (fun op => by unfold eqGuard; split <;> simp) (equalIn_step P w t _ hu _ _ _ fun n => ?_) rfl rfl
        simp only [Op.equalIn, Sem.run_bind, run_und hu, Result.andThen_ok, Sem.run_pure]
      · cases ho
    all_goals (simp at ht)
  · cases hx
    cases hy
    split at ht
    · simp at ht
    · rename_i ms hu
      refine fin _ _ (fun op => by unfold eqGuard; split <;> rfl) (equalIn_step P w t _ hu _ _ _ fun n => ?_) rfl rfl
      simp only [Op.equalIn, Sem.run_bind, run_und hu, Result.andThen_ok, Sem.run_pure]
    all_goals (simp at ht)
  all_goals
    cases hx
    cases hy
    split at ht
    · simp at ht
    · simp at ht
    · rename_i el hu
      refine fin _ _ (fun op => by unfold eqGuard; split <;> rfl) (equalIn_step P w t _ hu _ _ _ fun n => ?_) rfl rfl
      simp only [Op.equalIn, Sem.run_bind, run_und hu, Result.andThen_ok, Sem.run_pure, Option.isNone_none]
    · simp at ht
end Go.V
