/- The by-value layer, part seven: append. Over any program. -/
import Derived.Test.YtdjdhecanjmchaaGreatDoorVfB
set_option linter.unusedSimpArgs false
set_option linter.unusedVariables false
namespace Go.V
open Go
def appTy (P : Program) (t t2 : TypeId) (k bytes : Nat) : Bool :=
  (match P.underlying t with
   | some (.slice e) => match P.info? e with
     | some i => i.size == k && i.bytes == bytes && decide (0 < k) && (match i.zero with
       | some z => z.cells.size == k
       | none => false)
     | none => false
   | _ => false) &&
  (match P.underlying t2 with
   | some .string => true
   | some (.slice _) => true
   | _ => false)
theorem run_append_in {P : Program} {w w' : World} {t t2 ty e : TypeId} {i : TypeInfo} (ht : P.underlying t = some (.slice e)) (hi : P.info? e = some i) {d2 : TypeDesc} (ht2 : P.underlying t2 = some d2) (hd2 : d2 = .string ∨ ∃ x, d2 = .slice x)
    {base : Option Addr} {sLen sCap n : Nat} {v : Value} {us : Array Value} (hn : (Builtin.lenOf v).run P w = .ok n w) (hu : (Builtin.firstCells i.size n v).run P w = .ok us w) (hroom : sLen + n ≤ sCap)
    (hst : ∀ a, base = some a → (storeCells (a.add (sLen * i.size)) us.toList).run P w = .ok () w') (hnone : base = none → w' = w) :
    (Builtin.append_ #[t, t2] ty #[.slice base sLen sCap, v]).run P w = .ok (.slice base (sLen + n) sCap) w' := by
  have hs : (Go.sizeOf e).run P w = .ok i.size w := by simp [Go.sizeOf, typeInfo, hi]
  rcases hd2 with rfl | ⟨x, rfl⟩ <;> cases base with
  | none =>
    obtain rfl := hnone rfl
    simp [Builtin.append_, run_und ht, run_und ht2, hs, hn, hroom, hu]
  | some a =>
    have := hst a rfl
    simp [Builtin.append_, run_und ht, run_und ht2, hs, hn, hroom, hu, this]
theorem run_append_out {P : Program} {w : World} {t t2 ty e : TypeId} {i : TypeInfo} {z : Value} (ht : P.underlying t = some (.slice e)) (hi : P.info? e = some i) (hz : i.zero = some z) {d2 : TypeDesc} (ht2 : P.underlying t2 = some d2) (hd2 : d2 = .string ∨ ∃ x, d2 = .slice x)
    {base : Option Addr} {sLen sCap n : Nat} {v : Value} {us os : Array Value} (hn : (Builtin.lenOf v).run P w = .ok n w) (hu : (Builtin.firstCells i.size n v).run P w.drew = .ok us w.drew)
    (ho : (Builtin.firstCells i.size sLen (.slice base sLen sCap)).run P w.drew = .ok os w.drew) (hroom : ¬ sLen + n ≤ sCap)
    (h63 : ((sLen + n : Nat) : Int) ≤ 9223372036854775807) (hfit : (sLen + n) * i.bytes ≤ 140737488355328) :
    (Builtin.append_ #[t, t2] ty #[.slice base sLen sCap, v]).run P w =
      .ok (.slice (some ⟨w.heap.size, 0, none⟩) (sLen + n) (grownCap w (sLen + n) sCap e)) (w.drew.alloc (.cells (os ++ us ++ Builtin.zeroCells z.cells (grownCap w (sLen + n) sCap e - (sLen + n))) e)) := by
  have hs : (Go.sizeOf e).run P w = .ok i.size w := by simp [Go.sizeOf, typeInfo, hi]
  have h48 : ¬ (281474976710656 < Builtin.nextslicecap (sLen + n) sCap * i.bytes) := by
    have := growslice_fits (need := sLen + n) (old := sCap) (bytes := i.bytes) (by omega) hfit
    omega
  have h63' : ¬ (9223372036854775807 < ((sLen : Int) + (n : Int))) := by omega
  rcases hd2 with rfl | ⟨x, rfl⟩
  · simp [Builtin.append_, run_und ht, run_und ht2, hs, hn, hroom, hu, ho, h63', h48, Question.forced, typeInfo, zeroValue, hi, hz, newRow, grownCap]
  · simp [Builtin.append_, run_und ht, run_und ht2, hs, hn, hroom, hu, ho, h63', h48, Question.forced, typeInfo, zeroValue, hi, hz, newRow, grownCap]
end Go.V
