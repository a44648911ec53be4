/- What the comparison of labels does, walked: how many draws, which blocks. -/
import Derived.Test.YtdjdhecanjmchaaGreatDoorProg
import Derived.Tactics
import Derived.Tactics2
import Derived.WalkKit
import Derived.Lib.Small
import Derived.Lib.Walk
import Derived.Lib.Hide
import Derived.Laws.Cover1
import Derived.Deep.RegionHeld3
import Derived.Deep.DeepCutAuto
import Derived.KernelRfl
import Derived.Sort.Grow
import Derived.Deep.Draws
set_option linter.unusedSimpArgs false
set_option linter.unusedVariables false
namespace Go.Proofs.YtdjdhecanjmchaaGreatDoor
open Go Go.Lib
def RetI (r : Int) (w : World) (e : Ending) (w' : World) : Prop := e = .returned (.int .i64 r) ∧ w' = w
def or3 (x y z : Int) : Int := if x ≠ 0 then x else if y ≠ 0 then y else z
theorem k195 (x : Int) (w : World) : Calls Tryz.prog 195 #[.int .i64 x] w fun e w' => e = .returned (.bool false) ∧ w' = w := by
  go_enter Tryz.func195,Tryz.ntmps195
  go_wp2
  go_ret
  exact ⟨by simp,rfl⟩
theorem k160 (x y : Int) (r : Int) (hr : r = if x < y then -1 else if y < x then 1 else 0) (w : World) : Calls Tryz.prog 160 #[.int .i64 x,.int .i64 y] w (RetI r w) := by
  have H := Lib.hid hr
  clear hr
  go_enter Tryz.func160,Tryz.ntmps160
  go_wp2_with (go_at_call 195; refine (k195 _ _).mono ?_; rintro e w' ⟨rfl,hw⟩; rw [hw])
  all_goals
    have := H.out
    (repeat' split at this) <;> first | (exfalso; omega) | (subst this; go_ret; exact ⟨rfl,rfl⟩)
theorem k235 (x : ByteArray) (w : World) : Calls Tryz.prog 235 #[.string x] w fun e w' => e = .returned (.bool false) ∧ w' = w := by
  go_enter Tryz.func235,Tryz.ntmps235
  go_wp2
  go_ret
  exact ⟨by simp,rfl⟩
theorem k208 (x y : List UInt8) (r : Int) (hr : r = if Op.bytesLess x y = true then -1 else if x = y then 0 else 1) (w : World) : Calls Tryz.prog 208 #[.string ⟨x.toArray⟩,.string ⟨y.toArray⟩] w (RetI r w) := by
  have H := Lib.hid hr
  clear hr
  go_enter Tryz.func208,Tryz.ntmps208
  go_wp2_with (go_at_call 235; refine (k235 _ _).mono ?_; rintro e w' ⟨rfl,hw⟩; rw [hw])
  · rename_i h
    have := H.out
    rw [if_pos h] at this
    subst this
    go_ret
    exact ⟨rfl,rfl⟩
  · have h2 : Op.bytesLess x y = false := by assumption
    have h1 : (!x == y) = true := by assumption
    have := H.out
    rw [if_neg (by simp [h2]),if_neg (by simpa using h1)] at this
    subst this
    go_ret
    exact ⟨rfl,rfl⟩
  · have h2 : Op.bytesLess x y = false := by assumption
    have h1 : (!x == y) = false := by assumption
    have := H.out
    rw [if_neg (by simp [h2]),if_pos (by simpa using h1)] at this
    subst this
    go_ret
    exact ⟨rfl,rfl⟩
theorem k158 (b : Nat) (x y z r : Int) (hr : r = or3 x y z) (w : World) (h0 : w.cell? ⟨b,0,none⟩ = some (.int .i64 x)) (h1 : w.cell? ⟨b,1,none⟩ = some (.int .i64 y)) (h2 : w.cell? ⟨b,2,none⟩ = some (.int .i64 z)) :
    Calls Tryz.prog 158 #[.slice (some ⟨b,0,none⟩) 3 3] w (RetI r w) := by
  have H := Lib.hid hr
  clear hr
  go_enter Tryz.func158,Tryz.ntmps158
  go_wp2
  go_loop [8] (fun i => ∃ k : Nat,i = .int .i64 k ∧ (k = 0 ∨ (k = 1 ∧ x = 0) ∨ (k = 2 ∧ x = 0 ∧ y = 0) ∨ (k = 3 ∧ x = 0 ∧ y = 0 ∧ z = 0))) (fun i => 3 - (intOf i).toNat)
  case atStart => exact ⟨0,rfl,.inl rfl⟩
  case round =>
    obtain ⟨k,rfl,rfl | ⟨rfl,hx⟩ | ⟨rfl,hx,hy⟩ | ⟨rfl,hx,hy,hz⟩⟩ := hrel
    · go_wp2
      · have hx : x ≠ 0 := by simpa using ‹(x != 0) = true›
        have := H.out
        rw [or3,if_pos hx] at this
        subst this
        go_ret
        exact ⟨rfl,rfl⟩
      · have h : x = 0 := by simpa using ‹(x != 0) = false›
        go_round
        case rel => exact ⟨1,rfl,.inr (.inl ⟨rfl,h⟩)⟩
        case measure => simp [intOf]
    · have Hx := Lib.hid hx
      clear hx
      go_wp2
      · have hy : y ≠ 0 := by simpa using ‹(y != 0) = true›
        have := H.out
        rw [or3,if_neg (by simpa using Hx.out),if_pos hy] at this
        subst this
        go_ret
        exact ⟨rfl,rfl⟩
      · have h : y = 0 := by simpa using ‹(y != 0) = false›
        go_round
        case rel => exact ⟨2,rfl,.inr (.inr (.inl ⟨rfl,Hx.out,h⟩))⟩
        case measure => simp [intOf]
    · have Hx := Lib.hid hx
      have Hy := Lib.hid hy
      clear hx hy
      go_wp2
      · have := H.out
        rw [or3,if_neg (by simpa using Hx.out),if_neg (by simpa using Hy.out)] at this
        subst this
        go_ret
        exact ⟨rfl,rfl⟩
      · have h : z = 0 := by simpa using ‹(z != 0) = false›
        go_round
        case rel => exact ⟨3,rfl,.inr (.inr (.inr ⟨rfl,Hx.out,Hy.out,h⟩))⟩
        case measure => simp [intOf]
    · have Hx := Lib.hid hx
      have Hy := Lib.hid hy
      have Hz := Lib.hid hz
      clear hx hy hz
      go_wp2
      have := H.out
      rw [or3,if_neg (by simpa using Hx.out),if_neg (by simpa using Hy.out),Hz.out] at this
      subst this
      go_ret
      exact ⟨rfl,rfl⟩
theorem cellNew3 (w : World) (A B : Obj) (cs : Array Value) (T : TypeId) (i : Nat) : ((((w.alloc A).alloc B).alloc (.cells cs T)).drew).cell? ⟨w.heap.size + 1 + 1,i,none⟩ = cs[i]? := by
  have : ((w.alloc A).alloc B).heap.size = w.heap.size + 1 + 1 := by simp
  rw [← this]
  exact World.cell?_alloc_new _ _ _ _
theorem grow3 (w : World) (A B C : Obj) : (((w.alloc A).alloc B).alloc C).drew = Go.Sort.grow (w.drewN 1) #[A,B,C] := by
  rw [Go.Sort.alloc_eq_grow,Go.Sort.alloc_eq_grow,Go.Sort.alloc_eq_grow,Go.Sort.grow_grow,Go.Sort.grow_grow]
  rfl
theorem k179 (k1 k2 : List UInt8) (e1 n1 e2 n2 : Int) (a b c r : Int) (ha : a = if Op.bytesLess k1 k2 = true then -1 else if k1 = k2 then 0 else 1) (hb : b = if e1 < e2 then -1 else if e2 < e1 then 1 else 0) (hc : c = if n1 < n2 then -1 else if n2 < n1 then 1 else 0) (hr : r = or3 a b c) (w : World) :
    Calls Tryz.prog 179 #[.agg #[.string ⟨k1.toArray⟩,.int .i64 e1,.int .i64 n1],.agg #[.string ⟨k2.toArray⟩,.int .i64 e2,.int .i64 n2]] w fun e w' => e = .returned (.int .i64 r) ∧ ∃ q os',w' = Go.Sort.grow (w.drewN q) os' := by
  have c1 : ∀ w,Calls Tryz.prog 208 #[.string ⟨k1.toArray⟩,.string ⟨k2.toArray⟩] w (RetI a w) := fun w => k208 k1 k2 a ha w
  have c2 : ∀ w,Calls Tryz.prog 160 #[.int .i64 e1,.int .i64 e2] w (RetI b w) := fun w => k160 e1 e2 b hb w
  have c3 : ∀ w,Calls Tryz.prog 160 #[.int .i64 n1,.int .i64 n2] w (RetI c w) := fun w => k160 n1 n2 c hc w
  have c4 : ∀ b' w,w.cell? ⟨b',0,none⟩ = some (.int .i64 a) → w.cell? ⟨b',1,none⟩ = some (.int .i64 b) → w.cell? ⟨b',2,none⟩ = some (.int .i64 c) → Calls Tryz.prog 158 #[.slice (some ⟨b',0,none⟩) 3 3] w (RetI r w) := fun b' w => k158 b' a b c r hr w
  clear hr ha hb hc
  go_enter Tryz.func179,Tryz.ntmps179
  go_wp2_with fail
  go_region_held3 (fun w' => w'.cell? ⟨w.heap.size,0,none⟩ = some (.string ⟨k1.toArray⟩) ∧ w'.cell? ⟨w.heap.size,1,none⟩ = some (.int .i64 e1) ∧ w'.cell? ⟨w.heap.size,2,none⟩ = some (.int .i64 n1) ∧ w'.cell? ⟨w.heap.size + 1,0,none⟩ = some (.string ⟨k2.toArray⟩) ∧ w'.cell? ⟨w.heap.size + 1,1,none⟩ = some (.int .i64 e2) ∧ w'.cell? ⟨w.heap.size + 1,2,none⟩ = some (.int .i64 n2))
    (go_keep)
    (first
      | (go_at_call 208; refine (c1 _).mono ?_; rintro e w' ⟨rfl,rfl⟩)
      | (go_at_call 160; ((with_reducible refine (c2 _).mono ?_); rintro e w' ⟨rfl,rfl⟩))
      | (go_at_call 160; ((with_reducible refine (c3 _).mono ?_); rintro e w' ⟨rfl,rfl⟩))
      | (go_at_call 158; refine (c4 _ _ (cellNew3 _ _ _ _ _ 0) (cellNew3 _ _ _ _ _ 1) (cellNew3 _ _ _ _ _ 2)).mono ?_; rintro e w' ⟨rfl,rfl⟩))
  go_wp2
  go_ret
  exact ⟨rfl,1,_,grow3 _ _ _ _⟩
end Go.Proofs.YtdjdhecanjmchaaGreatDoor
