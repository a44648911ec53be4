/- Readers and writers of bytes: how a number, a text, a list is read back, and from nothing else. No program in sight. -/
import Derived.Test.YtdjdhecanjmchaaGreatDoorW1
import Derived.Test.YtdjdhecanjmchaaGreatDoorX1
set_option linter.unusedSimpArgs false
set_option linter.unusedVariables false
namespace Go.V
open Go
abbrev Rd (α : Type) := Bytes → Except Int (α × Bytes)
structure Codec {α : Type} (rd : Rd α) (en : α → Bytes) (ok : α → Prop) : Prop where
  fwd : ∀ a r,ok a → rd (en a ++ r) = .ok (a,r)
  bwd : ∀ b a r,rd b = .ok (a,r) → ok a ∧ b = en a ++ r
  cut : ∀ a p q,ok a → en a = p ++ q → q ≠ [] → rd p = .error 41
def Rd.bind {α β : Type} (rd : Rd α) (f : α → Rd β) : Rd β := fun b => match rd b with
  | .error e => .error e
  | .ok (a,r) => f a r
def Rd.map {α β : Type} (f : α → β) (rd : Rd α) : Rd β := fun b => match rd b with
  | .error e => .error e
  | .ok (a,r) => .ok (f a,r)
def Rd.pair {α β : Type} (rd : Rd α) (f : α → Rd β) : Rd (α × β) := rd.bind fun a => (f a).map fun b => (a,b)
def Rd.only {α : Type} (rd : Rd α) (p : α → Bool) (e : Int) : Rd α := fun b => match rd b with
  | .error e => .error e
  | .ok (a,r) => if p a then .ok (a,r) else .error e
def Rd.rep {α : Type} (rd : Rd α) : Nat → Rd (List α)
  | 0 => fun b => .ok ([],b)
  | n + 1 => rd.bind fun a => (Rd.rep rd n).map fun l => a :: l
theorem cut_parts {α : Type} {x y p q : List α} (h : x ++ y = p ++ q) (hq : q ≠ []) : (∃ q',x = p ++ q' ∧ q' ≠ []) ∨ ∃ p',p = x ++ p' ∧ y = p' ++ q := by
  rcases List.append_eq_append_iff.1 h with ⟨c,h1,h2⟩ | ⟨c,h1,h2⟩
  · exact .inr ⟨c,h1,h2⟩
  · by_cases hc : c = []
    · subst hc
      refine .inr ⟨[],by simpa using h1.symm,by simpa using h2.symm⟩
    · exact .inl ⟨c,h1,hc⟩
section laws
variable {α β : Type} {rd : Rd α} {en : α → Bytes} {ok : α → Prop}
theorem Codec.bindMap {γ : Type} {f : α → Rd β} {en2 : α → β → Bytes} {ok2 : α → β → Prop} (h : Codec rd en ok) (h2 : ∀ a,ok a → Codec (f a) (en2 a) (ok2 a)) (mk : α → β → γ) (pa : γ → α) (pb : γ → β) (hm : ∀ c,mk (pa c) (pb c) = c) (ha : ∀ a b,pa (mk a b) = a) (hb : ∀ a b,pb (mk a b) = b) :
    Codec (rd.bind fun a => (f a).map (mk a)) (fun c => en (pa c) ++ en2 (pa c) (pb c)) (fun c => ok (pa c) ∧ ok2 (pa c) (pb c)) where
  fwd := fun c r ⟨h3,h4⟩ => by
    unfold Rd.bind Rd.map
    rw [List.append_assoc,h.fwd _ _ h3]
    simp only
    rw [(h2 _ h3).fwd _ _ h4]
    simp only [hm]
  bwd := fun b c r h3 => by
    unfold Rd.bind Rd.map at h3
    split at h3
    · cases h3
    · rename_i a r1 h4
      simp only at h3
      split at h3
      · cases h3
      · rename_i x r2 h5
        injection h3 with h3
        injection h3 with h6 h7
        subst h6 h7
        obtain ⟨h8,h9⟩ := h.bwd _ _ _ h4
        obtain ⟨h10,h11⟩ := (h2 _ h8).bwd _ _ _ h5
        rw [ha,hb]
        exact ⟨⟨h8,h10⟩,by rw [h9,h11,List.append_assoc]⟩
  cut := fun c p q ⟨h3,h4⟩ h5 hq => by
    unfold Rd.bind Rd.map
    rcases cut_parts h5 hq with ⟨q',h6,h7⟩ | ⟨p',h6,h7⟩
    · rw [h.cut _ _ _ h3 h6 h7]
    · rw [h6,h.fwd _ _ h3]
      simp only
      rw [(h2 _ h3).cut _ _ _ h4 h7 hq]
theorem Codec.pair {f : α → Rd β} {en2 : α → β → Bytes} {ok2 : α → β → Prop} (h : Codec rd en ok) (h2 : ∀ a,ok a → Codec (f a) (en2 a) (ok2 a)) :
    Codec (rd.pair f) (fun c => en c.1 ++ en2 c.1 c.2) (fun c => ok c.1 ∧ ok2 c.1 c.2) :=
  h.bindMap h2 (fun a b => (a,b)) (·.1) (·.2) (fun _ => rfl) (fun _ _ => rfl) (fun _ _ => rfl)
theorem Codec.map (h : Codec rd en ok) (f : α → β) (g : β → α) (hgf : ∀ a,g (f a) = a) (hfg : ∀ b,ok (g b) → f (g b) = b) : Codec (rd.map f) (fun b => en (g b)) (fun b => ok (g b)) where
  fwd := fun b r h1 => by unfold Rd.map; rw [h.fwd _ _ h1]; simp only [hfg _ h1]
  bwd := fun b x r h1 => by
    unfold Rd.map at h1
    split at h1
    · cases h1
    · rename_i a r1 h2
      injection h1 with h1
      injection h1 with h3 h4
      subst h3 h4
      rw [hgf]
      exact h.bwd _ _ _ h2
  cut := fun b p q h1 h2 hq => by unfold Rd.map; rw [h.cut _ _ _ h1 h2 hq]
theorem Codec.only (h : Codec rd en ok) (p : α → Bool) (e : Int) : Codec (rd.only p e) en (fun a => ok a ∧ p a = true) where
  fwd := fun a r ⟨h1,h2⟩ => by unfold Rd.only; rw [h.fwd _ _ h1]; simp only [h2,if_true]
  bwd := fun b a r h1 => by
    unfold Rd.only at h1
    split at h1
    · cases h1
    · rename_i x r1 h2
      split at h1
      · rename_i h3
        injection h1 with h1
        injection h1 with h4 h5
        subst h4 h5
        obtain ⟨h6,h7⟩ := h.bwd _ _ _ h2
        exact ⟨⟨h6,h3⟩,h7⟩
      · cases h1
  cut := fun a p q ⟨h1,_⟩ h2 hq => by unfold Rd.only; rw [h.cut _ _ _ h1 h2 hq]
theorem Codec.rep (h : Codec rd en ok) : ∀ n,Codec (rd.rep n) (fun l => l.flatMap en) (fun l => l.length = n ∧ ∀ x ∈ l,ok x)
  | 0 => {
    fwd := fun a r ⟨h1,_⟩ => by
      obtain rfl := List.eq_nil_of_length_eq_zero h1
      rfl
    bwd := fun b a r h1 => by
      injection h1 with h1
      injection h1 with h2 h3
      subst h2 h3
      simp
    cut := fun a p q ⟨h1,_⟩ h2 hq => by
      obtain rfl := List.eq_nil_of_length_eq_zero h1
      simp at h2
      exact absurd h2.2 hq }
  | n + 1 => {
    fwd := fun a r ⟨h1,h2⟩ => by
      obtain ⟨x,l,rfl⟩ : ∃ x l,a = x :: l := by cases a with | nil => simp at h1 | cons x l => exact ⟨x,l,rfl⟩
      have h3 := (Codec.rep h n).fwd l r ⟨by simpa using h1,fun y hy => h2 y (List.mem_cons_of_mem _ hy)⟩
      unfold Rd.rep Rd.bind Rd.map
      rw [List.flatMap_cons,List.append_assoc,h.fwd _ _ (h2 x List.mem_cons_self)]
      simp only
      rw [h3]
    bwd := fun b a r h1 => by
      unfold Rd.rep Rd.bind Rd.map at h1
      split at h1
      · cases h1
      · rename_i x r1 h2
        simp only at h1
        split at h1
        · cases h1
        · rename_i l r2 h3
          injection h1 with h1
          injection h1 with h4 h5
          subst h4 h5
          obtain ⟨h6,h7⟩ := h.bwd _ _ _ h2
          obtain ⟨⟨h8,h9⟩,h10⟩ := (Codec.rep h n).bwd _ _ _ h3
          refine ⟨⟨by simp [h8],fun y hy => ?_⟩,by rw [h7,h10,List.flatMap_cons,List.append_assoc]⟩
          rcases List.mem_cons.1 hy with rfl | hy
          · exact h6
          · exact h9 y hy
    cut := fun a p q ⟨h1,h2⟩ h3 hq => by
      obtain ⟨x,l,rfl⟩ : ∃ x l,a = x :: l := by cases a with | nil => simp at h1 | cons x l => exact ⟨x,l,rfl⟩
      rw [List.flatMap_cons] at h3
      have hx := h2 x List.mem_cons_self
      unfold Rd.rep Rd.bind Rd.map
      rcases cut_parts h3 hq with ⟨q',h6,h7⟩ | ⟨p',h6,h7⟩
      · rw [h.cut _ _ _ hx h6 h7]
      · rw [h6,h.fwd _ _ hx]
        simp only
        rw [(Codec.rep h n).cut l p' q ⟨by simpa using h1,fun y hy => h2 y (List.mem_cons_of_mem _ hy)⟩ h7 hq] }
end laws
def uvarF : Nat → Nat → Bytes
  | 0,n => [UInt8.ofNat n]
  | f + 1,n => if n < 128 then [UInt8.ofNat n] else UInt8.ofNat (n % 128 + 128) :: uvarF f (n / 128)
def uvar (n : Nat) : Bytes := uvarF 9 n
theorem uvarF_len : ∀ f n,1 ≤ (uvarF f n).length ∧ (uvarF f n).length ≤ f + 1
  | 0,_ => by simp [uvarF]
  | f + 1,n => by
    unfold uvarF
    split
    · simp
    · have := uvarF_len f (n / 128); simp; omega
theorem uvar_len (n : Nat) : 1 ≤ (uvar n).length ∧ (uvar n).length ≤ 10 := uvarF_len 9 n
def rdN : Nat → Nat → Nat → Rd Nat
  | 0,_,_,_ => .error 3
  | _ + 1,_,_,[] => .error 41
  | f + 1,i,acc,c :: bs => if c.toNat < 128 then (if (i == 9 && decide (1 < c.toNat)) || (decide (0 < i) && c.toNat == 0) then .error 3 else .ok (acc + c.toNat * 128 ^ i,bs))
      else rdN f (i + 1) (acc + (c.toNat - 128) * 128 ^ i) bs
def rdU : Rd Nat := rdN 10 0 0
theorem pow_le {i : Nat} (h : i ≤ 9) : 128 ^ i ∣ 18446744073709551616 := by
  have : i = 0 ∨ i = 1 ∨ i = 2 ∨ i = 3 ∨ i = 4 ∨ i = 5 ∨ i = 6 ∨ i = 7 ∨ i = 8 ∨ i = 9 := by omega
  rcases this with rfl | rfl | rfl | rfl | rfl | rfl | rfl | rfl | rfl | rfl <;> decide
theorem pow_small {i : Nat} (h : i ≤ 8) : 128 ^ i * 128 ≤ 9223372036854775808 := by
  have : i = 0 ∨ i = 1 ∨ i = 2 ∨ i = 3 ∨ i = 4 ∨ i = 5 ∨ i = 6 ∨ i = 7 ∨ i = 8 := by omega
  rcases this with rfl | rfl | rfl | rfl | rfl | rfl | rfl | rfl | rfl <;> decide
theorem rdN_fwd : ∀ f i acc n r,i + f = 9 → n * 128 ^ i < 18446744073709551616 → (0 < i → n ≠ 0) → rdN (f + 1) i acc (uvarF f n ++ r) = .ok (acc + n * 128 ^ i,r)
  | 0,i,acc,n,r,hi,hn,h0 => by
    obtain rfl : i = 9 := by omega
    have h1 : n < 2 := by omega
    have h2 : n ≠ 0 := h0 (by omega)
    obtain rfl : n = 1 := by omega
    simp [uvarF,rdN]
  | f + 1,i,acc,n,r,hi,hn,h0 => by
    unfold uvarF
    by_cases h : n < 128
    · rw [if_pos h]
      have hi9 : (i == 9) = false := by simp; omega
      have h1 : (UInt8.ofNat n).toNat = n := by simp; omega
      simp only [List.cons_append,List.nil_append,rdN,h1,h,if_true,hi9,Bool.false_and,Bool.false_or]
      by_cases hp : 0 < i
      · simp [h0 hp]
      · simp [show i = 0 by omega]
    · rw [if_neg h]
      have h1 : (UInt8.ofNat (n % 128 + 128)).toNat = n % 128 + 128 := by simp; omega
      have h2 : n * 128 ^ i = n % 128 * 128 ^ i + n / 128 * 128 ^ (i + 1) := by
        rw [Nat.pow_succ,Nat.mul_comm (128 ^ i) 128,← Nat.mul_assoc,← Nat.add_mul]
        congr 1
        omega
      have h3 := rdN_fwd f (i + 1) (acc + n % 128 * 128 ^ i) (n / 128) r (by omega) (by omega) (fun _ => by omega)
      simp only [List.cons_append]
      rw [rdN,h1,if_neg (by omega),show n % 128 + 128 - 128 = n % 128 by omega,h3,h2,Nat.add_assoc]
theorem rdN_bwd : ∀ f i acc b m r,i + f = 9 → rdN (f + 1) i acc b = .ok (m,r) → ∃ n,m = acc + n * 128 ^ i ∧ n * 128 ^ i < 18446744073709551616 ∧ (0 < i → n ≠ 0) ∧ b = uvarF f n ++ r := by
  intro f
  induction f with
  | zero =>
    intro i acc b m r hi h
    obtain rfl : i = 9 := by omega
    match b with
    | [] => cases h
    | c :: bs =>
      simp only [rdN] at h
      split at h
      · split at h
        · cases h
        · rename_i h1 h2
          injection h with h
          injection h with h3 h4
          subst h3 h4
          simp at h2
          refine ⟨c.toNat,rfl,?_,fun _ => ?_,?_⟩
          · have : c.toNat < 2 := by omega
            omega
          · intro h3
            apply h2.2
            first | exact h3 | exact UInt8.toNat_inj.1 (by simpa using h3)
          · simp [uvarF]
      · cases h
  | succ f ih =>
    intro i acc b m r hi h
    match b with
    | [] => cases h
    | c :: bs =>
      rw [rdN] at h
      split at h
      · split at h
        · cases h
        · rename_i h1 h2
          injection h with h
          injection h with h3 h4
          subst h3 h4
          have hp := pow_small (i := i) (by omega)
          refine ⟨c.toNat,rfl,?_,fun h0 h3 => ?_,?_⟩
          · calc c.toNat * 128 ^ i ≤ 127 * 128 ^ i := Nat.mul_le_mul_right _ (by omega)
              _ < 18446744073709551616 := by omega
          · simp [h3,h0] at h2
          · unfold uvarF
            rw [if_pos h1]
            simp
      · rename_i h1
        obtain ⟨n,h2,h3,h4,h5⟩ := ih (i + 1) _ _ _ _ (by omega) h
        have hc : c.toNat < 256 := c.toNat_lt
        have h6 : n ≠ 0 := h4 (by omega)
        have hd := pow_le (i := i + 1) (by omega)
        have hs : 128 ^ (i + 1) = 128 ^ i * 128 := Nat.pow_succ ..
        refine ⟨c.toNat - 128 + 128 * n,?_,?_,fun _ => by omega,?_⟩
        · rw [h2,hs,Nat.add_mul,Nat.mul_comm (128 ^ i) 128,← Nat.mul_assoc,Nat.mul_comm n 128,Nat.add_assoc]
        · obtain ⟨k,hk⟩ := hd
          have h7 : n < k := by
            apply Nat.lt_of_mul_lt_mul_left (a := 128 ^ (i + 1))
            rw [← hk,Nat.mul_comm]
            exact h3
          have h8 : (c.toNat - 128 + 128 * n) < 128 * k := by omega
          calc (c.toNat - 128 + 128 * n) * 128 ^ i < 128 * k * 128 ^ i := Nat.mul_lt_mul_of_pos_right h8 (Nat.pow_pos (by omega))
            _ = 18446744073709551616 := by rw [hk,hs,Nat.mul_comm (128 * k),Nat.mul_assoc]
        · unfold uvarF
          rw [if_neg (by omega),show (c.toNat - 128 + 128 * n) / 128 = n by omega,show (c.toNat - 128 + 128 * n) % 128 + 128 = c.toNat by omega,h5]
          simp
theorem rdN_cut : ∀ f i acc n p q,uvarF f n = p ++ q → q ≠ [] → rdN (f + 1) i acc p = .error 41 := by
  intro f
  induction f with
  | zero =>
    intro i acc n p q h hq
    match p with
    | [] => rfl
    | c :: p =>
      simp [uvarF] at h
      exact absurd h.2.2 hq
  | succ f ih =>
    intro i acc n p q h hq
    match p with
    | [] => rfl
    | c :: p =>
      unfold uvarF at h
      split at h
      · simp at h
        exact absurd h.2.2 hq
      · simp only [List.cons_append,List.cons.injEq] at h
        obtain ⟨rfl,h⟩ := h
        have h1 : (UInt8.ofNat (n % 128 + 128)).toNat = n % 128 + 128 := by simp; omega
        rw [rdN,h1,if_neg (by omega)]
        exact ih _ _ _ _ _ h hq
theorem codec_U : Codec rdU uvar (fun n => n < 18446744073709551616) where
  fwd := fun n r h => by
    have := rdN_fwd 9 0 0 n r rfl (by simpa using h) (by simp)
    simpa [rdU,uvar] using this
  bwd := fun b m r h => by
    obtain ⟨n,h1,h2,_,h3⟩ := rdN_bwd 9 0 0 b m r rfl h
    obtain rfl : m = n := by simpa using h1
    exact ⟨by simpa using h2,h3⟩
  cut := fun n p q _ h hq => rdN_cut 9 0 0 n p q h hq
def zig (n : Int) : Nat := if 0 ≤ n then 2 * n.toNat else 2 * (-(n + 1)).toNat + 1
def zag (m : Nat) : Int := if m % 2 = 0 then (m / 2 : Nat) else -((m / 2 : Nat) : Int) - 1
theorem zag_zig (n : Int) : zag (zig n) = n := by
  unfold zag zig
  split <;> split <;> omega
theorem zig_zag (m : Nat) : zig (zag m) = m := by
  unfold zag zig
  split <;> split <;> omega
def rdI : Rd Int := rdU.map zag
theorem codec_I : Codec rdI (fun n => uvar (zig n)) (fun n => zig n < 18446744073709551616) := codec_U.map zag zig zig_zag (fun n _ => zag_zig n)
def rdTake (n : Nat) : Rd Bytes := fun b => if b.length < n then .error 41 else .ok (b.take n,b.drop n)
theorem codec_take (n : Nat) : Codec (rdTake n) id (fun s => s.length = n) where
  fwd := fun s r h => by
    subst h
    unfold rdTake
    rw [if_neg (by simp)]
    simp
  bwd := fun b s r h => by
    unfold rdTake at h
    split at h
    · cases h
    · injection h with h
      injection h with h1 h2
      subst h1 h2
      refine ⟨by simp; omega,by simp⟩
  cut := fun s p q h h1 hq => by
    subst h
    unfold rdTake
    rw [if_pos]
    have h2 : s = p ++ q := h1
    have : 0 < q.length := List.length_pos_iff.2 hq
    simp [h2]
    omega
def textE (s : Bytes) : Bytes := uvar s.length ++ s
def rdT : Rd Bytes := rdU.bind rdTake
theorem codec_T : Codec rdT textE (fun s => s.length < 18446744073709551616) where
  fwd := fun s r h => by
    unfold rdT Rd.bind textE
    rw [List.append_assoc,codec_U.fwd _ _ h]
    exact (codec_take s.length).fwd s r rfl
  bwd := fun b s r h => by
    unfold rdT Rd.bind at h
    split at h
    · cases h
    · rename_i n r1 h1
      obtain ⟨h2,h3⟩ := codec_U.bwd _ _ _ h1
      obtain ⟨h4,h5⟩ := (codec_take n).bwd _ _ _ h
      subst h4
      exact ⟨h2,by rw [h3,h5,textE,List.append_assoc]; rfl⟩
  cut := fun s p q h h1 hq => by
    unfold rdT Rd.bind
    rcases cut_parts h1 hq with ⟨q',h6,h7⟩ | ⟨p',h6,h7⟩
    · rw [codec_U.cut _ _ _ h h6 h7]
    · rw [h6,codec_U.fwd _ _ h]
      exact (codec_take s.length).cut s p' q rfl h7 hq
end Go.V
