/- Frames, values and datasets as bytes: what is encoded is read back, and nothing else; a part of it is too short. No program in sight. -/
import Derived.Test.YtdjdhecanjmchaaGreatDoorE1
import Derived.Test.YtdjdhecanjmchaaGreatDoorP8
set_option linter.unusedSimpArgs false
set_option linter.unusedVariables false
namespace Go.Proofs.YtdjdhecanjmchaaGreatDoor
open Go Go.V Go.Lib
set_option maxRecDepth 40000
theorem Codec.of_eq {α : Type} {rd rd' : Rd α} {en en' : α → Bytes} {ok ok' : α → Prop} (h : Codec rd en ok) (hrd : ∀ b,rd' b = rd b) (hen : ∀ a,ok a → en' a = en a) (hok : ∀ a,ok' a ↔ ok a) : Codec rd' en' ok' where
  fwd := fun a r h1 => by rw [hrd,hen _ ((hok a).1 h1)]; exact h.fwd _ _ ((hok a).1 h1)
  bwd := fun b a r h1 => by
    rw [hrd] at h1
    obtain ⟨h2,h3⟩ := h.bwd _ _ _ h1
    exact ⟨(hok a).2 h2,by rw [hen _ h2]; exact h3⟩
  cut := fun a p q h1 h2 hq => by
    rw [hrd]
    exact h.cut a p q ((hok a).1 h1) (by rw [← hen _ ((hok a).1 h1)]; exact h2) hq
def byteOf (z : Int) : UInt8 := UInt8.ofNat (IntKind.u8.wrap z).toNat
def sumB (p : Bytes) : Bytes := [byteOf (crcX 0 p),byteOf (ishr .u32 (crcX 0 p) 8),byteOf (ishr .u32 (crcX 0 p) 16),byteOf (ishr .u32 (crcX 0 p) 24)]
theorem sumB_len (p : Bytes) : (sumB p).length = 4 := rfl
def frameE (p : Bytes) : Bytes := uvar p.length ++ (p ++ sumB p)
def rdF : Rd Bytes := fun b => match rdU b with
  | .error e => .error e
  | .ok (n,r) => if 8192 < n then .error 2 else if r.length < n + 4 then .error 41 else if (r.drop n).take 4 = sumB (r.take n) then .ok (r.take n,r.drop (n + 4)) else .error 40
theorem codec_F : Codec rdF frameE (fun p => p.length ≤ 8192) where
  fwd := fun p r h => by
    unfold rdF frameE
    rw [List.append_assoc,codec_U.fwd _ _ (by omega)]
    have h4 := sumB_len p
    simp only
    rw [if_neg (by omega),if_neg (by simp [h4])]
    rw [List.append_assoc,List.drop_left,List.take_left,show 4 = (sumB p).length from rfl,List.take_left,if_pos rfl,← List.append_assoc,show p.length + (sumB p).length = (p ++ sumB p).length by simp,List.drop_left]
  bwd := fun b p r h => by
    unfold rdF at h
    split at h
    · cases h
    · rename_i n r1 h1
      obtain ⟨h2,h3⟩ := codec_U.bwd _ _ _ h1
      split at h
      · cases h
      · split at h
        · cases h
        · split at h
          · rename_i h4 h5 h6
            injection h with h
            injection h with h7 h8
            subst h7 h8
            have hl : (r1.take n).length = n := by simp; omega
            refine ⟨by omega,?_⟩
            rw [h3,frameE,hl,List.append_assoc,List.append_assoc]
            congr 1
            rw [← h6,← List.drop_drop,List.take_append_drop,List.take_append_drop]
          · cases h
  cut := fun p x q h h1 hq => by
    unfold rdF
    rcases cut_parts h1 hq with ⟨q',h6,h7⟩ | ⟨p',h6,h7⟩
    · rw [codec_U.cut _ _ _ (by omega) h6 h7]
    · rw [h6,codec_U.fwd _ _ (by omega)]
      simp only
      have h8 := congrArg List.length h7
      have : 0 < q.length := List.length_pos_iff.2 hq
      simp [sumB_len] at h8
      rw [if_neg (by omega),if_pos (by omega)]
def rdIn {α : Type} (rd : Rd α) : Rd α := fun b => match rdF b with
  | .error e => .error e
  | .ok (p,r) => match rd p with
    | .error e => .error e
    | .ok (a,[]) => .ok (a,r)
    | .ok (_,_ :: _) => .error 3
theorem codec_in {α : Type} {rd : Rd α} {en : α → Bytes} {ok : α → Prop} (h : Codec rd en ok) : Codec (rdIn rd) (fun a => frameE (en a)) (fun a => ok a ∧ (en a).length ≤ 8192) where
  fwd := fun a r ⟨h1,h2⟩ => by
    unfold rdIn
    rw [codec_F.fwd _ _ h2]
    simp only
    have := h.fwd a [] h1
    rw [List.append_nil] at this
    rw [this]
  bwd := fun b a r h1 => by
    unfold rdIn at h1
    split at h1
    · cases h1
    · rename_i p r1 h2
      obtain ⟨h3,h4⟩ := codec_F.bwd _ _ _ h2
      split at h1
      · cases h1
      · rename_i x h5
        injection h1 with h1
        injection h1 with h6 h7
        subst h6 h7
        obtain ⟨h8,h9⟩ := h.bwd _ _ _ h5
        rw [List.append_nil] at h9
        subst h9
        exact ⟨⟨h8,h3⟩,h4⟩
      · cases h1
  cut := fun a p q ⟨h1,h2⟩ h3 hq => by
    unfold rdIn
    rw [codec_F.cut _ _ _ h2 h3 hq]
def valE (v : Val) : Bytes := UInt8.ofNat v.kd.toNat :: (if v.kd = 1 then [UInt8.ofNat v.n.toNat] else if v.kd = 2 ∨ v.kd = 3 then uvar (zig v.n) else if v.kd = 4 ∨ v.kd = 5 then textE v.s else [])
def chk0 (v : Val) (r : Bytes) : Except Int (Val × Bytes) := if chkR v = 0 then .ok (v,r) else .error (chkR v)
def rdV : Rd Val := fun b => match b with
  | [] => .error 41
  | c :: r =>
    if c.toNat = 0 then chk0 ⟨0,0,[]⟩ r
    else if c.toNat = 1 then (match r with
      | [] => .error 41
      | d :: r => if 1 < d.toNat then .error 3 else chk0 ⟨1,d.toNat,[]⟩ r)
    else if c.toNat = 2 ∨ c.toNat = 3 then (match rdI r with
      | .error e => .error e
      | .ok (n,r) => chk0 ⟨c.toNat,n,[]⟩ r)
    else if c.toNat = 4 ∨ c.toNat = 5 then (match rdT r with
      | .error e => .error e
      | .ok (s,r) => chk0 ⟨c.toNat,0,s⟩ r)
    else .error 3
theorem chk_of {v : Val} (h : chkR v = 0) : fieldsB v = true ∧ rangeB v.n = true ∧ (v.kd = 4 → v.s.length ≤ 64) ∧ (v.kd = 5 → v.s.length ≤ 32) := by
  unfold chkR at h
  split at h
  · cases h
  · split at h
    · cases h
    · rename_i h1 h2
      simp at h1 h2
      exact ⟨h1,by simpa using h2.1.1,fun e => by have := h2.1.2 e; omega,fun e => by have := h2.2 e; omega⟩
theorem chk0_ok {v w : Val} {r r' : Bytes} (h : chk0 v r = .ok (w,r')) : v = w ∧ r = r' ∧ chkR v = 0 := by
  unfold chk0 at h
  split at h
  · rename_i h1
    injection h with h
    injection h with h2 h3
    exact ⟨h2,h3,h1⟩
  · cases h
theorem zig_range {n : Int} (h : rangeB n = true) : zig n < 18446744073709551616 := by
  simp [rangeB] at h
  unfold zig
  split <;> omega
theorem u8_of (c : UInt8) : UInt8.ofNat ((c.toNat : Int)).toNat = c := by simp
theorem codec_V : Codec rdV valE (fun v => chkR v = 0) where
  fwd := fun v r h => by
    obtain ⟨h1,h2,h3,h4⟩ := chk_of h
    obtain ⟨kd,n,s⟩ := v
    simp only at h2 h3 h4
    unfold fieldsB at h1
    simp only at h1
    split at h1
    · rename_i hk
      subst hk
      simp at h1
      obtain ⟨rfl,rfl⟩ := h1
      simp [rdV,valE,chk0,h]
    · split at h1
      · rename_i hk
        subst hk
        simp at h1
        obtain ⟨h1,rfl⟩ := h1
        rcases h1 with rfl | rfl <;> simp [rdV,valE,chk0,h]
      · split at h1
        · rename_i hk
          simp at h1
          subst h1
          have hz := codec_I.fwd n r (zig_range h2)
          rcases hk with rfl | rfl <;> simp [rdV,valE,chk0,h,hz]
        · split at h1
          · rename_i hk
            simp at h1
            subst h1
            have hz := codec_T.fwd s r (by rcases hk with rfl | rfl <;> simp at h3 h4 <;> omega)
            rcases hk with rfl | rfl <;> simp [rdV,valE,chk0,h,hz]
          · cases h1
  bwd := fun b v r h => by
    unfold rdV at h
    split at h
    · cases h
    · rename_i c b
      split at h
      · rename_i hc
        obtain ⟨rfl,rfl,h1⟩ := chk0_ok h
        refine ⟨h1,?_⟩
        have : c = 0 := UInt8.toNat_inj.1 hc
        subst this
        rfl
      · split at h
        · rename_i hc
          split at h
          · cases h
          · rename_i d r
            split at h
            · cases h
            · obtain ⟨rfl,rfl,h1⟩ := chk0_ok h
              refine ⟨h1,?_⟩
              have : c = 1 := UInt8.toNat_inj.1 hc
              subst this
              simp [valE]
        · split at h
          · rename_i hc
            split at h
            · cases h
            · rename_i n r1 h2
              obtain ⟨h3,h4⟩ := codec_I.bwd _ _ _ h2
              obtain ⟨rfl,rfl,h1⟩ := chk0_ok h
              refine ⟨h1,?_⟩
              subst h4
              have e1 : ((c.toNat : Int)) ≠ 1 := by omega
              have e2 : ((c.toNat : Int)) = 2 ∨ ((c.toNat : Int)) = 3 := by omega
              simp only [valE,e1,e2,if_true,if_false,u8_of,List.cons_append]
          · split at h
            · rename_i hc
              split at h
              · cases h
              · rename_i n r1 h2
                obtain ⟨h3,h4⟩ := codec_T.bwd _ _ _ h2
                obtain ⟨rfl,rfl,h1⟩ := chk0_ok h
                refine ⟨h1,?_⟩
                subst h4
                have e1 : ((c.toNat : Int)) ≠ 1 := by omega
                have e2 : ¬ (((c.toNat : Int)) = 2 ∨ ((c.toNat : Int)) = 3) := by omega
                have e3 : ((c.toNat : Int)) = 4 ∨ ((c.toNat : Int)) = 5 := by omega
                simp only [valE,e1,e2,e3,if_true,if_false,u8_of,List.cons_append]
            · cases h
  cut := fun v p q h h1 hq => by
    obtain ⟨h2,h3,h4,h5⟩ := chk_of h
    match p with
    | [] => rfl
    | c :: p =>
      obtain ⟨kd,n,s⟩ := v
      simp only at h3 h4 h5
      unfold valE at h1
      simp only [List.cons_append,List.cons.injEq] at h1
      obtain ⟨hc,h1⟩ := h1
      subst hc
      unfold fieldsB at h2
      simp only at h2
      split at h2
      · rename_i hk
        subst hk
        simp at h1
        exact absurd h1.2 hq
      · split at h2
        · rename_i hk
          subst hk
          simp at h1
          match p with
          | [] => simp [rdV]
          | d :: p =>
            simp at h1
            exact absurd h1.2.2 hq
        · split at h2
          · rename_i hk0 hk1 hk
            have e1 : kd ≠ 1 := by omega
            simp only [e1,hk,if_true,if_false] at h1
            have hz := codec_I.cut n p q (zig_range h3) h1 hq
            rcases hk with rfl | rfl <;> simp [rdV,hz]
          · split at h2
            · rename_i hk0 hk1 hk2 hk
              have e1 : kd ≠ 1 := by omega
              simp only [e1,hk2,hk,if_true,if_false] at h1
              have hz := codec_T.cut s p q (by rcases hk with rfl | rfl <;> simp at h4 h5 <;> omega) h1 hq
              rcases hk with rfl | rfl <;> simp [rdV,hz]
            · cases h2
def rdMany (most : Nat) : Rd Nat := rdU.only (fun n => decide (n ≤ most)) 3
theorem codec_many (most : Nat) : Codec (rdMany most) uvar (fun n => n < 18446744073709551616 ∧ decide (n ≤ most) = true) := codec_U.only _ _
abbrev HeadT := Bytes × Nat × List Bytes × Nat
def rdHead : Rd HeadT := rdT.pair fun _ => (rdMany 8).pair fun c => (rdT.rep c).pair fun _ => rdMany 256
def headE (h : HeadT) : Bytes := textE h.1 ++ (uvar h.2.1 ++ (h.2.2.1.flatMap textE ++ uvar h.2.2.2))
def HeadOK (h : HeadT) : Prop := h.1.length < 18446744073709551616 ∧ (h.2.1 < 18446744073709551616 ∧ decide (h.2.1 ≤ 8) = true) ∧ (h.2.2.1.length = h.2.1 ∧ ∀ s ∈ h.2.2.1,s.length < 18446744073709551616) ∧ (h.2.2.2 < 18446744073709551616 ∧ decide (h.2.2.2 ≤ 256) = true)
theorem codec_head : Codec rdHead headE HeadOK :=
  codec_T.pair fun _ _ => (codec_many 8).pair fun c _ => (codec_T.rep c).pair fun _ _ => codec_many 256
def rdLine (c : Nat) : Rd Exa := (rdT.pair fun _ => rdI.pair fun _ => rdI.pair fun _ => rdV.rep c).map fun x => ⟨⟨x.1,x.2.1,x.2.2.1⟩,x.2.2.2⟩
def lineE (x : Exa) : Bytes := textE x.lab.k ++ (uvar (zig x.lab.e) ++ (uvar (zig x.lab.n) ++ x.vs.flatMap valE))
def LineOK (c : Nat) (x : Exa) : Prop := x.lab.k.length < 18446744073709551616 ∧ zig x.lab.e < 18446744073709551616 ∧ zig x.lab.n < 18446744073709551616 ∧ x.vs.length = c ∧ ∀ v ∈ x.vs,chkR v = 0
theorem codec_line (c : Nat) : Codec (rdLine c) lineE (LineOK c) :=
  (codec_T.pair fun _ _ => codec_I.pair fun _ _ => codec_I.pair fun _ _ => codec_V.rep c).map _ (fun x : Exa => (x.lab.k,x.lab.e,x.lab.n,x.vs)) (fun _ => rfl) (fun _ _ => rfl)
abbrev hd (d : Dset) : HeadT := (d.ent,d.fs.length,d.fs,d.xs.length)
def rdDset : Rd Dset := ((rdIn rdHead).pair fun h => (rdIn (rdLine h.2.1)).rep h.2.2.2).map fun x => ⟨x.1.1,x.1.2.2.1,x.2⟩
def encB (d : Dset) : Bytes := frameE (headE (hd d)) ++ d.xs.flatMap fun x => frameE (lineE x)
def DsetOK (d : Dset) : Prop := (HeadOK (hd d) ∧ (headE (hd d)).length ≤ 8192) ∧ ∀ x ∈ d.xs,LineOK d.fs.length x ∧ (lineE x).length ≤ 8192
theorem codec_dset : Codec rdDset encB DsetOK where
  fwd := fun d r ⟨h1,h2⟩ => by
    have := ((codec_in codec_head).pair fun h _ => (codec_in (codec_line h.2.1)).rep h.2.2.2).fwd (hd d,d.xs) r ⟨h1,rfl,h2⟩
    unfold rdDset Rd.map
    unfold encB
    rw [this]
  bwd := fun b d r h => by
    unfold rdDset Rd.map at h
    split at h
    · cases h
    · rename_i x r1 h1
      injection h with h
      injection h with h2 h3
      subst h2 h3
      obtain ⟨⟨⟨h4,h5⟩,h6,h7⟩,h8⟩ := ((codec_in codec_head).pair fun h _ => (codec_in (codec_line h.2.1)).rep h.2.2.2).bwd _ _ _ h1
      obtain ⟨⟨ent,c,fs,m⟩,xs⟩ := x
      obtain ⟨_,_,⟨h9,_⟩,_⟩ := id h4
      simp only at h9 h6 h4 h5 h7 h8
      subst h9 h6
      exact ⟨⟨⟨h4,h5⟩,h7⟩,h8⟩
  cut := fun d p q ⟨h1,h2⟩ h3 hq => by
    have := ((codec_in codec_head).pair fun h _ => (codec_in (codec_line h.2.1)).rep h.2.2.2).cut (hd d,d.xs) p q ⟨h1,rfl,h2⟩ h3 hq
    unfold rdDset Rd.map
    rw [this]
def decB (b : Bytes) : Except Int Dset := match rdDset b with
  | .error e => .error e
  | .ok (d,[]) => if formB d then .ok d else .error 3
  | .ok (_,_ :: _) => .error 3
theorem uvar_le (n : Nat) : (uvar n).length ≤ 10 := (uvar_len n).2
theorem flat_len {α : Type} (f : α → Bytes) (k : Nat) : ∀ l : List α,(∀ x ∈ l,(f x).length ≤ k) → (l.flatMap f).length ≤ l.length * k
  | [],_ => by simp
  | x :: l,h => by
    have h1 := flat_len f k l fun y hy => h y (List.mem_cons_of_mem _ hy)
    have h2 := h x List.mem_cons_self
    simp only [List.flatMap_cons,List.length_append,List.length_cons,Nat.succ_mul]
    omega
theorem valE_len {v : Val} (h : chkR v = 0) : (valE v).length ≤ 75 := by
  obtain ⟨h1,h2,h3,h4⟩ := chk_of h
  have h5 := uvar_le (zig v.n)
  have h6 := uvar_le v.s.length
  unfold valE textE
  split
  · simp
  · split
    · simp; omega
    · split
      · rename_i h7
        simp only [List.length_cons,List.length_append]
        rcases h7 with h7 | h7
        · have := h3 h7; omega
        · have := h4 h7; omega
      · simp
theorem featsF_mem (fs : List Bytes) : ∀ (l : List Bytes) (i : Nat),featsFrom fs i l = true → ∀ f ∈ l,nameB f = true
  | [],_,_ => by simp
  | g :: l,i,h => by
    simp only [featsFrom,Bool.and_eq_true] at h
    intro f hf
    rcases List.mem_cons.1 hf with rfl | hf
    · exact h.1
    · exact featsF_mem fs l _ h.2.2 f hf
theorem name_len {s : Bytes} (h : nameB s = true) : s.length ≤ 24 := by
  simp only [nameB,Bool.and_eq_true,decide_eq_true_eq] at h
  exact h.1.1.2
theorem exsB_all (n : Nat) : ∀ (xs : List Exa) (p : Option Lab),exsB n p xs = true → ∀ x ∈ xs,labB x.lab = true ∧ x.vs.length = n ∧ ∀ v ∈ x.vs,chkR v = 0
  | [],_,_ => by simp
  | y :: ys,p,h => by
    simp only [exsB,Bool.and_eq_true,decide_eq_true_eq,valsB,List.all_eq_true,beq_iff_eq] at h
    intro x hx
    rcases List.mem_cons.1 hx with rfl | hx
    · exact ⟨h.1,h.2.1,h.2.2.2.1⟩
    · exact exsB_all n ys _ h.2.2.2.2 x hx
theorem tick_zig {n : Int} (h : tickB n = true) : zig n < 18446744073709551616 := by
  simp only [tickB,Bool.and_eq_true,decide_eq_true_eq] at h
  unfold zig
  split <;> omega
theorem formB_ok {d : Dset} (h : formB d = true) : DsetOK d := by
  simp only [formB,Bool.and_eq_true,decide_eq_true_eq] at h
  obtain ⟨h1,h2,h3,h4,h5,h6⟩ := h
  have h7 := name_len h1
  have h8 := featsF_mem d.fs d.fs 0 h5
  refine ⟨⟨⟨by show d.ent.length < _; omega,⟨by show d.fs.length < _; omega,by simpa using h3⟩,⟨rfl,fun s hs => by have := name_len (h8 s hs); omega⟩,by show d.xs.length < _; omega,by simpa using h4⟩,?_⟩,fun x hx => ?_⟩
  · have h9 := flat_len textE 34 d.fs fun f hf => by
      have := name_len (h8 f hf)
      have := uvar_le f.length
      simp only [textE,List.length_append]
      omega
    have h10 : d.fs.length * 34 ≤ 8 * 34 := Nat.mul_le_mul_right _ h3
    have := uvar_le d.ent.length
    have := uvar_le d.fs.length
    have := uvar_le d.xs.length
    simp only [headE,textE,List.length_append] at h9 ⊢
    omega
  · obtain ⟨h9,h10,h11⟩ := exsB_all _ _ _ h6 x hx
    simp only [labB,keyR,Bool.and_eq_true,decide_eq_true_eq] at h9
    obtain ⟨⟨_,_,h12⟩,h13,h14⟩ := h9
    refine ⟨⟨by omega,tick_zig h13,tick_zig h14,h10,h11⟩,?_⟩
    have h15 := flat_len valE 75 x.vs fun v hv => valE_len (h11 v hv)
    have h16 : x.vs.length * 75 ≤ 8 * 75 := Nat.mul_le_mul_right _ (by omega)
    have := uvar_le x.lab.k.length
    have := uvar_le (zig x.lab.e)
    have := uvar_le (zig x.lab.n)
    simp only [lineE,textE,List.length_append]
    omega
theorem dec_enc {d : Dset} (h : formB d = true) : decB (encB d) = .ok d := by
  have := codec_dset.fwd d [] (formB_ok h)
  rw [List.append_nil] at this
  unfold decB
  rw [this]
  simp only [h,if_true]
theorem dec_cut {d : Dset} (h : formB d = true) {n : Nat} (hn : n < (encB d).length) : decB ((encB d).take n) = .error 41 := by
  have := codec_dset.cut d ((encB d).take n) ((encB d).drop n) (formB_ok h) (by simp) (by simp; omega)
  unfold decB
  rw [this]
theorem enc_dec {b : Bytes} {d : Dset} (h : decB b = .ok d) : formB d = true ∧ encB d = b := by
  unfold decB at h
  split at h
  · cases h
  · rename_i x h1
    split at h
    · rename_i h2
      injection h with h
      subst h
      obtain ⟨_,h3⟩ := codec_dset.bwd _ _ _ h1
      rw [List.append_nil] at h3
      exact ⟨h2,h3.symm⟩
    · cases h
  · cases h
end Go.Proofs.YtdjdhecanjmchaaGreatDoor
