/- Plain law: of two datasets that part in one value, exactly that example differs. -/
import Derived.Test.YtdjdhecanjmchaaGreatDoorE2
import Derived.Test.YtdjdhecanjmchaaGreatDoorP3
set_option linter.unusedSimpArgs false
set_option linter.unusedVariables false
namespace Go.Proofs.YtdjdhecanjmchaaGreatDoor
open Go Go.V Go.Lib
set_option maxRecDepth 40000
theorem list_at {α : Type} : ∀ {l : List α} {i : Nat} {x : α},l[i]? = some x → ∃ p q,l = p ++ x :: q ∧ p.length = i
  | a :: l,0,x,h => by
    simp at h
    subst h
    exact ⟨[],l,rfl,rfl⟩
  | a :: l,i + 1,x,h => by
    obtain ⟨p,q,h1,h2⟩ := list_at (l := l) (i := i) (x := x) (by simpa using h)
    exact ⟨a :: p,q,by rw [h1]; rfl,by simp [h2]⟩
theorem exsB_swap (k : Nat) {x y : Exa} (hl : y.lab = x.lab) (q : List Exa) : ∀ (p : List Exa) (o : Option Lab),exsB k o (p ++ x :: q) = true → exsB k o (p ++ y :: q) = (decide (y.vs.length = k) && valsB y.vs)
  | [],o,h => by
    simp only [List.nil_append,exsB,Bool.and_eq_true] at h ⊢
    obtain ⟨h1,h2,h3,h4,h5⟩ := h
    rw [hl,h1,h3,h5]
    simp
  | z :: p,o,h => by
    simp only [List.cons_append,exsB,Bool.and_eq_true] at h ⊢
    obtain ⟨h1,h2,h3,h4,h5⟩ := h
    rw [exsB_swap k hl q p _ h5,h1,h2,h3,h4]
    simp
theorem difI_same : ∀ (i : Nat) (l : List Exa),difI i l l = []
  | _,[] => rfl
  | i,x :: l => by rw [difI,if_pos (by simp),difI_same]
theorem difI_one {x y : Exa} (q : List Exa) : ∀ (i : Nat) (p : List Exa),difI i (p ++ x :: q) (p ++ y :: q) = if x.vs == y.vs then [] else [((i + p.length : Nat) : Int)]
  | i,[] => by
    rw [List.nil_append,List.nil_append,difI,difI_same]
    rfl
  | i,z :: p => by
    rw [List.cons_append,List.cons_append,difI,if_pos (by simp),difI_one q (i + 1) p,List.length_cons,show i + 1 + p.length = i + (p.length + 1) by omega]
theorem difL_self {d : Dset} (h : formB d = true) : difAV d d = .tup [.sl 1 [] .unk,.int .i64 0] := by
  simp [difAV,difL,difE,difB,h,difI_same]
theorem valsB_one {p q : List Val} {u v : Val} (h : valsB (p ++ u :: q) = true) : valsB (p ++ v :: q) = (chkR v == 0) := by
  simp only [valsB,List.all_append,List.all_cons,Bool.and_eq_true] at h ⊢
  obtain ⟨h1,h2,h3⟩ := h
  rw [h1,h3]
  simp
section one
variable {ent : Bytes} {fs : List Bytes} {lab : Lab} {xp xq : List Exa} {vp vq : List Val} {u v : Val}
abbrev dat (ent : Bytes) (fs : List Bytes) (lab : Lab) (xp xq : List Exa) (vp vq : List Val) (v : Val) : Dset := ⟨ent,fs,xp ++ ⟨lab,vp ++ v :: vq⟩ :: xq⟩
theorem form_one (h : formB (dat ent fs lab xp xq vp vq u) = true) : formB (dat ent fs lab xp xq vp vq v) = (chkR v == 0) := by
  simp only [formB,Bool.and_eq_true] at h ⊢
  obtain ⟨h1,h2,h3,h4,h5,h6⟩ := h
  have h7 := exsB_all _ _ _ h6 ⟨lab,vp ++ u :: vq⟩ (by simp)
  have h8 : valsB (vp ++ u :: vq) = true := by
    unfold valsB
    rw [List.all_eq_true]
    intro w hw
    simpa using h7.2.2 w hw
  have h9 : decide ((xp ++ (⟨lab,vp ++ v :: vq⟩ : Exa) :: xq).length ≤ 256) = true := by simpa using h4
  have h10 : decide ((vp ++ v :: vq).length = fs.length) = true := by
    have := h7.2.1
    simp only [List.length_append,List.length_cons] at this ⊢
    exact decide_eq_true this
  rw [exsB_swap fs.length (x := ⟨lab,vp ++ u :: vq⟩) (y := ⟨lab,vp ++ v :: vq⟩) rfl xq xp none h6,h1,h2,h3,h5,h9,valsB_one h8]
  simp only [h10,Bool.true_and]
theorem one_beq : ((vp ++ u :: vq) == (vp ++ v :: vq)) = (u == v) := by
  rw [Bool.eq_iff_iff]
  simp
theorem dif_one (h : formB (dat ent fs lab xp xq vp vq u) = true) (hv : formB (dat ent fs lab xp xq vp vq v) = true) :
    difAV (dat ent fs lab xp xq vp vq u) (dat ent fs lab xp xq vp vq v) = .tup [.sl 1 (if u == v then [] else [.int .i64 (xp.length : Int)]) .unk,.int .i64 0] := by
  have hb : difB (dat ent fs lab xp xq vp vq u) (dat ent fs lab xp xq vp vq v) = true := by simp [difB,h,hv]
  simp only [difAV,difL,difE,hb,if_true,difI_one,one_beq,Nat.zero_add]
  split <;> rfl
theorem dif_none (hv : formB (dat ent fs lab xp xq vp vq v) = false) : difAV (dat ent fs lab xp xq vp vq u) (dat ent fs lab xp xq vp vq v) = .tup [.sl 1 [] .unk,.int .i64 1] ∧ difAV (dat ent fs lab xp xq vp vq v) (dat ent fs lab xp xq vp vq u) = .tup [.sl 1 [] .unk,.int .i64 1] := by
  constructor <;> simp [difAV,difL,difE,difB,hv]
theorem enc_one (h : formB (dat ent fs lab xp xq vp vq u) = true) (hv : formB (dat ent fs lab xp xq vp vq v) = true) : (encB (dat ent fs lab xp xq vp vq u) == encB (dat ent fs lab xp xq vp vq v)) = (u == v) := by
  rw [Bool.eq_iff_iff]
  simp only [beq_iff_eq]
  constructor
  · intro e
    have h1 := dec_enc h
    rw [e,dec_enc hv] at h1
    injection h1 with h1
    simp at h1
    exact h1.symm
  · intro e
    rw [e]
end one
end Go.Proofs.YtdjdhecanjmchaaGreatDoor
