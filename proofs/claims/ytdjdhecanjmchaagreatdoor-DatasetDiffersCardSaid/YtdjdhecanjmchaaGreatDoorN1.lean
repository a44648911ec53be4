/- Plain law: an inverted bit is found. -/
import Derived.Test.YtdjdhecanjmchaaGreatDoorD1
import Derived.Test.YtdjdhecanjmchaaGreatDoorE2
set_option linter.unusedSimpArgs false
set_option linter.unusedVariables false
namespace Go.Proofs.YtdjdhecanjmchaaGreatDoor
open Go Go.V Go.Lib
set_option maxRecDepth 40000
theorem poly_top : ∀ a : BitVec 32,((a >>> 1) ^^^ 3988292384#32).getLsbD 31 = true := fun a => by
  rw [BitVec.getLsbD_xor,BitVec.getLsbD_ushiftRight]
  have : a.getLsbD (1 + 31) = false := BitVec.getLsbD_of_ge _ _ (by decide)
  rw [this]
  rfl
theorem shr_top : ∀ a : BitVec 32,(a >>> 1).getLsbD 31 = false := fun a => by
  rw [BitVec.getLsbD_ushiftRight]
  exact BitVec.getLsbD_of_ge _ _ (by decide)
theorem shr_inj {a b : BitVec 32} (h0 : a.getLsbD 0 = b.getLsbD 0) (h : a >>> 1 = b >>> 1) : a = b := by
  apply BitVec.eq_of_toNat_eq
  have h1 := congrArg BitVec.toNat h
  rw [BitVec.toNat_ushiftRight,BitVec.toNat_ushiftRight,Nat.shiftRight_eq_div_pow,Nat.shiftRight_eq_div_pow] at h1
  rw [lsb_mod,lsb_mod,Bool.eq_iff_iff] at h0
  simp only [decide_eq_true_eq] at h0
  omega
theorem stepB_inj {a b : BitVec 32} (h : stepB a = stepB b) : a = b := by
  unfold stepB at h
  cases ha : a.getLsbD 0 <;> cases hb : b.getLsbD 0 <;> simp only [ha,hb,Bool.false_eq_true,if_true,if_false] at h
  · exact shr_inj (ha.trans hb.symm) h
  · have := congrArg (fun x : BitVec 32 => x.getLsbD 31) h
    simp only [poly_top,shr_top] at this
    cases this
  · have := congrArg (fun x : BitVec 32 => x.getLsbD 31) h
    simp only [poly_top,shr_top] at this
    cases this
  · have := congrArg (fun x : BitVec 32 => x ^^^ 3988292384#32) h
    simp only [BitVec.xor_assoc,BitVec.xor_self,BitVec.xor_zero] at this
    exact shr_inj (ha.trans hb.symm) this
theorem stepN_inj : ∀ n {a b : BitVec 32},stepN n a = stepN n b → a = b
  | 0,_,_,h => h
  | n + 1,_,_,h => stepB_inj (stepN_inj n h)
def regB : BitVec 32 → Bytes → BitVec 32
  | a,[] => a
  | a,x :: b => regB (stepN 8 (a ^^^ BitVec.ofNat 32 x.toNat)) b
theorem regB_append : ∀ (b c : Bytes) (a : BitVec 32),regB a (b ++ c) = regB (regB a b) c
  | [],_,_ => rfl
  | x :: b,c,a => by rw [List.cons_append,regB,regB,regB_append b c]
theorem crcR_regB : ∀ (b : Bytes) (a : BitVec 32),crcR (a.toNat : Int) b = ((regB a b).toNat : Int)
  | [],_ => rfl
  | x :: b,a => by
    have hx := x.toNat_lt
    have ex : ((BitVec.ofNat 32 x.toNat).toNat : Int) = (x.toNat : Int) := by rw [BitVec.toNat_ofNat]; omega
    rw [crcR,← crc_byte,← ex,ixor32,crcN_bits,crcR_regB b,regB]
theorem xor_inj {a b c : BitVec 32} (h : a ^^^ c = b ^^^ c) : a = b := by
  have := congrArg (fun x : BitVec 32 => x ^^^ c) h
  simpa only [BitVec.xor_assoc,BitVec.xor_self,BitVec.xor_zero] using this
theorem regB_inj : ∀ (b : Bytes) {a a' : BitVec 32},regB a b = regB a' b → a = a'
  | [],_,_,h => h
  | _ :: b,_,_,h => xor_inj (stepN_inj 8 (regB_inj b h))
theorem regB_byte {a : BitVec 32} {x y : UInt8} {q : Bytes} (h : regB a (x :: q) = regB a (y :: q)) : x = y := by
  have h1 := stepN_inj 8 (regB_inj q h)
  rw [BitVec.xor_comm a,BitVec.xor_comm a] at h1
  have h2 := congrArg BitVec.toNat (xor_inj h1)
  have hx := x.toNat_lt
  have hy := y.toNat_lt
  rw [BitVec.toNat_ofNat,BitVec.toNat_ofNat] at h2
  exact UInt8.toNat_inj.1 (by omega)
theorem not32_bits (a : BitVec 32) : not32 (a.toNat : Int) = ((4294967295 - a.toNat : Nat) : Int) := by
  have ha := a.isLt
  have h : not32 (a.toNat : Int) = ixor .u32 (((BitVec.allOnes 32).toNat : Nat) : Int) (a.toNat : Int) := rfl
  rw [h,ixor32,BitVec.allOnes_xor,BitVec.toNat_not]
theorem crcX_bits (b : Bytes) : crcX 0 b = ((4294967295 - (regB (BitVec.allOnes 32) b).toNat : Nat) : Int) := by
  have h : not32 0 = (((BitVec.allOnes 32).toNat : Nat) : Int) := by
    rw [show (0 : Int) = (((0#32 : BitVec 32).toNat : Nat) : Int) from rfl,not32_bits]
    rfl
  rw [crcX,h,crcR_regB,not32_bits]
theorem crcX_byte {p q : Bytes} {x y : UInt8} (h : crcX 0 (p ++ x :: q) = crcX 0 (p ++ y :: q)) : x = y := by
  rw [crcX_bits,crcX_bits,regB_append,regB_append] at h
  have h1 := (regB (regB (BitVec.allOnes 32) p) (x :: q)).isLt
  have h2 := (regB (regB (BitVec.allOnes 32) p) (y :: q)).isLt
  refine regB_byte (a := regB (BitVec.allOnes 32) p) (q := q) (BitVec.eq_of_toNat_eq ?_)
  omega
theorem byteOf_nat (n : Nat) : (byteOf (n : Int)).toNat = n % 256 := by
  unfold byteOf
  rw [wrap_u8,show ((n : Int) % 256).toNat = n % 256 by omega,UInt8.toNat_ofNat']
  omega
theorem sumB_inj {p q : Bytes} (h : sumB p = sumB q) : crcX 0 p = crcX 0 q := by
  unfold sumB at h
  rw [crcX_bits,crcX_bits] at h ⊢
  generalize hm : 4294967295 - (regB (BitVec.allOnes 32) p).toNat = m at h ⊢
  generalize hn : 4294967295 - (regB (BitVec.allOnes 32) q).toNat = n at h ⊢
  injection h with h1 h
  injection h with h2 h
  injection h with h3 h
  injection h with h4 _
  rw [ishr_nat _ _ _ (by decide),ishr_nat _ _ _ (by decide)] at h2 h3 h4
  have e1 := congrArg UInt8.toNat h1
  have e2 := congrArg UInt8.toNat h2
  have e3 := congrArg UInt8.toNat h3
  have e4 := congrArg UInt8.toNat h4
  rw [byteOf_nat,byteOf_nat] at e1 e2 e3 e4
  simp only [show (2 : Nat) ^ (8 : Int).toNat = 256 from rfl,show (2 : Nat) ^ (16 : Int).toNat = 65536 from rfl,show (2 : Nat) ^ (24 : Int).toNat = 16777216 from rfl] at e2 e3 e4
  omega
theorem rdF_bad {p s : Bytes} (n : Nat) (hp : p.length = n) (hn : n ≤ 8192) (hs : s.length = 4) (h : s ≠ sumB p) (r : Bytes) : rdF (uvar n ++ (p ++ s) ++ r) = .error 40 := by
  unfold rdF
  rw [List.append_assoc,codec_U.fwd _ _ (by omega)]
  simp only
  rw [if_neg (by omega),if_neg (by simp [hs,hp]),← hp,List.append_assoc,List.drop_left,List.take_left,← hs,List.take_left,if_neg h]
theorem set_ne {α : Type} : ∀ {l : List α} {j : Nat} {x : α},(∀ y,l[j]? = some y → x ≠ y) → j < l.length → l.set j x ≠ l
  | [],_,_,_,h => by simp at h
  | a :: l,0,x,h,_ => fun e => by injection e with e _; exact h a rfl e
  | a :: l,j + 1,x,h,hj => fun e => by injection e with _ e; exact set_ne (l := l) (fun y hy => h y hy) (by simpa using hj) e
theorem set_split {α : Type} : ∀ {l : List α} {j : Nat} (x : α),j < l.length → ∃ p y q,l = p ++ y :: q ∧ l.set j x = p ++ x :: q ∧ p.length = j
  | a :: l,0,x,_ => ⟨[],a,l,rfl,rfl,rfl⟩
  | a :: l,j + 1,x,h => by
    obtain ⟨p,y,q,h1,h2,h3⟩ := set_split (l := l) x (show j < l.length by simpa using h)
    exact ⟨a :: p,y,q,by rw [h1]; rfl,by rw [List.set_cons_succ,h2]; rfl,by simp [h3]⟩
theorem frame_bad {p : Bytes} (hp : p.length ≤ 8192) {j : Nat} (hj : j < p.length + 4) {x : UInt8} (hx : ∀ y,(p ++ sumB p)[j]? = some y → x ≠ y) (r : Bytes) : rdF (uvar p.length ++ (p ++ sumB p).set j x ++ r) = .error 40 := by
  by_cases h : j < p.length
  · rw [List.set_append_left _ _ h]
    refine rdF_bad p.length (by simp) hp rfl (fun e => ?_) r
    obtain ⟨a,y,b,h1,h2,h3⟩ := set_split x h
    have e1 := sumB_inj e
    rw [h2] at e1
    have e2 : crcX 0 (a ++ y :: b) = crcX 0 (a ++ x :: b) := by rw [← h1]; exact e1
    refine hx y ?_ (crcX_byte e2).symm
    rw [List.getElem?_append_left h,h1,List.getElem?_append_right (by omega),← h3]
    simp
  · rw [List.set_append_right _ _ (by omega)]
    refine rdF_bad p.length rfl hp (by simp [sumB_len]) (set_ne (fun y hy => hx y ?_) (by rw [sumB_len]; omega)) r
    rw [List.getElem?_append_right (by omega)]
    exact hy
theorem rep_bad {α : Type} {rd : Rd α} {en : α → Bytes} {ok : α → Prop} (h : Codec rd en ok) {s : Bytes} {e : Int} (hs : rd s = .error e) (k : Nat) : ∀ l : List α,(∀ x ∈ l,ok x) → rd.rep (l.length + (k + 1)) (l.flatMap en ++ s) = .error e
  | [],_ => by
    rw [List.length_nil,Nat.zero_add,List.flatMap_nil,List.nil_append]
    show (rd.bind fun a => (rd.rep k).map fun l => a :: l) s = _
    unfold Rd.bind
    rw [hs]
  | x :: l,hl => by
    rw [List.length_cons,show l.length + 1 + (k + 1) = (l.length + (k + 1)) + 1 by omega,List.flatMap_cons,List.append_assoc]
    show (rd.bind fun a => (rd.rep (l.length + (k + 1))).map fun l => a :: l) _ = _
    unfold Rd.bind Rd.map
    rw [h.fwd x _ (hl x List.mem_cons_self)]
    simp only
    rw [rep_bad h hs k l fun y hy => hl y (List.mem_cons_of_mem _ hy)]
theorem rdIn_bad {α : Type} {rd : Rd α} {s : Bytes} {e : Int} (h : rdF s = .error e) : rdIn rd s = .error e := by
  unfold rdIn
  rw [h]
def frs (d : Dset) : List Bytes := headE (hd d) :: d.xs.map lineE
theorem encB_frs (d : Dset) : encB d = (frs d).flatMap frameE := by
  simp only [encB,frs,List.flatMap_cons,List.flatMap_map]
theorem frs_len {d : Dset} (h : formB d = true) : ∀ p ∈ frs d,p.length ≤ 8192 := by
  obtain ⟨⟨_,h1⟩,h2⟩ := formB_ok h
  intro p hp
  rcases List.mem_cons.1 hp with rfl | hp
  · exact h1
  · obtain ⟨x,hx,rfl⟩ := List.mem_map.1 hp
    exact (h2 x hx).2
theorem dec_bad {d : Dset} (h : formB d = true) {i : Nat} (hi : i ≤ d.xs.length) {s : Bytes} {e : Int} (hs : rdF s = .error e) : decB (((frs d).take i).flatMap frameE ++ s) = .error e := by
  obtain ⟨h1,h2⟩ := formB_ok h
  have key : rdDset (((frs d).take i).flatMap frameE ++ s) = .error e := by
    unfold rdDset Rd.map Rd.pair Rd.bind
    cases i with
    | zero =>
      rw [List.take_zero,List.flatMap_nil,List.nil_append,rdIn_bad hs]
    | succ i =>
      rw [frs,List.take_succ_cons,List.flatMap_cons,List.append_assoc,(codec_in codec_head).fwd (hd d) _ h1]
      simp only
      have hm : List.flatMap frameE (List.take i (List.map lineE d.xs)) = (d.xs.take i).flatMap fun x => frameE (lineE x) := by rw [← List.map_take,List.flatMap_map]
      have hlen : d.xs.length = (d.xs.take i).length + ((d.xs.length - (i + 1)) + 1) := by rw [List.length_take]; omega
      have := rep_bad (codec_in (codec_line d.fs.length)) (rdIn_bad (rd := rdLine d.fs.length) hs) (d.xs.length - (i + 1)) (d.xs.take i) fun x hx => h2 x (List.mem_of_mem_take hx)
      rw [← hlen] at this
      unfold Rd.map
      rw [hm,this]
  unfold decB
  rw [key]
def offs (d : Dset) (i : Nat) : Nat := (((frs d).take i).flatMap frameE).length
theorem frame_len (p : Bytes) : (frameE p).length = (uvar p.length).length + (p.length + 4) := by simp [frameE,sumB_len]
theorem at_frame {d : Dset} {i : Nat} {p : Bytes} (h : (frs d)[i]? = some p) : encB d = ((frs d).take i).flatMap frameE ++ (frameE p ++ ((frs d).drop (i + 1)).flatMap frameE) := by
  rw [encB_frs,← List.flatMap_cons,← List.flatMap_append]
  congr 1
  rw [← drop_some h,List.take_append_drop]
theorem offs_next {d : Dset} {i : Nat} {p : Bytes} (h : (frs d)[i]? = some p) : offs d (i + 1) = offs d i + (frameE p).length := by
  unfold offs
  rw [take_some h,List.flatMap_append,List.length_append]
  simp
theorem rd_frame {d : Dset} (hd : formB d = true) {i : Nat} {p : Bytes} (h : (frs d)[i]? = some p) : rdF ((encB d).drop (offs d i)) = .ok (p,(encB d).drop (offs d (i + 1))) := by
  have hp : p.length ≤ 8192 := frs_len hd p (List.mem_of_getElem? h)
  have e : (encB d).drop (offs d i) = frameE p ++ ((frs d).drop (i + 1)).flatMap frameE := by rw [at_frame h,offs,List.drop_left]
  rw [offs_next h,← List.drop_drop,e,codec_F.fwd _ _ hp,List.drop_left]
theorem damage {d : Dset} (hf : formB d = true) {i : Nat} {p : Bytes} (h : (frs d)[i]? = some p) {j : Nat} (hj : j < p.length + 4) {x : UInt8}
    (hx : ∀ y,(encB d)[offs d (i + 1) - (p.length + 4) + j]? = some y → x ≠ y) : decB ((encB d).set (offs d (i + 1) - (p.length + 4) + j) x) = .error 40 := by
  have hp : p.length ≤ 8192 := frs_len hf p (List.mem_of_getElem? h)
  have hi : i ≤ d.xs.length := by
    have := lt_of_some h
    simp [frs] at this
    omega
  have hk : offs d (i + 1) - (p.length + 4) + j = (((frs d).take i).flatMap frameE).length + ((uvar p.length).length + j) := by
    rw [offs_next h,frame_len,offs]
    omega
  rw [hk] at hx ⊢
  rw [at_frame h] at hx ⊢
  have hl : j < (p ++ sumB p).length := by simp [sumB_len]; exact hj
  have hx2 : ∀ y,(p ++ sumB p)[j]? = some y → x ≠ y := fun y hy => hx y (by
    rw [List.getElem?_append_right (by omega),Nat.add_sub_cancel_left,List.getElem?_append_left (by rw [frame_len]; omega),frameE,List.getElem?_append_right (by omega),Nat.add_sub_cancel_left]
    exact hy)
  rw [List.set_append_right _ _ (by omega),Nat.add_sub_cancel_left,List.set_append_left _ _ (by rw [frame_len]; omega),frameE,List.set_append_right _ _ (by omega),Nat.add_sub_cancel_left]
  exact dec_bad hf hi (frame_bad hp hj hx2 _)
end Go.Proofs.YtdjdhecanjmchaaGreatDoor
