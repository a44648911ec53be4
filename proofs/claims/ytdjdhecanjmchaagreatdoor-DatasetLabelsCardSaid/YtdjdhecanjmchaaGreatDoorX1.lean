/- The examples of the chapter, by computation. -/
import Derived.Test.YtdjdhecanjmchaaGreatDoorVt
import Derived.Test.YtdjdhecanjmchaaGreatDoorP9
set_option linter.unusedSimpArgs false
set_option linter.unusedVariables false
namespace Go.Proofs.YtdjdhecanjmchaaGreatDoor
open Go Go.V Go.Lib
set_option maxRecDepth 40000
variable {gl : List (Nat × List AV)}
def digitsE : Nat → Nat → Bytes
  | 0,_ => []
  | f + 1,u => if u < 10 then [UInt8.ofNat (48 + u)] else digitsE f (u / 10) ++ [UInt8.ofNat (48 + u % 10)]
theorem digitsE_eq : ∀ (f u : Nat),u < 10 ^ f → 1 ≤ f → digitsE f u = decDigits u
  | 0,_,_,h => by omega
  | f + 1,u,h,_ => by
    rw [digitsE,decDigits]
    by_cases h2 : u < 10
    · rw [if_pos h2,dif_pos h2]
    · rw [if_neg h2,dif_neg h2,digitsE_eq f (u / 10) (by rw [Nat.pow_succ] at h; omega) (by
        rcases Nat.eq_zero_or_pos f with rfl | h3
        · simp at h; omega
        · exact h3)]
def strsE : List AV → Option (List Bytes)
  | [] => some []
  | .str s :: l => match strsE l with
    | some r => some (s :: r)
    | none => none
  | _ => none
theorem strsE_ok : ∀ {l : List AV} {r : List Bytes},strsE l = some r → l = r.map .str
  | [],r,h => by simp [strsE] at h; subst h; rfl
  | x :: l,r,h => by
    cases x <;> simp only [strsE] at h <;> first
      | (cases h; done)
      | skip
    split at h
    · rename_i r' h'
      injection h with h
      subst h
      rw [strsE_ok h']; rfl
    · cases h
def valEx : AV → Option Val
  | .agg [.int .i64 k,.int .i64 n,.str s] => some ⟨k,n,s⟩
  | _ => none
theorem valEx_ok {a : AV} {v : Val} (h : valEx a = some v) : a = v.av := by
  unfold valEx at h
  split at h
  · injection h with h; subst h; rfl
  · cases h
def valsE : List AV → Option (List Val)
  | [] => some []
  | x :: l => match valEx x with
    | some v => match valsE l with
      | some r => some (v :: r)
      | none => none
    | none => none
theorem valsE_ok : ∀ {l : List AV} {r : List Val},valsE l = some r → l = r.map Val.av
  | [],r,h => by simp [valsE] at h; subst h; rfl
  | x :: l,r,h => by
    simp only [valsE] at h
    split at h
    · rename_i v hv
      split at h
      · rename_i r' h'
        injection h with h
        subst h
        rw [valsE_ok h',valEx_ok hv]; rfl
      · cases h
    · cases h
def exaE : AV → Option Exa
  | .agg [.str k,.int .i64 e,.int .i64 n,.sl 3 vs _] => match valsE vs with
    | some r => some ⟨⟨k,e,n⟩,r⟩
    | none => none
  | _ => none
theorem exaE_ok {a : AV} {x : Exa} (h : exaE a = some x) : a.fg = x.av := by
  unfold exaE at h
  split at h
  · split at h
    · rename_i r hr
      injection h with h
      subst h
      rw [valsE_ok hr]
      simp only [fgs]
    · cases h
  · cases h
def exasE : List AV → Option (List Exa)
  | [] => some []
  | x :: l => match exaE x with
    | some v => match exasE l with
      | some r => some (v :: r)
      | none => none
    | none => none
theorem exasE_ok : ∀ {l : List AV} {r : List Exa},exasE l = some r → l.map AV.fg = r.map Exa.av
  | [],r,h => by simp [exasE] at h; subst h; rfl
  | x :: l,r,h => by
    simp only [exasE] at h
    split at h
    · rename_i v hv
      split at h
      · rename_i r' h'
        injection h with h
        subst h
        rw [List.map_cons,List.map_cons,exasE_ok h',exaE_ok hv]
      · cases h
    · cases h
def byteE : AV → Option UInt8
  | .int .u8 n => if 0 ≤ n ∧ n < 256 then some (UInt8.ofNat n.toNat) else none
  | _ => none
theorem byteE_ok {a : AV} {v : UInt8} (h : byteE a = some v) : a = byteAV v := by
  unfold byteE at h
  split at h
  · split at h
    · injection h with h
      subst h
      rw [byteAV_ofNat]
      congr 1
      omega
    · cases h
  · cases h
def bytesE : List AV → Option Bytes
  | [] => some []
  | x :: l => match byteE x with
    | some v => match bytesE l with
      | some r => some (v :: r)
      | none => none
    | none => none
theorem bytesE_ok : ∀ {l : List AV} {r : Bytes},bytesE l = some r → l = r.map byteAV
  | [],r,h => by simp [bytesE] at h; subst h; rfl
  | x :: l,r,h => by
    simp only [bytesE] at h
    split at h
    · rename_i v hv
      split at h
      · rename_i r' h'
        injection h with h
        subst h
        rw [bytesE_ok h',byteE_ok hv]; rfl
      · cases h
    · cases h
def smallB (d : Dset) : Bool := decide (d.ent.length < 4294960000) && (decide (d.fs.length < 4294960000) && (d.fs.all (fun f => decide (f.length < 4294960000)) && (decide (d.xs.length < 4294960000) && d.xs.all fun x =>
  decide (x.lab.k.length < 4294960000) && (decide (x.vs.length < 4294960000) && x.vs.all fun v => decide (v.s.length < 4294960000)))))
theorem smallB_ok {d : Dset} (h : smallB d = true) : SmallD d := by
  simp only [smallB,Bool.and_eq_true,decide_eq_true_eq,List.all_eq_true] at h
  obtain ⟨h1,h2,h3,h4,h5⟩ := h
  exact ⟨h1,h2,h3,h4,fun x hx => (h5 x hx).1,fun x hx => (h5 x hx).2.1,fun x hx => (h5 x hx).2.2⟩
def prE : CallE := fun f xs S =>
  match f,xs with
  | 37,[.agg [.str e,.sl 1 fs _,.sl 4 ys _]] => match strsE fs,exasE ys with
    | some fs,some ys => if smallB ⟨e,fs,ys⟩ then some (.ok (.bool (formB ⟨e,fs,ys⟩)),S) else none
    | _,_ => none
  | 92,[.str s] => if s.length < 4294960000 then some (.ok (.bool (nameB s)),S) else none
  | 32,[.agg [.int .i64 k,.int .i64 n,.str s]] => if s.length < 4294967296 then some (.ok (.int .i64 (chkR ⟨k,n,s⟩)),S) else none
  | 73,[.sl 1 ys _] => match bytesE ys with
    | some b => if b.length < 4294960000 then some (.ok (.int .u32 (crcX 0 b)),S) else none
    | none => none
  | 159,[.str a,.str b] => some (.ok (.int .i64 (Lib.compareBytes a b)),S)
  | 51,[.int .i64 n] => if 0 ≤ n ∧ n < 1000000000000000000 then some (.ok (.str (digitsE 18 n.toNat)),S) else none
  | 50,[.sl 1 ys _,.str sep] => match strsE ys with
    | some zs => if zs.length ≤ 140737488355328 ∧ (Lib.join zs sep).length ≤ 140737488355328 then some (.ok (.str (Lib.join zs sep)),S) else none
    | none => none
  | 49,[.ptr l 0,.str s] => match S.get l with
    | some [.bld b0] => if b0.length + s.length ≤ 140737488355328 then some (.ok (.tup [.int .i64 s.length,.nili]),S.set l [.bld (b0 ++ s)]) else none
    | _ => none
  | 53,[.ptr l 0] => match S.get l with
    | some [.bld b0] => some (.ok (.str b0),S)
    | _ => none
  | 52,[.agg [.int .i64 k,.int .i64 n,.str s]] => if chkR ⟨k,n,s⟩ = 0 ∧ s.length < 4294960000 then (if k = 0 then some (.ok (.str nullS),S) else if k = 2 ∧ 0 ≤ n ∧ n < 1000000000000000000 then some (.ok (.str (digitsE 18 n.toNat)),S) else none) else none
  | 26,[.agg [.str e,.sl 1 fs _,.sl 3 [] _,.int .i64 s,.int .i64 p]] => match strsE fs with
    | some fs => some (.ok (.sl 3 [] .unk),S)
    | none => none
  | _,_ => none
theorem none_some {α : Type} {a : α} {p : Prop} (h : (none : Option α) = some a) : p := by cases h
theorem prE_ok (hg : GlNR gl) {m0 : Int} (hm0 : gl.lookup 1 = some [.int .i64 m0]) : CallOK Tryz.prog gl prE := by
  intro f xs S o S' hS h
  unfold prE at h
  split at h
  · split at h
    · rename_i zs ws h1 h2
      split at h
      · rename_i h3
        refine CallOK.pure hg hS ((c37 hg hm0 _ (smallB_ok h3)).conv ?_) h
        simp only [fgs,strsE_ok h1,exasE_ok h2]
      · exact none_some h
    · exact none_some h
  · split at h
    · rename_i h1
      exact CallOK.pure hg hS (c92 hg hm0 _ h1) h
    · exact none_some h
  · split at h
    · rename_i k n s h1
      exact CallOK.pure hg hS (c32 ⟨k,n,s⟩ (Nat.le_trans (Nat.le_of_lt h1) (by decide))) h
    · exact none_some h
  · split at h
    · rename_i b hb
      split at h
      · rename_i h1
        rw [bytesE_ok hb]
        exact CallOK.pure hg hS (c73 hg b _ h1) h
      · exact none_some h
    · exact none_some h
  · exact CallOK.pure hg hS (c159 _ _) h
  · split at h
    · rename_i n h1
      refine CallOK.pure hg hS (?_ : Pure Tryz.prog gl 51 _ (.ok (.str (digitsE 18 n.toNat)))) h
      rw [digitsE_eq 18 _ (by omega) (by omega)]
      have := c51 (gl := gl) n (by omega) (by omega)
      rwa [show n = ((n.toNat : Nat) : Int) by omega,itoa_nonneg,← show n = ((n.toNat : Nat) : Int) by omega] at this
    · exact none_some h
  · split at h
    · rename_i zs hz
      split at h
      · rename_i h1
        rw [strsE_ok hz]
        refine CallOK.pure hg hS ((c50 zs _ h1.1 h1.2).conv ?_) h
        simp only [fgs]
      · exact none_some h
    · exact none_some h
  · split at h
    · rename_i hl
      split at h
      · rename_i h1
        injection h with h
        injection h with h2 h3
        subst h2 h3
        exact ⟨hS,c49 hl h1⟩
      · exact none_some h
    · exact none_some h
  · split at h
    · rename_i hl
      injection h with h
      injection h with h2 h3
      subst h2 h3
      exact ⟨hS,c53 hl⟩
    · exact none_some h
  · split at h
    · rename_i k n s h1
      have h52 := c52 hg ⟨k,n,s⟩ h1.2
      have hf : fmtV ⟨k,n,s⟩ = if k = 1 then boolS (n == 1) else if k = 2 then itoa n else if k = 3 then decF n else if k = 4 then 34 :: (s ++ [34]) else if k = 5 then 64 :: s else nullS := by
        simp only [fmtV,h1.1]; rfl
      split at h
      · rename_i h2
        subst h2
        rw [hf] at h52
        exact CallOK.pure hg hS h52 h
      · split at h
        · rename_i h2
          obtain ⟨rfl,h3,h4⟩ := h2
          rw [hf] at h52
          refine CallOK.pure hg hS (?_ : Pure Tryz.prog gl 52 _ (.ok (.str (digitsE 18 n.toNat)))) h
          rw [digitsE_eq 18 _ (by omega) (by omega)]
          have e : itoa n = decDigits n.toNat := by unfold itoa; rw [if_neg (by omega)]
          rw [← e]
          exact h52
        · exact none_some h
    · exact none_some h
  · split at h
    · rename_i e0 f0 t1 t2 s0 p0 x0 fs hz
      refine CallOK.pure hg hS ((c26_0 hg e0 fs s0 p0).conv ?_) h
      simp only [fgs,strsE_ok hz]
    · exact none_some h
  · exact none_some h
def tab : List (FuncId × Ent) := [
  (11,⟨143,m11,[.t 0]⟩),
  (14,⟨30,m14,[.c 4 3 true,.t 5]⟩),
  (16,⟨43,m16,[.t 4]⟩),
  (17,⟨65,m17,[.t 4,.t 5]⟩),
  (19,⟨60,m19,[.t 2,.t 3]⟩),
  (23,⟨76,m23,[.t 2,.t 3]⟩),
  (24,⟨80,m24,[.c 2 3 true,.c 3 1 false]⟩),
  (25,⟨76,m25,[.t 4,.c 5 1 false,.c 6 1 false]⟩),
  (35,⟨14,m35,[.c 2 3 true]⟩),
  (36,⟨54,m36,[.t 2]⟩),
  (38,⟨32,m38,[.t 6]⟩),
  (39,⟨9,m39,[.t 4]⟩),
  (43,⟨44,m43,[.t 4]⟩),
  (44,⟨10,m44,[.t 4]⟩),
  (45,⟨26,m45,[.t 4]⟩),
  (46,⟨32,m46,[.t 6]⟩),
  (47,⟨26,m47,[.t 4]⟩),
  (48,⟨7,m48,[]⟩),
  (57,⟨26,m57,[.t 4]⟩),
  (58,⟨12,m58,[.t 4]⟩),
  (59,⟨29,m59,[.t 4]⟩),
  (60,⟨14,m60,[.t 4]⟩),
  (61,⟨46,m61,[.t 4]⟩),
  (62,⟨17,m62,[]⟩),
  (63,⟨22,m63,[.t 2]⟩),
  (64,⟨20,m64,[.t 2]⟩),
  (65,⟨27,m65,[.t 4]⟩),
  (66,⟨9,m66,[]⟩),
  (67,⟨20,m67,[.t 2]⟩),
  (68,⟨20,m68,[.c 2 3 true]⟩),
  (69,⟨23,m69,[]⟩),
  (70,⟨18,m70,[.t 4]⟩),
  (71,⟨40,m71,[.t 2]⟩),
  (72,⟨44,m72,[.t 4]⟩),
  (91,⟨67,m91,[.t 2]⟩),
  (93,⟨9,m93,[.t 4]⟩),
  (105,⟨26,m105,[.t 4]⟩),
  (117,⟨29,m117,[]⟩),
  (118,⟨22,m118,[.t 4,.c 5 1 false,.c 6 1 false]⟩),
  (119,⟨19,m119,[.t 4,.c 5 1 false,.c 6 1 false]⟩),
  (120,⟨27,m120,[.t 4,.t 5,.t 6]⟩),
  (121,⟨82,m121,[.c 4 3 true,.t 5,.t 6]⟩),
  (152,⟨9,m152,[.t 2]⟩),
  (153,⟨9,m153,[.t 4]⟩),
  (154,⟨19,m154,[.t 2]⟩),
  (155,⟨11,m155,[.t 2]⟩),
  (157,⟨19,m157,[.t 4]⟩),
  (193,⟨19,m193,[.t 4]⟩)]
theorem tab_ok : ∀ p ∈ tab,FnIs Tryz.prog p.1 p.2.n p.2.mc p.2.rv := by
  simp only [tab,List.forall_mem_cons]
  exact ⟨is11,is14,is16,is17,is19,is23,is24,is25,is35,is36,is38,is39,is43,is44,is45,is46,is47,is48,is57,is58,is59,is60,is61,is62,is63,is64,is65,is66,is67,is68,is69,is70,is71,is72,is91,is93,is105,is117,is118,is119,is120,is121,is152,is153,is154,is155,is157,is193,by simp⟩
def tst (gl : List (Nat × List AV)) : Bool := match callE (fun f => tab.lookup f) prE 20000 40 11 [] (.none gl) with
  | some (.ok (.bool true),_) => true
  | _ => false
set_option maxHeartbeats 0 in
theorem tst_true : tst gl = true := by kernel_rfl
theorem c11 (hg : GlNR gl) {m0 : Int} (hm0 : gl.lookup 1 = some [.int .i64 m0]) : Pure Tryz.prog gl 11 [] (.ok (.bool true)) := by
  have ht := tst_true (gl := gl)
  unfold tst at ht
  split at ht
  · rename_i S' h
    exact Pure.ofE (fun f en e => lookup_ok tab_ok e) (prE_ok hg hm0) hg (fb := 20000) (fu := 40) rfl rfl ⟨S',h⟩
  · cases ht
end Go.Proofs.YtdjdhecanjmchaaGreatDoor
