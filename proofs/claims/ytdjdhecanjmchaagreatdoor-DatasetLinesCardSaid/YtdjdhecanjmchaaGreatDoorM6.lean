/- The law on printed lines: they can be read back. -/
import Derived.Test.YtdjdhecanjmchaaGreatDoorFa
import Derived.Test.YtdjdhecanjmchaaGreatDoorFb
import Derived.Test.YtdjdhecanjmchaaGreatDoorFc
import Derived.Test.YtdjdhecanjmchaaGreatDoorTa
import Derived.Test.YtdjdhecanjmchaaGreatDoorM5
set_option linter.unusedSimpArgs false
set_option linter.unusedVariables false
namespace Go.Proofs.YtdjdhecanjmchaaGreatDoor
open Go Go.V Go.Lib
set_option maxRecDepth 40000
attribute [local go_sem ↓] keepK Opd.ev MK.ev MK.ob gsA
attribute [local go_sem high] gsB
attribute [local go_sem] binEv binOb intOp strOp unEv eqvEv eqCells eqCell noBld tasEv AV.there AV.plus pickCells storeEv AV.solid AV.cells splice putParts rowOK fldEv iarrEv extEv minEv nonNil lenEv isStr appEv appOb appArg slVecEv slVecOb slStrEv slStrOb bnd argF endQ rvsEv rvEv resOf St.none if_true if_false ite_self eq_self ne_eq implies_true forall_const Lab.av Val.av Exa.av Dset.av Req.av gsC
variable {gl : List (Nat × List AV)}
def Clean (s : Bytes) : Prop := ∀ c ∈ s,c ≠ 9 ∧ c ≠ 10
theorem clean_of {s : Bytes} (h : ∀ c ∈ s,32 ≤ c.toNat) : Clean s := fun c hc => by
  have := h c hc
  constructor
  · rintro rfl
    exact absurd this (by decide)
  · rintro rfl
    exact absurd this (by decide)
theorem okB_ge {low : Nat} {s : Bytes} (h : s.all (okB low) = true) (hl : 32 ≤ low) : ∀ c ∈ s,32 ≤ c.toNat := fun c hc => by
  have := List.all_eq_true.1 h c hc
  simp [okB] at this
  omega
theorem dg_ge {c : UInt8} (h : IsDg c) : 32 ≤ c.toNat := by have := h.1; omega
theorem itoa_clean (n : Int) : ∀ c ∈ itoa n,32 ≤ c.toNat := fun c hc => by
  rcases itoa_bytes n c hc with h | rfl
  · exact dg_ge h
  · decide
theorem fmt_clean {v : Val} (hv : chkR v = 0) : ∀ c ∈ fmtV v,32 ≤ c.toNat := by
  have hchk : ((chkR v == 0) = false) = False := by rw [hv]; simp
  obtain ⟨kd,n,s⟩ := v
  rcases six_kinds hv with h | h | h | h | h
  · simp only at h
    obtain ⟨rfl,rfl,rfl⟩ := h
    simp only [fmtV,hchk,if_false]
    decide
  · simp only at h
    obtain ⟨rfl,hn,rfl⟩ := h
    simp only [fmtV,hchk,if_false,if_true]
    rcases hn with rfl | rfl
    · decide
    · decide
  · simp only at h
    obtain ⟨hk,rfl,h0,h1⟩ := h
    rcases hk with rfl | rfl
    · simp [fmtV,hchk]
      exact itoa_clean n
    · simp [fmtV,hchk]
      intro c hc
      rcases (decF_bytes n).1 c hc with h | rfl | rfl
      · exact dg_ge h
      · decide
      · decide
  · simp only at h
    obtain ⟨rfl,rfl,hl,ha⟩ := h
    have := okB_ge ha (Nat.le_refl _)
    simp [fmtV,hchk]
    intro c hc
    rcases hc with hc | rfl
    · exact this c hc
    · decide
  · simp only at h
    obtain ⟨rfl,rfl,hne,hl,ha⟩ := h
    have := okB_ge ha (by decide)
    simp [fmtV,hchk]
    exact this
theorem tailB_ge {c : UInt8} (h : tailB c = true) : 32 ≤ c.toNat := by
  simp [tailB,letB,digB] at h
  omega
theorem letB_ge {c : UInt8} (h : letB c = true) : 32 ≤ c.toNat := by
  simp [letB] at h
  omega
theorem tail_all : ∀ s : Bytes,tailN s = s.length → ∀ c ∈ s,32 ≤ c.toNat
  | [],_,c,hc => by cases hc
  | d :: s,h,c,hc => by
    rw [tailN,List.length_cons] at h
    split at h
    · rename_i hd
      rcases List.mem_cons.1 hc with rfl | hc
      · exact tailB_ge hd
      · exact tail_all s (by omega) c hc
    · omega
theorem name_clean {s : Bytes} (h : nameB s = true) : ∀ c ∈ s,32 ≤ c.toNat := by
  simp only [nameB,Bool.and_eq_true,decide_eq_true_eq] at h
  have hw := h.1.2
  cases s with
  | nil => intro c hc; cases hc
  | cons d s =>
    rw [wordN,List.length_cons] at hw
    split at hw
    · rename_i hd
      intro c hc
      rcases List.mem_cons.1 hc with rfl | hc
      · exact letB_ge hd
      · exact tail_all s (by omega) c hc
    · omega
theorem lineT_parts (x : Exa) (r : Bytes) : lineT x ++ r = x.lab.k ++ (joinTail [9] (itoa x.lab.e :: itoa x.lab.n :: x.vs.map fmtV) ++ 10 :: r) := by
  rw [← line_join,join_cons]
  simp
theorem headT_parts (d : Dset) : printT d = d.ent ++ (joinTail [9] ([101,118,101,110,116] :: [107,110,111,119] :: d.fs) ++ 10 :: linesT d.xs) := by
  have h := head_join d
  rw [join_cons] at h
  have h2 : printT d = (d.ent ++ (evT ++ (featsT d.fs ++ [10]))) ++ linesT d.xs := by simp [printT]
  rw [h2,← h]
  simp
theorem lines_suffix : ∀ (xs : List Exa) (i : Nat),∃ p,linesT xs = p ++ linesT (xs.drop i)
  | xs,0 => ⟨[],by simp⟩
  | [],i + 1 => ⟨[],by simp⟩
  | x :: xs,i + 1 => by
    obtain ⟨p,hp⟩ := lines_suffix xs i
    exact ⟨lineT x ++ p,by rw [linesT,hp,List.drop_succ_cons,List.append_assoc]⟩
def atL (d : Dset) (i : Nat) : Nat := (printT d).length - (linesT (d.xs.drop i)).length
theorem atL_drop (d : Dset) (i : Nat) : (printT d).drop (atL d i) = linesT (d.xs.drop i) ∧ atL d i ≤ (printT d).length := by
  obtain ⟨p,hp⟩ := lines_suffix d.xs i
  have h2 : printT d = (d.ent ++ (evT ++ (featsT d.fs ++ (10 :: p)))) ++ linesT (d.xs.drop i) := by simp [printT,hp]
  unfold atL
  refine ⟨?_,by omega⟩
  rw [h2,List.length_append,Nat.add_sub_cancel,List.drop_left]
theorem featsF_memL (fs : List Bytes) : ∀ (l : List Bytes) (i : Nat),featsFrom fs i l = true → ∀ f ∈ l,nameB f = true
  | [],_,_ => by simp
  | g :: l,i,h => by
    simp only [featsFrom,Bool.and_eq_true] at h
    intro f hf
    rcases List.mem_cons.1 hf with rfl | hf
    · exact h.1
    · exact featsF_memL fs l _ h.2.2 f hf
theorem exsB_allL (n : Nat) : ∀ (xs : List Exa) (p : Option Lab),exsB n p xs = true → ∀ x ∈ xs,labB x.lab = true ∧ x.vs.length = n ∧ ∀ v ∈ x.vs,chkR v = 0
  | [],_,_ => by simp
  | y :: ys,p,h => by
    simp only [exsB,Bool.and_eq_true,decide_eq_true_eq,valsB,List.all_eq_true,beq_iff_eq] at h
    intro x hx
    rcases List.mem_cons.1 hx with rfl | hx
    · exact ⟨h.1,h.2.1,h.2.2.2.1⟩
    · exact exsB_allL n ys _ h.2.2.2.2 x hx
abbrev intV (n : Int) : Val := ⟨2,n,[]⟩
theorem intV_fmt {n : Int} (h : tickB n = true) : chkR (intV n) = 0 ∧ fmtV (intV n) = itoa n := by
  simp [tickB] at h
  have hc : chkR (intV n) = 0 := by
    have h1 : rangeB n = true := by simp [rangeB]; omega
    simp [chkR,fieldsB,h1]
  exact ⟨hc,by simp [fmtV,hc]⟩
set_option maxHeartbeats 4000000 in
theorem c10 (hg : GlNR gl) {m0 : Int} (hm0 : gl.lookup 1 = some [.int .i64 m0]) {tl : List AV} (ht : gl.lookup 0 = some (.int .i64 1 :: tl)) (h11 : Pure Tryz.prog gl 11 [] (.ok (.bool true))) (d : Dset) : Pure Tryz.prog gl 10 [d.av] (.ok (.bool true)) := by
  refine ⟨?_,by simp only [fgs,nrs,forall_eq_or_imp,forall_eq,implies_true],by simp only [nrs,forall_eq_or_imp,forall_eq,implies_true]⟩
  simp only [fgs]
  refine .of_run is10 (by simp) (mw_sound 200 ?_)
  by_cases hd : fewD d = true
  rotate_left
  · rw [Bool.not_eq_true] at hd
    repeat' first
      | with_reducible first | refine mw_as m10.eq_1 ?_ | refine opn m10k0.eq_1 ?_ | refine opn m10k1.eq_1 ?_ | refine opn m10k2.eq_1 ?_ | refine opn m10k3.eq_1 ?_ | refine opn m10k4.eq_1 ?_ | refine opn m10k5.eq_1 ?_ | refine opn m10k6.eq_1 ?_ | refine opn m10k7.eq_1 ?_ | refine opn m10k8.eq_1 ?_ | refine opn m10k9.eq_1 ?_ | refine opn m10k10.eq_1 ?_ | refine opn m10k11.eq_1 ?_ | refine opn m10k12.eq_1 ?_ | refine .pu (h11) hg rfl ?_ | refine .pu (c13 hg d) hg rfl ?_ | refine ⟨?_,?_⟩ | intro _
      | simp only [go_sem,↓reduceIte,Nat.reduceAdd,Nat.reduceLeDiff,Nat.reduceEqDiff,Nat.reduceBEq,Nat.reduceBNe,Nat.reduceMul,Nat.reduceLT,reduceCtorEq,Int.reduceLT,Int.reduceLE,Int.reduceToNat,Int.reduceNeg,  hd]
  have hs := fewD_small hd
  have h22 := c22 hg d hs
  by_cases hf : formB d = true
  rotate_left
  · rw [Bool.not_eq_true] at hf
    rw [hf] at h22
    repeat' first
      | with_reducible first | refine mw_as m10.eq_1 ?_ | refine opn m10k0.eq_1 ?_ | refine opn m10k1.eq_1 ?_ | refine opn m10k2.eq_1 ?_ | refine opn m10k3.eq_1 ?_ | refine opn m10k4.eq_1 ?_ | refine opn m10k5.eq_1 ?_ | refine opn m10k6.eq_1 ?_ | refine opn m10k7.eq_1 ?_ | refine opn m10k8.eq_1 ?_ | refine opn m10k9.eq_1 ?_ | refine opn m10k10.eq_1 ?_ | refine opn m10k11.eq_1 ?_ | refine opn m10k12.eq_1 ?_ | refine .pu (h11) hg rfl ?_ | refine .pu (c13 hg d) hg rfl ?_ | refine .pu (h22) hg rfl ?_ | refine ⟨?_,?_⟩ | intro _
      | simp only [go_sem,↓reduceIte,Nat.reduceAdd,Nat.reduceLeDiff,Nat.reduceEqDiff,Nat.reduceBEq,Nat.reduceBNe,Nat.reduceMul,Nat.reduceLT,reduceCtorEq,Int.reduceLT,Int.reduceLE,Int.reduceToNat,Int.reduceNeg,  hd]
  rw [hf] at h22
  have h19 := c19 hg hm0 d hs
  simp only [printAV,hf,if_true] at h19
  have hTl : (printT d).length ≤ 100000000000000 := Nat.le_trans (printT_len hs (formF hf)) (by decide)
  have hff := hf
  simp only [formB,Bool.and_eq_true,decide_eq_true_eq] at hff
  obtain ⟨q1,q2,q3,q4,q5,q6⟩ := hff
  have hfe := featsF_memL d.fs d.fs 0 q5
  have hxe := exsB_allL _ _ _ q6
  have a0 := (atL_drop d 0)
  rw [List.drop_zero] at a0
  have h33a := c33 (gl := gl) (printT d) 0 d.ent ([101,118,101,110,116] :: [107,110,111,119] :: d.fs) (linesT d.xs) hTl (by simp; omega) (headT_parts d) (Nat.zero_le _) (by
    intro g hg c hc
    refine clean_of ?_ c hc
    rcases List.mem_cons.1 hg with rfl | hg
    · exact name_clean q1
    · rcases List.mem_cons.1 hg with rfl | hg
      · decide
      · rcases List.mem_cons.1 hg with rfl | hg
        · decide
        · exact name_clean (hfe g hg))
  rw [show ((0 : Nat) : Int) = 0 from rfl,show (printT d).length - (linesT d.xs).length = atL d 0 by rw [atL,List.drop_zero]] at h33a
  obtain ⟨NL,hNL⟩ : ∃ NL,NL = (d.ent :: [101,118,101,110,116] :: [107,110,111,119] :: d.fs).map AV.str := ⟨_,rfl⟩
  rw [← hNL] at h33a
  have hNl : NL.length = d.fs.length + 3 := by rw [hNL]; simp
  have hN0 : NL[0]? = some (.str d.ent) := by rw [hNL]; rfl
  have w3 : IntKind.i64.wrap ((d.fs.length : Int) + 3) = ((d.fs.length + 3 : Nat) : Int) := by rw [wrap_i64_in (by omega) (by omega)]; omega
  have e0 : ((0 : Int) != 0) = false := rfl
  have hne : ∀ a : Int,(a != a) = false := fun a => by simp
  have hse : ∀ a : Bytes,(a == a) = true := fun a => by simp
  have hp0 : (0 : Int) < ((d.fs.length + 3 : Nat) : Int) := by omega
  repeat' first
    | with_reducible first | refine mw_as m10.eq_1 ?_ | refine opn m10k0.eq_1 ?_ | refine opn m10k1.eq_1 ?_ | refine opn m10k2.eq_1 ?_ | refine opn m10k3.eq_1 ?_ | refine opn m10k4.eq_1 ?_ | refine opn m10k5.eq_1 ?_ | refine opn m10k6.eq_1 ?_ | refine opn m10k7.eq_1 ?_ | refine opn m10k8.eq_1 ?_ | refine opn m10k9.eq_1 ?_ | refine opn m10k10.eq_1 ?_ | refine opn m10k11.eq_1 ?_ | refine opn m10k12.eq_1 ?_ | refine .pu (h11) hg rfl ?_ | refine .pu (c13 hg d) hg rfl ?_ | refine .pu (h22) hg rfl ?_ | refine .pu (h19) hg rfl ?_ | refine .pu (h33a) hg rfl ?_ | refine ⟨?_,?_⟩ | intro _
    | simp only [go_sem,↓reduceIte,Nat.reduceAdd,Nat.reduceLeDiff,Nat.reduceEqDiff,Nat.reduceBEq,Nat.reduceBNe,Nat.reduceMul,Nat.reduceLT,reduceCtorEq,Int.reduceLT,Int.reduceLE,Int.reduceToNat,Int.reduceNeg,  hd,hNl,hN0,w3,e0,hne,hse,hp0]
  have hTd : ∀ i,(printT d).drop (atL d i) = linesT (d.xs.drop i) ∧ atL d i ≤ (printT d).length := atL_drop d
  have hxl := hs.xs
  refine MRun.keep (ob' := [(0,[.str d.ent,.sl 1 (d.fs.map AV.str) .unk,.sl 4 (d.xs.map Exa.av) .unk])]) (live' := []) ?_ (fun _ _ h => h) (fun _ h => by cases h)
  refine .forUp d.xs.length (fun i F S => ∃ n nt,1 ≤ n ∧ F = [(1,.ptr 0 0),(3,.str (printT d)),(5,.sl 1 NL .unk),(6,.int .i64 (atL d i)),(7,.int .i64 i)] ∧ S = ⟨n,[(0,[.str d.ent,.sl 1 (d.fs.map AV.str) .unk,.sl 4 (d.xs.map Exa.av) .unk])],nt,[],gl⟩) ⟨1,0,Nat.le_refl _,rfl,rfl⟩ ?_
  rintro i F S hi ⟨n,nt,hn1,rfl,rfl⟩ ih
  by_cases h : i < d.xs.length
  rotate_left
  · obtain rfl : i = d.xs.length := by omega
    have hTe : atL d d.xs.length = (printT d).length := by rw [atL,List.drop_length]; rfl
    have hlt := geB (Nat.le_refl d.xs.length)
    rw [hTe]
    have hii : ∀ a : Int,(a == a) = true := fun a => by simp
    refine opn m10l1.eq_1 ?_
    repeat' first
      | with_reducible first | refine mw_as m10.eq_1 ?_ | refine opn m10k0.eq_1 ?_ | refine opn m10k1.eq_1 ?_ | refine opn m10k2.eq_1 ?_ | refine opn m10k3.eq_1 ?_ | refine opn m10k4.eq_1 ?_ | refine opn m10k5.eq_1 ?_ | refine opn m10k6.eq_1 ?_ | refine opn m10k7.eq_1 ?_ | refine opn m10k8.eq_1 ?_ | refine opn m10k9.eq_1 ?_ | refine opn m10k10.eq_1 ?_ | refine opn m10k11.eq_1 ?_ | refine opn m10k12.eq_1 ?_ | refine ⟨?_,?_⟩ | intro _
      | simp only [go_sem,↓reduceIte,Nat.reduceAdd,Nat.reduceLeDiff,Nat.reduceEqDiff,Nat.reduceBEq,Nat.reduceBNe,Nat.reduceMul,Nat.reduceLT,reduceCtorEq,Int.reduceLT,Int.reduceLE,Int.reduceToNat,Int.reduceNeg,  hlt,hii]
  obtain ⟨x,hx⟩ := some_of_lt h
  obtain ⟨hxlab,hxv,hxc⟩ := hxe x (List.mem_of_getElem? hx)
  simp only [labB,Bool.and_eq_true] at hxlab
  obtain ⟨hk,he1,he2⟩ := hxlab
  simp only [keyR,Bool.and_eq_true] at hk
  have hlt := ltB h
  obtain ⟨t1,t2⟩ := hTd i
  rw [drop_some hx,linesT,lineT_parts] at t1
  have h33b := c33 (gl := gl) (printT d) (atL d i) x.lab.k (itoa x.lab.e :: itoa x.lab.n :: x.vs.map fmtV) (linesT (d.xs.drop (i + 1))) hTl (by simp; omega) t1 t2 (by
    intro g hg c hc
    refine clean_of ?_ c hc
    rcases List.mem_cons.1 hg with rfl | hg
    · exact okB_ge hk.1 (by decide)
    · rcases List.mem_cons.1 hg with rfl | hg
      · exact itoa_clean _
      · rcases List.mem_cons.1 hg with rfl | hg
        · exact itoa_clean _
        · obtain ⟨v,hv,rfl⟩ := List.mem_map.1 hg
          exact fmt_clean (hxc v hv))
  rw [show (printT d).length - (linesT (d.xs.drop (i + 1))).length = atL d (i + 1) from rfl] at h33b
  obtain ⟨PL,hPL⟩ : ∃ PL,PL = (x.lab.k :: itoa x.lab.e :: itoa x.lab.n :: x.vs.map fmtV).map AV.str := ⟨_,rfl⟩
  rw [← hPL] at h33b
  have hPl : PL.length = d.fs.length + 3 := by rw [hPL]; simp [hxv]
  have hP0 : PL[0]? = some (.str x.lab.k) := by rw [hPL]; rfl
  have hP1 : PL[1]? = some (.str (itoa x.lab.e)) := by rw [hPL]; rfl
  have hP2 : PL[2]? = some (.str (itoa x.lab.n)) := by rw [hPL]; rfl
  obtain ⟨c1,f1⟩ := intV_fmt he1
  obtain ⟨c2,f2⟩ := intV_fmt he2
  have h34a := c34 hg hm0 ht (intV x.lab.e) c1
  have h34b := c34 hg hm0 ht (intV x.lab.n) c2
  rw [f1] at h34a
  rw [f2] at h34b
  have hp1 : (1 : Int) < ((d.fs.length + 3 : Nat) : Int) := by omega
  have hp2 : (2 : Int) < ((d.fs.length + 3 : Nat) : Int) := by omega
  have hbb : ∀ a : Int,(a == a) = true := fun a => by simp
  have b22 : ((2 : Int) == 2) = true := rfl
  have z1 : (0 = n) = False := eq_false (by omega)
  have z2 : (n = 0) = False := eq_false (by omega)
  have z3 : (0 = n + 1) = False := eq_false (by omega)
  have z4 : (n + 1 = 0) = False := eq_false (by omega)
  refine opn m10l1.eq_1 ?_
  repeat' first
    | with_reducible first | refine mw_as m10.eq_1 ?_ | refine opn m10k0.eq_1 ?_ | refine opn m10k1.eq_1 ?_ | refine opn m10k2.eq_1 ?_ | refine opn m10k3.eq_1 ?_ | refine opn m10k4.eq_1 ?_ | refine opn m10k5.eq_1 ?_ | refine opn m10k6.eq_1 ?_ | refine opn m10k7.eq_1 ?_ | refine opn m10k8.eq_1 ?_ | refine opn m10k9.eq_1 ?_ | refine opn m10k10.eq_1 ?_ | refine opn m10k11.eq_1 ?_ | refine opn m10k12.eq_1 ?_ | refine .pu (h33b) hg rfl ?_ | refine .pu (h34a) hg rfl ?_ | refine .pu (h34b) hg rfl ?_ | refine ⟨?_,?_⟩ | intro _
    | simp only [go_sem,↓reduceIte,Nat.reduceAdd,Nat.reduceLeDiff,Nat.reduceEqDiff,Nat.reduceBEq,Nat.reduceBNe,Nat.reduceMul,Nat.reduceLT,reduceCtorEq,Int.reduceLT,Int.reduceLE,Int.reduceToNat,Int.reduceNeg,  hlt,hPl,hNl,hP0,hP1,hP2,hx,e0,hne,hse,hbb,hp0,hp1,hp2,z1,z2,z3,z4,ltP h]
  refine MRun.keep (ob' := [(0,[.str d.ent,.sl 1 (d.fs.map AV.str) .unk,.sl 4 (d.xs.map Exa.av) .unk])]) (live' := []) ?_ (by intro l cs e; simp only [lookG] at e ⊢; grind) (fun _ h => by cases h)
  refine .forUp d.fs.length (fun k F S => ∃ n nt,1 ≤ n ∧ F = [(1,.ptr 0 0),(3,.str (printT d)),(5,.sl 1 NL .unk),(7,.int .i64 i),(8,.sl 1 PL .unk),(9,.int .i64 (atL d (i + 1))),(14,.int .i64 k)] ∧
    S = ⟨n,[(0,[.str d.ent,.sl 1 (d.fs.map AV.str) .unk,.sl 4 (d.xs.map Exa.av) .unk])],nt,[],gl⟩) ⟨n + 1 + 1,nt,by omega,rfl,rfl⟩ ?_
  clear z1 z2 z3 z4 hn1
  rintro k F S hk3 ⟨n,nt,hn1,rfl,rfl⟩ ih2
  by_cases h2 : k < d.fs.length
  · obtain ⟨v,hv⟩ := some_of_lt (show k < x.vs.length by omega)
    obtain ⟨g,hg2⟩ := some_of_lt h2
    have hPk : PL[k + 3]? = some (.str (fmtV v)) := by
      rw [hPL]
      simp [hv]
    have hNk : NL[k + 3]? = some (.str g) := by
      rw [hNL]
      simp [hg2]
    have h34 := c34 hg hm0 ht v (hxc v (List.mem_of_getElem? hv))
    have hlt2 := ltB h2
    have wk : IntKind.i64.wrap ((k : Int) + 3) = ((k + 3 : Nat) : Int) := by rw [wrap_i64_in (by omega) (by omega)]; omega
    have hpk : ((k + 3 : Nat) : Int) < ((d.fs.length + 3 : Nat) : Int) := by omega
    have z1 : (0 = n) = False := eq_false (by omega)
    have z2 : (n = 0) = False := eq_false (by omega)
    have lvs : ((k : Nat) : Int) < (x.vs.length : Int) := by omega
    refine opn m10l0.eq_1 ?_
    repeat' first
      | with_reducible first | refine mw_as m10.eq_1 ?_ | refine opn m10k0.eq_1 ?_ | refine opn m10k1.eq_1 ?_ | refine opn m10k2.eq_1 ?_ | refine opn m10k3.eq_1 ?_ | refine opn m10k4.eq_1 ?_ | refine opn m10k5.eq_1 ?_ | refine opn m10k6.eq_1 ?_ | refine opn m10k7.eq_1 ?_ | refine opn m10k8.eq_1 ?_ | refine opn m10k9.eq_1 ?_ | refine opn m10k10.eq_1 ?_ | refine opn m10k11.eq_1 ?_ | refine opn m10k12.eq_1 ?_ | refine .pu (h34) hg rfl ?_ | refine ⟨?_,?_⟩ | intro _
      | simp only [go_sem,↓reduceIte,Nat.reduceAdd,Nat.reduceLeDiff,Nat.reduceEqDiff,Nat.reduceBEq,Nat.reduceBNe,Nat.reduceMul,Nat.reduceLT,reduceCtorEq,Int.reduceLT,Int.reduceLE,Int.reduceToNat,Int.reduceNeg,  hlt2,hPl,hNl,hPk,hNk,hx,hv,hg2,e0,hne,hse,hbb,wk,hpk,z1,z2,ltP h,ltP h2,lvs,wrap_succ (show k < 9223372036854775807 by omega)]
    all_goals first
      | exact MRun.keep (live' := []) (ih2 h2 _ _ ⟨n + 1,nt,by omega,rfl,rfl⟩) (by intro l cs e; simp only [lookG] at e ⊢; grind) (fun _ h => by cases h)
      | omega
      | skip
  · have hlt2 := geB (Nat.le_of_not_lt h2)
    refine opn m10l0.eq_1 ?_
    repeat' first
      | with_reducible first | refine mw_as m10.eq_1 ?_ | refine opn m10k0.eq_1 ?_ | refine opn m10k1.eq_1 ?_ | refine opn m10k2.eq_1 ?_ | refine opn m10k3.eq_1 ?_ | refine opn m10k4.eq_1 ?_ | refine opn m10k5.eq_1 ?_ | refine opn m10k6.eq_1 ?_ | refine opn m10k7.eq_1 ?_ | refine opn m10k8.eq_1 ?_ | refine opn m10k9.eq_1 ?_ | refine opn m10k10.eq_1 ?_ | refine opn m10k11.eq_1 ?_ | refine opn m10k12.eq_1 ?_ | refine ⟨?_,?_⟩ | intro _
      | simp only [go_sem,↓reduceIte,Nat.reduceAdd,Nat.reduceLeDiff,Nat.reduceEqDiff,Nat.reduceBEq,Nat.reduceBNe,Nat.reduceMul,Nat.reduceLT,reduceCtorEq,Int.reduceLT,Int.reduceLE,Int.reduceToNat,Int.reduceNeg,  hlt2,wrap_succ (show i < 9223372036854775807 by omega)]
    exact ih h _ _ ⟨n,nt,hn1,rfl,rfl⟩
end Go.Proofs.YtdjdhecanjmchaaGreatDoor
