/- Contracts: the text of a request. -/
import Derived.Test.YtdjdhecanjmchaaGreatDoorC2
import Derived.Test.YtdjdhecanjmchaaGreatDoorP8
import Derived.Test.YtdjdhecanjmchaaGreatDoorE5
set_option linter.unusedSimpArgs false
set_option linter.unusedVariables false
namespace Go.Proofs.YtdjdhecanjmchaaGreatDoor
open Go Go.V Go.Lib
set_option maxRecDepth 40000
attribute [local go_sem ↓] keepK Opd.ev MK.ev MK.ob gsA
attribute [local go_sem high] gsB
attribute [local go_sem] binEv binOb intOp strOp unEv eqvEv eqCells eqCell noBld tasEv AV.there AV.plus pickCells storeEv AV.solid AV.cells splice putParts rowOK fldEv iarrEv extEv minEv nonNil lenEv isStr appEv appOb appArg slVecEv slVecOb slStrEv slStrOb bnd argF endQ rvsEv rvEv resOf St.none if_true if_false ite_self eq_self ne_eq implies_true forall_const Lab.av Val.av Exa.av Dset.av Req.av gsC
variable {gl : List (Nat × List AV)}
def labT (b : Bytes) (x : Lab) : Bytes := b ++ [34] ++ x.k ++ [34,32] ++ itoa x.e ++ [32] ++ itoa x.n
def labsT : Bytes → List Lab → Bytes
  | _,[] => []
  | b,x :: l => labT b x ++ labsT [44,32] l
def head24 (r : Req) : Bytes := [111,102,32] ++ r.ent ++ [32,116,97,107,101,32] ++ Lib.join r.fs [44,32]
def tail24 (r : Req) : Bytes := [32,115,101,101,100,32] ++ itoa r.seed ++ [32,107,101,101,112,32] ++ itoa r.pm
def fmtT (r : Req) : Bytes := head24 r ++ (tail24 r ++ labsT [32,97,116,32] r.labs)
def fmtR (r : Req) : Bytes := if form24 r then fmtT r else []
theorem fmtR_nil (r : Req) : (fmtR r == []) = !form24 r := by
  simp only [fmtR]
  split
  · rename_i h
    rw [h]
    rfl
  · rename_i h
    simp [h]
theorem labT_len {b : Bytes} {x : Lab} (hb : b.length ≤ 4) (h : labB x = true) : (labT b x).length ≤ 200 := by
  have h1 := labB_in h
  simp only [labB,Bool.and_eq_true] at h
  have h2 := itoa_len h.2.1
  have h3 := itoa_len h.2.2
  simp only [labT,List.length_append,List.length_cons,List.length_nil]
  omega
theorem labsT_len : ∀ (l : List Lab) (b : Bytes),b.length ≤ 4 → (∀ x ∈ l,labB x = true) → (labsT b l).length ≤ 200 * l.length
  | [],_,_,_ => by simp [labsT]
  | x :: l,b,hb,h => by
    have h1 := labT_len hb (h x (by simp))
    have h2 := labsT_len l [44,32] (by simp) (fun y hy => h y (by simp [hy]))
    simp only [labsT,List.length_append,List.length_cons]
    omega
theorem joinTail_le {sep : Bytes} {B : Nat} : ∀ l : List Bytes,(∀ f ∈ l,f.length ≤ B) → (joinTail sep l).length ≤ l.length * (sep.length + B)
  | [],_ => by simp [joinTail]
  | f :: l,h => by
    have h1 := h f (by simp)
    have h2 := joinTail_le (sep := sep) (B := B) l (fun g hg => h g (by simp [hg]))
    simp only [joinTail,List.map_cons,List.flatten_cons,List.length_append,List.length_cons,Nat.succ_mul] at h2 ⊢
    omega
theorem c49k {m t : Nat} {live : List Nat} {ob : List (Nat × List AV)} {b0 s : Bytes} (hlen : b0.length + s.length ≤ 140737488355328) :
    MCalls Tryz.prog 49 [.ptr 1 0,.str s] ⟨m,(1,[.bld b0]) :: ob,t,live,gl⟩ fun o S' => o = .ok (.tup [.int .i64 (s.length : Nat),.nili]) ∧ S' = ⟨m,(1,[.bld (b0 ++ s)]) :: (1,[.bld b0]) :: ob,t,live,gl⟩ :=
  c49 (S := ⟨m,(1,[.bld b0]) :: ob,t,live,gl⟩) (by simp [St.get]) hlen
theorem c49m {n m t : Nat} {live : List Nat} {a b : List AV} {ob : List (Nat × List AV)} {b0 s : Bytes} (hn : 2 ≤ n) (hlen : b0.length + s.length ≤ 140737488355328) :
    MCalls Tryz.prog 49 [.ptr 1 0,.str s] ⟨m,(n,a) :: (n,b) :: (1,[.bld b0]) :: ob,t,live,gl⟩ fun o S' => o = .ok (.tup [.int .i64 (s.length : Nat),.nili]) ∧ S' = ⟨m,(1,[.bld (b0 ++ s)]) :: (n,a) :: (n,b) :: (1,[.bld b0]) :: ob,t,live,gl⟩ :=
  c49 (S := ⟨m,(n,a) :: (n,b) :: (1,[.bld b0]) :: ob,t,live,gl⟩) (by have z : (1 = n) = False := eq_false (by omega); simp [St.get,lookG,z]) hlen
set_option maxHeartbeats 4000000 in
theorem c36 (hg : GlNR gl) {m0 : Int} (hm0 : gl.lookup 1 = some [.int .i64 m0]) (r : Req) (hs : SmallR r) : Pure Tryz.prog gl 36 [r.av] (.ok (.str (fmtR r))) := by
  refine ⟨?_,by simp only [fgs,nrs,forall_eq_or_imp,forall_eq,implies_true],by simp only [nrs,forall_eq_or_imp,forall_eq,implies_true]⟩
  simp only [fgs]
  refine .of_run is36 (by simp) (mw_sound 200 ?_)
  rcases Bool.eq_false_or_eq_true (form24 r) with hf | hf
  · have hpr : fmtR r = fmtT r := by simp only [fmtR,hf,if_true]
    have hf' := hf
    simp only [form24,Bool.and_eq_true,decide_eq_true_eq] at hf'
    obtain ⟨_,hf1,hf8,hl8,hsd,hp0,hp1,_,hlv⟩ := hf'
    have hlv := List.all_eq_true.1 hlv
    have hel := hs.ent
    have hfl := hs.f
    have hjl : (Lib.join r.fs [44,32]).length ≤ 60000000000 := by
      match hr : r.fs,hf1 with
      | f :: l,_ =>
        rw [join_cons,List.length_append]
        have h1 := hfl f (by simp [hr])
        have h2 := joinTail_le (sep := [44,32]) (B := 4294960000) l (fun g hg => Nat.le_of_lt (hfl g (by simp [hr,hg])))
        rw [hr] at hf8
        simp at hf8 h2
        have h3 : l.length * (2 + 4294960000) ≤ 7 * (2 + 4294960000) := Nat.mul_le_mul_right _ (by omega)
        omega
    have hsd' : 0 ≤ r.seed ∧ r.seed ≤ 1099511627776 := by simpa [tickB] using hsd
    have hpt : tickB r.pm = true := by simp [tickB]; omega
    have hi1 := itoa_len hsd
    have hi2 := itoa_len hpt
    have hll := labsT_len r.labs [32,97,116,32] (by simp) hlv
    have hB : ∀ s q,fmtT r = s ++ q → s.length ≤ 200000000000 := fun s q he => by
      have := congrArg List.length he
      simp only [fmtT,head24,tail24,List.length_append,List.length_cons,List.length_nil] at this
      omega
    rw [hpr]
    have h51a := c51 (gl := gl) r.seed (by omega) (by omega)
    have h51b := c51 (gl := gl) r.pm (by omega) (by omega)
    have h50 := c50 (gl := gl) r.fs [44,32] (by omega) (by omega)
    repeat' first
      | with_reducible first | refine mw_as m36.eq_1 ?_ | refine opn m36k0.eq_1 ?_ | refine .pu (c91 hg hm0 r hs) hg rfl ?_ | refine .pu (Pure.conv (h50) (by simp only [fgs])) hg rfl ?_ | refine .pu (h51a) hg rfl ?_ | refine .pu (h51b) hg rfl ?_ | refine CallK.eff (c49k ?_) ?_ | refine PCallK.eff (c49k ?_) (fun _ => by first | exact of_eq_true InvS_refl | (simp [InvS_nil,InvS_cons,get_if,InvS_refl]; done)) ?_ | refine ⟨?_,?_⟩ | intro _
      | simp only [go_sem,↓reduceIte,Nat.reduceAdd,Nat.reduceLeDiff,Nat.reduceEqDiff,Nat.reduceBEq,Nat.reduceBNe,Nat.reduceMul,Nat.reduceLT,reduceCtorEq,Int.reduceLT,Int.reduceLE,Int.reduceToNat,Int.reduceNeg,  hf]
    all_goals first
      | omega
      | (simp only [List.length_append,List.length_cons,List.length_nil]; omega)
      | skip
    refine MRun.keep (live' := []) (ob' := [(1,[.bld (head24 r ++ tail24 r)])]) ?_ (by
      intro l cs h
      simp only [head24,tail24,List.cons_append,List.nil_append,List.append_assoc,lookG] at h ⊢
      grind) (by simp)
    refine .forUp r.labs.length (fun i F S => ∃ (b acc : Bytes) (m t : Nat),2 ≤ m ∧ b.length ≤ 4 ∧ F = [(3,AV.ptr 1 0),(4,AV.str b),(30,AV.sl 3 (List.map Lab.av r.labs) STok.unk),(31,AV.int IntKind.i64 ↑r.labs.length),(32,AV.int IntKind.i64 i)] ∧
      S = ⟨m,[(1,[.bld acc])],t,[],gl⟩ ∧ fmtT r = acc ++ labsT b (r.labs.drop i)) ⟨_,_,_,_,Nat.le_refl _,by simp,rfl,rfl,by simp [fmtT]⟩ ?_
    rintro i F S hi ⟨b,acc,m,t,hm,hb,rfl,rfl,he⟩ ih
    by_cases h : i < r.labs.length
    · obtain ⟨x,hx⟩ := some_of_lt h
      rw [drop_some hx,labsT,← List.append_assoc] at he
      have hbx := hB _ _ he
      rw [List.length_append] at hbx
      have hxb := hlv x (List.mem_of_getElem? hx)
      have hxi := labB_in hxb
      have hxl := labT_len hb hxb
      have h51c := c51 (gl := gl) x.e (by omega) (by omega)
      have h51d := c51 (gl := gl) x.n (by omega) (by omega)
      simp only [labT,List.length_append,List.length_cons,List.length_nil] at hxl hbx
      refine opn m36l0.eq_1 ?_
      repeat' first
        | with_reducible first | refine mw_as m36.eq_1 ?_ | refine opn m36k0.eq_1 ?_ | refine .pu (h51c) hg rfl ?_ | refine .pu (h51d) hg rfl ?_ | refine CallK.eff (c49m hm ?_) ?_ | refine PCallK.eff (c49m hm ?_) (fun _ => by simp [InvS_nil,InvS_cons,get_if,InvS_refl]; omega) ?_ | refine ⟨?_,?_⟩ | intro _
        | simp only [go_sem,↓reduceIte,Nat.reduceAdd,Nat.reduceLeDiff,Nat.reduceEqDiff,Nat.reduceBEq,Nat.reduceBNe,Nat.reduceMul,Nat.reduceLT,reduceCtorEq,Int.reduceLT,Int.reduceLE,Int.reduceToNat,Int.reduceNeg,  hx,ltB h,ltP h,use_eq,(show (0 = m) = False from eq_false (by omega)),(show (m = 0) = False from eq_false (by omega)),(show (1 = m) = False from eq_false (by omega)),(show (m = 1) = False from eq_false (by omega)),wrap_succ (show i < 9223372036854775807 by omega)]
      all_goals first
        | omega
        | (simp only [List.length_append,List.length_cons,List.length_nil]; omega)
        | skip
      refine MRun.keep (live' := []) (ih h _ _ ⟨[44,32],acc ++ labT b x,m + 1,t,by omega,by simp,rfl,rfl,he⟩) ?_ (by simp)
      intro l cs h
      simp only [lookG,labT] at h ⊢
      grind
    · refine opn m36l0.eq_1 ?_
      rw [List.drop_eq_nil_of_le (Nat.le_of_not_lt h),labsT,List.append_nil] at he
      repeat' first
        | with_reducible first | refine mw_as m36.eq_1 ?_ | refine opn m36k0.eq_1 ?_ | refine CallK.eff (c53k) ?_ | refine ⟨?_,?_⟩ | intro _
        | simp only [go_sem,↓reduceIte,Nat.reduceAdd,Nat.reduceLeDiff,Nat.reduceEqDiff,Nat.reduceBEq,Nat.reduceBNe,Nat.reduceMul,Nat.reduceLT,reduceCtorEq,Int.reduceLT,Int.reduceLE,Int.reduceToNat,Int.reduceNeg,  geB (Nat.le_of_not_lt h)]
      rw [he]
  · have h91 := c91 hg hm0 r hs
    repeat' first
      | with_reducible first | refine mw_as m36.eq_1 ?_ | refine opn m36k0.eq_1 ?_ | refine .pu (h91) hg rfl ?_ | refine ⟨?_,?_⟩ | intro _
      | simp only [go_sem,↓reduceIte,Nat.reduceAdd,Nat.reduceLeDiff,Nat.reduceEqDiff,Nat.reduceBEq,Nat.reduceBNe,Nat.reduceMul,Nat.reduceLT,reduceCtorEq,Int.reduceLT,Int.reduceLE,Int.reduceToNat,Int.reduceNeg,  hf]
    rw [fmtR,hf]
    rfl
end Go.Proofs.YtdjdhecanjmchaaGreatDoor
