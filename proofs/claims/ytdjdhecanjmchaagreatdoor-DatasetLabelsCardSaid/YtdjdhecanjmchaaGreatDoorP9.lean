/- slices.Clone at an empty slice. -/
import Derived.Test.YtdjdhecanjmchaaGreatDoorP8
import Derived.Shelf.Strings.Builder1
import Derived.BigCall
import Derived.BigGuard
import Derived.Lib.SliceRun
import Derived.RangeFuncOwn
import Derived.WalkKit
import Derived.TacticsIn
import Derived.BigFrameIn
set_option linter.unusedSimpArgs false
set_option linter.unusedVariables false
namespace Go.Proofs.YtdjdhecanjmchaaGreatDoor
open Go Go.V Go.Lib Go.RowKit
set_option maxRecDepth 100000
set_option maxHeartbeats 2000000
variable {gl : List (Nat × List AV)}
theorem clone_nil (w : World) : Calls Tryz.prog 177 #[.slice none 0 0] w fun e w' => e = .returned (.slice none 0 0) ∧ Below w.heap.size w w' := by
  have he := fun (a : Option Addr) (n c : Nat) (w : World) => run_eql_slice_nil (P := Tryz.prog) w 23 53 a n c 0 0 Tryz.underlying23
  go_enter Tryz.func177,Tryz.ntmps177
  go_wp2
  go_ret
  exact ⟨rfl,Below.refl _ _⟩
theorem clone_empty (ad : Addr) (cap : Nat) (w : World) : Calls Tryz.prog 177 #[.slice (some ad) 0 cap] w fun e w' => e = .returned (.slice (some ⟨w.heap.size,0,none⟩) 0 0) ∧ Below w.heap.size w w' := by
  have he := fun (a : Option Addr) (n c : Nat) (w : World) => run_eql_slice_nil (P := Tryz.prog) w 23 53 a n c 0 0 Tryz.underlying23
  go_enter Tryz.func177,Tryz.ntmps177
  go_wp2
  go_ret
  exact ⟨rfl,(Below.refl _ _).alloc (Nat.le_refl _) _⟩
theorem VRel.sl_empty (G : Gh) (k r b c : Nat) : VRel G (.sl k [] .unk) (.slice (some ⟨r,b,none⟩) 0 c) := by
  have := VRel.sl (G := G) (k := k) (xs := []) (t := .unk) (r := r) (b := b) (cap := c) (fun _ => .nilIface) (by simp) (by simp) (by simp) (by simp) (by simp) trivial
  simpa using this
theorem c177_0 : Pure Tryz.prog gl 177 [.sl 3 [] .unk] (.ok (.sl 3 [] .unk)) := by
  refine ⟨?_,by simp only [fgs,nrs,forall_eq_or_imp,forall_eq,implies_true,nr_e3],by simp only [nrs,forall_eq_or_imp,forall_eq,implies_true,nr_e3]⟩
  simp only [fgs]
  refine (MCalls.ofBelow Tryz.call177 fun wb G w vs hS hv => ?_).mono fun o S' h => h.2
  obtain ⟨v1,vs1,rfl,e1,hv⟩ := hv.cons_inv
  obtain rfl := hv.nil_inv
  cases e1 with
  | slnil _ _ ad =>
    cases ad with
    | none => exact ⟨_,.slnil _ _ _,clone_nil w⟩
    | some ad => exact ⟨_,VRel.sl_empty _ _ _ _ _,clone_empty _ _ w⟩
  | sl f hk hp ho hv hc ht => exact ⟨_,VRel.sl_empty _ _ _ _ _,clone_empty _ _ w⟩
end Go.Proofs.YtdjdhecanjmchaaGreatDoor
namespace Go.Proofs.YtdjdhecanjmchaaGreatDoor
open Go Go.V Go.Lib Go.RowKit
set_option maxRecDepth 40000
attribute [local go_sem ↓] keepK Opd.ev MK.ev MK.ob gsA
attribute [local go_sem high] gsB
attribute [local go_sem] binEv binOb intOp strOp unEv eqvEv eqCells eqCell noBld tasEv AV.there AV.plus pickCells storeEv AV.solid AV.cells splice putParts rowOK fldEv iarrEv extEv minEv nonNil lenEv isStr appEv appOb appArg slVecEv slVecOb slStrEv slStrOb bnd argF endQ rvsEv rvEv resOf St.none if_true if_false ite_self eq_self ne_eq implies_true forall_const Lab.av Val.av Exa.av Dset.av Req.av gsC
variable {gl : List (Nat × List AV)}
theorem c124_0 (hg : GlNR gl) : Pure Tryz.prog gl 124 [.sl 3 [] .unk] (.ok (.sl 3 [] .unk)) := by
  refine ⟨?_,by simp only [fgs,nrs,forall_eq_or_imp,forall_eq,implies_true,nr_e3],by simp only [nrs,forall_eq_or_imp,forall_eq,implies_true,nr_e3]⟩
  simp only [fgs]
  refine .of_run is124 (by simp) (mw_sound 200 ?_)
  repeat' first
    | with_reducible first | refine mw_as m124.eq_1 ?_ | refine .pu (c177_0) hg rfl ?_ | refine .pu (c178_0 hg) hg rfl ?_ | refine .pu (c180_0) hg rfl ?_ | refine ⟨?_,?_⟩ | intro _
    | simp only [go_sem,↓reduceIte,Nat.reduceAdd,Nat.reduceLeDiff,Nat.reduceEqDiff,Nat.reduceBEq,Nat.reduceBNe,Nat.reduceMul,Nat.reduceLT,reduceCtorEq,Int.reduceLT,Int.reduceLE,Int.reduceToNat,Int.reduceNeg]
abbrev boxAV (e : Bytes) (fs : List Bytes) (s p : Int) : AV := .eptr 5 [.agg [.str e,.sl 1 (fs.map .str) .unk,.sl 3 [] .unk,.int .i64 s,.int .i64 p]] 0 0
theorem c123_0 (hg : GlNR gl) (y : AV) (e : Bytes) (fs : List Bytes) (s p : Int) : MCalls Tryz.prog 123 [y,boxAV e fs s p] (.none gl) fun o _ => o = .ok (.tup []) := by
  refine .of_run is123 (by simp) (mw_sound 200 ?_)
  repeat' first
    | with_reducible first | refine mw_as m123.eq_1 ?_ | refine opn m123k0.eq_1 ?_ | refine opn m123k1.eq_1 ?_ | refine .pu (c124_0 hg) hg rfl ?_ | refine ⟨?_,?_⟩ | intro _
    | simp only [go_sem,↓reduceIte,Nat.reduceAdd,Nat.reduceLeDiff,Nat.reduceEqDiff,Nat.reduceBEq,Nat.reduceBNe,Nat.reduceMul,Nat.reduceLT,reduceCtorEq,Int.reduceLT,Int.reduceLE,Int.reduceToNat,Int.reduceNeg]
  refine MRun.loop1 (mw_sound 60 (mw_as m123l0.eq_1 ?_))
  repeat' first
    | with_reducible first | refine mw_as m123.eq_1 ?_ | refine opn m123k0.eq_1 ?_ | refine opn m123k1.eq_1 ?_ | refine .pu (c124_0 hg) hg rfl ?_ | refine ⟨?_,?_⟩ | intro _
    | simp only [go_sem,↓reduceIte,Nat.reduceAdd,Nat.reduceLeDiff,Nat.reduceEqDiff,Nat.reduceBEq,Nat.reduceBNe,Nat.reduceMul,Nat.reduceLT,reduceCtorEq,Int.reduceLT,Int.reduceLE,Int.reduceToNat,Int.reduceNeg,  (show decide ((0 : Int) < ((0 : Nat) : Int)) = false from rfl)]
structure BoxAt (G : Gh) (w : World) (b : Nat) (e : Bytes) (fs : List Bytes) (s p : Int) : Prop where
  c0 : w.cell? ⟨b,0,none⟩ = some (.string ⟨e.toArray⟩)
  c1 : ∃ v,w.cell? ⟨b,1,none⟩ = some v ∧ VRel G (.sl 1 (fs.map .str) .unk) v
  c2 : ∃ v,w.cell? ⟨b,2,none⟩ = some v ∧ VRel G (.sl 3 [] .unk) v
  c3 : w.cell? ⟨b,3,none⟩ = some (.int .i64 s)
  c4 : w.cell? ⟨b,4,none⟩ = some (.int .i64 p)
theorem sl_one_cell {G : Gh} {k : Nat} {xs : List AV} {t : STok} {v : Value} (h : VRel G (.sl k xs t) v) : v.oneCell' = true := by
  cases h <;> rfl
theorem iter_none (hg : GlNR gl) {wb : Base} {G : Gh} {S : St} {w w1 : World} (hS : StRel wb G S w) (hgl : S.gl = gl) (hB : Below w.heap.size w w1) {b : Nat} {e : Bytes} {fs : List Bytes} {s p : Int} (hb : BoxAt G w1 b e fs s p) (l : Nat) :
    Calls Tryz.prog 123 #[.func (.yield l) #[] #[],.pointer (some ⟨b,0,none⟩)] w1 fun e w2 => (∃ v,e = .returned v) ∧ Below w1.heap.size w1 w2 := by
  subst hgl
  have hS1 : StRel wb G S w1 := StRel.keepAll hS hB
  let G1 : Gh := ⟨fun r o => w1.cell? ⟨r,o,none⟩,fun _ => Option.none,fun _ => Option.none,w1.heap.size⟩
  let wb1 : Base := { toWorld := w1,φ := fun r o => w1.cell? ⟨r,o,none⟩,good := hS1.good }
  have hle : ∀ r o v,G.φ r o = some v → G1.φ r o = some v := fun r o v h => hS1.prom r o v h
  have hst1 : StRel wb1 G1 (.none S.gl) w1 := {
    prom := fun r o v h => h
    apart := fun l cs r o _ e => by cases e
    obj := fun l cs e => by cases e
    beta := rfl
    bld := fun l s e => by cases e
    bldu := fun l l' s s' e => by cases e
    inj := fun l l' r e => by cases e
    dom := fun l r e => by cases e
    tok := fun t ht => by cases ht
    tdom := fun t x e => by cases e
    tdis := fun t ht => by cases ht
    base := ⟨Nat.le_refl _,fun _ _ => rfl⟩
    pold := fun r o v _ e => e
    still := ⟨rfl,rfl,rfl⟩
    glob := fun g cs e m c hm => by
      obtain ⟨v,h1,h2,h3⟩ := hS1.glob g cs e m c hm
      exact ⟨v,hle _ _ _ h1,hg g cs e c (List.mem_of_getElem? hm) _ _ _ hle h2,h3⟩ }
  obtain ⟨v1,d1,r1⟩ := hb.c1
  obtain ⟨v2,d2,r2⟩ := hb.c2
  have r1' : VRel G1 (.sl 1 (fs.map .str) .unk) v1 := (NoRef.sl (by simp [AV.cells]; intro a _; exact .str _) (.inl rfl)) G G1 v1 hle r1
  have r2' : VRel G1 (.sl 3 [] .unk) v2 := (NoRef.sl (by simp) (.inl rfl)) G G1 v2 hle r2
  have hbox : VRel G1 (boxAV e fs s p) (.pointer (some ⟨b,0,none⟩)) := by
    have key : ∀ (m : Nat) (c : AV),(flat [AV.agg [.str e,.sl 1 (fs.map .str) .unk,.sl 3 [] .unk,.int .i64 s,.int .i64 p]])[m]? = some c → ∃ u,w1.cell? ⟨b,m,none⟩ = some u ∧ u.oneCell' = true ∧ VRel G1 c u := by
      intro m c hm
      match m with
      | 0 => simp [AV.cells] at hm; subst hm; exact ⟨_,hb.c0,rfl,.str _⟩
      | 1 => simp [AV.cells] at hm; subst hm; exact ⟨_,d1,sl_one_cell r1',r1'⟩
      | 2 => simp [AV.cells] at hm; subst hm; exact ⟨_,d2,sl_one_cell r2',r2'⟩
      | 3 => simp [AV.cells] at hm; subst hm; exact ⟨_,hb.c3,rfl,.int _ _⟩
      | 4 => simp [AV.cells] at hm; subst hm; exact ⟨_,hb.c4,rfl,.int _ _⟩
      | m + 5 => simp [AV.cells] at hm
    have := VRel.eptr (G := G1) (k := 5) (xs := [AV.agg [.str e,.sl 1 (fs.map .str) .unk,.sl 3 [] .unk,.int .i64 s,.int .i64 p]]) (i := 0) (off := 0) (r := b) (b := 0) (fun m => (w1.cell? ⟨b,m,none⟩).getD .nilIface)
      (by simp [AV.cells]) (fun m c hm => by obtain ⟨u,h1,h2,h3⟩ := key m c hm; show w1.cell? ⟨b,0 + m,none⟩ = _; rw [Nat.zero_add,h1]; rfl)
      (fun m c hm => by obtain ⟨u,h1,h2,h3⟩ := key m c hm; simp only [h1,Option.getD_some]; exact h2)
      (fun m c hm => by obtain ⟨u,h1,h2,h3⟩ := key m c hm; simp only [h1,Option.getD_some]; exact h3)
    simpa using this
  have hy : VRel G1 (.fn (.yield l) [] []) (.func (.yield l) #[] #[]) := VRel.fn (G := G1) (.yield l) (first := []) (caps := []) (vs := []) (ws := []) rfl rfl (by simp) (by simp)
  have hv : VRels G1 [.fn (.yield l) [] [],boxAV e fs s p] [.func (.yield l) #[] #[],.pointer (some ⟨b,0,none⟩)] :=
    ⟨rfl,fun m c u h1 h2 => by
      match m with
      | 0 => simp at h1 h2; subst h1; subst h2; exact hy
      | 1 => simp at h1 h2; subst h1; subst h2; exact hbox
      | m + 2 => simp at h1⟩
  have hi := c123_0 hg (.fn (.yield l) [] []) e fs s p wb1 G1 w1 _ hst1 hv
  unfold Invk at hi
  rw [Tryz.call123] at hi
  refine Calls.mono hi fun e w2 ⟨G',S',h1,h2,h3⟩ => ?_
  have hbl : Below w1.heap.size w1 w2 := ⟨h2.still.1,h2.still.2.2,h2.still.2.1,h2.base.1,fun k hk => h2.base.2 k hk⟩
  cases e with
  | returned v => exact ⟨⟨v,rfl⟩,hbl⟩
  | panicked ch => obtain ⟨v,av,h4,h5,h6⟩ := h3; cases h6
  | outgrown => exact h3.elim
end Go.Proofs.YtdjdhecanjmchaaGreatDoor
namespace Go.Proofs.YtdjdhecanjmchaaGreatDoor
open Go Go.V Go.Lib Go.RowKit
set_option maxRecDepth 100000
set_option maxHeartbeats 2000000
variable {gl : List (Nat × List AV)}
theorem below_put {B : Nat} {w w1 : World} (h : Below B w w1) {b : Nat} (hb : B ≤ b) (o : Obj) : Below B w (w1.putObj b o) :=
  ⟨h.os,h.tape,h.output,by have := h.size; simpa [World.putObj] using this,fun k hk => (World.putObj_heap_other (by omega)).trans (h.block k hk)⟩
theorem wpIn_rangeFunc_none {F : Fence} {n : Nat} {P : Program} {g : Operand} {ps : Array Tmp} {assign body : Code} {Q : Exit → Act → World → Prop} {a : Act} {w : World}
    (hro : F.round = none) (h1 : 1 ≤ n) {gf : Nat} {lb : Array Value} (hg : a.eval g = .func (.func gf) #[] lb) (hFg : F.fn gf) (eg : ∀ args w,(callFunc gf args).run P w = .ok (.enter gf args) w)
    (hcall : ∀ (W1 : World) (l : Nat),Below w.heap.size w W1 → CallsIn F (n - 1) P gf (#[.func (.yield l) #[] #[]] ++ lb) W1 fun e W2 => (∃ v,e = .returned v) ∧ Below W1.heap.size W1 W2)
    (hdone : ∀ (D : Nat) (W : World),w.heap.size ≤ D → Below w.heap.size w W → W.heap[D]? = some (.deferred (some [])) → Q .normal { a with defers := { target := .collected D,args := #[] } :: a.defers } W) :
    (Code.rangeFunc g ps assign body).wpIn F n P Q a w := by
  refine wpIn_rangeFunc ?_
  intro fn hfn
  rw [hro]
  obtain ⟨rec,hrec⟩ : ∃ rec : Loop,rec = { state := .ready,pending := none,fn,tmps := a.tmps,params := ps,assign,body,defers := w.heap.size } := ⟨_,rfl⟩
  obtain ⟨W1,hW1⟩ : ∃ W1,(w.alloc (.deferred (some []))).alloc (.loop rec) = W1 := ⟨_,rfl⟩
  have hL1 : W1.heap[w.heap.size + 1]? = some (.loop rec) := by
    rw [← hW1]; have := World.alloc_heap_new (w.alloc (.deferred (some []))) (.loop rec); rwa [World.size_alloc] at this
  have hK1 : W1.heap[w.heap.size]? = some (.deferred (some [])) := by
    rw [← hW1]; exact (Below.heap_alloc _ _ _ (by simp)).trans (World.alloc_heap_new w _)
  have hb1 : Below w.heap.size w W1 := by
    rw [← hW1]; exact ((Below.refl _ w).alloc (Nat.le_refl _) _).alloc (by simp) _
  have hsz : W1.heap.size = w.heap.size + 2 := by rw [← hW1]; simp
  refine ⟨w.heap.size + 1,[{ target := .collected w.heap.size,args := #[] }],W1,{ target := .fn (.func gf) lb,args := #[.func (.yield (w.heap.size + 1)) #[] #[]] },W1,gf,
    #[.func (.yield (w.heap.size + 1)) #[] #[]] ++ lb,W1,?_,?_,?_,?_,fun _ => h1,?_⟩
  · rw [← hW1,hrec]; exact run_enterLoop_outer _ _ _ _ _
  · simp only [resolve,hg]
    simp [go_sem]
  · intro f' hf'; simp [Target.leads] at hf'; subst hf'; exact hFg
  · simp [invoke,go_sem,eg]
  · refine (hcall W1 (w.heap.size + 1) hb1).mono ?_
    rintro e W2 ⟨⟨v,rfl⟩,hb2⟩
    have hL2 : W2.heap[w.heap.size + 1]? = some (.loop rec) := by rw [hb2.block _ (by omega)]; exact hL1
    have hK2 : W2.heap[w.heap.size]? = some (.deferred (some [])) := by rw [hb2.block _ (by omega)]; exact hK1
    have hend := run_endLoop (P := P) hL2 (by rw [hrec]; simp)
    rw [show rec.pending = none by rw [hrec]] at hend
    refine ⟨none,_,hend,?_⟩
    refine hdone w.heap.size _ (Nat.le_refl _) (below_put (hb1.trans (hb2.mono (by omega))) (by omega) _) ?_
    exact (World.putObj_heap_other (by omega)).trans hK2
theorem req_inv {G : Gh} {e : Bytes} {fs : List Bytes} {s p : Int} {u : Value} (h : VRel G (.agg [.str e,.sl 1 (fs.map .str) .unk,.sl 3 [] .unk,.int .i64 s,.int .i64 p]) u) :
    ∃ va vb,u = .agg #[.string ⟨e.toArray⟩,va,vb,.int .i64 s,.int .i64 p] ∧ VRel G (.sl 1 (fs.map .str) .unk) va ∧ VRel G (.sl 3 [] .unk) vb ∧ va.oneCell' = true ∧ vb.oneCell' = true := by
  cases h with
  | agg hl ho hv =>
    rename_i us
    match us,hl with
    | [a,b,c,d,f],_ =>
      have h1 := hv 0 _ a rfl rfl
      have h2 := hv 1 _ b rfl rfl
      have h3 := hv 2 _ c rfl rfl
      have h4 := hv 3 _ d rfl rfl
      have h5 := hv 4 _ f rfl rfl
      rw [h1.str_inv,h4.int_inv,h5.int_inv]
      exact ⟨b,c,rfl,h2,h3,ho b (by simp),ho c (by simp)⟩
theorem c26_0 (hg : GlNR gl) (e : Bytes) (fs : List Bytes) (s p : Int) : Pure Tryz.prog gl 26 [(Req.mk e fs [] s p).av] (.ok (.sl 3 [] .unk)) := by
  refine ⟨?_,by simp only [fgs,nrs,forall_eq_or_imp,forall_eq,implies_true,nr_e3],by simp only [nrs,forall_eq_or_imp,forall_eq,implies_true,nr_e3]⟩
  simp only [fgs]
  refine (MCalls.ofBelow Tryz.call26 fun wb G w vs hS hv => ?_).mono fun o S' h => h.2
  obtain ⟨v1,vs1,rfl,e1,hv⟩ := hv.cons_inv
  obtain rfl := hv.nil_inv
  refine ⟨.slice none 0 0,.slnil _ _ _,?_⟩
  obtain ⟨va,vb,rfl,ha,hb,oa,ob⟩ := req_inv e1
  have k74 : ∀ w1,Calls Tryz.prog 74 #[.agg #[.string ⟨e.toArray⟩,va,vb,.int .i64 s,.int .i64 p]] w1 fun e' w2 => e' = .returned (.func (.func 123) #[] #[.pointer (some ⟨w1.heap.size,0,none⟩)]) ∧ w2 = w1.alloc (.cells #[.string ⟨e.toArray⟩,va,vb,.int .i64 s,.int .i64 p] 25) := by
    intro w1
    go_enter Tryz.func74,Tryz.ntmps74
    go_wp2
    go_ret
    exact ⟨rfl,rfl⟩
  rw [← callsIn_wide (n := 5)]
  refine callsIn_of_wp_marks Tryz.func26 rfl trivial ?_ rfl
  simp only [Tryz.ntmps26,List.size_toArray,List.length_cons,List.length_nil,Nat.reduceAdd,Nat.reduceSub,Array.replicate_succ,Array.replicate_zero,List.push_toArray,List.append_toArray,List.nil_append,List.cons_append]
  gi_wp2
  refine ⟨trivial,CallsIn.mono (callsIn_wide.2 (k74 _)) ?_⟩
  rintro e' w1 ⟨rfl,rfl⟩
  gi_wp2
  obtain ⟨A,hA⟩ : ∃ A,A = Obj.cells #[Value.string ⟨e.toArray⟩,va,vb,Value.int .i64 s,Value.int .i64 p] 25 := ⟨_,rfl⟩
  obtain ⟨B,hBo⟩ : ∃ B,B = Obj.cells #[Value.slice none 0 0] 23 := ⟨_,rfl⟩
  rw [← hA,← hBo]
  have hW0 : Below w.heap.size w (((w.alloc A).alloc B).alloc A) := (((Below.refl _ w).alloc (Nat.le_refl _) A).alloc (by simp) B).alloc (by simp; omega) A
  have e1 : (w.alloc A).heap.size = w.heap.size + 1 := by simp
  have e2 : ((w.alloc A).alloc B).heap.size = w.heap.size + 1 + 1 := by simp
  have hz : ∀ o,(((w.alloc A).alloc B).alloc A).cell? ⟨w.heap.size + 1,o,none⟩ = ((w.alloc A).alloc B).cell? ⟨w.heap.size + 1,o,none⟩ := fun o => ((Below.refl _ ((w.alloc A).alloc B)).alloc (Nat.le_refl _) A).cell (by simp)
  have hzf : ∀ o,(((w.alloc A).alloc B).alloc A).frozen? ⟨w.heap.size + 1,o,none⟩ = ((w.alloc A).alloc B).frozen? ⟨w.heap.size + 1,o,none⟩ := fun o => ((Below.refl _ ((w.alloc A).alloc B)).alloc (Nat.le_refl _) A).frozen (by simp)
  refine wpIn_rangeFunc_none rfl (by omega) (gf := 123) (lb := #[.pointer (some ⟨w.heap.size + 1 + 1,0,none⟩)]) (by simp [Act.eval]) trivial Tryz.call123 ?hcall ?hdone
  case hcall =>
    intro W1 l hB1
    refine callsIn_wide.2 ?_
    have hc : ∀ o,W1.cell? ⟨w.heap.size + 1 + 1,o,none⟩ = (((w.alloc A).alloc B).alloc A).cell? ⟨w.heap.size + 1 + 1,o,none⟩ := fun o => hB1.cell (by simp)
    have hn : ∀ o,(((w.alloc A).alloc B).alloc A).cell? ⟨w.heap.size + 1 + 1,o,none⟩ = (#[Value.string ⟨e.toArray⟩,va,vb,Value.int .i64 s,Value.int .i64 p] : Array Value)[o]? := fun o => by
      rw [← e2,hA,World.cell?_alloc_new]
    refine iter_none hg hS rfl (hW0.trans (hB1.mono hW0.size)) (b := w.heap.size + 1 + 1) (e := e) (fs := fs) (s := s) (p := p) ⟨?_,⟨va,?_,ha⟩,⟨vb,?_,hb⟩,?_,?_⟩ l
    all_goals (rw [hc,hn]; rfl)
  case hdone =>
    intro D W hD hB hK
    have hc : W.cell? ⟨w.heap.size + 1,0,none⟩ = some (.slice none 0 0) := by
      rw [hB.cell (by simp),hz,← e1,hBo,World.cell?_alloc_new]; rfl
    have hf : W.frozen? ⟨w.heap.size + 1,0,none⟩ = false := by
      rw [hB.frozen (by simp),hzf,← e1,hBo]; exact World.frozen?_alloc_new _ _ _ _
    have hBW : Below w.heap.size w W := hW0.trans (hB.mono hW0.size)
    gi_wp2
    have hD2 : w.heap.size + 1 + 1 + 1 ≤ D := by have := hD; simp at this; omega
    obtain ⟨W2,hW2⟩ : ∃ W2,W2 = W.setCell { block := w.heap.size + 1,off := 0 } (Value.slice none 0 0) := ⟨_,rfl⟩
    rw [← hW2]
    have hK2 : W2.heap[D]? = some (.deferred (some [])) := by rw [hW2,Below.heap_setCell _ _ _ _ (by show D ≠ w.heap.size + 1; omega)]; exact hK
    have hc2 : W2.cell? ⟨w.heap.size + 1,0,none⟩ = some (.slice none 0 0) := by rw [hW2]; exact World.cell?_setCell_same' _ _ _ (by rw [hc]; rfl)
    have hB2 : Below w.heap.size w W2 := by rw [hW2]; exact hBW.setCell (by show w.heap.size ≤ w.heap.size + 1; omega) _
    have hc3 : (W2.putObj D (.deferred none)).cell? ⟨w.heap.size + 1,0,none⟩ = some (.slice none 0 0) := (World.cell?_of_block (World.putObj_heap_other (by show w.heap.size + 1 ≠ D; omega))).trans hc2
    have hB3 : Below w.heap.size w (W2.putObj D (.deferred none)) := below_put hB2 (by omega) _
    refine ⟨by simp,.inl ⟨_,_,rfl,run_takeDeferred hK2,?_⟩⟩
    refine ⟨.slice none 0 0,?_,rfl,hB3⟩
    have hr : Tryz.f26.results = #[.cell 2 23] := rfl
    generalize W2.putObj D (.deferred none) = W3 at *
    simp [results,hr,go_sem,hc3]
end Go.Proofs.YtdjdhecanjmchaaGreatDoor
