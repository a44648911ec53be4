/- Contracts over the model's own walk: a call that needs nothing of the store, from a grown world; values.Format, which looks its printer up in a map. -/
import Derived.Test.YtdjdhecanjmchaaGreatDoorP5
import Derived.Shelf.Strings.Builder1
import Derived.BigCall
import Derived.BigGuard
import Derived.ChangeMaps4
set_option linter.unusedSimpArgs false
set_option linter.unusedVariables false
namespace Go.Proofs.YtdjdhecanjmchaaGreatDoor
open Go Go.V Go.RowKit Go.Lib
set_option maxRecDepth 100000
set_option maxHeartbeats 2000000
variable {gl : List (Nat × List AV)}
theorem Pure.below {P : Program} {f : FuncId} {xs : List AV} {r : AV} (h : Pure P gl f xs (.ok r)) (hc : ∀ (args : Array Value) (w : World),(callFunc f args).run P w = .ok (.enter f args) w)
    {wb : Base} {G : Gh} {S : St} {w w1 : World} (hS : StRel wb G S w) (hgl : S.gl = gl) (hg : GlNR gl) (hB : Below w.heap.size w w1) {vs : List Value} (hv : VRels G xs vs) :
    Calls P f vs.toArray w1 fun e w2 => (∃ v G',e = .returned v ∧ VRel G' r v) ∧ Below w1.heap.size w1 w2 := by
  subst hgl
  have hS1 : StRel wb G S w1 := StRel.keepAll hS hB
  have hst := hS1.start hg
  have hfg : VRels G (xs.map AV.fg) vs := hv.fg
  have hv0 : VRels ⟨G.φ,fun _ => Option.none,fun _ => Option.none,w1.heap.size⟩ (xs.map AV.fg) vs := ⟨hfg.len,fun m c v e1 e2 => h.na c (List.mem_of_getElem? e1) G _ v (fun _ _ _ e => e) (hfg.rel m c v e1 e2)⟩
  have hi := h.call _ _ w1 vs hst hv0
  unfold Invk at hi
  rw [hc] at hi
  refine Calls.mono hi fun e w2 ⟨G',S',h1,h2,h3⟩ => ?_
  have hb : Below w1.heap.size w1 w2 := ⟨h2.still.1,h2.still.2.2,h2.still.2.1,h2.base.1,fun k hk => h2.base.2 k hk⟩
  cases e with
  | returned v => obtain ⟨r',h4,h5⟩ := h3; injection h5 with h5; subst h5; exact ⟨⟨v,G',rfl,h4⟩,hb⟩
  | panicked ch => obtain ⟨v,av,h4,h5,h6⟩ := h3; cases h6
  | outgrown => exact h3.elim
def litMap (vs : List Value) : Array MapEntry := (vs.zipIdx.map fun p => { key := .int .i64 p.2,val := p.1,born := p.2 }).toArray
theorem findNow_lit (k : Nat) : ∀ (l : List Value) (i j : Nat),i + l.length ≤ k → Instr.findNow (.int .i64) (.int .i64 (k : Int)) ((l.zipIdx i).map fun p => { key := .int .i64 p.2,val := p.1,born := p.2 }) j = some none
  | [],_,_,_ => rfl
  | v :: l,i,j,h => by
    rw [List.zipIdx_cons,List.map_cons,Instr.findNow]
    have hne : ((k : Int) == (i : Int)) = false := by simp at h ⊢; omega
    simp only [Instr.sameNow,if_true,hne]
    exact findNow_lit k l (i + 1) (j + 1) (by simp at h; omega)
theorem findNow_hit (k : Nat) : ∀ (l : List Value) (i j : Nat) (v : Value),i ≤ k → l[k - i]? = some v → Instr.findNow (.int .i64) (.int .i64 (k : Int)) ((l.zipIdx i).map fun p => { key := .int .i64 p.2,val := p.1,born := p.2 }) j = some (some (j + (k - i),v))
  | [],_,_,_,_,h => by simp at h
  | u :: l,i,j,v,hi,h => by
    rw [List.zipIdx_cons,List.map_cons,Instr.findNow]
    by_cases hk : k = i
    · subst hk
      simp at h
      have he : ((k : Int) == (k : Int)) = true := by simp
      simp only [Instr.sameNow,if_true,he,h,Nat.sub_self,Nat.add_zero]
    · have hne : ((k : Int) == (i : Int)) = false := by simp; omega
      simp only [Instr.sameNow,if_true,hne]
      rw [findNow_hit k l (i + 1) (j + 1) v (by omega) (by rw [← h,show k - i = (k - (i + 1)) + 1 by omega,List.getElem?_cons_succ])]
      congr 3
      omega
theorem litMap_push (vs : List Value) (v : Value) : (litMap vs).push { key := .int .i64 vs.length,val := v,born := vs.length } = litMap (vs ++ [v]) := by
  unfold litMap
  simp [List.zipIdx_append]
theorem run_insert_lit (w : World) (b : Nat) (vs : List Value) (v : Value) (n : Nat) (hn : vs.length = n) (hb : w.heap[b]? = some (.map (litMap vs) n)) :
    (Instr.mapUpdate 144 (.map (some b)) (.int .i64 (n : Int)) v).run Tryz.prog w = .ok () (ChangeMaps.setBlock w b (.map (litMap (vs ++ [v])) (n + 1))) := by
  subst hn
  have h1 : Instr.findNow (.int .i64) (.int .i64 (vs.length : Int)) (litMap vs).toList 0 = some none := by
    have := findNow_lit vs.length vs 0 0 (by omega)
    simpa [litMap] using this
  have hk : MapKept.IsKey (.int .i64) (.int .i64 (vs.length : Int)) := rfl
  rw [← litMap_push]
  simp [Instr.mapUpdate,run_underlying Tryz.underlying144,MapKept.run_getObj_map hb,MapKept.run_checkKey Tryz.underlying3 hk,MapKept.run_findKey Tryz.underlying3 h1,MapKept.run_setObj_map _ hb,Result.andThen,ChangeMaps.setBlock]
theorem run_lookup_lit (w : World) (b : Nat) (vs : List Value) (v : Value) (k : Nat) (hb : w.heap[b]? = some (.map (litMap vs) vs.length)) (hv : vs[k]? = some v) :
    (Instr.lookup 144 (.map (some b)) (.int .i64 (k : Int)) false).run Tryz.prog w = .ok v w := by
  have h1 : Instr.findNow (.int .i64) (.int .i64 (k : Int)) (litMap vs).toList 0 = some (some (k,v)) := by
    have := findNow_hit k vs 0 0 v (by omega) (by simpa using hv)
    simpa [litMap] using this
  have hk : MapKept.IsKey (.int .i64) (.int .i64 (k : Int)) := rfl
  simp [Instr.lookup,run_underlying Tryz.underlying144,MapKept.run_getObj_map hb,MapKept.run_checkKey Tryz.underlying3 hk,MapKept.run_findKey Tryz.underlying3 h1,Result.andThen]
theorem below_set {B : Nat} {w w1 : World} (h : Below B w w1) {b : Nat} (hb : B ≤ b) (o : Obj) : Below B w (ChangeMaps.setBlock w1 b o) :=
  ⟨h.os,h.tape,h.output,by simp [ChangeMaps.setBlock]; exact h.size,fun k hk => by
    have : b ≠ k := by omega
    simp [ChangeMaps.setBlock,Array.getElem?_setIfInBounds,this]
    exact h.block k hk⟩
theorem cell_setBlock {w : World} {b r : Nat} {o : Obj} (h : b ≠ r) (off : Nat) : (ChangeMaps.setBlock w b o).cell? ⟨r,off,none⟩ = w.cell? ⟨r,off,none⟩ := by
  simp [World.cell?,ChangeMaps.setBlock,Array.getElem?_setIfInBounds,h]
structure MapW (w : World) (v : Val) (b0 b1 bm : Nat) (vs : List Value) (n : Nat) (w1 : World) : Prop where
  mp : w1.heap[bm]? = some (.map (litMap vs) n)
  c0 : w1.cell? ⟨b1,0,none⟩ = some (.int .i64 v.kd)
  c1 : w1.cell? ⟨b1,1,none⟩ = some (.int .i64 v.n)
  c2 : w1.cell? ⟨b1,2,none⟩ = some (.string ⟨v.s.toArray⟩)
  z0 : w1.cell? ⟨b0,0,none⟩ = some (.int .i64 v.kd)
  below : Below w.heap.size w w1
theorem wpList_insert_lit {ops : Array Oper} {rest : List Oper} {o : Oper} {a : Act} {w0 w : World} {Q : Exit → Act → World → Prop} (hgd : o.guard = none) (m x v : Operand) (hop : o.op = .insert 144 m x v)
    {V : Val} {b0 b1 : Nat} (b : Nat) (vs : List Value) (u : Value) (n : Nat) (hn : vs.length = n) (hm : a.eval m = .map (some b)) (hx : a.eval x = .int .i64 (n : Int)) (hv : a.eval v = u) (h0 : b0 ≠ b) (h1 : b1 ≠ b) (h2 : w0.heap.size ≤ b) (hM : MapW w0 V b0 b1 b vs n w)
    (hK : ∀ w',MapW w0 V b0 b1 b (vs ++ [u]) (n + 1) w' → wpList Tryz.prog ops Q rest (a.put o.dst undef) w') :
    wpList Tryz.prog ops Q (o :: rest) a w := by
  refine wpList_plain hgd fun K' hK' => ?_
  have hrun := run_insert_lit w b vs u n hn hM.mp
  unfold Oper.wp
  simp [execOp,hop,hm,hx,hv,hrun,Result.andThen]
  refine hK' _ _ (hK _ ⟨?_,?_,?_,?_,?_,below_set hM.below h2 _⟩)
  · simp only [ChangeMaps.setBlock]
    exact (MapKept.heap_set hM.mp).1
  · rw [cell_setBlock (Ne.symm h1)]; exact hM.c0
  · rw [cell_setBlock (Ne.symm h1)]; exact hM.c1
  · rw [cell_setBlock (Ne.symm h1)]; exact hM.c2
  · rw [cell_setBlock (Ne.symm h0)]; exact hM.z0
def prV (v : Val) (g : Nat) : Value := .func (.func g) #[.agg #[.int .i64 v.kd,.int .i64 v.n,.string ⟨v.s.toArray⟩]] #[]
theorem val_inv {G : Gh} {v : Val} {u : Value} (h : VRel G v.av u) : u = .agg #[.int .i64 v.kd,.int .i64 v.n,.string ⟨v.s.toArray⟩] := by
  cases h with
  | agg hl ho hv =>
    rename_i vs
    match vs,hl with
    | [a,b,c],_ =>
      have h1 := hv 0 _ a rfl rfl
      have h2 := hv 1 _ b rfl rfl
      have h3 := hv 2 _ c rfl rfl
      rw [h1.int_inv,h2.int_inv,h3.str_inv]
theorem VRels.one {G : Gh} {x : AV} {v : Value} (h : VRel G x v) : VRels G [x] [v] :=
  ⟨rfl,fun m c u h1 h2 => by
    cases m with
    | zero => simp at h1 h2; subst h1; subst h2; exact h
    | succ m => simp at h1⟩
theorem VRel.valAV (G : Gh) (v : Val) : VRel G v.av (.agg #[.int .i64 v.kd,.int .i64 v.n,.string ⟨v.s.toArray⟩]) := by
  refine .agg (vs := [.int .i64 v.kd,.int .i64 v.n,.string ⟨v.s.toArray⟩]) rfl (by simp [Value.oneCell']) ?_
  intro m c u h1 h2
  match m with
  | 0 => simp at h1 h2; subst h1; subst h2; exact .int _ _
  | 1 => simp at h1 h2; subst h1; subst h2; exact .int _ _
  | 2 => simp at h1 h2; subst h1; subst h2; exact .str _
  | m + 3 => simp at h1
set_option maxHeartbeats 4000000 in
theorem c52 (hg : GlNR gl) (v : Val) (hs : v.s.length < 4294960000) : Pure Tryz.prog gl 52 [v.av] (.ok (.str (fmtV v))) := by
  refine ⟨?_,by simp only [fgs,nrs,forall_eq_or_imp,forall_eq,implies_true],by simp only [nrs,forall_eq_or_imp,forall_eq,implies_true]⟩
  simp only [fgs]
  refine (MCalls.ofBelow Tryz.call52 fun wb G w vs hS hv => ?_).mono fun o S' h => h.2
  obtain ⟨v1,vs1,rfl,e1,hv⟩ := hv.cons_inv
  obtain rfl := hv.nil_inv
  obtain rfl := val_inv e1
  refine ⟨_,.str _,?_⟩
  have k32 : ∀ w1,Below w.heap.size w w1 → Calls Tryz.prog 32 #[.agg #[.int .i64 v.kd,.int .i64 v.n,.string ⟨v.s.toArray⟩]] w1 fun e w2 => e = .returned (.int .i64 (chkR v)) ∧ Below w1.heap.size w1 w2 := fun w1 hB => by
    refine (Pure.below (c32 v (by omega)) Tryz.call32 hS rfl hg hB (VRels.one (VRel.valAV G v))).mono ?_
    rintro e w2 ⟨⟨u,G',rfl,hu⟩,hb⟩
    rw [hu.int_inv]
    exact ⟨rfl,hb⟩
  have kp : ∀ (g : FuncId) (s : Bytes),Pure Tryz.prog gl g [v.av] (.ok (.str s)) → (∀ (args : Array Value) (w : World),(callFunc g args).run Tryz.prog w = .ok (.enter g args) w) → ∀ w1,Below w.heap.size w w1 → Calls Tryz.prog g #[.agg #[.int .i64 v.kd,.int .i64 v.n,.string ⟨v.s.toArray⟩]] w1 fun e w2 => e = .returned (.string ⟨s.toArray⟩) ∧ Below w1.heap.size w1 w2 := fun g s hp hc w1 hB => by
    refine (Pure.below hp hc hS rfl hg hB (VRels.one (VRel.valAV G v))).mono ?_
    rintro e w2 ⟨⟨u,G',rfl,hu⟩,hb⟩
    rw [hu.str_inv]
    exact ⟨rfl,hb⟩
  have hmm := @run_makeMap Tryz.prog
  go_enter Tryz.func52,Tryz.ntmps52
  go_wp2_with (go_at_call 32; refine (k32 _ ?_).mono ?_)
  · exact (Below.refl _ _).alloc (Nat.le_refl _) _
  rintro e w1 ⟨rfl,hB1⟩
  have hB0 : Below w.heap.size w w1 := ((Below.refl _ _).alloc (Nat.le_refl _) _).trans (hB1.mono (by simp))
  have hsz1 : w.heap.size < w1.heap.size := by have := hB1.size; simp at this; omega
  have z0 : w1.cell? ⟨w.heap.size,0,none⟩ = some (.int .i64 v.kd) := by rw [hB1.cell (by simp),World.cell?_alloc_new]; rfl
  have z1 : w1.cell? ⟨w.heap.size,1,none⟩ = some (.int .i64 v.n) := by rw [hB1.cell (by simp),World.cell?_alloc_new]; rfl
  have z2 : w1.cell? ⟨w.heap.size,2,none⟩ = some (.string ⟨v.s.toArray⟩) := by rw [hB1.cell (by simp),World.cell?_alloc_new]; rfl
  by_cases hc : chkR v = 0
  · have hce : ((chkR v == 0) : Bool) = true := by simp [hc]
    have hf : ((chkR v == 0) = false) = False := by simp [hc]
    simp only [hc]
    have h01 : w.heap.size ≠ w1.heap.size + 1 := by omega
    have h11 : w1.heap.size ≠ w1.heap.size + 1 := by omega
    have h21 : w.heap.size ≤ w1.heap.size + 1 := by omega
    go_wp2_with (refine wpList_insert_lit (V := v) (w0 := w) (b0 := w.heap.size) (b1 := w1.heap.size) rfl _ _ _ rfl (w1.heap.size + 1) [] _ 0 rfl rfl rfl rfl h01 h11 h21 ?_ ?_)
    · have hb2 := ((Below.refl w1.heap.size w1).alloc (Nat.le_refl _) (Obj.cells #[Value.int IntKind.i64 v.kd,Value.int IntKind.i64 v.n,Value.string ⟨v.s.toArray⟩] 143)).alloc (by simp) (Obj.map #[] 0)
      have hb3 := (Below.refl (w1.alloc (Obj.cells #[Value.int IntKind.i64 v.kd,Value.int IntKind.i64 v.n,Value.string ⟨v.s.toArray⟩] 143)).heap.size (w1.alloc (Obj.cells #[Value.int IntKind.i64 v.kd,Value.int IntKind.i64 v.n,Value.string ⟨v.s.toArray⟩] 143))).alloc (Nat.le_refl _) (Obj.map #[] 0)
      refine ⟨?_,?_,?_,?_,?_,hB0.trans (hb2.mono (by omega))⟩
      · have e : (w1.alloc (Obj.cells #[Value.int IntKind.i64 v.kd,Value.int IntKind.i64 v.n,Value.string ⟨v.s.toArray⟩] 143)).heap.size = w1.heap.size + 1 := by simp
        rw [← e]
        exact (MapKept.heap_alloc _ _).1
      · rw [hb3.cell (by simp),World.cell?_alloc_new]; rfl
      · rw [hb3.cell (by simp),World.cell?_alloc_new]; rfl
      · rw [hb3.cell (by simp),World.cell?_alloc_new]; rfl
      · rw [hb2.cell hsz1]; exact z0
    clear z0 z1 z2 hB1
    intro w2 M1
    have x0 := M1.c0
    have x1 := M1.c1
    have x2 := M1.c2
    try simp only [List.nil_append,List.cons_append] at M1
    go_wp2_with (refine wpList_insert_lit (V := v) (w0 := w) (b0 := w.heap.size) (b1 := w1.heap.size) rfl _ _ _ rfl (w1.heap.size + 1) [prV v 109] _ 1 rfl rfl rfl rfl h01 h11 h21 ?_ ?_)
    · exact M1
    clear x0 x1 x2 M1
    intro w3 M2
    have x0 := M2.c0
    have x1 := M2.c1
    have x2 := M2.c2
    try simp only [List.nil_append,List.cons_append] at M2
    go_wp2_with (refine wpList_insert_lit (V := v) (w0 := w) (b0 := w.heap.size) (b1 := w1.heap.size) rfl _ _ _ rfl (w1.heap.size + 1) [prV v 109,prV v 110] _ 2 rfl rfl rfl rfl h01 h11 h21 ?_ ?_)
    · exact M2
    clear x0 x1 x2 M2
    intro w4 M3
    have x0 := M3.c0
    have x1 := M3.c1
    have x2 := M3.c2
    try simp only [List.nil_append,List.cons_append] at M3
    go_wp2_with (refine wpList_insert_lit (V := v) (w0 := w) (b0 := w.heap.size) (b1 := w1.heap.size) rfl _ _ _ rfl (w1.heap.size + 1) [prV v 109,prV v 110,prV v 111] _ 3 rfl rfl rfl rfl h01 h11 h21 ?_ ?_)
    · exact M3
    clear x0 x1 x2 M3
    intro w5 M4
    have x0 := M4.c0
    have x1 := M4.c1
    have x2 := M4.c2
    try simp only [List.nil_append,List.cons_append] at M4
    go_wp2_with (refine wpList_insert_lit (V := v) (w0 := w) (b0 := w.heap.size) (b1 := w1.heap.size) rfl _ _ _ rfl (w1.heap.size + 1) [prV v 109,prV v 110,prV v 111,prV v 112] _ 4 rfl rfl rfl rfl h01 h11 h21 ?_ ?_)
    · exact M4
    clear x0 x1 x2 M4
    intro w6 M5
    have x0 := M5.c0
    have x1 := M5.c1
    have x2 := M5.c2
    try simp only [List.nil_append,List.cons_append] at M5
    go_wp2_with (refine wpList_insert_lit (V := v) (w0 := w) (b0 := w.heap.size) (b1 := w1.heap.size) rfl _ _ _ rfl (w1.heap.size + 1) [prV v 109,prV v 110,prV v 111,prV v 112,prV v 113] _ 5 rfl rfl rfl rfl h01 h11 h21 ?_ ?_)
    · exact M5
    clear x0 x1 x2 M5
    intro w7 M6
    have z0 := M6.z0
    try simp only [List.nil_append,List.cons_append] at M6
    have hB6 := M6.below
    have hl : ∀ (k : Nat) (u : Value),[prV v 109,prV v 110,prV v 111,prV v 112,prV v 113,prV v 114][k]? = some u → (Instr.lookup 144 (.map (some (w1.heap.size + 1))) (.int .i64 (k : Int)) false).run Tryz.prog w7 = .ok u w7 := fun k u hu => run_lookup_lit w7 _ _ u k M6.mp hu
    have hr := chk_range hc
    clear M6 hmm k32
    rcases chk_kind hc with hk | hk | hk | hk | hk | hk
    · have hlk := hl 0 _ rfl
      rw [show ((0 : Nat) : Int) = (0 : Int) from rfl] at hlk
      unfold prV at hlk
      clear hl
      have kk := kp 109 _ (c109 v) Tryz.call109 _ hB6
      rw [hk] at kk
      go_wp2_with (go_at_call 109; refine kk.mono ?_)
      rintro e w8 ⟨rfl,hB8⟩
      go_wp2
      go_ret
      refine ⟨?_,hB6.trans (hB8.mono hB6.size)⟩
      simp [fmtV,hc,hk,boolS]
    · have hlk := hl 1 _ rfl
      rw [show ((1 : Nat) : Int) = (1 : Int) from rfl] at hlk
      unfold prV at hlk
      clear hl
      have kk := kp 110 _ (c110 hg v) Tryz.call110 _ hB6
      rw [hk] at kk
      go_wp2_with (go_at_call 110; refine kk.mono ?_)
      rintro e w8 ⟨rfl,hB8⟩
      go_wp2
      go_ret
      refine ⟨?_,hB6.trans (hB8.mono hB6.size)⟩
      simp [fmtV,hc,hk,boolS]
    · have hlk := hl 2 _ rfl
      rw [show ((2 : Nat) : Int) = (2 : Int) from rfl] at hlk
      unfold prV at hlk
      clear hl
      have kk := kp 111 _ (c111 hg v (by omega) (by omega)) Tryz.call111 _ hB6
      rw [hk] at kk
      go_wp2_with (go_at_call 111; refine kk.mono ?_)
      rintro e w8 ⟨rfl,hB8⟩
      go_wp2
      go_ret
      refine ⟨?_,hB6.trans (hB8.mono hB6.size)⟩
      simp [fmtV,hc,hk,boolS]
    · have hlk := hl 3 _ rfl
      rw [show ((3 : Nat) : Int) = (3 : Int) from rfl] at hlk
      unfold prV at hlk
      clear hl
      have kk := kp 112 _ (c112 hg v (by omega) (by omega)) Tryz.call112 _ hB6
      rw [hk] at kk
      go_wp2_with (go_at_call 112; refine kk.mono ?_)
      rintro e w8 ⟨rfl,hB8⟩
      go_wp2
      go_ret
      refine ⟨?_,hB6.trans (hB8.mono hB6.size)⟩
      simp [fmtV,hc,hk,boolS]
    · have hlk := hl 4 _ rfl
      rw [show ((4 : Nat) : Int) = (4 : Int) from rfl] at hlk
      unfold prV at hlk
      clear hl
      have kk := kp 113 _ (c113 v hs) Tryz.call113 _ hB6
      rw [hk] at kk
      go_wp2_with (go_at_call 113; refine kk.mono ?_)
      rintro e w8 ⟨rfl,hB8⟩
      go_wp2
      go_ret
      refine ⟨?_,hB6.trans (hB8.mono hB6.size)⟩
      simp [fmtV,hc,hk,boolS]
    · have hlk := hl 5 _ rfl
      rw [show ((5 : Nat) : Int) = (5 : Int) from rfl] at hlk
      unfold prV at hlk
      clear hl
      have kk := kp 114 _ (c114 v hs) Tryz.call114 _ hB6
      rw [hk] at kk
      go_wp2_with (go_at_call 114; refine kk.mono ?_)
      rintro e w8 ⟨rfl,hB8⟩
      go_wp2
      go_ret
      refine ⟨?_,hB6.trans (hB8.mono hB6.size)⟩
      simp [fmtV,hc,hk,boolS]
  · have hce : ((chkR v == 0) : Bool) = false := by simp [hc]
    go_wp2
    go_ret
    refine ⟨?_,hB0⟩
    simp [fmtV,hce]
end Go.Proofs.YtdjdhecanjmchaaGreatDoor
