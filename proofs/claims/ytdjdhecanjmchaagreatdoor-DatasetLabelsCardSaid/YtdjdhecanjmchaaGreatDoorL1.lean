/- strings.Builder's writer and reader at the world's level, with all other blocks kept. -/
import Derived.Test.YtdjdhecanjmchaaGreatDoorVr
import Derived.Test.YtdjdhecanjmchaaGreatDoorShelf
import Derived.Shelf.Strings.Builder1
import Derived.BigCall
import Derived.BigGuard
import Derived.Test.YtdjdhecanjmchaaGreatDoorW1
set_option linter.unusedSimpArgs false
set_option linter.unusedVariables false
namespace Go.Proofs.YtdjdhecanjmchaaGreatDoor
open Go Go.V Go.RowKit
set_option maxRecDepth 40000
theorem cc_fresh (b : Nat) (w : World) (h0 : w.cell? ⟨b,0,none⟩ = some (.pointer none)) (hsh : w.shape? b = some (81,2)) (hfz : w.frozen? ⟨b,0,none⟩ = false) :
    Calls Tryz.prog 106 #[.pointer (some ⟨b,0,none⟩)] w fun e w' => e = .returned (.tuple #[]) ∧ w' = w.setCell ⟨b,0,none⟩ (.pointer (some ⟨b,0,none⟩)) :=
  Any.Builder_copyCheck_fresh (ρ := Tryz.lays156_ren) { Tryz.lays156 with } Tryz.Builder_Extra_156.toX72 b w h0 hsh hfz
theorem cc_used (b : Nat) (w : World) (h0 : w.cell? ⟨b,0,none⟩ = some (.pointer (some ⟨b,0,none⟩))) :
    Calls Tryz.prog 106 #[.pointer (some ⟨b,0,none⟩)] w fun e w' => e = .returned (.tuple #[]) ∧ w' = w :=
  Any.Builder_copyCheck_used (ρ := Tryz.lays156_ren) { Tryz.lays156 with } Tryz.Builder_Extra_156.toX72 b w h0
def BufIs (w : World) (v : Value) (s : List UInt8) : Prop :=
  (v = .slice none 0 0 ∧ s = []) ∨ ∃ g cap cur fz,s ≠ [] ∧ v = .slice (some ⟨g,0,none⟩) s.length cap ∧ w.heap[g]? = some (.cells cur 5 fz) ∧ fz.2 ≤ s.length ∧ s.length ≤ cap ∧ cap ≤ maxLen ∧ cur.size = cap ∧ cur.toList.take s.length = Lib.byteCells s
structure Kept (w w' : World) (x y : Option Nat) : Prop where
  os : w'.os = w.os
  tape : w'.tape = w.tape
  output : w'.output = w.output
  size : w.heap.size ≤ w'.heap.size
  block : ∀ k,k < w.heap.size → some k ≠ x → some k ≠ y → w'.heap[k]? = w.heap[k]?
theorem run_append_buf {P : Program} (w : World) (t u ty : TypeId) (i : TypeInfo) (ht : P.underlying t = some (.slice 5)) (hu : P.underlying u = some .string) (hi : P.info? 5 = some i) (hz : i.zero = some (.int .u8 0))
    (hsize : i.size = 1) (hby : i.bytes = 1) (v : Value) (s0 : List UInt8) (hv : BufIs w v s0) (s : ByteArray) (hlen : s0.length + s.size ≤ 140737488355328) :
    ∃ v' w',(Builtin.append_ #[t,u] ty #[v,.string s]).run P w = .ok v' w' ∧ BufIs w' v' (s0 ++ s.data.toList) ∧ Kept w w' v.ownBlock none ∧ (∀ g,v'.ownBlock = some g → v.ownBlock = some g ∨ w.heap.size ≤ g) := by
  have h63 : s0.length + s.size ≤ maxLen := by unfold maxLen; omega
  have hsz : s.data.toList.length = s.size := by rw [Array.length_toList]; rfl
  rcases hv with ⟨rfl,rfl⟩ | ⟨g,cap,cur,fz,hs0,rfl,hg,hfz,hnc,hcm,hcs,htake⟩
  · obtain ⟨v',w',h1,h2,h3,h4⟩ := Lib.run_append_own_string (P := P) w w.heap.size t u ty 5 i ht hu hi hz hsize hby (.slice none 0 0) 0 [] ⟨rfl,.inl ⟨rfl,rfl⟩⟩ s (by simpa using h63) (by simpa using hlen) (Nat.le_refl _)
    refine ⟨v',w',h1,?_,⟨h3.os,h3.tape,h3.output,h3.size,fun k hk hx _ => h3.block k hk hx⟩,?_⟩
    · rcases h2.2 with ⟨e1,e2⟩ | ⟨g,cap,cur,q1,q2,q3,q4,q5,q6,q7⟩
      · refine .inl ⟨e1,?_⟩
        have : s.data.toList = [] := List.eq_nil_of_length_eq_zero (by rw [hsz]; omega)
        simp [this]
      · refine .inr ⟨g,cap,cur,(0,0),(fun e => ?_),by rw [q1]; simp [hsz],q3,Nat.zero_le _,by simp [hsz]; omega,q5,by simpa using q6,?_⟩
        · have e4 : s.size = 0 := by rw [← hsz]; simp at e; simp [e]
          have e5 := h4.2 ⟨rfl,e4⟩
          rw [q1] at e5
          cases e5
        have e3 : Lib.strCells s = Lib.byteCells s.data.toList := rfl
        simp only [List.nil_append,hsz]
        rw [← e3]
        simpa using q7
    · intro g hg
      rcases h2.2 with ⟨e1,e2⟩ | ⟨g',cap,cur,q1,q2,_⟩
      · subst e1; cases hg
      · subst q1
        right
        simp [Value.ownBlock] at hg
        omega
  · have hbc : (Lib.byteCells s0).length = s0.length := Lib.byteCells_length s0
    have hes : Lib.byteCells (s0 ++ s.data.toList) = Lib.byteCells s0 ++ Lib.strCells s := by rw [Lib.byteCells_append]; rfl
    by_cases hroom : s0.length + s.size ≤ cap
    · have hr := Lib.run_append_room_stringF (P := P) w t u ty 5 i ht hu hi hsize g s0.length cap cur fz hg hfz s hroom (by omega)
      refine ⟨_,_,hr,.inr ⟨g,cap,_,fz,by simp [hs0],by simp [hsz],setRow_heap w g cur _ 5 _ hg,by simp; omega,by simp [hsz]; omega,hcm,?_,?_⟩,⟨rfl,rfl,rfl,by simp,fun k _ hk _ => setRow_other w g k _ (fun e => hk (by simp [Value.ownBlock,e]))⟩,fun g' e => .inl e⟩
      · simp only [List.size_toArray,List.length_append,List.length_take,List.length_drop,Array.length_toList,Lib.strCells_length]
        omega
      · have hl2 : (s0 ++ s.data.toList).length = (Lib.byteCells s0 ++ Lib.strCells s).length := by simp [hbc,hsz,Lib.strCells_length]
        rw [htake,hes,hl2]
        exact List.take_left
    · have holds : ∀ j x,(Lib.byteCells s0)[j]? = some x → w.cell? ((⟨g,0,none⟩ : Addr).add j) = some x := by
        intro j x hx
        rw [← htake,List.getElem?_take] at hx
        split at hx
        · have : w.cell? ⟨g,j,none⟩ = some x := by simpa [World.cell?,hg] using hx
          rw [show (⟨g,0,none⟩ : Addr).add j = ⟨g,j,none⟩ from by rw [add_none,Nat.zero_add]]
          exact this
        · cases hx
      have hr := Lib.run_append_grow_string (P := P) w t u ty 5 i (.int .u8 0) ht hu hi hz ⟨g,0,none⟩ s0.length cap (Lib.byteCells s0) (by rw [hsize]; simpa using hbc) holds s (by omega) (by omega) (by rw [hby]; exact growslice_fits (by omega) (by omega))
      have hge := grownCap_ge w (s0.length + s.size) cap 5
      have hcm2 : grownCap w (s0.length + s.size) cap 5 ≤ maxLen := grownCap_le_maxLen w (s0.length + s.size) cap 5 h63
      refine ⟨_,_,hr,.inr ⟨w.heap.size,_,_,(0,0),by simp [hs0],by simp [hsz],heap_alloc_new w.drew _,Nat.zero_le _,by simp [hsz]; omega,hcm2,?_,?_⟩,⟨rfl,rfl,rfl,by simp,fun k hk _ _ => by first | exact heap_alloc_old w.drew _ k hk | exact heap_alloc_old w.drew _ hk⟩,fun g' e => .inr (by simp [Value.ownBlock] at e; omega)⟩
      · have hz1 : (Value.int IntKind.u8 0).cells.size = 1 := rfl
        simp only [Array.size_append,List.size_toArray,size_zeroCells,hz1,hbc,Lib.strCells_length]
        omega
      · have hl2 : (s0 ++ s.data.toList).length = (Lib.byteCells s0 ++ Lib.strCells s).length := by simp [hbc,hsz,Lib.strCells_length]
        simp only [Array.toList_append,List.append_assoc]
        rw [← List.append_assoc,hes,hl2]
        exact List.take_left
end Go.Proofs.YtdjdhecanjmchaaGreatDoor
namespace Go.Proofs.YtdjdhecanjmchaaGreatDoor
open Go Go.V Go.RowKit
set_option maxRecDepth 100000
set_option maxHeartbeats 2000000
theorem wpList_append_buf {P : Program} {ops : Array Oper} {rest : List Oper} {o : Oper} {a : Act} {w : World} {Q : Exit → Act → World → Prop} (hgd : o.guard = none) (sl x : Operand) (t u : TypeId)
    (ho : o.op = .call { callee := .builtin .append,args := #[sl,x],argTypes := #[t,u] })
    (i : TypeInfo) (ht : P.underlying t = some (.slice 5)) (hu : P.underlying u = some .string) (hi : P.info? 5 = some i) (hz : i.zero = some (.int .u8 0))
    (hsize : i.size = 1) (hby : i.bytes = 1) (v : Value) (s0 : List UInt8) (hs : a.eval sl = v) (hv : BufIs w v s0) (s : ByteArray) (hx : a.eval x = .string s) (hlen : s0.length + s.size ≤ 140737488355328)
    (h : ∀ v' w',BufIs w' v' (s0 ++ s.data.toList) → Kept w w' v.ownBlock none → (∀ g,v'.ownBlock = some g → v.ownBlock = some g ∨ w.heap.size ≤ g) → wpList P ops Q rest (a.put o.dst v') w') : wpList P ops Q (o :: rest) a w := by
  refine wpList_plain hgd fun K hK => ?_
  obtain ⟨v',w',hr,h2,h3,h4⟩ := run_append_buf (P := P) w t u o.type i ht hu hi hz hsize hby v s0 hv s hlen
  unfold Oper.wp execOp
  simp only [ho,resolve,invoke,builtin,Sem.run_bind,Sem.run_pure,Result.andThen_ok,List.map_toArray,List.map_cons,List.map_nil,hs,hx,hr]
  exact hK _ _ (h v' w' h2 h3 h4)
theorem lt_of_block {w : World} {b : Nat} {o : Obj} (h : w.heap[b]? = some o) : b < w.heap.size := by
  rcases Nat.lt_or_ge b w.heap.size with h' | h'
  · exact h'
  · simp [Array.getElem?_eq_none h'] at h
theorem BufIs.kept {w w' : World} {v : Value} {s : List UInt8} (h : BufIs w v s) (hk : ∀ g,v.ownBlock = some g → g < w.heap.size → w'.heap[g]? = w.heap[g]?) : BufIs w' v s := by
  rcases h with h | ⟨g,cap,cur,fz,q0,q1,q2,q3⟩
  · exact .inl h
  · exact .inr ⟨g,cap,cur,fz,q0,q1,by rw [hk g (by rw [q1]; rfl) (lt_of_block q2)]; exact q2,q3⟩
theorem write_buf (b : Nat) (p v : Value) (s0 : List UInt8) (s : ByteArray) (w : World) (hp : p = .pointer none ∨ p = .pointer (some ⟨b,0,none⟩)) (hbk : w.heap[b]? = some (.cells #[p,v] 81 (0,0))) (hv : BufIs w v s0) (hne : v.ownBlock ≠ some b)
    (hlen : s0.length + s.size ≤ 140737488355328) :
    Calls Tryz.prog 49 #[.pointer (some ⟨b,0,none⟩),.string s] w fun e w' => e = .returned (.tuple #[.int .i64 s.size,.nilIface]) ∧ ∃ v',w'.heap[b]? = some (.cells #[.pointer (some ⟨b,0,none⟩),v'] 81 (0,0)) ∧ BufIs w' v' (s0 ++ s.data.toList) ∧ Kept w w' (some b) v.ownBlock ∧
      (∀ g,v'.ownBlock = some g → v.ownBlock = some g ∨ w.heap.size ≤ g) ∧ v'.ownBlock ≠ some b := by
  obtain ⟨i0,hi,hz0,hz1,hz2⟩ := info_parts Tryz.Builder_Extra_156.infoByte
  have hcc : Calls Tryz.prog 106 #[.pointer (some ⟨b,0,none⟩)] w fun e w' => e = .returned (.tuple #[]) ∧ w'.heap[b]? = some (.cells #[.pointer (some ⟨b,0,none⟩),v] 81 (0,0)) ∧ Kept w w' (some b) none := by
    rcases hp with rfl | rfl
    · refine (cc_fresh b w (by rw [Lib.cell_of_heap hbk]; rfl) (by simp [World.shape?,hbk]) (Lib.frozen_of_heap hbk 0)).mono ?_
      rintro e w' ⟨rfl,rfl⟩
      refine ⟨rfl,?_,⟨rfl,rfl,rfl,by simp,fun k _ hk _ => ?_⟩⟩
      · simp [World.setCell,Array.getElem?_modify,hbk]
      · have : k ≠ b := fun e => hk (by rw [e])
        simp [World.setCell,Array.getElem?_modify,Ne.symm this]
    · refine (cc_used b w (by rw [Lib.cell_of_heap hbk]; rfl)).mono ?_
      rintro e w' ⟨rfl,rfl⟩
      exact ⟨rfl,hbk,⟨rfl,rfl,rfl,Nat.le_refl _,fun _ _ _ _ => rfl⟩⟩
  go_enter Tryz.func49,Tryz.ntmps49
  go_wp2_with (go_at_call 106; refine hcc.mono ?_)
  rintro e w1 ⟨rfl,hbk1,hk1⟩
  have hlt : b < w1.heap.size := lt_of_block hbk1
  have hv1 : BufIs w1 v s0 := hv.kept (fun g hg e => by rw [hk1.block g e (fun e2 => hne (by rw [hg,e2])) (by simp)])
  have c0 : w1.cell? ⟨b,0,none⟩ = some (.pointer (some ⟨b,0,none⟩)) := by rw [Lib.cell_of_heap hbk1]; rfl
  have c1 : w1.cell? ⟨b,1,none⟩ = some v := by rw [Lib.cell_of_heap hbk1]; rfl
  clear hcc
  go_wp2_with (at_builtin; refine wpList_append_buf rfl _ _ 43 9 rfl i0 (by kernel_rfl) (by kernel_rfl) hi hz0 hz1 hz2 _ s0 rfl hv1 s rfl hlen ?_)
  intro v' w2 hb2 hk2 hg2
  have hne2 : v'.ownBlock ≠ some b := fun e => by
    rcases hg2 b e with h | h
    · exact hne h
    · omega
  have hbk2 : w2.heap[b]? = some (.cells #[.pointer (some ⟨b,0,none⟩),v] 81 (0,0)) := by
    rw [hk2.block b hlt (fun e => hne e.symm) (by simp)]
    exact hbk1
  have d0 : w2.cell? ⟨b,0,none⟩ = some (.pointer (some ⟨b,0,none⟩)) := by rw [Lib.cell_of_heap hbk2]; rfl
  have d1 : w2.cell? ⟨b,1,none⟩ = some v := by rw [Lib.cell_of_heap hbk2]; rfl
  have f1 : w2.frozen? ⟨b,1,none⟩ = false := Lib.frozen_of_heap hbk2 1
  obtain ⟨ao,n',cap,rfl⟩ : ∃ ao n' cap,v' = .slice ao n' cap := by
    rcases hb2 with ⟨hv,_⟩ | ⟨g,cap,cur,fz,_,hv,_⟩
    · exact ⟨_,_,_,hv⟩
    · exact ⟨_,_,_,hv⟩
  go_wp2
  go_ret2
  refine ⟨rfl,_,?_,hb2.kept (fun g hg e => ?_),⟨hk2.os.trans hk1.os,hk2.tape.trans hk1.tape,hk2.output.trans hk1.output,?_,fun k hk h1 h2 => ?_⟩,fun g hg => ?_,hne2⟩
  · simp [World.setCell,Array.getElem?_modify,hbk2]
  · have : g ≠ b := fun e => hne2 (by rw [hg,e])
    simp [World.setCell,Array.getElem?_modify,Ne.symm this]
  · have := hk1.size
    have := hk2.size
    simp
    omega
  · have hkb : k ≠ b := fun e => h1 (by rw [e])
    have e1 : (w2.setCell ⟨b,1,none⟩ (.slice ao n' cap)).heap[k]? = w2.heap[k]? := by simp [World.setCell,Array.getElem?_modify,Ne.symm hkb]
    rw [e1,hk2.block k (by have := hk1.size; omega) h2 (by simp),hk1.block k hk h1 (by simp)]
  · rcases hg2 g hg with h | h
    · exact .inl h
    · exact .inr (by have := hk1.size; omega)
theorem read_buf (b : Nat) (p v : Value) (s : List UInt8) (w : World) (hbk : w.heap[b]? = some (.cells #[p,v] 81 (0,0))) (hv : BufIs w v s) :
    Calls Tryz.prog 53 #[.pointer (some ⟨b,0,none⟩)] w fun e w' => e = .returned (.string ⟨s.toArray⟩) ∧ BufIs w' v s ∧ Kept w w' none v.ownBlock := by
  rcases hv with ⟨rfl,rfl⟩ | ⟨g,cap,cur,fz,hs0,rfl,hg,hfz,hnc,hcm,hcs,htake⟩
  · have c1 : w.drew.cell? ⟨b,1,none⟩ = some (.slice none 0 0) := by
      have : w.drew.heap[b]? = some (.cells #[p,.slice none 0 0] 81 (0,0)) := hbk
      rw [Lib.cell_of_heap this]; rfl
    have hSD := Lib.run_unsafeSliceData_nil (P := Tryz.prog) w.drew #[43] 145 0 0
    have hUS := Lib.run_unsafeString_none (P := Tryz.prog) w.drew 145 3 9 none
    go_enter Tryz.func53,Tryz.ntmps53
    go_wp2
    go_region
    all_goals (go_wp2; go_ret; exact ⟨rfl,.inl ⟨rfl,rfl⟩,⟨rfl,rfl,rfl,Nat.le_refl _,fun _ _ _ _ => rfl⟩⟩)
  · have hl0 : s.length ≠ 0 := by simpa using hs0
    have hbw : w.drew.heap[b]? = some (.cells #[p,.slice (some ⟨g,0,none⟩) s.length cap] 81 (0,0)) := hbk
    have hgw : w.drew.heap[g]? = some (.cells cur 5 fz) := hg
    have c1 : w.drew.cell? ⟨b,1,none⟩ = some (.slice (some ⟨g,0,none⟩) s.length cap) := by rw [Lib.cell_of_heap hbw]; rfl
    have hSD := Lib.run_unsafeSliceData_row (P := Tryz.prog) w.drew #[43] 145 ⟨g,0,none⟩ s.length cap (by omega)
    have hcell : ∀ j x,s[j]? = some x → w.drew.cell? ((⟨g,0,none⟩ : Addr).add j) = some (.int .u8 x.toNat) := fun j x hx => by
      rw [show (⟨g,0,none⟩ : Addr).add j = ⟨g,j,none⟩ from by rw [add_none,Nat.zero_add],Lib.cell_of_heap hgw]
      have hj : j < s.length := by
        rcases Nat.lt_or_ge j s.length with h' | h'
        · exact h'
        · rw [List.getElem?_eq_none h'] at hx; cases hx
      have e1 : (cur.toList.take s.length)[j]? = some (.int .u8 x.toNat) := by rw [htake]; simp [Lib.byteCells,hx]
      rw [List.getElem?_take,if_pos hj] at e1
      simpa using e1
    have hUS := Lib.run_unsafeString_row (P := Tryz.prog) w.drew 145 3 9 5 (by kernel_rfl) Tryz.Builder_Extra_156.cellsByte g cur.size (by simp [World.shape?,hgw]) s hs0 (by omega) (by unfold maxLen at hcm; omega) hcell
    have hfrz : (w.drew.freeze ⟨g,0,none⟩ s.length).heap[g]? = some (.cells cur 5 (if fz.1 == fz.2 then (0,0 + s.length) else (min fz.1 0,max fz.2 (0 + s.length)))) := by
      unfold World.freeze
      rw [if_neg hl0]
      simp only [Array.getElem?_modify,hgw,if_true,Option.map_some]
    have hoth : ∀ k,k ≠ g → (w.drew.freeze ⟨g,0,none⟩ s.length).heap[k]? = w.heap[k]? := fun k hk => by
      unfold World.freeze
      rw [if_neg hl0]
      simp only [Array.getElem?_modify]
      rw [if_neg (Ne.symm hk)]
      rfl
    have hsize : (w.drew.freeze ⟨g,0,none⟩ s.length).heap.size = w.heap.size := by
      unfold World.freeze
      rw [if_neg hl0]
      simp
    have hbuf : BufIs (w.drew.freeze ⟨g,0,none⟩ s.length) (.slice (some ⟨g,0,none⟩) s.length cap) s := by
      refine .inr ⟨g,cap,cur,_,hs0,rfl,hfrz,?_,hnc,hcm,hcs,htake⟩
      split
      · simp
      · simp only [Nat.zero_add]
        omega
    have hkept : Kept w (w.drew.freeze ⟨g,0,none⟩ s.length) none (some g) := ⟨by unfold World.freeze; rw [if_neg hl0]; rfl,by unfold World.freeze; rw [if_neg hl0]; rfl,by unfold World.freeze; rw [if_neg hl0]; rfl,by rw [hsize]; exact Nat.le_refl _,fun k _ _ hk => hoth k (fun e => hk (by rw [e]))⟩
    clear hcell
    go_enter Tryz.func53,Tryz.ntmps53
    go_wp2
    go_region
    all_goals (go_wp2; go_ret; exact ⟨rfl,hbuf,hkept⟩)
end Go.Proofs.YtdjdhecanjmchaaGreatDoor
namespace Go.Proofs.YtdjdhecanjmchaaGreatDoor
open Go Go.V Go.RowKit
set_option maxRecDepth 40000
theorem StRel.bldStep {wb : Base} {G : Gh} {S : St} {w w' : World} (h : StRel wb G S w) {l r : Nat} {b0 s : List UInt8} {v p' v' : Value} (hl : S.get l = some [.bld b0]) (hr : G.σ l = some r)
    (hv : ∀ g,v.ownBlock = some g → wb.heap.size ≤ g ∧ Alone G S g) (hk : Kept w w' (some r) v.ownBlock)
    (hp' : p' = .pointer none ∨ p' = .pointer (some ⟨r,0,none⟩)) (hbk : w'.heap[r]? = some (.cells #[p',v'] 81 (0,0))) (hbuf : BufIs w' v' s) (hg : ∀ g,v'.ownBlock = some g → v.ownBlock = some g ∨ w.heap.size ≤ g) (hne : v'.ownBlock ≠ some r) :
    StRel wb G (S.set l [.bld s]) w' := by
  have hblk : ∀ k,k < w.heap.size → k ≠ r → (∀ g,v.ownBlock = some g → k ≠ g) → w'.heap[k]? = w.heap[k]? := fun k h1 h2 h3 => hk.block k h1 (fun e => h2 (by injection e)) (fun e => h3 k e.symm rfl)
  have hrdom := h.dom l r hr
  have hset : ∀ l',l' ≠ l → (S.set l [.bld s]).get l' = S.get l' := fun l' hll => by
    have hb : (l' == l) = false := by simpa using hll
    simp only [St.get,St.set,List.lookup_cons,hb]
  have hsetl : (S.set l [.bld s]).get l = some [.bld s] := by simp [St.get,St.set]
  have hcell : ∀ k,k < w.heap.size → k ≠ r → (∀ g,v.ownBlock = some g → k ≠ g) → ∀ o,w'.cell? ⟨k,o,none⟩ = w.cell? ⟨k,o,none⟩ ∧ w'.frozen? ⟨k,o,none⟩ = w.frozen? ⟨k,o,none⟩ := fun k h1 h2 h3 o => by
    have := hblk k h1 h2 h3
    exact ⟨by simp only [World.cell?,this],by simp only [World.frozen?,this]⟩
  have hsz := hk.size
  refine { prom := ?_,apart := ?_,obj := ?_,inj := h.inj,dom := ?_,tok := ?_,tdom := ?_,tdis := h.tdis,base := ?_,pold := h.pold,still := ?_,beta := h.beta,glob := h.glob,bld := ?_,bldu := ?_ }
  · intro k o x e
    have hlt := h.lt e
    rw [(hcell k hlt (fun e2 => ?_) (fun g hgv e2 => ?_) o).1]
    · exact h.prom k o x e
    · subst e2
      rw [h.apart l _ k o hl hr] at e
      cases e
    · subst e2
      rw [(hv k hgv).2.1 o] at e
      cases e
  · intro l' cs k o hget e
    by_cases hll : l' = l
    · subst hll
      exact h.apart l' _ k o hl e
    · rw [hset l' hll] at hget
      exact h.apart l' cs k o hget e
  · intro l' cs hget hnb
    by_cases hll : l' = l
    · subst hll
      rw [hsetl] at hget
      injection hget with hget
      subst hget
      cases hnb
    · rw [hset l' hll] at hget
      obtain ⟨k,hk',hm⟩ := h.obj l' cs hget hnb
      have hlt := (h.dom l' k hk').2.2
      have hc := hcell k hlt (fun e => hll (h.inj _ _ _ (e ▸ hk') hr)) (fun g hgv e => (hv g hgv).2.2.1 l' (e ▸ hk'))
      refine ⟨k,hk',fun m c hmc => ?_⟩
      obtain ⟨x,h1,h2,h3,h4⟩ := hm m c hmc
      exact ⟨x,by rw [(hc m).1]; exact h1,h2,h3,by rw [(hc m).2]; exact h4⟩
  · intro l' k e
    have := h.dom l' k e
    exact ⟨this.1,this.2.1,by omega⟩
  · intro t ht
    obtain ⟨k,e,z,h1,h2⟩ := h.tok t ht
    refine ⟨k,e,z,h1,fun o h3 h4 => ?_⟩
    obtain ⟨h5,h6,h7,h8,h9⟩ := h2 o h3 h4
    have hlt := (h.tdom t _ h1).2 (by show e < z; omega)
    have hc := hcell k hlt (fun e2 => h6 l (e2 ▸ hr)) (fun g hgv e2 => by
      subst e2
      have := (hv k hgv).2.2.2 t ht e z h1
      omega)
    exact ⟨h5,h6,by rw [(hc o).1]; exact h7,by rw [(hc o).2]; exact h8,h9⟩
  · intro t x e
    have := h.tdom t x e
    exact ⟨this.1,fun h' => by have := this.2 h'; omega⟩
  · refine ⟨by have := h.base.1; omega,fun k hkb => ?_⟩
    have hlt : k < w.heap.size := by have := h.base.1; omega
    rw [hblk k hlt (by omega) (fun g hgv => by have := (hv g hgv).1; omega)]
    exact h.base.2 k hkb
  · obtain ⟨h1,h2,h3⟩ := h.still
    exact ⟨hk.os.trans h1,hk.output.trans h2,hk.tape.trans h3⟩
  · intro l' s' hget hsp0
    by_cases hll : l' = l
    · subst hll
      rw [hsetl] at hget
      injection hget with hget
      injection hget with hget _
      subst hget
      refine ⟨r,hr,p',v',hp',hbk,?_⟩
      rcases hbuf with hb | ⟨g,cap,cur,fz,q0,q1,q2,q3⟩
      · exact .inl hb
      · have hgo : v'.ownBlock = some g := by rw [q1]; rfl
        have hal : wb.heap.size ≤ g ∧ Alone G (S.set l' [.bld s]) g := by
          rcases hg g hgo with hh | hh
          · exact hv g hh
          · refine ⟨by have := h.base.1; omega,fun o => ?_,fun l2 e2 => ?_,fun t ht e z et => ?_⟩
            · cases e2 : G.φ g o with
              | none => rfl
              | some x => have := h.lt e2; omega
            · have := (h.dom l2 g e2).2.2; omega
            · rcases Nat.lt_or_ge e z with h' | h'
              · have := (h.tdom t _ et).2 h'
                simp only at this
                omega
              · exact h'
        exact .inr ⟨g,cap,cur,fz,q0,q1,hal.1,fun e => hne (by rw [hgo,e]),q2,q3.1,q3.2.1,q3.2.2.1,q3.2.2.2.1,q3.2.2.2.2,hal.2⟩
    · rw [hset l' hll] at hget
      obtain ⟨r2,hr2,hb2⟩ := h.bld l' s' hget hsp0
      cases s' with
      | bld s2 => exact absurd (h.bldu l' l _ _ hget hl) hll
      | hob l2 o ts vs =>
        obtain ⟨rfl,m2,m3,m4⟩ := hb2
        exact ⟨_,hr2,rfl,by rw [hblk _ (h.dom _ _ hr2).2.2 (fun e => hll (h.inj _ _ _ (e ▸ hr2) hr)) (fun g hgv e => (hv g hgv).2.2.1 l' (e ▸ hr2))]; exact m2,m3,m4⟩
      | _ => cases hsp0
  · intro l1 l2 s1 s2 h1 h2
    have key : ∀ l' s',(S.set l [.bld s]).get l' = some [AV.bld s'] → l' = l := fun l' s' e => by
      by_cases hll : l' = l
      · exact hll
      · rw [hset l' hll] at e
        exact h.bldu l' l _ _ e hl
    rw [key l1 s1 h1,key l2 s2 h2]
theorem BldAt.buf {wb : Base} {G : Gh} {S : St} {w : World} {r : Nat} {s : List UInt8} (h : BldAt wb G S w r s) :
    ∃ p v,(p = .pointer none ∨ p = .pointer (some ⟨r,0,none⟩)) ∧ w.heap[r]? = some (.cells #[p,v] 81 (0,0)) ∧ BufIs w v s ∧ (∀ g,v.ownBlock = some g → wb.heap.size ≤ g ∧ Alone G S g) ∧ v.ownBlock ≠ some r := by
  obtain ⟨p,v,h1,h2,h3⟩ := h
  refine ⟨p,v,h1,h2,?_⟩
  rcases h3 with ⟨rfl,hs⟩ | ⟨g,cap,cur,fz,q0,q1,q2,q3,q4,q5,q6,q7,q8,q9,q10⟩
  · exact ⟨.inl ⟨rfl,hs⟩,fun g e => (by cases e),by simp [Value.ownBlock]⟩
  · subst q1
    exact ⟨.inr ⟨g,cap,cur,fz,q0,rfl,q4,q5,q6,q7,q8,q9⟩,fun g' e => by injection e with e; subst e; exact ⟨q2,q10⟩,by simp [Value.ownBlock]; exact q3⟩
theorem VRel.ptr_inv {G : Gh} {l o : Nat} {v : Value} (h : VRel G (.ptr l o) v) : ∃ r,G.σ l = some r ∧ v = .pointer (some ⟨r,o,none⟩) := by
  cases h with
  | ptr e => exact ⟨_,e,rfl⟩
theorem c49 {l : Nat} {b0 s : List UInt8} {S : St} (hl : S.get l = some [.bld b0]) (hlen : b0.length + s.length ≤ 140737488355328) :
    MCalls Tryz.prog 49 [.ptr l 0,.str s] S fun o S' => o = .ok (.tup [.int .i64 s.length,.nili]) ∧ S' = S.set l [.bld (b0 ++ s)] := by
  intro wb G w vs hS hv
  obtain ⟨v1,vs1,rfl,h1,hv⟩ := hv.cons_inv
  obtain ⟨v2,vs2,rfl,h2,hv⟩ := hv.cons_inv
  obtain rfl := hv.nil_inv
  obtain ⟨r,hr,rfl⟩ := VRel.ptr_inv h1
  obtain rfl := h2.str_inv
  obtain ⟨r',hr',hb⟩ := hS.bld l _ hl rfl
  obtain rfl : r = r' := by rw [hr] at hr'; exact Option.some.inj hr'
  obtain ⟨p,v,q1,q2,q3,q4,q5⟩ := BldAt.buf hb
  have hw := write_buf r p v b0 ⟨s.toArray⟩ w q1 q2 q3 q5 (by simpa [ByteArray.size] using hlen)
  unfold Invk
  rw [Tryz.call49]
  refine Calls.mono hw ?_
  rintro e w' ⟨rfl,v',k1,k2,k3,k4,k5⟩
  refine ⟨G,_,Gh.le_refl G,StRel.bldStep hS hl hr q4 k3 (.inr rfl) k1 k2 k4 k5,_,?_,rfl,?_⟩
  · have := VRel.tup2 (G := G) (.int .i64 s.length) .nili
    simpa [ByteArray.size] using this
  · simp
theorem c53 {l : Nat} {b0 : List UInt8} {S : St} (hl : S.get l = some [.bld b0]) :
    MCalls Tryz.prog 53 [.ptr l 0] S fun o S' => o = .ok (.str b0) ∧ S' = S := by
  intro wb G w vs hS hv
  obtain ⟨v1,vs1,rfl,h1,hv⟩ := hv.cons_inv
  obtain rfl := hv.nil_inv
  obtain ⟨r,hr,rfl⟩ := VRel.ptr_inv h1
  obtain ⟨r',hr',hb⟩ := hS.bld l _ hl rfl
  obtain rfl : r = r' := by rw [hr] at hr'; exact Option.some.inj hr'
  obtain ⟨p,v,q1,q2,q3,q4,q5⟩ := BldAt.buf hb
  have hw := read_buf r p v b0 w q2 q3
  unfold Invk
  rw [Tryz.call53]
  refine Calls.mono hw ?_
  rintro e w' ⟨rfl,k1,k2⟩
  have hlt := lt_of_block q2
  have hbk' : w'.heap[r]? = some (.cells #[p,v] 81 (0,0)) := by rw [k2.block r hlt (by simp) (fun e => q5 e.symm)]; exact q2
  have hst := StRel.bldStep hS hl hr q4 ⟨k2.os,k2.tape,k2.output,k2.size,fun k h1 _ h3 => k2.block k h1 (by simp) h3⟩ q1 hbk' k1 (fun g e => .inl e) q5
  refine ⟨G,S,Gh.le_refl G,hst.weak ⟨rfl,rfl,rfl,fun l' cs e => ?_,fun t ht => ht⟩,_,.str _,rfl,rfl⟩
  by_cases hll : l' = l
  · subst hll
    rw [hl] at e
    injection e with e
    subst e
    simp [St.get,St.set]
  · have hb2 : (l' == l) = false := by simpa using hll
    simp only [St.get,St.set,List.lookup_cons,hb2]
    exact e
end Go.Proofs.YtdjdhecanjmchaaGreatDoor
namespace Go.Proofs.YtdjdhecanjmchaaGreatDoor
open Go Go.V Go.RowKit
set_option maxRecDepth 40000
variable {gl : List (Nat × List AV)}
theorem StRel.keepAll {wb : Base} {G : Gh} {S : St} {w w' : World} (h : StRel wb G S w) (hk : Below w.heap.size w w') : StRel wb G S w' := by
  have hblk : ∀ k,k < w.heap.size → w'.heap[k]? = w.heap[k]? := hk.block
  have hcell : ∀ k,k < w.heap.size → ∀ o,w'.cell? ⟨k,o,none⟩ = w.cell? ⟨k,o,none⟩ ∧ w'.frozen? ⟨k,o,none⟩ = w.frozen? ⟨k,o,none⟩ := fun k h1 o => by
    have := hblk k h1
    exact ⟨by simp only [World.cell?,this],by simp only [World.frozen?,this]⟩
  have hsz := hk.size
  refine { prom := ?_,apart := h.apart,obj := ?_,inj := h.inj,dom := ?_,tok := ?_,tdom := ?_,tdis := h.tdis,base := ?_,pold := h.pold,still := ?_,beta := h.beta,glob := h.glob,bld := ?_,bldu := h.bldu }
  · intro k o x e
    rw [(hcell k (h.lt e) o).1]
    exact h.prom k o x e
  · intro l' cs hget hnb
    obtain ⟨k,hk',hm⟩ := h.obj l' cs hget hnb
    have hc := hcell k (h.dom l' k hk').2.2
    refine ⟨k,hk',fun m c hmc => ?_⟩
    obtain ⟨x,h1,h2,h3,h4⟩ := hm m c hmc
    exact ⟨x,by rw [(hc m).1]; exact h1,h2,h3,by rw [(hc m).2]; exact h4⟩
  · intro l' k e
    have := h.dom l' k e
    exact ⟨this.1,this.2.1,by omega⟩
  · intro t ht
    obtain ⟨k,e,z,h1,h2⟩ := h.tok t ht
    refine ⟨k,e,z,h1,fun o h3 h4 => ?_⟩
    obtain ⟨h5,h6,h7,h8,h9⟩ := h2 o h3 h4
    have hc := hcell k ((h.tdom t _ h1).2 (by show e < z; omega))
    exact ⟨h5,h6,by rw [(hc o).1]; exact h7,by rw [(hc o).2]; exact h8,h9⟩
  · intro t x e
    have := h.tdom t x e
    exact ⟨this.1,fun h' => by have := this.2 h'; omega⟩
  · refine ⟨by have := h.base.1; omega,fun k hkb => ?_⟩
    rw [hblk k (by have := h.base.1; omega)]
    exact h.base.2 k hkb
  · obtain ⟨h1,h2,h3⟩ := h.still
    exact ⟨hk.os.trans h1,hk.output.trans h2,hk.tape.trans h3⟩
  · intro l s hl hsp0
    obtain ⟨r,hr,hb⟩ := h.bld l s hl hsp0
    exact ⟨r,hr,hb.to (Gh.le_refl _) (fun hlt => hblk r hlt) fun g hg _ _ ha => ⟨hblk g hg,ha⟩⟩
theorem MCalls.ofBelow {P : Program} {f : FuncId} {xs : List AV} {S : St} {r : AV} (hc : ∀ (args : Array Value) (w : World),(callFunc f args).run P w = .ok (.enter f args) w)
    (h : ∀ wb G w vs,StRel wb G S w → VRels G xs vs → ∃ v,VRel G r v ∧ Calls P f vs.toArray w fun e w' => e = .returned v ∧ Below w.heap.size w w') : MCalls P f xs S fun o S' => S' = S ∧ o = .ok r := by
  intro wb G w vs hS hv
  obtain ⟨v,h1,h2⟩ := h wb G w vs hS hv
  unfold Invk
  rw [hc]
  refine h2.mono fun e w' ⟨he,hw⟩ => ?_
  subst he
  exact ⟨G,S,Gh.le_refl G,StRel.keepAll hS hw,r,h1,rfl,rfl⟩
theorem flat_strs (xs : List Bytes) : flat (xs.map AV.str) = xs.map AV.str := by
  induction xs with
  | nil => rfl
  | cons x xs ih => rw [List.map_cons,flat_cons,ih]; rfl
theorem c50 (xs : List Bytes) (sep : Bytes) (hN : xs.length ≤ 140737488355328) (hlen : (Lib.join xs sep).length ≤ 140737488355328) : Pure Tryz.prog gl 50 [.sl 1 (xs.map .str) .unk,.str sep] (.ok (.str (Lib.join xs sep))) := by
  refine ⟨?_,by simp only [fgs,nrs,forall_eq_or_imp,forall_eq,implies_true],by simp only [nrs,forall_eq_or_imp,forall_eq,implies_true]⟩
  simp only [fgs]
  refine (MCalls.ofBelow Tryz.call50 fun wb G w vs hS hv => ?_).mono fun o S' h => h.2
  obtain ⟨v1,vs1,rfl,h1,hv⟩ := hv.cons_inv
  obtain ⟨v2,vs2,rfl,h2,hv⟩ := hv.cons_inv
  obtain rfl := hv.nil_inv
  obtain rfl := h2.str_inv
  refine ⟨_,.str _,?_⟩
  generalize hys : xs.map AV.str = ys at h1
  cases h1 with
  | slnil _ _ ad =>
    have : xs = [] := by simpa using hys
    subst this
    refine (Tryz.strings_Join_none ad 0 ⟨sep.toArray⟩ w).mono ?_
    rintro e w' ⟨rfl,rfl⟩
    exact ⟨rfl,Below.refl _ _⟩
  | sl f hk hp ho hv' hc ht =>
    subst hys
    rename_i r b cap
    have hcell : ∀ (j : Nat) (x : ByteArray),(xs.map fun x => (⟨x.toArray⟩ : ByteArray))[j]? = some x → w.cell? ⟨r,b + j,none⟩ = some (.string x) := fun j x hx => by
      rw [List.getElem?_map] at hx
      obtain ⟨y,hy,rfl⟩ := Option.map_eq_some_iff.1 hx
      have hfl : (flat (xs.map AV.str))[j]? = some (.str y) := by rw [flat_strs,List.getElem?_map,hy]; rfl
      have h3 := hS.prom _ _ _ (hp j _ hfl)
      rw [h3,(hv' j _ hfl).str_inv]
    rcases Nat.eq_zero_or_pos xs.length with h0 | h0
    · have : xs = [] := List.eq_nil_of_length_eq_zero h0
      subst this
      refine (Tryz.strings_Join_none (some ⟨r,b,none⟩) cap ⟨sep.toArray⟩ w).mono ?_
      rintro e w' ⟨rfl,rfl⟩
      exact ⟨rfl,Below.refl _ _⟩
    · obtain ⟨x0,hx0⟩ := some_of_lt h0
      have hlt : r < w.heap.size := hS.lt (hp 0 (.str x0) (by rw [flat_strs,List.getElem?_map,hx0]; rfl))
      have hmap : ((xs.map fun x => (⟨x.toArray⟩ : ByteArray)).map (·.data.toList)) = xs := by
        rw [List.map_map]
        exact List.map_id'' (fun x => by simp) xs
      have := Tryz.strings_Join r b cap (xs.map fun x => ⟨x.toArray⟩) ⟨sep.toArray⟩ w hcell hlt (by simpa using hN) (by simpa using hc) (by rw [hmap]; simpa using hlen)
      rw [hmap] at this
      simpa using this
theorem c51 (n : Int) (h0 : -9223372036854775808 ≤ n) (h1 : n ≤ 9223372036854775807) : Pure Tryz.prog gl 51 [.int .i64 n] (.ok (.str (Lib.itoa n))) := by
  refine ⟨?_,by simp only [fgs,nrs,forall_eq_or_imp,forall_eq,implies_true],by simp only [nrs,forall_eq_or_imp,forall_eq,implies_true]⟩
  simp only [fgs]
  refine (MCalls.ofGrow Tryz.call51 fun wb G w vs hS hv => ?_).mono fun o S' h => h.2
  obtain ⟨v1,vs1,rfl,e1,hv⟩ := hv.cons_inv
  obtain rfl := hv.nil_inv
  obtain rfl := e1.int_inv
  refine ⟨_,.str _,Tryz.strconv_Itoa n h0 h1 w ?_⟩
  obtain ⟨T,fz,he⟩ := hS.good (4,(List.range 20).map fun i => Value.int .u64 ((10 ^ i : Nat) : Int)) (by simp [gtab])
  unfold Lib.TabIs World.var?
  have hg : Tryz.prog.globalNamed "internal/strconv.uint64pow10" = some 4 := by kernel_rfl
  rw [hg]
  simp only [Option.bind_some]
  rw [he]
  simp only [Option.some.injEq]
  congr 1
end Go.Proofs.YtdjdhecanjmchaaGreatDoor
