/- A sorted row of labels in memory, seen from the by-value layer. -/
import Derived.Test.YtdjdhecanjmchaaGreatDoorS2
import Derived.Test.YtdjdhecanjmchaaGreatDoorP1
import Derived.Shelf.SlSortCmp.WholeK
import Derived.Test.YtdjdhecanjmchaaGreatDoorC0
import Derived.Test.YtdjdhecanjmchaaGreatDoorC5
import Derived.Test.YtdjdhecanjmchaaGreatDoorS5
set_option linter.unusedSimpArgs false
set_option linter.unusedVariables false
namespace Go.Proofs.YtdjdhecanjmchaaGreatDoor
open Go Go.V Go.RowKit
theorem putCells_eq (r : Nat) : ∀ (vs : List Value) (o : Nat) (w : World),Go.V.putCells w r o vs = w.setCells r o vs
  | [],_,_ => rfl
  | v :: vs,o,w => putCells_eq r vs (o + 1) (w.setCell ⟨r,o,none⟩ v)
theorem setMany_all (F : Array Value) (vs : List Value) (h : vs.length = F.size) : Go.Sort.setMany F 0 vs = vs.toArray := by
  apply Array.ext_getElem?
  intro i
  by_cases hi : i < F.size
  · have h1 := Go.Sort.get_setMany vs 0 F i hi
    rw [if_pos ⟨Nat.zero_le _,by omega⟩,Nat.sub_zero] at h1
    rw [getElem!_pos _ i (by simpa using hi),getElem!_pos vs i (by omega)] at h1
    rw [Array.getElem?_eq_getElem (by simpa using hi),h1]
    simp [h,hi]
  · rw [Array.getElem?_eq_none (by simp; omega),Array.getElem?_eq_none (by simp; omega)]
theorem putRow_V {w : World} {r : Nat} {F : Array Value} (h : Go.Sort.Holds id w r 0 F) (vs : List Value) (hs : vs.length = F.size) : Go.V.putCells w r 0 vs = Go.Sort.putRow id w r 0 vs.toArray := by
  have h1 := Go.Sort.setCells_putRow w r 0 vs 0 F (by omega)
  rw [Go.Sort.putRow_self id w r 0 F h,setMany_all F vs hs] at h1
  rw [putCells_eq]
  exact h1
def cellsL (x : Lab) : List Value := [.string ⟨x.k.toArray⟩,.int .i64 x.e,.int .i64 x.n]
theorem row_rel (G : Gh) : ∀ X : List Lab,CRel G (flat (X.map Lab.av)) (X.flatMap cellsL)
  | [] => .nil G
  | x :: X => by
    have ih := row_rel G X
    simp only [List.map_cons,flat_cons,List.flatMap_cons]
    exact .append (.cons (.str _) rfl (.cons (.int _ _) rfl (.cons (.int _ _) rfl (.nil G)))) ih
theorem row_plain : ∀ (X : List Lab) (c : AV),c ∈ flat (X.map Lab.av) → (∃ s,c = .str s) ∨ ∃ k n,c = .int k n
  | [],c,h => by simp at h
  | x :: X,c,h => by
    simp only [List.map_cons,flat_cons,List.mem_append] at h
    rcases h with h | h
    · simp only [AV.cells,List.mem_cons,List.not_mem_nil,or_false] at h
      rcases h with rfl | rfl | rfl
      · exact .inl ⟨_,rfl⟩
      · exact .inr ⟨_,_,rfl⟩
      · exact .inr ⟨_,_,rfl⟩
    · exact row_plain X c h
theorem row_only {G : Gh} {X : List Lab} {m : Nat} {c : AV} {u v : Value} (hc : (flat (X.map Lab.av))[m]? = some c) (hu : (X.flatMap cellsL)[m]? = some u) (hv : VRel G c v) : v = u := by
  obtain ⟨w,h1,h2,_⟩ := (row_rel G X).get hc
  rw [hu] at h1
  injection h1 with h1
  subst h1
  rcases row_plain X c (List.mem_of_getElem? hc) with ⟨s,rfl⟩ | ⟨k,n,rfl⟩
  · rw [hv.str_inv,h2.str_inv]
  · rw [hv.int_inv,h2.int_inv]
theorem rows_len : ∀ X : List Lab,(X.flatMap cellsL).length = X.length * 3
  | [] => rfl
  | x :: X => by
    have := rows_len X
    simp only [List.flatMap_cons,List.length_append,List.length_cons,cellsL,this,List.length_nil]
    omega
theorem rows_at : ∀ (X : List Lab) (i j : Nat),j < 3 → (X.flatMap cellsL)[i * 3 + j]? = (X[i]?).bind fun x => (cellsL x)[j]?
  | [],i,j,_ => by simp
  | x :: X,0,j,h => by
    simp only [List.flatMap_cons,Nat.zero_mul,Nat.zero_add,List.getElem?_cons_zero,Option.bind_some]
    rw [List.getElem?_append_left (by simp only [cellsL,List.length_cons,List.length_nil]; omega)]
  | x :: X,i + 1,j,h => by
    rw [List.flatMap_cons,List.getElem?_append_right (by simp only [cellsL,List.length_cons,List.length_nil]; omega),List.getElem?_cons_succ,← rows_at X i j h]
    congr 1
    simp only [cellsL,List.length_cons,List.length_nil]
    omega
instance : Inhabited Lab := ⟨⟨[],0,0⟩⟩
theorem flatK_rows (X : List Lab) : Go.Sort.flatK cellsL 3 X.toArray = (X.flatMap cellsL).toArray := by
  have hs : (Go.Sort.flatK cellsL 3 X.toArray).size = X.length * 3 := by rw [Go.Sort.size_flatK]; simp
  apply Array.ext_getElem?
  intro t
  by_cases ht : t < X.length * 3
  · have h1 := Go.Sort.get_flatK cellsL 3 X.toArray t (by simpa using ht)
    rw [getElem!_pos _ t (by omega)] at h1
    have hi : t / 3 < X.length := by omega
    have hj : t % 3 < 3 := by omega
    have h2 := rows_at X (t / 3) (t % 3) hj
    rw [show t / 3 * 3 + t % 3 = t by omega,List.getElem?_eq_getElem hi,Option.bind_some] at h2
    rw [Array.getElem?_eq_getElem (by omega),h1,List.getElem?_toArray,h2]
    rw [getElem!_pos X.toArray (t / 3) (by simpa using hi)]
    have hl : (cellsL X[t / 3]).length = 3 := rfl
    rw [List.getElem?_eq_getElem (by omega),List.getElem_toArray,getElem!_pos _ _ (by omega)]
  · rw [Array.getElem?_eq_none (by omega),Array.getElem?_eq_none (by simp only [List.size_toArray,rows_len]; omega)]
end Go.Proofs.YtdjdhecanjmchaaGreatDoor
namespace Go.Proofs.YtdjdhecanjmchaaGreatDoor
open Go Go.V Go.RowKit Go.Sort
theorem ltOf_lab (x y : Lab) : ltOf labCmp x y = labLt x y := by
  unfold ltOf
  rw [show decide (labCmp x y < 0) = decide (labLt x y = true) from by simp only [cmp_lt]]
  simp
theorem swoL : SWO (ltOf labCmp) where
  irrefl x := by rw [ltOf_lab]; exact lt_irr x
  trans x y z h1 h2 := by rw [ltOf_lab] at *; exact lt_trans h1 h2
  ntrans x y z h1 h2 := by
    rw [ltOf_lab] at *
    rcases lt_tri x z with h | h | h
    · rcases lt_tri x y with h3 | h3 | h3
      · rw [h3] at h1; cases h1
      · subst h3; rw [h] at h2; cases h2
      · have := lt_trans h3 h; rw [this] at h2; cases h2
    · subst h; exact lt_irr x
    · rcases h3 : labLt x z with _ | _
      · rfl
      · have := lt_trans h h3; rw [lt_irr] at this; cases this
theorem sorted_weak {d : Array Lab} (h : SortedIn (ltOf labCmp) 0 d.size d) : WeakL d.toList := by
  rw [WeakL,List.pairwise_iff_getElem]
  intro i j hi hj hij
  have := h i j (Nat.zero_le _) hij (by simpa using hj)
  rw [ltOf_lab,getElem!_pos d j (by simpa using hj),getElem!_pos d i (by simpa using hi)] at this
  simpa using this
theorem perm_mem {d d' : Array Lab} (h : PermIn 0 d.size d d') : d'.toList.length = d.toList.length ∧ ∀ z,z ∈ d'.toList ↔ z ∈ d.toList := by
  obtain ⟨h1,_,h3⟩ := h
  refine ⟨by simpa using h1,fun z => ?_⟩
  have e1 : d.extract 0 d.size = d := by simp
  have e2 : d'.extract 0 d.size = d' := by rw [← h1]; simp
  rw [e1,e2] at h3
  exact h3.mem_iff
end Go.Proofs.YtdjdhecanjmchaaGreatDoor
namespace Go.Proofs.YtdjdhecanjmchaaGreatDoor
open Go Go.V Go.RowKit Go.Sort
theorem vrel_tup0 (G : Gh) : VRel G (.tup []) (.tuple #[]) := by
  have := VRel.tup (G := G) (cs := []) (vs := []) rfl (by simp)
  exact this
theorem cmpLays179 (blk n : Nat) (w : World) : CmpLays Tryz.prog 179 #[] cellsL 3 labCmp blk 0 n w :=
  fun _ _ _ _ x y => k179 x.k y.k x.e x.n y.e y.n (cmpB x.k y.k) (cmpI x.e y.e) (cmpI x.n y.n) (labCmp x y) rfl rfl rfl rfl _
set_option maxRecDepth 40000 in
theorem c178 (X : List Lab) (hX : X.length < 4294960000) (nt : Nat) (gl : List (Nat × List AV)) :
    MCalls Tryz.prog 178 [.osl 3 X.length 0 0,.fn (.func 179) [] []] ⟨1,[(0,rowL X)],nt,[],gl⟩ fun o S' => o = .ok (.tup []) ∧ ∃ Y : List Lab,Y.length = X.length ∧ (∀ z,z ∈ Y ↔ z ∈ X) ∧ WeakL Y ∧ S' = ⟨1,[(0,rowL Y),(0,rowL X)],nt,[],gl⟩ := by
  intro wb G w vs hS hv
  obtain ⟨v1,vs1,rfl,e1,hv⟩ := hv.cons_inv
  obtain ⟨v2,vs2,rfl,e2,hv⟩ := hv.cons_inv
  obtain rfl := hv.nil_inv
  have e2 : v2 = .func (.func 179) #[] #[] := by
    cases e2 with
    | fn f h1 h2 h3 h4 =>
      rw [List.eq_nil_of_length_eq_zero h1.symm,List.eq_nil_of_length_eq_zero h2.symm]
  subst e2
  cases e1 with
  | osl _ hr hc =>
    rename_i r cap
    obtain ⟨r',hr',hm⟩ := hS.obj 0 (rowL X) rfl (row_bld X)
    obtain rfl := Option.some.inj (hr.symm.trans hr')
    have hH : HoldsK cellsL 3 w r 0 X.toArray := by
      unfold HoldsK
      rw [flatK_rows]
      intro j hj
      have hj' : j < (X.flatMap cellsL).length := by simpa only [List.size_toArray] using hj
      rw [rows_len] at hj'
      obtain ⟨c,hc2⟩ := some_of_lt (show j < (rowL X).length by rw [rowL_len]; exact hj')
      obtain ⟨v,h1,h2,_,h4⟩ := hm j c hc2
      obtain ⟨u,hu⟩ := some_of_lt (show j < (X.flatMap cellsL).length by rw [rows_len]; exact hj')
      have := row_only hc2 hu h2
      subst this
      rw [Nat.zero_add,getElem!_pos _ j hj]
      refine ⟨?_,h4⟩
      rw [h1]
      rw [List.getElem?_eq_some_iff] at hu
      obtain ⟨_,hu⟩ := hu
      simp [← hu]
    unfold Invk
    rw [Tryz.call178]
    have eg : ∀ args w,(callFunc 179 args).run Tryz.prog w = .ok (.enter 179 args) w := Tryz.call179
    have hcall := AnyQ.slices_SortFunc Tryz.sortL 3 Tryz.isAgg53 Tryz.sizeOf53 cellsL (fun _ => rfl) (fun x v hv => by simp [cellsL] at hv; rcases hv with rfl | rfl | rfl <;> rfl) labCmp swoL 179 #[] r 0 cap X.toArray w eg (by simpa using cmpLays179 r X.length w) hH (hS.dom _ _ hr).2.2 (by simp; omega)
    change Calls Tryz.prog 178 _ _ _ at hcall
    refine hcall.mono ?_
    rintro e w' ⟨rfl,d',n,os,hp,hs,rfl⟩
    have hpm := perm_mem hp
    have hsz : d'.size = X.length := by simpa using hp.1
    have hw : WeakL d'.toList := sorted_weak (by rw [hsz]; simpa using hs)
    have hY : d' = d'.toList.toArray := by simp
    have hH' : Holds id w r 0 (flatK cellsL 3 X.toArray) := hH
    have hput := putRow_V (w := Go.Sort.ahead w n) hH' (d'.toList.flatMap cellsL) (by rw [rows_len,size_flatK]; simp [hsz])
    have hst := (hS.drewN n).store (ds := rowL d'.toList) (vs := d'.toList.flatMap cellsL) (o := 0) rfl hr (row_rel G d'.toList) (by rw [rowL_len,rowL_len]; simp [hsz]) (row_bld X)
    have hfl := flatK_rows d'.toList
    rw [Array.toArray_toList] at hfl
    have e : sortWorldK cellsL 3 w r 0 n d' os = grow (V.putCells (w.drewN n) r 0 (d'.toList.flatMap cellsL)) os := by
      unfold sortWorldK putRowK
      rw [hfl,← hput]
      rfl
    have hsp : splice (rowL X) 0 (rowL d'.toList) = rowL d'.toList := by
      unfold splice
      rw [List.take_zero,List.nil_append,List.drop_eq_nil_of_le (by rw [rowL_len,rowL_len]; simp [hsz]),List.append_nil]
    rw [e]
    rw [hsp] at hst
    exact ⟨G,_,Gh.le_refl G,hst.grow os,AV.tup [],vrel_tup0 G,rfl,d'.toList,by simpa using hsz,fun z => by simpa using hpm.2 z,hw,rfl⟩
end Go.Proofs.YtdjdhecanjmchaaGreatDoor
