/- What a row of this seat reads is what the by-value layer speaks of; worlds that meet the row's condition. -/
import Derived.Test.YtombgigaefgaiaaGreatDoorW1
import Derived.Test.YtombgigaefgaiaaGreatDoorVr
import Derived.Test.YtombgigaefgaiaaGreatDoorRows
import Derived.WalkKit
import Derived.ProofKit
import Derived.OpenShut
import Derived.Deep.DeepHandedRow
import Derived.Lib.LaidTab
import Derived.Test.YtombgigaefgaiaaGreatDoorB2
import Derived.Test.YtombgigaefgaiaaGreatDoorB3
set_option linter.unusedSimpArgs false
set_option linter.unusedVariables false
namespace Go.Proofs.YtombgigaefgaiaaGreatDoor
open Go Go.V Go.ChangeShapes Go.WideShapes Go.RowKit
set_option maxRecDepth 40000
def ghW (W : World) : Gh := ⟨fun r o => W.cell? ⟨r,o,none⟩,fun _ => none,fun _ => none,W.heap.size,fun _ => 0⟩
section read
variable {H : Type} {enc : TypeId × Value → H} {W : World}
theorem str_eq (s : ByteArray) : (Value.string s) = .string ⟨s.data.toList.toArray⟩ := by simp
theorem cells_at {a : Addr} {n : Nat} {cs : List Value} (h : W.cells? 0 a n = some cs) : cs.length = n ∧ ∀ i,i < n → W.cell? (a.add i) = cs[i]? := (World.cells?_some h).2
theorem CRel.one {G : Gh} {c : AV} {u : Value} (h : VRel G c u) (ho : u.oneCell' = true) : CRel G [c] [u] := .cons h ho (.nil G)
theorem rd_sliceX {held : Bool} {α : Type} {en : α → AV} {D : α → DataW H → Prop} {e t : TypeId} {k : Nat} (hk : 0 < k) (hen : ∀ z,(en z).cells.length = k) (ht : Tryz.prog.underlying t = some (.slice e)) (hc : Tryz.prog.cellsOf e = k)
    (hel : ∀ n cs x,DataW.trod enc Tryz.prog W 0 (fun _ => true) held n e cs = some x → ∃ z,CRel (ghW W) (en z).cells cs ∧ D z x.1) {n : Nat} {cs : List Value} {x : DataW H × List MemPlace} (h : DataW.trod enc Tryz.prog W 0 (fun _ => true) held n t cs = some x) :
    ∃ zs : List α,∃ u,cs = [u] ∧ VRel (ghW W) (.sl k (zs.map en) .unk) u ∧ u.oneCell' = true ∧ ((x.1 = .nil ∧ zs = []) ∨ ∃ el rest,x.1 = .slice el rest ∧ zs.length = el.length ∧ ∀ (i : Nat) z d,zs[i]? = some z → el[i]? = some d → D z d) := by
  rcases DataW.trod_slice ht h with ⟨rfl,rfl⟩ | ⟨a,len,cap,elems,rest,m,rfl,rfl,rfl,_,hl,_,hlen,hel1,hsp,_⟩
  · exact ⟨[],_,rfl,.slnil _ _ _,rfl,.inl ⟨rfl,rfl⟩⟩
  refine (?_ : ∃ zs : List α,VRel (ghW W) (.sl k (zs.map en) .unk) (.slice (some a) len cap) ∧ zs.length = elems.length ∧ ∀ (i : Nat) z y,zs[i]? = some z → elems[i]? = some y → D z y.1).elim fun zs hz => ⟨zs,_,rfl,hz.1,rfl,.inr ⟨_,_,rfl,by simpa using hz.2.1,fun i z d h1 h2 => by
    rw [List.getElem?_map,Option.map_eq_some_iff] at h2
    obtain ⟨y,h3,rfl⟩ := h2
    exact hz.2.2 i z y h1 h3⟩⟩
  rw [hc] at hel1 hsp
  have each : ∀ i,i < len → ∃ z,∃ ci : List Value,W.cells? 0 (a.add (i * k)) k = some ci ∧ CRel (ghW W) (en z).cells ci ∧ ∀ y,elems[i]? = some y → D z y.1 := fun i hi => by
    have h1 := hel1 i hi
    obtain ⟨y,hy⟩ : ∃ y,elems[i]? = some y := ⟨elems[i],by simp [hlen,hi]⟩
    rw [hy,Option.bind_eq_some_iff] at h1
    obtain ⟨ci,h2,h3⟩ := h1
    obtain ⟨z,hz,hz2⟩ := hel m ci y h3
    exact ⟨z,ci,h2,hz,fun y' hy' => by rw [hy] at hy'; injection hy' with hy'; subst hy'; exact hz2⟩
  rcases Nat.eq_zero_or_pos cap with h0 | h0
  · obtain rfl : len = 0 := by omega
    subst h0
    exact ⟨[],.slnil _ _ _,by simpa using hlen.symm,by simp⟩
  have hspot : a.spot = none := by
    have key : ∀ ci,W.cells? 0 (a.add (0 * k)) k = some ci → a.spot = none := fun ci hci => by
      obtain ⟨h1,h2⟩ := cells_at hci
      have h3 := h2 0 hk
      have h4 : (a.add (0 * k)).add 0 = a := by simp [Addr.add]
      rw [h4] at h3
      obtain ⟨v,hv⟩ : ∃ v,ci[0]? = some v := ⟨ci[0],by simp [h1,hk]⟩
      rw [hv] at h3
      unfold World.cell? at h3
      split at h3
      · split at h3
        · cases h3
        · rename_i h5
          cases hs : a.spot with
          | none => rfl
          | some x => rw [hs] at h5; simp at h5
      · cases h3
    rcases Nat.eq_zero_or_pos len with hl0 | hl0
    · subst hl0
      obtain ⟨h1,h2⟩ := hsp rfl
      have h3 := h2 0 (by omega)
      obtain ⟨y,hy⟩ : ∃ y,rest[0]? = some y := ⟨rest[0],by simp [h1,h0]⟩
      rw [hy,Option.bind_eq_some_iff] at h3
      obtain ⟨ci,h4,_⟩ := h3
      exact key ci (by simpa using h4)
    · obtain ⟨z,ci,h2,_,_⟩ := each 0 hl0
      exact key ci h2
  obtain ⟨r,b,sp⟩ := a
  obtain rfl : sp = none := hspot
  have hadd : ∀ i,(⟨r,b,none⟩ : Addr).add i = ⟨r,b + i,none⟩ := fun i => by rw [add_none]
  have hlist : ∀ L,L ≤ len → ∃ zs : List α,zs.length = L ∧ ∀ i z,zs[i]? = some z → ∃ ci : List Value,W.cells? 0 ⟨r,b + i * k,none⟩ k = some ci ∧ CRel (ghW W) (en z).cells ci ∧ ∀ y,elems[i]? = some y → D z y.1 := fun L => by
    induction L with
    | zero => exact fun _ => ⟨[],rfl,by simp⟩
    | succ L ih =>
      intro hL
      obtain ⟨zs,h1,h2⟩ := ih (by omega)
      obtain ⟨z,ci,h3,h4⟩ := each L (by omega)
      rw [hadd] at h3
      refine ⟨zs ++ [z],by simp [h1],fun i y hy => ?_⟩
      rcases Nat.lt_or_ge i zs.length with h5 | h5
      · rw [List.getElem?_append_left h5] at hy
        exact h2 i y hy
      · rw [List.getElem?_append_right h5] at hy
        have h6 : i - zs.length = 0 := by
          rcases Nat.eq_zero_or_pos (i - zs.length) with h | h
          · exact h
          · rw [List.getElem?_eq_none (by simp; omega)] at hy; cases hy
        rw [h6] at hy
        simp at hy
        subst hy
        obtain rfl : i = L := by omega
        exact ⟨ci,h3,h4⟩
  obtain ⟨zs,hzl,hz⟩ := hlist len (Nat.le_refl _)
  have hcl : ∀ y ∈ zs.map en,y.cells.length = k := by
    intro y hy
    obtain ⟨z,_,rfl⟩ := List.mem_map.1 hy
    exact hen z
  have key : ∀ (m : Nat) (c : AV),(flat (zs.map en))[m]? = some c → ∃ u,W.cell? ⟨r,b + m,none⟩ = some u ∧ u.oneCell' = true ∧ VRel (ghW W) c u := by
    intro m c hm
    have hmk : m = m / k * k + m % k := by rw [Nat.mul_comm]; exact (Nat.div_add_mod m k).symm
    have hr : m % k < k := Nat.mod_lt _ hk
    have hm2 := flat_get (xs := zs.map en) (i := m / k) (j := m % k) hcl hr
    rw [← hmk,hm] at hm2
    obtain ⟨y,hy,hyc⟩ := Option.bind_eq_some_iff.1 hm2.symm
    rw [List.getElem?_map,Option.map_eq_some_iff] at hy
    obtain ⟨z,hz1,rfl⟩ := hy
    obtain ⟨ci,h1,h2,_⟩ := hz _ _ hz1
    obtain ⟨h3,h4⟩ := cells_at h1
    obtain ⟨u,h5,h6,h7⟩ := h2.get hyc
    have h8 := h4 (m % k) hr
    rw [add_none,h5,Nat.add_assoc,← hmk] at h8
    exact ⟨u,h8,h7,h6⟩
  refine ⟨zs,?_⟩
  have := VRel.sl (G := ghW W) (k := k) (xs := zs.map en) (t := .unk) (r := r) (b := b) (cap := cap) (fun m => (W.cell? ⟨r,b + m,none⟩).getD .nilIface) hcl
    (fun m c hm => by obtain ⟨u,h1,h2,h3⟩ := key m c hm; show W.cell? ⟨r,b + m,none⟩ = _; rw [h1]; rfl)
    (fun m c hm => by obtain ⟨u,h1,h2,h3⟩ := key m c hm; simp only [h1,Option.getD_some]; exact h2)
    (fun m c hm => by obtain ⟨u,h1,h2,h3⟩ := key m c hm; simp only [h1,Option.getD_some]; exact h3) (by rw [List.length_map,hzl]; exact hl) trivial
  rw [List.length_map,hzl] at this
  exact ⟨this,by rw [hzl,hlen],fun i z y h1 h2 => by obtain ⟨_,_,_,h3⟩ := hz i z h1; exact h3 y h2⟩
theorem cof3 : Tryz.prog.cellsOf 3 = 1 := by kernel_rfl
theorem cof9 : Tryz.prog.cellsOf 9 = 1 := by kernel_rfl
theorem cof23 : Tryz.prog.cellsOf 23 = 2 := by kernel_rfl
theorem rd_strX {held : Bool} {n : Nat} {cs : List Value} {x : DataW H × List MemPlace} (h : DataW.trod enc Tryz.prog W 0 (fun _ => true) held n 9 cs = some x) : ∃ s : Bytes,cs = [.string ⟨s.toArray⟩] ∧ x.1 = .lit (.string s) := by
  obtain ⟨s,rfl,rfl,_⟩ := DataW.trod_string Tryz.underlying9 h
  exact ⟨s.data.toList,by rw [str_eq],rfl⟩
theorem rd_strsX {held : Bool} {n : Nat} {cs : List Value} {x : DataW H × List MemPlace} (h : DataW.trod enc Tryz.prog W 0 (fun _ => true) held n 210 cs = some x) {L : List Bytes} (hx : x.1 = .slice (L.map fun s => .lit (.string s)) []) :
    ∃ u,cs = [u] ∧ VRel (ghW W) (.sl 1 (L.map AV.str) .unk) u ∧ u.oneCell' = true := by
  obtain ⟨zs,u,h1,h2,h3,h4⟩ := rd_sliceX (k := 1) (en := AV.str) (D := fun z d => d = .lit (.string z)) (by decide) (fun _ => rfl) Tryz.underlying210 cof9 (fun n cs x h => by obtain ⟨s,rfl,h2⟩ := rd_strX h; exact ⟨s,CRel.one (.str _) rfl,h2⟩) h
  refine ⟨u,h1,?_,h3⟩
  rcases h4 with ⟨h4,_⟩ | ⟨el,rest,h4,h5,h6⟩
  · rw [hx] at h4; cases h4
  · rw [hx] at h4
    injection h4 with h4 _
    subst h4
    have e : zs = L := by
      apply List.ext_getElem?
      intro i
      rw [List.length_map] at h5
      rcases Nat.lt_or_ge i zs.length with hi | hi
      · have := h6 i zs[i] (.lit (.string (L[i]'(by omega)))) (by simp) (by simp [List.getElem?_map,show i < L.length by omega])
        injection this with this
        injection this with this
        rw [List.getElem?_eq_getElem hi,List.getElem?_eq_getElem (show i < L.length by omega),this]
      · rw [List.getElem?_eq_none hi,List.getElem?_eq_none (by omega)]
    rw [← e]
    exact h2
theorem VRel.of_cells {G : Gh} {cs : List AV} {vs : Array Value} (h : CRel G cs vs.toList) : VRel G (.agg cs) (.agg vs) := by
  have := VRel.agg (G := G) (cs := cs) (vs := vs.toList) h.len h.one h.rel
  simpa using this
theorem open_ivl {v : Value} {d : DataW H} {ps : List MemPlace} (hval : Value.okWide Tryz.prog W .any 0 23 v) (h : DataW.Trod enc Tryz.prog W 0 (fun _ => true) true 23 v d ps) : ∃ a b : Int,VRel (ghW W) (.agg [.int .i64 a,.int .i64 b]) v := by
  obtain ⟨n,hn⟩ := h
  unfold Value.okWide at hval
  rw [Tryz.underlying23] at hval
  obtain ⟨cs,rfl,_,_⟩ := hval
  obtain ⟨xs,m,rfl,_,hl,hxl,hf⟩ := DataW.trod_struct Tryz.underlying23 hn
  rw [cof23] at hl
  have hcs : (Value.agg cs).cells.toList = cs.toList := by simp [Value.cells]
  rw [hcs] at hl hf
  match hc : cs.toList,hl with
  | [a,b],_ =>
    rw [hc] at hf
    have f0 : DataW.trod enc Tryz.prog W 0 (fun _ => true) true m 3 ((([a,b] : List Value).drop 0).take (Tryz.prog.cellsOf 3)) = xs[0]? := hf 0 _ rfl
    rw [cof3] at f0
    have f1 : DataW.trod enc Tryz.prog W 0 (fun _ => true) true m 3 ((([a,b] : List Value).drop 1).take (Tryz.prog.cellsOf 3)) = xs[1]? := hf 1 _ rfl
    rw [cof3] at f1
    have hx : xs.length = 2 := hxl
    match xs,hx with
    | [y0,y1],_ =>
      obtain ⟨n0,e0,_,_⟩ := DataW.trod_int Tryz.underlying3 (x := y0) f0
      obtain ⟨n1,e1,_,_⟩ := DataW.trod_int Tryz.underlying3 (x := y1) f1
      simp at e0 e1
      subst e0 e1
      exact ⟨n0,n1,VRel.of_cells (by rw [hc]; exact .append (CRel.one (.int _ _) rfl) (CRel.one (.int _ _) rfl))⟩
end read
theorem own : ownKnob Tryz.prog.godebug = none := by kernel_rfl
theorem gAgg : Tryz.prog.globalNamed "asof/checker.aggregates" = some 0 := by kernel_rfl
theorem gAggT : (Tryz.prog.globals[0]?).map (·.type) = some 210 := by kernel_rfl
abbrev laidP : List (String × DataW Unit) := [("asof/checker.aggregates",Rows.laid_asof_checker_aggregates),("asof/checker.unary",Rows.laid_asof_checker_unary),("asof/checker.binary",Rows.laid_asof_checker_binary)]
theorem laid_aggs {W : World} (h : laidMetH Tryz.prog laidP W) : ∃ u,W.cell? ⟨0,0,none⟩ = some u ∧ VRel (ghW W) (.sl 1 (aggsG.map AV.str) .unk) u ∧ u.oneCell' = true := by
  have h : laidMet Tryz.prog laidP W := h
  obtain ⟨ps,h1,_,_⟩ := h
  simp only [laidP,DataW.LaidVars] at h1
  obtain ⟨g,t,cs,fuel,p,q,hg,hty,hvar,hd,_,_⟩ := h1
  obtain rfl := Option.some.inj (gAgg.symm.trans hg)
  obtain rfl := Option.some.inj (gAggT.symm.trans hty)
  obtain ⟨u,e,hu,ho⟩ := rd_strsX (L := aggsG) hd rfl
  refine ⟨u,?_,hu,ho⟩
  unfold World.var? at hvar
  rw [gAgg] at hvar
  simp only [Option.bind_some] at hvar
  split at hvar
  · rename_i c T fz hh
    injection hvar with hvar
    subst hvar
    unfold World.cell?
    rw [hh]
    have : c = #[u] := by rw [← show c.toList.toArray = c from by simp,e]
    subst this
    rfl
  · cases hvar
theorem maxLen_at {W : World} (h : W.ShapedOpen Tryz.prog) : ∃ m,W.cell? ⟨3,0,none⟩ = some (.int .i64 m) := by
  obtain ⟨cs,h1,h2,h3⟩ := h.1 3 #[.int .i64 0] 3 (of_decide_eq_true (by kernel_rfl)) (by kernel_rfl)
  obtain ⟨ts,h4,_,h5⟩ := h3 (by kernel_rfl)
  have h6 : Tryz.prog.cellTypes Tryz.prog.depth 3 = some [3] := by kernel_rfl
  rw [h6] at h4
  injection h4 with h4
  subst h4
  have h7 : cs.size = 1 := h2
  obtain ⟨v,hv⟩ : ∃ v,cs[0]? = some v := ⟨cs[0],by simp [h7]⟩
  obtain ⟨u,h8,h9⟩ := h5 0 v hv
  simp at h8
  subst h8
  unfold Cell.ok at h9
  rw [Tryz.underlying3] at h9
  cases v <;> first
    | (simp at h9; done)
    | skip
  rename_i k n
  have h10 : k = .i64 := by
    have := h9
    simp at this
    exact this.1
  subst h10
  refine ⟨n,?_⟩
  unfold World.cell?
  rw [h1]
  simpa using hv
theorem glP_nr (m : Int) : GlNR (glP m) := by
  intro g cs h c hc
  simp only [glP,List.lookup_cons,List.lookup_nil] at h
  split at h
  · injection h with h
    subst h
    simp only [List.mem_singleton] at hc
    subst hc
    exact of_eq_true (nr_strs 1 aggsG)
  · split at h
    · injection h with h
      subst h
      simp only [List.mem_singleton] at hc
      subst hc
      exact .int _ _
    · cases h
theorem calls_law {W : World} (hL : laidMetH Tryz.prog laidP W) (hsh : W.ShapedOpen Tryz.prog) {f : FuncId} {xs : List AV} (hc : ∀ (args : Array Value) (w : World),(callFunc f args).run Tryz.prog w = .ok (.enter f args) w)
    (h : ∀ m,Pure Tryz.prog (glP m) f xs (.ok (.bool true))) {vs : List Value} (hv : VRels (ghW W) xs vs) :
    Calls Tryz.prog f vs.toArray W fun e W' => e = .returned (.bool true) ∧ Below W.heap.size W W' := by
  obtain ⟨m,hm⟩ := maxLen_at hsh
  obtain ⟨u,hu1,hu2,hu3⟩ := laid_aggs hL
  let wb : Base := { toWorld := W,φ := fun r o => W.cell? ⟨r,o,none⟩,good := fun p hp => by cases hp }
  have hst : StRel wb (ghW W) (.none (glP m)) W := {
    prom := fun r o v h => h
    room := fun l cs r e => by cases e
    apart := fun l cs r o e => by cases e
    obj := fun l cs e => by cases e
    beta := rfl
    bld := fun l s e => by cases e
    bldu := fun l l' s s' e => by cases e
    inj := fun l l' r cs cs' e => by cases e
    dom := fun l r e => by cases e
    tok := fun t ht => by cases ht
    tdom := fun t x e => by cases e
    tdis := fun t ht => by cases ht
    base := ⟨Nat.le_refl _,fun _ _ => rfl⟩
    pold := fun r o v _ e => e
    still := ⟨rfl,rfl,rfl⟩
    glob := fun g cs e i c hc => by
      have e : (glP m).lookup g = some cs := e
      simp only [glP,List.lookup_cons,List.lookup_nil] at e
      split at e
      · rename_i hg
        have hg : g = 0 := by simpa using hg
        subst hg
        injection e with e
        subst e
        match i with
        | 0 => simp at hc; subst hc; exact ⟨_,hu1,hu2,hu3⟩
        | i + 1 => simp at hc
      · split at e
        · rename_i hg
          have hg : g = 3 := by simpa using hg
          subst hg
          injection e with e
          subst e
          match i with
          | 0 => simp at hc; subst hc; exact ⟨_,hm,.int _ _,rfl⟩
          | i + 1 => simp at hc
        · cases e }
  have hi := (h m).call wb (ghW W) W vs hst hv.fg
  unfold Invk at hi
  rw [hc] at hi
  refine Calls.mono hi fun e w2 ⟨G',S',h1,h2,h3⟩ => ?_
  have hb : Below W.heap.size W w2 := ⟨h2.still.1,h2.still.2.2,h2.still.2.1,h2.base.1,fun k hk => h2.base.2 k hk⟩
  cases e with
  | returned v => obtain ⟨r,h4,h5⟩ := h3; injection h5 with h5; subst h5; rw [h4.bool_inv]; exact ⟨rfl,hb⟩
  | panicked ch => obtain ⟨v,av,h4,h5,h6⟩ := h3; cases h6
  | outgrown => exact h3.elim
theorem laidOut : laidOutB Tryz.prog = true := by kernel_rfl
theorem post_law {H : Type} {enc : TypeId × Value → H} {f : Func} {s : ChangeSpec} {W W' : World} {args : Array Value} {ds : List (DataW H)} {before : List MemPlace} (hv : s.vars = [])
    (hr : f.resultTypes = #[4]) (hs : (s.fn H ds).results = [.lit (.bool true)]) (ha : (s.fn H ds).args = ds) (hvs : (s.fn H ds).vars = [])
    (hp : ∀ t ∈ f.params.toList,Tryz.prog.readableRec t = true ∧ t < Tryz.prog.types.size)
    (hW : DataW.Whole enc Tryz.prog f.params.toList s.vars false W args.toList ds [] before) (hB : Below W.heap.size W W') : s.post enc Tryz.prog f false true false false W args (.bool true) W' := by
  have hlt := hW.lt
  have hW' := hW
  obtain ⟨p,q,hA,hV,rfl,hfz,hnd⟩ := hW
  rw [hv] at hV
  have hq : q = [] := hV
  subst hq
  have hargs : ∀ (ts : List TypeId) (vs : List Value) (ds : List (DataW H)) (p : List MemPlace),(∀ t ∈ ts,Tryz.prog.readableRec t = true ∧ t < Tryz.prog.types.size) → (∀ x ∈ p,x.block < W.heap.size) → DataW.TrodAll enc Tryz.prog W 0 (fun _ => true) true ts vs ds p →
      DataW.TrodAll enc Tryz.prog W' 0 (fun b => decide (b < W.heap.size)) true ts vs ds p := by
    intro ts
    induction ts with
    | nil =>
      intro vs ds p _ _ h
      cases vs <;> cases ds <;> simp [DataW.TrodAll] at h ⊢
      exact h
    | cons t ts ih =>
      intro vs ds p ht hp h
      cases vs <;> cases ds <;> simp only [DataW.TrodAll] at h ⊢
      obtain ⟨p1,q1,h1,h2,rfl⟩ := h
      have h3 := ht t List.mem_cons_self
      exact ⟨p1,q1,Below.trod laidOut h3.1 h3.2 h1 hB (fun x hx => hp x (List.mem_append_left _ hx)),ih _ _ _ (fun t h => ht t (List.mem_cons_of_mem _ h)) (fun x hx => hp x (List.mem_append_right _ hx)) h2,rfl⟩
  refine ⟨ds,[],p ++ [],[],p,[],hW',?_,?_,?_,hB.frame _,fun h => by cases h⟩
  · rw [List.append_nil,hs,hr]
    exact trodAll_cons_mk (shut_bool Tryz.underlying4 _) trodAll_mk0
  · rw [List.append_nil,ha]
    exact hargs _ _ _ _ hp (fun x hx => hlt x (by simpa using hx)) hA
  · rw [List.append_nil,hvs,hv]
    rfl
def setC (h : Array Obj) (i : Nat) (vs : List Value) : Array Obj := h.modify i fun
  | .cells _ t _ => .cells vs.toArray t (0,0)
  | o => o
def strsC (l : List Bytes) : Obj := .cells (l.map fun s => Value.string ⟨s.toArray⟩).toArray 9 (0,0)
noncomputable def laidWorld (os : Os) : World :=
  let w0 := World.holding Tryz.prog os ⟨#[],#[],[]⟩
  let n := w0.heap.size
  { w0 with heap := (setC (setC (setC w0.heap 0 [.slice (some ⟨n,0,none⟩) 10 10]) 1 [.slice (some ⟨n + 1,0,none⟩) 3 3]) 2 [.slice (some ⟨n + 2,0,none⟩) 10 10]) ++
      #[strsC aggsG,strsC [[45],[110,111,116],[110,117,108,108]],strsC [[43],[45],[42],[47],[61,61],[33,61],[60],[60,61],[97,110,100],[111,114]]] }
end Go.Proofs.YtombgigaefgaiaaGreatDoor
