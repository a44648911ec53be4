/- Contracts of what the run by computation does not step through: a sum with its carry, a copy of nothing. -/
import Derived.Test.YtombgigaefgaiaaGreatDoorW1
import Derived.Test.YtombgigaefgaiaaGreatDoorProg
import Derived.KernelRfl
import Derived.Laws.Externs
import Derived.Shelf.Strings.Builder1
import Derived.BigCall
import Derived.BigGuard
import Derived.Lib.SliceRun
set_option linter.unusedSimpArgs false
set_option linter.unusedVariables false
namespace Go.Proofs.YtombgigaefgaiaaGreatDoor
open Go Go.V Go.Lib Go.RowKit
set_option maxRecDepth 100000
variable {gl : List (Nat × List AV)}
theorem StRel.keepAll {wb : Base} {G : Gh} {S : St} {w w' : World} (h : StRel wb G S w) (hk : Below w.heap.size w w') : StRel wb G S w' := by
  have hblk : ∀ k,k < w.heap.size → w'.heap[k]? = w.heap[k]? := hk.block
  have hcell : ∀ k,k < w.heap.size → ∀ o,w'.cell? ⟨k,o,none⟩ = w.cell? ⟨k,o,none⟩ ∧ w'.frozen? ⟨k,o,none⟩ = w.frozen? ⟨k,o,none⟩ := fun k h1 o => by
    have := hblk k h1
    exact ⟨by simp only [World.cell?,this],by simp only [World.frozen?,this]⟩
  have hsz := hk.size
  refine { prom := ?_,room := fun l cs r a b e => ⟨(h.room l cs r a b e).1,fun m hm => by rw [(hcell r (h.dom l r e).2.2 m).1,(hcell r (h.dom l r e).2.2 m).2]; exact (h.room l cs r a b e).2 m hm⟩,apart := h.apart,obj := ?_,inj := h.inj,dom := ?_,tok := ?_,tdom := ?_,tdis := h.tdis,base := ?_,pold := h.pold,still := ?_,beta := h.beta,glob := h.glob,bld := ?_,bldu := h.bldu }
  · intro k o x e
    rw [(hcell k (h.lt e) o).1]
    exact h.prom k o x e
  · intro l' cs hget hnb
    obtain ⟨k,hk',hm⟩ := h.obj l' cs hget hnb
    have hc := hcell k (h.dom l' k hk').2.2
    refine ⟨k,hk',fun m c hmc => ?_⟩
    obtain ⟨x,h1,h2,h3,h4⟩ := hm m c hmc
    exact ⟨x,by rw [(hc m).1]; exact h1,h2,h3,by rw [(hc m).2]; exact h4⟩
  · intro l' k e
    have := h.dom l' k e
    exact ⟨this.1,this.2.1,by omega⟩
  · intro t ht
    obtain ⟨k,e,z,h1,h2⟩ := h.tok t ht
    refine ⟨k,e,z,h1,fun o h3 h4 => ?_⟩
    obtain ⟨h5,h6,h7,h8,h9⟩ := h2 o h3 h4
    have hc := hcell k ((h.tdom t _ h1).2 (by show e < z; omega))
    exact ⟨h5,h6,by rw [(hc o).1]; exact h7,by rw [(hc o).2]; exact h8,h9⟩
  · intro t x e
    have := h.tdom t x e
    exact ⟨this.1,fun h' => by have := this.2 h'; omega⟩
  · refine ⟨by have := h.base.1; omega,fun k hkb => ?_⟩
    rw [hblk k (by have := h.base.1; omega)]
    exact h.base.2 k hkb
  · obtain ⟨h1,h2,h3⟩ := h.still
    exact ⟨hk.os.trans h1,hk.output.trans h2,hk.tape.trans h3⟩
  · intro l s hl hsp0
    obtain ⟨r,hr,hb⟩ := h.bld l s hl hsp0
    exact ⟨r,hr,hb.to (Gh.le_refl _) (fun hlt => hblk r hlt) fun g hg _ _ ha => ⟨hblk g hg,ha⟩⟩
theorem MCalls.ofBelow {P : Program} {f : FuncId} {xs : List AV} {S : St} {r : AV} (hc : ∀ (args : Array Value) (w : World),(callFunc f args).run P w = .ok (.enter f args) w)
    (h : ∀ wb G w vs,StRel wb G S w → VRels G xs vs → ∃ v,VRel G r v ∧ Calls P f vs.toArray w fun e w' => e = .returned v ∧ Below w.heap.size w w') : MCalls P f xs S fun o S' => S' = S ∧ o = .ok r := by
  intro wb G w vs hS hv
  obtain ⟨v,h1,h2⟩ := h wb G w vs hS hv
  unfold Invk
  rw [hc]
  refine h2.mono fun e w' ⟨he,hw⟩ => ?_
  subst he
  exact ⟨G,S,Gh.le_refl G,StRel.keepAll hS hw,r,h1,rfl,rfl⟩
theorem call_add64 (x y c : Int) (hx : 0 ≤ x) (hy : 0 ≤ y) (h0 : 0 ≤ c) (h1 : c ≤ 1) (w : World) : (callFunc 193 #[.int .u64 x,.int .u64 y,.int .u64 c]).run Tryz.prog w =
    .ok (.value (.tuple #[.int .u64 ((x + y + c) % 18446744073709551616),.int .u64 ((x + y + c) / 18446744073709551616)])) w := by
  rw [run_callFunc_extern Tryz.func193 (by kernel_rfl) (by kernel_rfl) (by kernel_rfl) (e := add64Entry) (by kernel_rfl),run_add64 x y c hx hy h0 h1]
  rfl
theorem c193 (x y c : Int) (hx : 0 ≤ x) (hy : 0 ≤ y) (h0 : 0 ≤ c) (h1 : c ≤ 1) : Pure Tryz.prog gl 193 [.int .u64 x,.int .u64 y,.int .u64 c] (.ok (.tup [.int .u64 ((x + y + c) % 18446744073709551616),.int .u64 ((x + y + c) / 18446744073709551616)])) := by
  refine ⟨?_,by simp only [fgs,nrs,forall_eq_or_imp,forall_eq,implies_true],by simp only [nrs,forall_eq_or_imp,forall_eq,implies_true]⟩
  simp only [fgs]
  intro wb G w vs hS hv
  obtain ⟨v1,vs1,rfl,e1,hv⟩ := hv.cons_inv
  obtain ⟨v2,vs2,rfl,e2,hv⟩ := hv.cons_inv
  obtain ⟨v3,vs3,rfl,e3,hv⟩ := hv.cons_inv
  obtain rfl := hv.nil_inv
  obtain rfl := e1.int_inv
  obtain rfl := e2.int_inv
  obtain rfl := e3.int_inv
  unfold Invk
  rw [show ([Value.int .u64 x,.int .u64 y,.int .u64 c].toArray) = #[.int .u64 x,.int .u64 y,.int .u64 c] from rfl,call_add64 x y c hx hy h0 h1 w]
  exact ⟨G,_,Gh.le_refl G,hS,_,.tup2 (.int _ _) (.int _ _),rfl⟩
set_option maxHeartbeats 2000000 in
theorem clone_nil (w : World) : Calls Tryz.prog 39 #[.slice none 0 0] w fun e w' => e = .returned (.slice none 0 0) ∧ Below w.heap.size w w' := by
  have he := fun (a : Option Addr) (n c : Nat) (w : World) => run_eql_slice_nil (P := Tryz.prog) w 49 60 a n c 0 0 Tryz.underlying49
  go_enter Tryz.func39,Tryz.ntmps39
  go_wp2
  go_ret
  exact ⟨rfl,Below.refl _ _⟩
set_option maxHeartbeats 2000000 in
theorem clone_empty (ad : Addr) (cap : Nat) (w : World) : Calls Tryz.prog 39 #[.slice (some ad) 0 cap] w fun e w' => e = .returned (.slice (some ⟨w.heap.size,0,none⟩) 0 0) ∧ Below w.heap.size w w' := by
  have he := fun (a : Option Addr) (n c : Nat) (w : World) => run_eql_slice_nil (P := Tryz.prog) w 49 60 a n c 0 0 Tryz.underlying49
  go_enter Tryz.func39,Tryz.ntmps39
  go_wp2
  go_ret
  exact ⟨rfl,(Below.refl _ _).alloc (Nat.le_refl _) _⟩
theorem nr_u0 (k : Nat) : NoRef (.sl k [] .unk) = True := eq_true (NoRef.sl (by simp) (.inl rfl))
theorem nr_e0 (k : Nat) : NoRef (.sl k [] .exact) = True := eq_true (NoRef.sl (by simp) (.inr rfl))
theorem c39_0 : Pure Tryz.prog gl 39 [.sl 6 [] .unk] (.ok (.sl 6 [] .exact)) := by
  refine ⟨?_,by simp only [fgs,nrs,forall_eq_or_imp,forall_eq,implies_true,nr_u0],by simp only [nrs,forall_eq_or_imp,forall_eq,implies_true,nr_e0]⟩
  simp only [fgs]
  refine (MCalls.ofBelow Tryz.call39 fun wb G w vs hS hv => ?_).mono fun o S' h => h.2
  obtain ⟨v1,vs1,rfl,e1,hv⟩ := hv.cons_inv
  obtain rfl := hv.nil_inv
  cases e1 with
  | slnil _ _ ad =>
    cases ad with
    | none => exact ⟨_,.slnil _ _ _,clone_nil w⟩
    | some ad => exact ⟨_,.slnil _ _ _,clone_empty _ _ w⟩
  | sl f hk hp ho hv hc ht => exact ⟨_,.slnil _ _ _,clone_empty _ _ w⟩
end Go.Proofs.YtombgigaefgaiaaGreatDoor
