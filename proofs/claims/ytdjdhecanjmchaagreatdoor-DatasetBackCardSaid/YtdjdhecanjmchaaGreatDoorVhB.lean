/- The by-value layer, part eight: append, whole. Over any program. -/
import Derived.Test.YtdjdhecanjmchaaGreatDoorVgB
set_option linter.unusedSimpArgs false
set_option linter.unusedVariables false
namespace Go.V
open Go
theorem StRel.liveSub {wb : Base} {G : Gh} {S : St} {w : World} {L L' : List Nat} {n : Nat} (h : StRel wb G { S with nt := n, live := L } w) (hs : ∀ t ∈ L', t ∈ L) : StRel wb G { S with nt := n, live := L' } w :=
  h.weak ⟨rfl, rfl, rfl, fun _ _ e => e, hs⟩
theorem zeroCells_size (z : Array Value) (n : Nat) : (Builtin.zeroCells z n).size = n * z.size := by simp [Builtin.zeroCells]
def Lies (wb : Base) (tk : STok) (ys : List AV) (u v : Value) (w w' : World) : Prop :=
  (∀ r b n c, v = .slice (some ⟨r, b, none⟩) n c → wb.heap.size ≤ r ∨ ((ys = [] ∨ tk ≠ .exact) ∧ ∃ n', u = .slice (some ⟨r, b, none⟩) n' c)) ∧ (tk = .exact → ys = [] → w' = w ∧ v = u)
def SemN (P : Program) (wb : Base) (G : Gh) (x : Sem Value) (w : World) (r : AV) (S' : St) (R : Value → World → Prop) : Prop :=
  ∃ v w' G', x.run P w = .ok v w' ∧ G.le G' ∧ StRel wb G' S' w' ∧ VRel G' r v ∧ R v w'
theorem sem_appendN {P : Program} {wb : Base} {G : Gh} {S S' : St} {w : World} (h : StRel wb G S w) {t t2 ty : TypeId} {k bytes : Nat} {x y r : AV} {u v : Value} (hx : VRel G x u) (hy : VRel G y v)
    (hty : appTy P t t2 k bytes = true) (hob : appOb k bytes S x y) (he : appEv k S x y = some (r, S')) : SemN P wb G (Builtin.append_ #[t, t2] ty #[u, v]) w r S' (fun v' w' => ∀ xs tk ys, x = .sl k xs tk → appArg k y = some ys → Lies wb tk ys u v' w w') := by
  unfold appTy at hty
  simp only [Bool.and_eq_true] at hty
  obtain ⟨hty, hty2⟩ := hty
  split at hty
  rotate_left
  · cases hty
  rename_i e ht
  split at hty
  rotate_left
  · cases hty
  rename_i i hi
  simp only [Bool.and_eq_true, beq_iff_eq, decide_eq_true_eq] at hty
  obtain ⟨⟨⟨h1, h2⟩, h3⟩, h4⟩ := hty
  split at h4
  rotate_left
  · cases h4
  rename_i z hz
  have h4 : z.cells.size = k := by simpa using h4
  obtain ⟨d2, ht2, hd2⟩ : ∃ d2, P.underlying t2 = some d2 ∧ (d2 = .string ∨ ∃ x, d2 = .slice x) := by
    split at hty2
    · exact ⟨_, ‹_›, .inl rfl⟩
    · exact ⟨_, ‹_›, .inr ⟨_, rfl⟩⟩
    · cases hty2
  have hxs : ∃ xs tk, x = .sl k xs tk := by
    cases hx <;> simp only [appEv] at he <;> first
      | (cases he; done)
      | (split at he
         · rename_i hk
           subst hk
           exact ⟨_, _, rfl⟩
         · cases he)
  obtain ⟨xs, tk, rfl⟩ := hxs
  simp only [appEv, if_true, Option.map_eq_some_iff, Prod.mk.injEq] at he
  obtain ⟨ys, hys, rfl, rfl⟩ := he
  simp only [appOb, hys] at hob
  obtain ⟨hob3, hob1, hob2⟩ := hob
  obtain ⟨us, hus, hyk, hn, hfc⟩ := appArg_cells (P := P) h hy hys h3
  have hxa : appArg k (.sl k xs tk) = some xs := by simp [appArg]
  obtain ⟨os, hos, hxk, hno, hfo⟩ := appArg_cells (P := P) h hx hxa h3
  have hk : ∀ a ∈ xs ++ ys, a.cells.length = k := fun a ha => by
    rcases List.mem_append.1 ha with ha | ha
    · exact hxk a ha
    · exact hyk a ha
  have hlu : us.length = ys.length * k := by rw [← hus.len, flat_length hyk]
  have hlo : os.length = xs.length * k := by rw [← hos.len, flat_length hxk]
  have hcr : CRel G (flat (xs ++ ys)) (os ++ us) := by rw [flat_append]; exact .append hos hus
  have hS : ∃ L', S.use tk = { S with nt := S.nt + 1, live := S.nt :: L' } ∧ (∀ t ∈ L', t ∈ S.live) ∧ (tk = .exact ∨ ∃ n, tk = .tok n ∧ n ∈ S.live ∧ L' = S.live.filter (· != n)) := by
    rcases hob3 with rfl | ⟨n, rfl, hn⟩
    · exact ⟨S.live, rfl, fun _ h => h, .inl rfl⟩
    · exact ⟨_, rfl, fun t ht => (List.mem_filter.1 ht).1, .inr ⟨n, rfl, hn, rfl⟩⟩
  obtain ⟨L', hL', hL, htk⟩ := hS
  rw [hL']
  suffices hsuf : SemN P wb G (Builtin.append_ #[t, t2] ty #[u, v]) w (.sl k (xs ++ ys) (.tok S.nt)) { S with nt := S.nt + 1, live := S.nt :: L' } (fun v' w' => Lies wb tk ys u v' w w') by
    obtain ⟨v', w', G', q1, q2, q3, q4, q5⟩ := hsuf
    refine ⟨v', w', G', q1, q2, q3, q4, fun xs' tk' ys' e1 e2 => ?_⟩
    injection e1 with _ e3 e4
    rw [hys] at e2
    injection e2 with e2
    subst e3 e4 e2
    exact q5
  have grow : ∀ (base : Option Addr) (cap : Nat), u = .slice base xs.length cap → ¬ xs.length + ys.length ≤ cap → ¬ (tk = .exact ∧ ys = []) → SemN P wb G (Builtin.append_ #[t, t2] ty #[u, v]) w (.sl k (xs ++ ys) (.tok S.nt)) { S with nt := S.nt + 1, live := S.nt :: L' } (fun v' w' => Lies wb tk ys u v' w w') := by
    intro base cap hu hroom hnex
    subst hu
    have hd := h.drew
    have run := run_append_out (P := P) (w := w) (t := t) (t2 := t2) (ty := ty) ht hi hz ht2 hd2 (base := base) (sLen := xs.length) (sCap := cap) (us := us.toArray) (os := os.toArray) hn
      (by rw [h1]; exact hfc w.drew (fun r o v e => hd.prom r o v e)) (by rw [h1]; exact hfo w.drew (fun r o v e => hd.prom r o v e)) hroom (by omega) (by rw [h2]; exact hob1)
    have hc : xs.length + ys.length ≤ grownCap w (xs.length + ys.length) cap e := by simp only [grownCap, Question.cut]; omega
    generalize grownCap w (xs.length + ys.length) cap e = c at run hc
    obtain ⟨G', g1, _, g3, g4, g5⟩ := hd.rowTok (E := e) (vs := os ++ us) (rest := (Builtin.zeroCells z.cells (c - (xs.length + ys.length))).toList)
    refine ⟨_, _, G', run, g1, ?_, ?_, ⟨fun r0 b0 n0 c0 e0 => .inl ?_, fun e1 e2 => absurd ⟨e1, e2⟩ hnex⟩⟩
    rotate_left 2
    · injection e0 with e0 _ _
      injection e0 with e0
      injection e0 with e0 _ _
      rw [← e0]
      exact h.base.1
    · have := g5.liveSub (L' := S.nt :: L') (fun t ht => by
        rcases List.mem_cons.1 ht with rfl | ht
        · simp
        · exact List.mem_cons_of_mem _ (hL t ht))
      have e1 : (os ++ us ++ (Builtin.zeroCells z.cells (c - (xs.length + ys.length))).toList).toArray = os.toArray ++ us.toArray ++ Builtin.zeroCells z.cells (c - (xs.length + ys.length)) := by
        apply Array.ext'
        simp
      rw [e1] at this
      exact this
    · have e2 : xs.length + ys.length = (xs ++ ys).length := by simp
      rw [e2]
      refine sl_of_row hk (hcr.mono g1) (fun j v e => by rw [Nat.zero_add]; show G'.φ w.drew.heap.size j = _; rw [g4]; exact e) (by simpa using hc) ?_
      show G'.τ S.nt = _
      have e3 : (os ++ us).length = (xs ++ ys).length * k := by simp [hlo, hlu, Nat.add_mul]
      have e4 : (os ++ us).length + (Builtin.zeroCells z.cells (c - (xs.length + ys.length))).toList.length = c * k := by
        have e5 : (Builtin.zeroCells z.cells (c - (xs.length + ys.length))).toList.length = (c - (xs.length + ys.length)) * k := by rw [← h4, ← zeroCells_size]; exact Array.length_toList
        have e6 : (xs ++ ys).length + (c - (xs.length + ys.length)) = c := by rw [List.length_append]; omega
        rw [e3, e5, ← Nat.add_mul, e6]
      rw [g3, e4, e3, Nat.zero_add, Nat.zero_add]
      rfl
  cases hx with
  | slnil =>
    by_cases h0 : ys.length = 0
    · have hy0 : ys = [] := List.eq_nil_of_length_eq_zero h0
      subst hy0
      obtain ⟨G', g1, _, g3⟩ := h.emptyTok 0 0
      have hu0 : us = [] := by simpa using hlu
      subst hu0
      refine ⟨_, w, G', run_append_in (w' := w) ht hi ht2 hd2 hn (us := #[]) (by rw [h1]; exact hfc w h.prom) (by simp) (fun a _ => by simp [storeCells]) (fun _ => rfl), g1, ?_, ?_, ⟨fun r0 b0 n0 c0 e0 => .inr ⟨.inl rfl, by injection e0 with e0 _ e2; subst e0 e2; exact ⟨_, rfl⟩⟩, fun _ _ => ⟨rfl, by simp⟩⟩⟩
      · exact g3.liveSub (fun t ht => by
          rcases List.mem_cons.1 ht with rfl | ht
          · simp
          · exact List.mem_cons_of_mem _ (hL t ht))
      · exact .slnil _ _ _
    · exact grow _ 0 rfl (by rw [List.length_nil]; omega) (fun e => h0 (by rw [e.2]; rfl))
  | sl f hk' hp ho hv hc htok =>
    rename_i r b cap
    by_cases hroom : xs.length + ys.length ≤ cap
    ·
      have hex : tk = .exact → ys = [] := fun e => by
        subst e
        have e5 : b + xs.length * k = b + cap * k := htok
        have : xs.length = cap := Nat.eq_of_mul_eq_mul_right h3 (by omega)
        exact List.eq_nil_of_length_eq_zero (by omega)
      rcases htk with hte | ⟨n, hte, hnl, hL2⟩
      · have hy0 := hex hte
        subst hy0 hte
        have hu0 : us = [] := by simpa using hlu
        subst hu0
        obtain ⟨G', g1, g2, g3⟩ := h.emptyTok r (b + xs.length * k)
        refine ⟨_, w, G', run_append_in (w' := w) ht hi ht2 hd2 hn (us := #[]) (by rw [h1]; exact hfc w h.prom) hroom (fun a _ => by simp [storeCells]) (fun _ => rfl), g1, ?_, ?_, ⟨fun r0 b0 n0 c0 e0 => .inr ⟨.inl rfl, by injection e0 with e0 _ e2; exact ⟨xs.length, by rw [← e0, ← e2]⟩⟩, fun _ _ => ⟨rfl, rfl⟩⟩⟩
        · exact g3.liveSub (fun t ht => by
            rcases List.mem_cons.1 ht with rfl | ht
            · simp
            · exact List.mem_cons_of_mem _ (hL t ht))
        · have hp' := fun (m : Nat) (c : AV) (e : (flat xs)[m]? = some c) => g1.φ _ _ _ (hp m c e)
          have hv' := fun (m : Nat) (c : AV) (e : (flat xs)[m]? = some c) => (hv m c e).mono g1
          have e5 : b + xs.length * k = b + cap * k := htok
          have := VRel.sl (G := G') (t := .tok S.nt) f hk' hp' ho hv' hc (by show G'.τ S.nt = _; rw [g2, ← e5])
          simpa using this
      · subst hte
        have hτ : G.τ n = some (r, b + xs.length * k, b + cap * k) := htok
        have hz' : b + xs.length * k + us.length ≤ b + cap * k := by
          rw [hlu, Nat.add_assoc, ← Nat.add_mul]
          exact Nat.add_le_add_left (Nat.mul_le_mul_right k hroom) b
        obtain ⟨G', g1, _, g3, g4, g5⟩ := h.extend hnl hτ hz'
        obtain ⟨r0, e0, z0, h5, h6⟩ := h.tok n hnl
        obtain ⟨rfl, rfl, rfl⟩ : r = r0 ∧ b + xs.length * k = e0 ∧ b + cap * k = z0 := by rw [hτ] at h5; simpa using h5
        refine ⟨_, putCells w r (b + xs.length * k) us, G', run_append_in (w' := putCells w r (b + xs.length * k) us) ht hi ht2 hd2 hn (us := us.toArray) (by rw [h1]; exact hfc w h.prom) hroom (fun a e => ?_) (fun e => by cases e), g1, ?_, ?_, ⟨fun r0 b0 n0 c0 e0 => .inr ⟨.inr (by simp), by injection e0 with e0 _ e2; exact ⟨xs.length, by rw [← e0, ← e2]⟩⟩, fun e => by cases e⟩⟩
        · injection e with e
          subst e
          rw [add_none, h1]
          have := run_storeCells (P := P) r (b + xs.length * k) us w 0 hus.one (fun j hj => by
            rw [Nat.add_zero]
            obtain ⟨_, _, h7, h8, _⟩ := h6 (b + xs.length * k + j) (by omega) (by omega)
            exact ⟨h7, h8⟩)
          simpa using this
        · rw [hL2]
          exact g5
        · have e2 : xs.length + ys.length = (xs ++ ys).length := by simp
          rw [e2]
          refine sl_of_row hk (hcr.mono g1) (fun j v e => ?_) (by simpa using hroom) ?_
          · rcases Nat.lt_or_ge j os.length with hj | hj
            · rw [List.getElem?_append_left hj] at e
              have hjx : j < (flat xs).length := by rw [hos.len]; exact hj
              have hcx := List.getElem?_eq_getElem hjx
              have e3 := g1.φ _ _ _ (hp j _ hcx)
              have e4 := (hfo w h.prom)
              have : os[j]? = some (f j) := by
                have e5 := run_firstCells_some (P := P) w k xs.length ⟨r, b, none⟩ xs.length cap ((List.range (flat xs).length).map f) (by simp [flat_length hxk]) (fun m u e => by
                  rw [add_none]
                  have hm : m < (flat xs).length := by
                    rcases Nat.lt_or_ge m (flat xs).length with h' | h'
                    · exact h'
                    · rw [List.getElem?_eq_none (by simpa using h')] at e; cases e
                  have : u = f m := by simp [hm] at e; exact e.symm
                  subst this
                  exact h.prom _ _ _ (hp m _ (List.getElem?_eq_getElem hm)))
                rw [e5] at e4
                injection e4 with e4
                have e6 : os = (List.range (flat xs).length).map f := by
                  have := congrArg Array.toList e4
                  simpa using this.symm
                rw [e6]
                simp [hjx]
              rw [this] at e
              injection e with e
              subst e
              exact e3
            · rw [List.getElem?_append_right hj] at e
              have := g4 _ _ e
              rwa [show b + xs.length * k + (j - os.length) = b + j from by omega] at this
          · show G'.τ S.nt = _
            rw [g3]
            congr 2
            rw [hlu]
            simp only [List.length_append, Nat.add_mul]
            congr 1
            omega
    · refine grow _ cap rfl hroom fun e => ?_
      have : ys.length = 0 := by rw [e.2]; rfl
      omega
theorem sem_append {P : Program} {wb : Base} {G : Gh} {S S' : St} {w : World} (h : StRel wb G S w) {t t2 ty : TypeId} {k bytes : Nat} {x y r : AV} {u v : Value} (hx : VRel G x u) (hy : VRel G y v)
    (hty : appTy P t t2 k bytes = true) (hob : appOb k bytes S x y) (he : appEv k S x y = some (r, S')) : SemOK P wb G (Builtin.append_ #[t, t2] ty #[u, v]) w r S' := by
  obtain ⟨v', w', G', h1, h2, h3, h4, _⟩ := sem_appendN h hx hy hty hob he
  exact ⟨v', w', G', h1, h2, h3, h4⟩
theorem VRel.newTok {G : Gh} {k : Nat} {xs : List AV} {n : Nat} {v : Value} (h : VRel G (.sl k xs (.new n)) v) : VRel G (.sl k xs (.tok n)) v := by
  cases h with
  | slnil => exact .slnil _ _ _
  | sl f hk hp ho hv hc ht => exact .sl f hk hp ho hv hc ht.1
theorem sem_appN {P : Program} {wb : Base} {G : Gh} {S S' : St} {w : World} (h : StRel wb G S w) {t t2 ty : TypeId} {k bytes : Nat} {x y r : AV} {u v : Value} (hx : VRel G x u) (hy : VRel G y v)
    (hty : appTy P t t2 k bytes = true) (hob : appNOb k bytes S x y) (he : appNEv k S x y = some (r, S')) : SemOK P wb G (Builtin.append_ #[t, t2] ty #[u, v]) w r S' := by
  unfold appNEv at he
  split at he
  rotate_left
  · cases he
  rename_i k' xs tk
  split at he
  rotate_left
  · cases he
  rename_i hkk
  subst hkk
  simp only [Option.bind_eq_some_iff] at he
  obtain ⟨ys, hys, he⟩ := he
  simp only [appNOb, hys] at hob
  obtain ⟨hob1, hob2⟩ := hob
  have key : ∀ (G' : Gh) (v' : Value), G.le G' → VRel G' (.sl k' (xs ++ ys) (.tok S.nt)) v' → (∀ r b n c, v' = .slice (some ⟨r, b, none⟩) n c → wb.heap.size ≤ r ∨ c = 0) → VRel G' (.sl k' (xs ++ ys) (.new S.nt)) v' := by
    intro G' v' hle hv hr
    generalize hz : xs ++ ys = zs at hv
    cases hv with
    | slnil => exact .slnil _ _ _
    | sl f hk hp ho hv hc ht =>
      rcases hr _ _ _ _ rfl with h6 | h6
      · exact .sl f hk hp ho hv hc ⟨ht, by rw [hle.β, h.beta]; exact h6⟩
      · subst h6
        have h7 : zs = [] := List.eq_nil_of_length_eq_zero (by omega)
        subst h7
        exact .slnil _ _ _
  split at he
  · rename_i n
    simp only [Option.some.injEq, Prod.mk.injEq] at he
    obtain ⟨rfl, rfl⟩ := he
    obtain ⟨v', w', G', h1, h2, h3, h4, h5⟩ := sem_appendN h (x := .sl k' xs (.tok n)) hx.newTok hy hty (by simp only [appOb, hys]; exact ⟨.inr ⟨n, rfl, hob1⟩, hob2⟩) (by simp only [appEv, hys, if_true, Option.map_some]; rfl)
    refine ⟨v', w', G', h1, h2, h3, key G' v' h2 h4 fun r0 b0 n0 c0 e0 => ?_⟩
    rcases (h5 _ _ _ rfl hys).1 _ _ _ _ e0 with h6 | ⟨_, n1, h6⟩
    · exact .inl h6
    · subst h6
      cases hx with
      | slnil => exact .inr rfl
      | sl f hk hp ho hv hc ht => rw [← h.beta]; exact .inl ht.2
  · split at he
    · split at he
      · simp only [Option.some.injEq, Prod.mk.injEq] at he
        obtain ⟨rfl, rfl⟩ := he
        obtain ⟨v', w', G', h1, h2, h3, h4, h5⟩ := sem_appendN h (x := .sl k' [] .exact) hx hy hty (by simp only [appOb, hys]; exact ⟨.inl rfl, hob2⟩) (by simp only [appEv, hys, if_true, Option.map_some]; rfl)
        obtain ⟨e1, e2⟩ := (h5 _ _ _ rfl hys).2 rfl rfl
        subst e1 e2
        exact ⟨_, _, G, h1, Gh.le_refl G, h, hx⟩
      · rename_i a ys'
        simp only [Option.some.injEq, Prod.mk.injEq] at he
        obtain ⟨rfl, rfl⟩ := he
        obtain ⟨v', w', G', h1, h2, h3, h4, h5⟩ := sem_appendN h (x := .sl k' [] .exact) hx hy hty (by simp only [appOb, hys]; exact ⟨.inl rfl, hob2⟩) (by simp only [appEv, hys, if_true, Option.map_some]; rfl)
        refine ⟨v', w', G', h1, h2, h3, key G' v' h2 h4 fun r0 b0 n0 c0 e0 => ?_⟩
        rcases (h5 _ _ _ rfl hys).1 _ _ _ _ e0 with h6 | ⟨h7, _⟩
        · exact .inl h6
        · rcases h7 with h7 | h7
          · cases h7
          · exact absurd rfl h7
    · cases he
  · cases he
end Go.V
