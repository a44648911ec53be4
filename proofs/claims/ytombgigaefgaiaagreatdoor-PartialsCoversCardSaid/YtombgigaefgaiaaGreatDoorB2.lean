/- The examples of the chapter, by computation. -/
import Derived.Test.YtombgigaefgaiaaGreatDoorVt
import Derived.Test.YtombgigaefgaiaaGreatDoorB1
import Derived.Test.YtombgigaefgaiaaGreatDoorShelf
import Derived.Test.YtombgigaefgaiaaGreatDoorQa
import Derived.Test.YtombgigaefgaiaaGreatDoorQb
import Derived.Test.YtombgigaefgaiaaGreatDoorQc
import Derived.KernelRfl
set_option linter.unusedSimpArgs false
set_option linter.unusedVariables false
namespace Go.Proofs.YtombgigaefgaiaaGreatDoor
open Go Go.V Go.Lib
set_option maxRecDepth 100000
variable {gl : List (Nat × List AV)}
theorem c183 {m : Int} (hm : gl.lookup 3 = some [.int .i64 m]) (a b : Bytes) (ha : a.length < 4294967281) : Pure Tryz.prog gl 183 [.str a,.str b] (.ok (.bool (Lib.contains a b))) := by
  refine ⟨?_,by simp only [fgs,nrs,forall_eq_or_imp,forall_eq,implies_true],by simp only [nrs,forall_eq_or_imp,forall_eq,implies_true]⟩
  simp only [fgs]
  refine (MCalls.ofSame Tryz.call183 fun wb G w vs hS hv => ?_).mono fun o S' h => h.2
  obtain ⟨v1,vs1,rfl,h1,hv⟩ := hv.cons_inv
  obtain ⟨v2,vs2,rfl,h2,hv⟩ := hv.cons_inv
  obtain rfl := hv.nil_inv
  obtain rfl := h1.str_inv
  obtain rfl := h2.str_inv
  obtain ⟨v,q1,q2,_⟩ := hS.glob 3 _ hm 0 _ rfl
  obtain rfl := q2.int_inv
  exact ⟨_,.bool _,by simpa using Tryz.strings_Contains ⟨a.toArray⟩ ⟨b.toArray⟩ m w (by simpa [ByteArray.size] using ha) (hS.prom 3 0 _ q1)⟩
def containsE : Bytes → Bytes → Bool
  | [],sub => sub.isEmpty
  | b :: l,sub => sub.isPrefixOf (b :: l) || containsE l sub
theorem contains_eqE (s sub : Bytes) : Lib.contains s sub = containsE s sub := by
  unfold Lib.contains
  induction s with
  | nil => unfold Lib.index containsE; cases sub <;> simp
  | cons b l ih =>
    unfold Lib.index containsE
    rw [← ih]
    have := Lib.index_ge l sub
    by_cases hp : sub.isPrefixOf (b :: l) = true
    · simp [hp]
    · have hp : sub.isPrefixOf (b :: l) = false := by cases h : sub.isPrefixOf (b :: l) with
        | false => rfl
        | true => exact absurd h hp
      simp only [hp,Bool.false_or,Bool.false_eq_true,if_false]
      by_cases hn : Lib.index l sub = -1
      · simp [hn]
      · have h2 : (Lib.index l sub == -1) = false := by simpa using hn
        rw [h2]
        have h3 : 0 ≤ Lib.index l sub := by omega
        simp only [Bool.false_eq_true,if_false]
        rw [decide_eq_true (by omega),decide_eq_true h3]
def isPreE : Bytes → Bytes → Bool
  | [],_ => true
  | _,[] => false
  | a :: s,b :: t => a == b && isPreE s t
theorem isPreE_eq : ∀ s t : Bytes,isPreE s t = s.isPrefixOf t
  | [],_ => by simp [isPreE,List.isPrefixOf]
  | _ :: _,[] => by simp [isPreE,List.isPrefixOf]
  | a :: s,b :: t => by simp [isPreE,List.isPrefixOf,isPreE_eq s t]
def contE : Bytes → Bytes → Bool
  | [],sub => sub.isEmpty
  | b :: l,sub => isPreE sub (b :: l) || contE l sub
theorem contE_eq : ∀ s sub : Bytes,contE s sub = Lib.contains s sub
  | [],sub => by rw [contains_eqE]; rfl
  | b :: l,sub => by rw [contains_eqE,contE,containsE,isPreE_eq,contE_eq l sub,contains_eqE]
def prE : CallE := fun f xs S =>
  if f = 193 then (match xs with
    | [.int .u64 a,.int .u64 b,.int .u64 c] => if 0 ≤ a ∧ 0 ≤ b ∧ 0 ≤ c ∧ c ≤ 1 then some (.ok (.tup [.int .u64 ((a + b + c) % 18446744073709551616),.int .u64 ((a + b + c) / 18446744073709551616)]),S) else none
    | _ => none)
  else if f = 39 then (match xs with
    | [.sl 6 [] _] => some (.ok (.sl 6 [] .exact),S)
    | _ => none)
  else if f = 183 then (match xs with
    | [.str a,.str b] => if a.length < 4294967281 then some (.ok (.bool (contE a b)),S) else none
    | _ => none)
  else none
theorem none_some {α : Type} {a : α} {p : Prop} (h : (none : Option α) = some a) : p := by cases h
theorem prE_ok (hg : GlNR gl) {m0 : Int} (hm : gl.lookup 3 = some [.int .i64 m0]) : CallOK Tryz.prog gl prE := by
  intro f xs S o S' hS h
  unfold prE at h
  split at h
  · rename_i hf
    subst hf
    split at h
    · split at h
      · rename_i hc
        exact CallOK.pure hg hS (c193 _ _ _ hc.1 hc.2.1 hc.2.2.1 hc.2.2.2) h
      · exact none_some h
    · exact none_some h
  · split at h
    · rename_i hf
      subst hf
      split at h
      · exact CallOK.pure hg hS (c39_0.conv (by simp only [fgs])) h
      · exact none_some h
    · split at h
      · rename_i hf
        subst hf
        split at h
        · split at h
          · rename_i hl
            refine CallOK.pure hg hS ?_ h
            rw [contE_eq]
            exact c183 hm _ _ hl
          · exact none_some h
        · exact none_some h
      · exact none_some h
def tab : List (FuncId × Ent) := [
  (4,⟨95,m4,[.t 0]⟩),
  (5,⟨73,m5,[.c 4 2 true,.t 5,.t 6]⟩),
  (7,⟨26,m7,[.t 4]⟩),
  (11,⟨7,m11,[.c 0 4 true]⟩),
  (12,⟨6,m12,[.c 0 12 true]⟩),
  (13,⟨27,m13,[.t 0]⟩),
  (14,⟨28,m14,[.t 10]⟩),
  (15,⟨42,m15,[.t 4]⟩),
  (16,⟨13,m16,[.c 6 6 true]⟩),
  (17,⟨124,m17,[.c 14 3 true]⟩),
  (18,⟨18,m18,[.t 2]⟩),
  (19,⟨9,m19,[.t 2]⟩),
  (24,⟨3,m24,[.c 0 12 true]⟩),
  (25,⟨49,m25,[.t 6]⟩),
  (26,⟨43,m26,[.t 8]⟩),
  (27,⟨73,m27,[.t 4]⟩),
  (28,⟨22,m28,[.c 4 4 true,.t 5]⟩),
  (29,⟨32,m29,[.t 6]⟩),
  (30,⟨63,m30,[.c 8 3 true]⟩),
  (32,⟨43,m32,[.c 4 2 true,.t 5]⟩),
  (33,⟨7,m33,[.t 5]⟩),
  (34,⟨15,m34,[.t 6]⟩),
  (35,⟨34,m35,[.t 8]⟩),
  (36,⟨22,m36,[.t 4]⟩),
  (39,⟨8,m39,[.t 2]⟩),
  (40,⟨10,m40,[.t 4]⟩),
  (41,⟨20,m41,[.t 4]⟩),
  (42,⟨15,m42,[.c 5 6 true]⟩),
  (43,⟨21,m43,[.c 6 5 true]⟩),
  (44,⟨58,m44,[.t 8]⟩),
  (45,⟨3,m45,[.t 2]⟩),
  (46,⟨22,m46,[.t 4]⟩),
  (47,⟨8,m47,[.t 3]⟩),
  (48,⟨15,m48,[.t 8]⟩),
  (49,⟨78,m49,[.t 6]⟩),
  (50,⟨24,m50,[.c 6 3 true,.t 7]⟩),
  (51,⟨30,m51,[.t 2,.t 3]⟩),
  (56,⟨22,m56,[.t 2]⟩),
  (57,⟨9,m57,[.t 2]⟩),
  (68,⟨6,m68,[.t 2]⟩),
  (69,⟨9,m69,[]⟩),
  (70,⟨67,m70,[.t 6]⟩),
  (71,⟨42,m71,[.t 4]⟩),
  (72,⟨8,m72,[.t 2]⟩),
  (73,⟨15,m73,[.t 4]⟩),
  (74,⟨44,m74,[.c 6 3 true]⟩),
  (75,⟨14,m75,[.t 2]⟩),
  (77,⟨77,m77,[.c 4 3 true,.t 5]⟩),
  (88,⟨63,m88,[]⟩),
  (89,⟨9,m89,[.t 2]⟩),
  (90,⟨49,m90,[.t 6,.t 7]⟩),
  (91,⟨9,m91,[.t 4]⟩),
  (93,⟨26,m93,[.c 6 5 true]⟩),
  (94,⟨24,m94,[.t 2]⟩),
  (95,⟨95,m95,[.t 6]⟩),
  (96,⟨19,m96,[.t 4]⟩),
  (97,⟨19,m97,[.t 4]⟩),
  (98,⟨9,m98,[.t 3]⟩),
  (101,⟨18,m101,[.t 2]⟩),
  (102,⟨19,m102,[.t 2]⟩),
  (103,⟨213,m103,[.t 4]⟩),
  (104,⟨19,m104,[.t 4]⟩),
  (105,⟨9,m105,[.t 3]⟩),
  (106,⟨21,m106,[.c 3 3 true,.t 4]⟩),
  (107,⟨8,m107,[.t 3]⟩),
  (108,⟨27,m108,[.t 4]⟩),
  (114,⟨53,m114,[]⟩),
  (121,⟨112,m121,[.t 2]⟩),
  (122,⟨49,m122,[.t 2]⟩),
  (123,⟨47,m123,[.t 2]⟩),
  (124,⟨9,m124,[.t 4]⟩),
  (125,⟨59,m125,[.t 4]⟩),
  (126,⟨16,m126,[.c 6 3 true,.t 7]⟩),
  (127,⟨15,m127,[.c 6 3 true,.t 7]⟩),
  (130,⟨65,m130,[.c 6 3 true,.t 7]⟩),
  (145,⟨44,m145,[.t 2]⟩),
  (146,⟨9,m146,[.t 4]⟩),
  (148,⟨16,m148,[.t 2]⟩),
  (149,⟨19,m149,[.t 4]⟩),
  (150,⟨26,m150,[.t 4]⟩),
  (170,⟨8,m170,[.c 2 2 true]⟩),
  (172,⟨32,m172,[.c 4 2 true]⟩),
  (174,⟨9,m174,[.c 4 2 true]⟩),
  (182,⟨19,m182,[.t 4]⟩),
  (192,⟨65,m192,[.t 4,.t 5]⟩),
  (195,⟨33,m195,[.c 4 2 true]⟩),
  (203,⟨14,m203,[.c 2 2 true]⟩),
  (204,⟨135,m204,[.t 6,.t 7]⟩),
  (205,⟨51,m205,[.t 4,.t 5]⟩),
  (251,⟨11,m251,[.c 6 5 true]⟩),
  (253,⟨22,m253,[.c 6 5 true]⟩),
  (254,⟨26,m254,[.c 6 5 true]⟩),
  (255,⟨57,m255,[.c 4 3 true]⟩),
  (258,⟨23,m258,[.c 6 3 true]⟩)]
theorem tab_ok : ∀ p ∈ tab,FnIs Tryz.prog p.1 p.2.n p.2.mc p.2.rv := by
  simp only [tab,List.forall_mem_cons]
  exact ⟨is4,is5,is7,is11,is12,is13,is14,is15,is16,is17,is18,is19,is24,is25,is26,is27,is28,is29,is30,is32,is33,is34,is35,is36,is39,is40,is41,is42,is43,is44,is45,is46,is47,is48,is49,is50,is51,is56,is57,is68,is69,is70,is71,is72,is73,is74,is75,is77,is88,is89,is90,is91,is93,is94,is95,is96,is97,is98,is101,is102,is103,is104,is105,is106,is107,is108,is114,is121,is122,is123,is124,is125,is126,is127,is130,is145,is146,is148,is149,is150,is170,is172,is174,is182,is192,is195,is203,is204,is205,is251,is253,is254,is255,is258,by simp⟩
def aggsG : List Bytes := [[99,111,117,110,116],[115,117,109],[109,101,97,110],[109,105,110],[109,97,120],[102,105,114,115,116],[108,97,115,116],[100,105,115,116,105,110,99,116],[113,117,97,110,116,105,108,101],[100,101,99,97,121]]
def glP (m0 : Int) : List (Nat × List AV) := [(0,[.sl 1 (aggsG.map AV.str) .unk]),(3,[.int .i64 m0])]
def lit11 : AV := (.agg [(.sl 4 [(.agg [(.str [99,108,105,99,107,115]),(.str [117,115,101,114]),(.sl 4 [(.agg [(.str [110]),(.int .i64 2),(.sl 2 [] .unk),(.str [])])] .unk),(.int .i64 0)])] .unk),(.sl 18 [] .unk),(.sl 18 [] .unk),(.sl 18 [] .unk)])
def lit12 : AV := (.agg [(.int .i64 5),(.str [115,117,109]),(.str []),(.str [99,108,105,99,107,115]),(.int .i64 0),(.int .i64 0),(.str []),(.sl 2 [] .unk),(.int .i64 0),(.int .i64 2),(.int .i64 10),(.sl 12 [(.agg [(.int .i64 2),(.str []),(.str [110]),(.str []),(.int .i64 0),(.int .i64 0),(.str []),(.sl 2 [] .unk),(.int .i64 0),(.int .i64 0),(.int .i64 0),(.sl 12 [] .unk)]),(.agg [(.int .i64 1),(.str []),(.str []),(.str []),(.int .i64 1),(.int .i64 1),(.str []),(.sl 2 [] .unk),(.int .i64 0),(.int .i64 0),(.int .i64 0),(.sl 12 [] .unk)])] .unk)])
def lit13 : AV := (.sl 8 [(.agg [(.str [115]),(.int .i64 1),(.str [99,108,105,99,107,115]),(.str [117]),(.int .i64 3),(.sl 3 [(.agg [(.int .i64 2),(.int .i64 1),(.str [])])] .unk),(.int .i64 0),(.int .i64 0)]),(.agg [(.str [115]),(.int .i64 2),(.str [99,108,105,99,107,115]),(.str [117]),(.int .i64 7),(.sl 3 [(.agg [(.int .i64 2),(.int .i64 2),(.str [])])] .unk),(.int .i64 0),(.int .i64 0)]),(.agg [(.str [115]),(.int .i64 3),(.str [99,108,105,99,107,115]),(.str [117]),(.int .i64 12),(.sl 3 [(.agg [(.int .i64 2),(.int .i64 3),(.str [])])] .unk),(.int .i64 0),(.int .i64 0)]),(.agg [(.str [115]),(.int .i64 4),(.str [99,108,105,99,107,115]),(.str [117]),(.int .i64 13),(.sl 3 [(.agg [(.int .i64 2),(.int .i64 4),(.str [])])] .unk),(.int .i64 0),(.int .i64 0)])] .unk)
def lit26 : AV := (.sl 6 [(.agg [(.int .i64 3),(.int .i64 1),(.int .i64 0),(.int .u64 1),(.sl 6 [] .unk),(.sl 2 [] .unk)]),(.agg [(.int .i64 7),(.int .i64 1),(.int .i64 0),(.int .u64 2),(.sl 6 [] .unk),(.sl 2 [] .unk)]),(.agg [(.int .i64 12),(.int .i64 1),(.int .i64 0),(.int .u64 3),(.sl 6 [] .unk),(.sl 2 [] .unk)]),(.agg [(.int .i64 13),(.int .i64 1),(.int .i64 0),(.int .u64 4),(.sl 6 [] .unk),(.sl 2 [] .unk)])] .unk)
def args26 : List AV := [lit11,lit13,lit12,.str [117]]
theorem Pure.ofEfg {P : Program} {T : FuncId → Option Ent} (hT : ∀ f en,T f = some en → FnIs P f en.n en.mc en.rv) {ps : CallE} (hp : CallOK P gl ps) (hgn : GlNR gl) {fb fu : Nat} {f : FuncId} {xs : List AV} {r : AV}
    (ha : AV.nrsB (xs.map AV.fg) = true) (ho : r.nrB = true) (h : ∃ r0 S',callE T ps fb fu f (xs.map AV.fg) (.none gl) = some (.ok r0,S') ∧ r0.fg = r) : Pure P gl f xs (.ok r) := by
  obtain ⟨r0,S',h,h0⟩ := h
  subst h0
  refine ⟨MCalls.fgRes ((callE_ok hT hp hgn fb fu) _ _ _ _ _ rfl h).2 (fun r1 _ h1 => ?_) (fun r1 _ h1 => ?_),fun a hm => AV.nrB_ok (nrsB_mem ha a hm),AV.nrB_ok ho⟩
  · have := h1.1
    injection this with this
    rw [this]
  · cases h1.1
def tst26 (m0 : Int) : Bool := match callE (fun f => tab.lookup f) prE 20000 60 26 args26 (.none (glP m0)) with
  | some (.ok r,_) => AV.eqb r.fg lit26
  | _ => false
set_option maxHeartbeats 0 in
theorem tst26_true (m0 : Int) : tst26 m0 = true := by kernel_rfl
theorem fg_args26 : args26.map AV.fg = args26 := by simp only [args26,lit11,lit12,lit13,List.map_cons,List.map_nil,fg_sl,fg_agg,fg_str,fg_int]
theorem c26 (m0 : Int) (hg : GlNR (glP m0)) : Pure Tryz.prog (glP m0) 26 args26 (.ok lit26) := by
  have ht := tst26_true m0
  unfold tst26 at ht
  split at ht
  · rename_i r S' h
    exact Pure.ofEfg (fun f en e => lookup_ok tab_ok e) (prE_ok hg rfl) hg (fb := 20000) (fu := 60) (by rw [fg_args26]; kernel_rfl) (by kernel_rfl) ⟨r,S',by rw [fg_args26]; exact h,AV.eqb_ok ht⟩
  · cases ht
def prF : CallE := fun f xs S =>
  if f = 26 then (if AV.eqbs (xs.map AV.fg) args26 = true then some (.ok lit26,S) else none) else prE f xs S
theorem prF_ok {m0 : Int} (hg : GlNR (glP m0)) : CallOK Tryz.prog (glP m0) prF := by
  intro f xs S o S' hS h
  unfold prF at h
  split at h
  · rename_i hf
    subst hf
    split at h
    · rename_i he
      exact CallOK.pure hg hS ((c26 m0 hg).conv (by rw [AV.eqbs_ok he,fg_args26])) h
    · exact none_some h
  · exact prE_ok hg rfl f xs S o S' hS h
end Go.Proofs.YtombgigaefgaiaaGreatDoor
