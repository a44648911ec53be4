/- Plain arithmetic: what the machine's wrapped numbers are, bytes, and lists of bytes. No program in sight. -/
import Derived.Test.YtombgigaefgaiaaGreatDoorVr
set_option linter.unusedSimpArgs false
set_option linter.unusedVariables false
namespace Go.V
open Go
theorem wrap_u8 (x : Int) : IntKind.u8.wrap x = x % 256 := by simp [IntKind.wrap,IntKind.bits,IntKind.signed]
theorem wrap_u32 (x : Int) : IntKind.u32.wrap x = x % 4294967296 := by simp [IntKind.wrap,IntKind.bits,IntKind.signed]
theorem wrap_u64 (x : Int) : IntKind.u64.wrap x = x % 18446744073709551616 := by simp [IntKind.wrap,IntKind.bits,IntKind.signed]
theorem wrap_u64_in {x : Int} (h0 : 0 ≤ x) (h1 : x < 18446744073709551616) : IntKind.u64.wrap x = x := by rw [wrap_u64]; omega
theorem wrap_u32_in {x : Int} (h0 : 0 ≤ x) (h1 : x < 4294967296) : IntKind.u32.wrap x = x := by rw [wrap_u32]; omega
theorem wrap_u8_in {x : Int} (h0 : 0 ≤ x) (h1 : x < 256) : IntKind.u8.wrap x = x := by rw [wrap_u8]; omega
theorem wrap_i64_in {x : Int} (h0 : -9223372036854775808 ≤ x) (h1 : x < 9223372036854775808) : IntKind.i64.wrap x = x := by
  simp only [IntKind.wrap,IntKind.bits,IntKind.signed]
  simp
  omega
theorem byteAV_ofNat (n : Nat) : byteAV (UInt8.ofNat n) = .int .u8 ((n % 256 : Nat) : Int) := by
  simp [byteAV]
theorem byte_mod (n : Nat) : (.int .u8 (((n : Int)) % 256) : AV) = byteAV (UInt8.ofNat n) := by
  rw [byteAV_ofNat]; congr 1
theorem or128 : ∀ b : BitVec 8,(b ||| 128#8).toNat = b.toNat % 128 + 128 := by decide
theorem byte_or128 (n : Nat) : (.int .u8 (ior .u8 (IntKind.u8.wrap (n : Int)) 128) : AV) = byteAV (UInt8.ofNat (n % 128 + 128)) := by
  have h1 : BitVec.ofInt 8 128 = 128#8 := rfl
  have h2 : (BitVec.ofInt 8 (IntKind.u8.wrap (n : Int))).toNat = n % 256 := by
    rw [wrap_u8,BitVec.toNat_ofInt]
    omega
  have h3 : ior .u8 (IntKind.u8.wrap (n : Int)) 128 = IntKind.u8.wrap ((BitVec.ofInt 8 (IntKind.u8.wrap (n : Int)) ||| 128#8).toNat : Int) := rfl
  rw [h3,or128,h2,byteAV_ofNat,wrap_u8]
  congr 1
  omega
theorem ishr_nat (k : IntKind) (m : Nat) (s : Int) (h : s.toNat ≤ k.bits) : ishr k (m : Int) s = ((m / 2 ^ s.toNat : Nat) : Int) := by
  unfold ishr
  rw [Nat.min_eq_left h,Int.fdiv_eq_ediv_of_nonneg _ (Int.pow_nonneg (by decide))]
  simp
theorem drop_some {α : Type} {s : List α} {i : Nat} {c : α} (h : s[i]? = some c) : s.drop i = c :: s.drop (i + 1) := by
  obtain ⟨h1,h2⟩ := List.getElem?_eq_some_iff.1 h
  rw [List.drop_eq_getElem_cons h1,h2]
theorem lt_of_some {α : Type} {s : List α} {i : Nat} {c : α} (h : s[i]? = some c) : i < s.length := (List.getElem?_eq_some_iff.1 h).1
theorem some_of_lt {α : Type} {s : List α} {i : Nat} (h : i < s.length) : ∃ c,s[i]? = some c := ⟨s[i],by simp [h]⟩
theorem ltB {i n : Nat} (h : i < n) : decide ((i : Int) < (n : Int)) = true := by simpa using h
theorem geB {i n : Nat} (h : n ≤ i) : decide ((i : Int) < (n : Int)) = false := by simpa using h
theorem ltP {i n : Nat} (h : i < n) : ((i : Int) < (n : Int)) = True := eq_true (by omega)
theorem wrap_succ {i : Nat} (h : i < 9223372036854775807) : IntKind.i64.wrap ((i : Int) + 1) = ((i + 1 : Nat) : Int) := by
  rw [wrap_i64_in (by omega) (by omega)]; rfl
theorem take_some {α : Type} {s : List α} {i : Nat} {c : α} (h : s[i]? = some c) : s.take (i + 1) = s.take i ++ [c] := by
  rw [List.take_add_one,h]; rfl
end Go.V
namespace Go.V
open Go
abbrev Bytes := List UInt8
structure Lab where
  k : Bytes
  e : Int
  n : Int
  deriving DecidableEq
structure Val where
  kd : Int
  n : Int
  s : Bytes
  deriving DecidableEq
structure Exa where
  lab : Lab
  vs : List Val
  deriving DecidableEq
structure Dset where
  ent : Bytes
  fs : List Bytes
  xs : List Exa
  deriving DecidableEq
structure Req where
  ent : Bytes
  fs : List Bytes
  labs : List Lab
  seed : Int
  pm : Int
  deriving DecidableEq
abbrev Lab.av (x : Lab) : AV := .agg [.str x.k,.int .i64 x.e,.int .i64 x.n]
abbrev Val.av (x : Val) : AV := .agg [.int .i64 x.kd,.int .i64 x.n,.str x.s]
abbrev Exa.av (x : Exa) : AV := .agg [.str x.lab.k,.int .i64 x.lab.e,.int .i64 x.lab.n,.sl 3 (x.vs.map Val.av) .unk]
def strsAV (l : List Bytes) : List AV := l.map AV.str
abbrev Dset.av (d : Dset) : AV := .agg [.str d.ent,.sl 1 (d.fs.map AV.str) .unk,.sl 4 (d.xs.map Exa.av) .unk]
abbrev Req.av (r : Req) : AV := .agg [.str r.ent,.sl 1 (r.fs.map AV.str) .unk,.sl 3 (r.labs.map Lab.av) .unk,.int .i64 r.seed,.int .i64 r.pm]
theorem fg_int (k : IntKind) (n : Int) : AV.fg (.int k n) = .int k n := rfl
theorem fg_str (s : Bytes) : AV.fg (.str s) = .str s := rfl
theorem fg_bool (b : Bool) : AV.fg (.bool b) = .bool b := rfl
theorem fg_nilp : AV.fg .nilp = .nilp := rfl
theorem fg_nili : AV.fg .nili = .nili := rfl
theorem fg_fn (f : Fn) (a b : List AV) : AV.fg (.fn f a b) = .fn f a b := rfl
theorem fg_sl (k : Nat) (xs : List AV) (t : STok) : AV.fg (.sl k xs t) = .sl k (xs.map AV.fg) .unk := by simp [AV.fg,fgs_eq]
theorem fg_agg (xs : List AV) : AV.fg (.agg xs) = .agg (xs.map AV.fg) := by simp [AV.fg,fgs_eq]
theorem fg_tup (xs : List AV) : AV.fg (.tup xs) = .tup (xs.map AV.fg) := by simp [AV.fg,fgs_eq]
theorem fg_byte (b : UInt8) : AV.fg (byteAV b) = byteAV b := rfl
theorem fg_lab (x : Lab) : AV.fg x.av = x.av := by simp [Lab.av,fg_agg,fg_int,fg_str]
theorem fg_val (x : Val) : AV.fg x.av = x.av := by simp [Val.av,fg_agg,fg_int,fg_str]
theorem fg_map {α : Type} (f : α → AV) (h : ∀ a,AV.fg (f a) = f a) (l : List α) : (l.map f).map AV.fg = l.map f := by
  rw [List.map_map]; exact List.map_congr_left fun a _ => h a
theorem fg_bytes (l : Bytes) : (l.map byteAV).map AV.fg = l.map byteAV := fg_map _ fg_byte l
theorem fg_ints (k : IntKind) (l : List Int) : (l.map (AV.int k)).map AV.fg = l.map (AV.int k) := fg_map _ (fg_int k) l
theorem fg_strs (l : List Bytes) : (l.map AV.str).map AV.fg = l.map AV.str := fg_map _ fg_str l
theorem fg_vals (l : List Val) : (l.map Val.av).map AV.fg = l.map Val.av := fg_map _ fg_val l
theorem fg_labs (l : List Lab) : (l.map Lab.av).map AV.fg = l.map Lab.av := fg_map _ fg_lab l
theorem fg_exa (x : Exa) : AV.fg x.av = x.av := by simp [Exa.av,fg_agg,fg_int,fg_str,fg_sl,fg_vals,-List.map_map]
theorem fg_exas (l : List Exa) : (l.map Exa.av).map AV.fg = l.map Exa.av := fg_map _ fg_exa l
theorem fg_dset (d : Dset) : AV.fg d.av = d.av := by simp [Dset.av,fg_agg,fg_str,fg_sl,fg_strs,fg_exas,-List.map_map]
theorem fg_req (d : Req) : AV.fg d.av = d.av := by simp [Req.av,fg_agg,fg_str,fg_int,fg_sl,fg_strs,fg_labs,-List.map_map]
theorem nr_lab (x : Lab) : NoRef x.av = True := by simp [Lab.av,NoRef.agg_eq,NoRef.str_eq,NoRef.int_eq]
theorem nr_val (x : Val) : NoRef x.av = True := by simp [Val.av,NoRef.agg_eq,NoRef.str_eq,NoRef.int_eq]
theorem nr_byte (x : UInt8) : NoRef (byteAV x) = True := NoRef.int_eq _ _
theorem nrc_lab (x : Lab) : (∀ c ∈ x.av.cells,NoRef c) = True := by simp [Lab.av,AV.cells,NoRef.str_eq,NoRef.int_eq]
theorem nrc_val (x : Val) : (∀ c ∈ x.av.cells,NoRef c) = True := by simp [Val.av,AV.cells,NoRef.str_eq,NoRef.int_eq]
theorem nrc_byte (x : UInt8) : (∀ c ∈ (byteAV x).cells,NoRef c) = True := by simp [byteAV,AV.cells,NoRef.int_eq]
theorem nrc_str (x : Bytes) : (∀ c ∈ (AV.str x).cells,NoRef c) = True := by simp [AV.cells,NoRef.str_eq]
theorem nrc_int (k : IntKind) (x : Int) : (∀ c ∈ (AV.int k x).cells,NoRef c) = True := by simp [AV.cells,NoRef.int_eq]
theorem nr_sl {α : Type} {f : α → AV} (h : ∀ a,∀ c ∈ (f a).cells,NoRef c) (k : Nat) (l : List α) : NoRef (.sl k (l.map f) .unk) = True := NoRef.sl_unk fun x hx => by
  obtain ⟨a,_,rfl⟩ := List.mem_map.1 hx
  exact h a
theorem nr_bytes (k : Nat) (l : Bytes) : NoRef (.sl k (l.map byteAV) .unk) = True := nr_sl (fun a => of_eq_true (nrc_byte a)) k l
theorem nr_strs (k : Nat) (l : List Bytes) : NoRef (.sl k (l.map AV.str) .unk) = True := nr_sl (fun a => of_eq_true (nrc_str a)) k l
theorem nr_vals (k : Nat) (l : List Val) : NoRef (.sl k (l.map Val.av) .unk) = True := nr_sl (fun a => of_eq_true (nrc_val a)) k l
theorem nr_labs (k : Nat) (l : List Lab) : NoRef (.sl k (l.map Lab.av) .unk) = True := nr_sl (fun a => of_eq_true (nrc_lab a)) k l
theorem nr_ints (k : Nat) (l : List Int) : NoRef (.sl k (l.map (AV.int .i64)) .unk) = True := nr_sl (fun a => of_eq_true (nrc_int _ a)) k l
theorem nrc_exa (x : Exa) : (∀ c ∈ x.av.cells,NoRef c) = True := by simp [Exa.av,AV.cells,NoRef.str_eq,NoRef.int_eq,nr_vals]
theorem nr_exa (x : Exa) : NoRef x.av = True := by simp [Exa.av,NoRef.agg_eq,NoRef.str_eq,NoRef.int_eq,nr_vals]
theorem nr_exas (k : Nat) (l : List Exa) : NoRef (.sl k (l.map Exa.av) .unk) = True := nr_sl (fun a => of_eq_true (nrc_exa a)) k l
theorem nr_dset (x : Dset) : NoRef x.av = True := by simp [Dset.av,NoRef.agg_eq,NoRef.str_eq,nr_strs,nr_exas]
theorem nr_req (x : Req) : NoRef x.av = True := by simp [Req.av,NoRef.agg_eq,NoRef.str_eq,NoRef.int_eq,nr_strs,nr_labs]
theorem lab_beq (c d : Lab) : (c == d) = (c.k == d.k && (c.e == d.e && c.n == d.n)) := by
  cases c; cases d; rw [Bool.eq_iff_iff]; simp
theorem val_beq (c d : Val) : (c == d) = (c.kd == d.kd && (c.n == d.n && c.s == d.s)) := by
  cases c; cases d; rw [Bool.eq_iff_iff]; simp
theorem exa_beq (c d : Exa) : (c == d) = (c.lab == d.lab && c.vs == d.vs) := by
  cases c; cases d; rw [Bool.eq_iff_iff]; simp
theorem drop_eq_step {α : Type} [BEq α] {a b : List α} {i : Nat} {c d : α} (ha : a[i]? = some c) (hb : b[i]? = some d) : (a.drop i == b.drop i) = (c == d && a.drop (i + 1) == b.drop (i + 1)) := by
  rw [drop_some ha,drop_some hb]; rfl
theorem dset_beq (c d : Dset) : (c == d) = (c.ent == d.ent && (c.fs == d.fs && c.xs == d.xs)) := by
  cases c; cases d; rw [Bool.eq_iff_iff]; simp
theorem gsA : type_of% (And.intro @mw_nil (And.intro @mw_inBlock (And.intro @mw_inLoop (And.intro @mw_skip (And.intro @mw_seq (And.intro @mw_block (And.intro @mw_exit (And.intro @mw_ret (And.intro @mw_named (And.intro @mw_loop (And.intro @mw_cond (And.intro @mw_reg (And.intro @mw_any (And.intro @mw_dfr (And.intro @KW_none (And.intro @KW_some (And.intro @KD_none (And.intro @KD_some (And.intro @mexit_inBlock (And.intro @mexit_code (And.intro @mexit_inLoop (And.intro @moK_nil (And.intro @moK_k (And.intro @moK_panic (And.intro @moK_call (And.intro @moK_guard (And.intro @plK_done (And.intro @plK_k (And.intro @plK_call (And.intro @plK_guard (And.intro @plK_two (And.intro @mw_begin (And.intro @mw_rfn (And.intro @shel_load (And.intro @protOf_nil (And.intro @protOf_cons (And.intro @putF_some (And.intro @putF_none (And.intro @lookup_if (And.intro @get_if (And.intro @set_eq (@Fr.get_cons)))))))))))))))))))))))))))))))))))))))))) := And.intro @mw_nil (And.intro @mw_inBlock (And.intro @mw_inLoop (And.intro @mw_skip (And.intro @mw_seq (And.intro @mw_block (And.intro @mw_exit (And.intro @mw_ret (And.intro @mw_named (And.intro @mw_loop (And.intro @mw_cond (And.intro @mw_reg (And.intro @mw_any (And.intro @mw_dfr (And.intro @KW_none (And.intro @KW_some (And.intro @KD_none (And.intro @KD_some (And.intro @mexit_inBlock (And.intro @mexit_code (And.intro @mexit_inLoop (And.intro @moK_nil (And.intro @moK_k (And.intro @moK_panic (And.intro @moK_call (And.intro @moK_guard (And.intro @plK_done (And.intro @plK_k (And.intro @plK_call (And.intro @plK_guard (And.intro @plK_two (And.intro @mw_begin (And.intro @mw_rfn (And.intro @shel_load (And.intro @protOf_nil (And.intro @protOf_cons (And.intro @putF_some (And.intro @putF_none (And.intro @lookup_if (And.intro @get_if (And.intro @set_eq (@Fr.get_cons)))))))))))))))))))))))))))))))))))))))))
theorem gsB : type_of% (And.intro @cdK_true (And.intro @cdK_false (And.intro @gdK_tt (And.intro @gdK_ff (And.intro @gdK_tf (And.intro @gdK_ft (And.intro @gdK_tup (And.intro @pgdK_tt (And.intro @pgdK_ff (And.intro @pgdK_tf (And.intro @pgdK_ft (And.intro @pgdK_tup (And.intro @dfK_fn (And.intro @evK_some (And.intro @pevK_some (And.intro @clK_fn (And.intro @pclK_fn (And.intro @clK_yld (And.intro @pclK_yld (And.intro @pnK_ifc (@exK_some))))))))))))))))))))) := And.intro @cdK_true (And.intro @cdK_false (And.intro @gdK_tt (And.intro @gdK_ff (And.intro @gdK_tf (And.intro @gdK_ft (And.intro @gdK_tup (And.intro @pgdK_tt (And.intro @pgdK_ff (And.intro @pgdK_tf (And.intro @pgdK_ft (And.intro @pgdK_tup (And.intro @dfK_fn (And.intro @evK_some (And.intro @pevK_some (And.intro @clK_fn (And.intro @pclK_fn (And.intro @clK_yld (And.intro @pclK_yld (And.intro @pnK_ifc (@exK_some))))))))))))))))))))
theorem gsC : type_of% (And.intro @InvS_refl (And.intro @InvS_nil (And.intro @InvS_cons (And.intro @QPin_endQ (And.intro @List.mem_cons.{0} (And.intro @List.not_mem_nil.{0} (And.intro @or_true (And.intro @true_or (And.intro @or_false (And.intro @false_or (And.intro @List.lookup_nil.{0,0} (And.intro @List.map_cons.{0,0} (And.intro @List.map_nil.{0,0} (And.intro @Option.map_some.{0,0} (And.intro @Option.map_none.{0,0} (And.intro @Option.bind_some.{0,0} (And.intro @Option.bind_none.{0,0} (And.intro @List.nil_append.{0} (And.intro @List.append_nil.{0} (And.intro @List.cons_append.{0} (And.intro @isBld_nil (And.intro @isBld_two (And.intro @isBld_bool (And.intro @isBld_int (And.intro @isBld_str (And.intro @isBld_nilp (And.intro @isBld_ptr (And.intro @isBld_gp (And.intro @isBld_eptr (And.intro @isBld_sl (And.intro @isBld_fn (And.intro @isBld_nilf (And.intro @isBld_ifc (And.intro @isBld_nili (And.intro @isBld_agg (And.intro @isBld_bld (And.intro @able_exact (And.intro @able_use (And.intro @ne_1 (And.intro @ne_2 (And.intro @ne_3 (And.intro @ne_4 (And.intro @ne_1' (And.intro @ne_2' (And.intro @ne_3' (And.intro @ne_4' (And.intro @List.getElem?_map.{0,0} (And.intro @List.length_cons.{0} (And.intro @List.length_nil.{0} (And.intro @List.take_succ_cons.{0} (And.intro @List.take_zero.{0} (And.intro @List.drop_succ_cons.{0} (And.intro @List.drop_zero.{0} (And.intro @List.getElem?_cons_zero.{0} (And.intro @List.getElem?_cons_succ.{0} (And.intro @List.all_cons.{0} (And.intro @List.all_nil.{0} (And.intro @decide_true (And.intro @decide_false (And.intro @Bool.and_true (And.intro @Bool.true_and (And.intro @Bool.and_false (And.intro @Bool.false_and (And.intro @Bool.not_true (And.intro @Bool.not_false (And.intro @beq_self_eq_true.{0} (And.intro @bne_self_eq_false.{0} (And.intro @Nat.zero_add (And.intro @Nat.add_zero (And.intro @Bool.false_eq_true (And.intro @Bool.true_eq_false (And.intro @not_true_eq_false (And.intro @not_false_eq_true (And.intro @true_and (And.intro @and_true (And.intro @and_self (And.intro @false_and (And.intro @and_false (And.intro @true_implies (And.intro @false_implies (And.intro @Nat.zero_le (And.intro @Nat.le_refl (And.intro @Option.isNone_none.{0} (And.intro @Option.isNone_some.{0} (And.intro @Option.isSome_some.{0} (And.intro @Option.isSome_none.{0} (And.intro @Nat.succ_ne_self (And.intro @Int.toNat_natCast (And.intro @Int.toNat_zero (And.intro @List.length_map.{0,0} (And.intro @List.take_length.{0} (And.intro @Out.ok.injEq (And.intro @AV.int.injEq (And.intro @AV.bool.injEq (And.intro @AV.str.injEq (And.intro @AV.tup.injEq (And.intro @AV.agg.injEq (And.intro @List.cons.injEq.{0} (And.intro @ge_iff_le.{0} (And.intro @gt_iff_lt.{0} (And.intro @Int.natCast_nonneg (And.intro @Bool.not_eq_true (And.intro @Bool.not_eq_false (And.intro @cond_or (And.intro @cond_and (And.intro @cond_tl (And.intro @cond_fr (And.intro @cond_fl (And.intro @cond_tr (And.intro @merge_sameT (And.intro @merge_sameF (And.intro @mergeT0 (And.intro @mergeF0 (And.intro @mergeT1 (And.intro @mergeF1 (And.intro @mergeT2 (And.intro @mergeF2 (And.intro @mergeT3 (And.intro @mergeF3 (And.intro @mergeT4 (And.intro @mergeF4 (And.intro @mergeT5 (And.intro @mergeF5 (And.intro @mergeT6 (And.intro @mergeF6 (And.intro @mergeT7 (And.intro @mergeF7 (And.intro @mergeT8 (And.intro @mergeF8 (And.intro @mergeT9 (And.intro @mergeF9 (And.intro @cdK_bool (And.intro @gdK_bool (@pgdK_bool)))))))))))))))))))))))))))))))))))))))))))))))))))))))))))))))))))))))))))))))))))))))))))))))))))))))))))))))))))))))))))))))))))))) := And.intro @InvS_refl (And.intro @InvS_nil (And.intro @InvS_cons (And.intro @QPin_endQ (And.intro @List.mem_cons.{0} (And.intro @List.not_mem_nil.{0} (And.intro @or_true (And.intro @true_or (And.intro @or_false (And.intro @false_or (And.intro @List.lookup_nil.{0,0} (And.intro @List.map_cons.{0,0} (And.intro @List.map_nil.{0,0} (And.intro @Option.map_some.{0,0} (And.intro @Option.map_none.{0,0} (And.intro @Option.bind_some.{0,0} (And.intro @Option.bind_none.{0,0} (And.intro @List.nil_append.{0} (And.intro @List.append_nil.{0} (And.intro @List.cons_append.{0} (And.intro @isBld_nil (And.intro @isBld_two (And.intro @isBld_bool (And.intro @isBld_int (And.intro @isBld_str (And.intro @isBld_nilp (And.intro @isBld_ptr (And.intro @isBld_gp (And.intro @isBld_eptr (And.intro @isBld_sl (And.intro @isBld_fn (And.intro @isBld_nilf (And.intro @isBld_ifc (And.intro @isBld_nili (And.intro @isBld_agg (And.intro @isBld_bld (And.intro @able_exact (And.intro @able_use (And.intro @ne_1 (And.intro @ne_2 (And.intro @ne_3 (And.intro @ne_4 (And.intro @ne_1' (And.intro @ne_2' (And.intro @ne_3' (And.intro @ne_4' (And.intro @List.getElem?_map.{0,0} (And.intro @List.length_cons.{0} (And.intro @List.length_nil.{0} (And.intro @List.take_succ_cons.{0} (And.intro @List.take_zero.{0} (And.intro @List.drop_succ_cons.{0} (And.intro @List.drop_zero.{0} (And.intro @List.getElem?_cons_zero.{0} (And.intro @List.getElem?_cons_succ.{0} (And.intro @List.all_cons.{0} (And.intro @List.all_nil.{0} (And.intro @decide_true (And.intro @decide_false (And.intro @Bool.and_true (And.intro @Bool.true_and (And.intro @Bool.and_false (And.intro @Bool.false_and (And.intro @Bool.not_true (And.intro @Bool.not_false (And.intro @beq_self_eq_true.{0} (And.intro @bne_self_eq_false.{0} (And.intro @Nat.zero_add (And.intro @Nat.add_zero (And.intro @Bool.false_eq_true (And.intro @Bool.true_eq_false (And.intro @not_true_eq_false (And.intro @not_false_eq_true (And.intro @true_and (And.intro @and_true (And.intro @and_self (And.intro @false_and (And.intro @and_false (And.intro @true_implies (And.intro @false_implies (And.intro @Nat.zero_le (And.intro @Nat.le_refl (And.intro @Option.isNone_none.{0} (And.intro @Option.isNone_some.{0} (And.intro @Option.isSome_some.{0} (And.intro @Option.isSome_none.{0} (And.intro @Nat.succ_ne_self (And.intro @Int.toNat_natCast (And.intro @Int.toNat_zero (And.intro @List.length_map.{0,0} (And.intro @List.take_length.{0} (And.intro @Out.ok.injEq (And.intro @AV.int.injEq (And.intro @AV.bool.injEq (And.intro @AV.str.injEq (And.intro @AV.tup.injEq (And.intro @AV.agg.injEq (And.intro @List.cons.injEq.{0} (And.intro @ge_iff_le.{0} (And.intro @gt_iff_lt.{0} (And.intro @Int.natCast_nonneg (And.intro @Bool.not_eq_true (And.intro @Bool.not_eq_false (And.intro @cond_or (And.intro @cond_and (And.intro @cond_tl (And.intro @cond_fr (And.intro @cond_fl (And.intro @cond_tr (And.intro @merge_sameT (And.intro @merge_sameF (And.intro @mergeT0 (And.intro @mergeF0 (And.intro @mergeT1 (And.intro @mergeF1 (And.intro @mergeT2 (And.intro @mergeF2 (And.intro @mergeT3 (And.intro @mergeF3 (And.intro @mergeT4 (And.intro @mergeF4 (And.intro @mergeT5 (And.intro @mergeF5 (And.intro @mergeT6 (And.intro @mergeF6 (And.intro @mergeT7 (And.intro @mergeF7 (And.intro @mergeT8 (And.intro @mergeF8 (And.intro @mergeT9 (And.intro @mergeF9 (And.intro @cdK_bool (And.intro @gdK_bool (@pgdK_bool)))))))))))))))))))))))))))))))))))))))))))))))))))))))))))))))))))))))))))))))))))))))))))))))))))))))))))))))))))))))))))))))))))))
theorem fgs : type_of% (And.intro @List.map_cons.{0,0} (And.intro @List.map_nil.{0,0} (And.intro @fg_int (And.intro @fg_str (And.intro @fg_bool (And.intro @fg_nilp (And.intro @fg_nili (And.intro @fg_fn (And.intro @fg_sl (And.intro @fg_agg (And.intro @fg_tup (And.intro @fg_lab (And.intro @fg_val (And.intro @fg_exa (And.intro @fg_dset (And.intro @fg_req (And.intro @fg_bytes (And.intro @fg_ints (And.intro @fg_strs (And.intro @fg_vals (And.intro @fg_labs (@fg_exas)))))))))))))))))))))) := And.intro @List.map_cons.{0,0} (And.intro @List.map_nil.{0,0} (And.intro @fg_int (And.intro @fg_str (And.intro @fg_bool (And.intro @fg_nilp (And.intro @fg_nili (And.intro @fg_fn (And.intro @fg_sl (And.intro @fg_agg (And.intro @fg_tup (And.intro @fg_lab (And.intro @fg_val (And.intro @fg_exa (And.intro @fg_dset (And.intro @fg_req (And.intro @fg_bytes (And.intro @fg_ints (And.intro @fg_strs (And.intro @fg_vals (And.intro @fg_labs (@fg_exas)))))))))))))))))))))
theorem nrs : type_of% (And.intro @noRef_ok (And.intro @noRef_pan (And.intro @List.mem_cons.{0} (And.intro @List.not_mem_nil.{0} (And.intro @or_false (And.intro @and_self (And.intro @and_true (And.intro @true_and (And.intro @NoRef.bool_eq (And.intro @NoRef.int_eq (And.intro @NoRef.str_eq (And.intro @NoRef.nilp_eq (And.intro @NoRef.nili_eq (And.intro @NoRef.nilf_eq (And.intro @NoRef.agg_eq (And.intro @NoRef.tup_eq (And.intro @NoRef.ifc_eq (And.intro @NoRef.fn_nil (And.intro @NoRef.fn_eq (And.intro @nr_lab (And.intro @nr_val (And.intro @nr_exa (And.intro @nr_dset (And.intro @nr_req (And.intro @nr_byte (And.intro @nr_bytes (And.intro @nr_strs (And.intro @nr_vals (And.intro @nr_labs (And.intro @nr_exas (@nr_ints))))))))))))))))))))))))))))))) := And.intro @noRef_ok (And.intro @noRef_pan (And.intro @List.mem_cons.{0} (And.intro @List.not_mem_nil.{0} (And.intro @or_false (And.intro @and_self (And.intro @and_true (And.intro @true_and (And.intro @NoRef.bool_eq (And.intro @NoRef.int_eq (And.intro @NoRef.str_eq (And.intro @NoRef.nilp_eq (And.intro @NoRef.nili_eq (And.intro @NoRef.nilf_eq (And.intro @NoRef.agg_eq (And.intro @NoRef.tup_eq (And.intro @NoRef.ifc_eq (And.intro @NoRef.fn_nil (And.intro @NoRef.fn_eq (And.intro @nr_lab (And.intro @nr_val (And.intro @nr_exa (And.intro @nr_dset (And.intro @nr_req (And.intro @nr_byte (And.intro @nr_bytes (And.intro @nr_strs (And.intro @nr_vals (And.intro @nr_labs (And.intro @nr_exas (@nr_ints))))))))))))))))))))))))))))))
section
variable {P : Program} {gl : List (Nat × List AV)} {f : FuncId} {as : List AV} {d : Option Nat} {K : Option AV → Fr → St → Prop} {F : Fr} {S S0 : St} {Ls : List Nat} {nd : Bool} {p : MPl}
theorem PCallK.pureC {r : AV} (h : Pure P gl f as (.ok r)) (hg : GlNR gl) (hgl : S.gl = gl) (k : InvS S0 Ls S ∧ plK P K S0 Ls p (putF d r F) S) : PCallK P f as d nd p K S0 Ls F S := .pure h hg hgl (fun _ => k.1) k.2
theorem PCallK.toksC {k : Nat} {ys : List AV} (h : Toks P gl f as k ys) (hg : GlNR gl) (hgl : S.gl = gl) (hk : InvS S0 Ls S ∧ plK P K S0 Ls p (putF d (.sl k ys (.tok S.nt)) F) S.own) : PCallK P f as d nd p K S0 Ls F S := .toks h hg hgl (fun _ => hk.1) hk.2
theorem PCallK.pu {r : AV} (h : Pure P gl f as (.ok r)) (hg : GlNR gl) (hgl : S.gl = gl) (k : InvS S0 Ls S ∧ plK P K S0 Ls p (putF d r F) S) : PCallK P f as d nd p K S0 Ls F S := .pure h hg hgl (fun _ => k.1) k.2
theorem PCallK.tk {k : Nat} {ys : List AV} (h : Toks P gl f as k ys) (hg : GlNR gl) (hgl : S.gl = gl) (hk : InvS S0 Ls S ∧ plK P K S0 Ls p (putF d (.sl k ys (.tok S.nt)) F) S.own) : PCallK P f as d nd p K S0 Ls F S := .toks h hg hgl (fun _ => hk.1) hk.2
theorem PCallK.pn {r : AV} (h : Pure P gl f as (.pan r)) (hg : GlNR gl) (hgl : S.gl = gl) (k : K (some r) F S) : PCallK P f as d nd p K S0 Ls F S := .pan h hg hgl k
theorem CallK.pu {l : List MOp} {r : AV} (h : Pure P gl f as (.ok r)) (hg : GlNR gl) (hgl : S.gl = gl) (k : moK P l K (putF d r F) S) : CallK P f as d l K F S := .pure h hg hgl k
theorem CallK.tk {l : List MOp} {k : Nat} {ys : List AV} (h : Toks P gl f as k ys) (hg : GlNR gl) (hgl : S.gl = gl) (hk : moK P l K (putF d (.sl k ys (.tok S.nt)) F) S.own) : CallK P f as d l K F S := .toks h hg hgl hk
theorem CallK.pn {l : List MOp} {r : AV} (h : Pure P gl f as (.pan r)) (hg : GlNR gl) (hgl : S.gl = gl) (k : K (some r) F S) : CallK P f as d l K F S := .pan h hg hgl k
end
theorem opn {P : Program} {n : Nat} {Q : EndQ} {c c' : MC} (h : c = c') {k : List MI} {D : Dfs} {F : Fr} {S : St} (hm : mw P n Q 60 (.code c' :: k) D F S) : MRun P n (.code c :: k) D F S Q := mw_sound 60 (mw_as h hm)
end Go.V
